/- TxnNothing: the symbolic executor. No condition. -/
import Derived.Laws.Small
import Derived.Scope
import Derived.Orders
import Derived.Test.YtalanookmohdeaaGreatDoorM2
namespace Go.Sx
def aJ (P:Program) (x:X jm) (A:Env→Sem Next→Prop):Prop:=
 ∀d s v s',x d s=some (v,s')→(aW s'.V→aW s.V)∧(aW s'.V→∀r ow w m,Sat P r ow s.h w→bF r s.c s'.c→A r m→
  ∃r' ow' n w',m.run P w= .ok n w'∧aN P r ow w s r' ow' w' s'∧pJ r' v n)
section
variable {P:Program}
theorem aJ.mono {x:X jm}{A B:Env→Sem Next→Prop} (h:aJ P x A) (hab:∀r m,B r m→A r m):aJ P x B:=fun d s v s' hx=>
 ⟨(h d s v s' hx).1,fun hV r ow w m hs hf hm=>(h d s v s' hx).2 hV r ow w m hs hf (hab r m hm)⟩
theorem aJ.val {x:X Value}{A:Env→Sem Value→Prop} (h:jx P x A):aJ P (Sx.val x) (fun r m=>∃m0,A r m0∧m=(do pure (Next.value (←m0)))):=by
 intro d s v s' hx
 obtain⟨u,s1,h1,h2⟩:=bind_some hx
 obtain⟨rfl,rfl⟩:=au h2
 refine⟨(h d s u s1 h1).1,fun hV r ow w m hs hf ⟨m0,ha,hm⟩=> ?_⟩
 obtain⟨r',ow',z,w',g1,g2,g3⟩:=(h d s u s1 h1).2 hV r ow w m0 hs hf ha
 exact⟨r',ow',.value z,w',by subst hm;simp [g1],g2,g3⟩
theorem aJ.unit {x:X Unit}{A:Env→Sem Unit→Prop} (h:zq P x A):aJ P (Sx.unit x) (fun r m=>∃m0,A r m0∧m=(do m0;pure Next.skip)):=by
 intro d s v s' hx
 obtain⟨u,s1,h1,h2⟩:=bind_some hx
 obtain⟨rfl,rfl⟩:=au h2
 refine⟨(h d s u s1 h1).1,fun hV r ow w m hs hf ⟨m0,ha,hm⟩=> ?_⟩
 obtain⟨r',ow',w',g1,g2⟩:=(h d s u s1 h1).2 hV r ow w m0 hs hf ha
 exact⟨r',ow',.skip,w',by subst hm;simp [g1],g2,trivial⟩
theorem aJ.opt {α:Type}{o:Option α}{f:α→X jm}{A:Env→Sem Next→Prop} (h:∀a,o=some a→aJ P (f a) A):aJ P (X.bind (Sx.opt o) f) A:=by
 intro d s v s' hx
 obtain⟨u,s1,h1,h2⟩:=bind_some hx
 obtain⟨e,rfl⟩:=gR h1
 exact h u e d s v s' h2
theorem aJ.fail {A:Env→Sem Next→Prop}:aJ P X.fail A:=fun d s v s' h=>by simp [X.fail] at h
theorem aJ.Ms {v:Value}:aJ P (X.pure (.val v)) (fun r m=>∃u,Rel r v u∧∀w,m.run P w= .ok (.value u) w):=by
 intro d s v' s' h
 obtain⟨rfl,rfl⟩:=au h
 exact⟨id,fun hV r ow w m hs hf ⟨u,hu,hm⟩=>⟨r,ow,.value u,w,hm w,aN.calm hs (Calm.refl _),hu⟩⟩
theorem aJ.ym {f:FuncId}{asZ:List Value}:aJ P (X.pure (.call f asZ)) (fun r m=>∃us:Array Value,aw r asZ us.toList∧∀w,m.run P w= .ok (.enter f us) w):=by
 intro d s v' s' h
 obtain⟨rfl,rfl⟩:=au h
 exact⟨id,fun hV r ow w m hs hf ⟨us,hu,hm⟩=>⟨r,ow,.enter f us,w,hm w,aN.calm hs (Calm.refl _),rfl,hu⟩⟩
theorem Ev:jx P (X.bind (X.new (.map [])) fun n=>X.pure (.map (some n))) (fun _ m=>m=(do pure (.map (some (←newObj (.map #[] 0)))))):=by
 intro d s v s' h
 obtain⟨n,s1,h1,h2⟩:=bind_some h
 obtain⟨rfl,rfl⟩:=hU h1
 obtain⟨rfl,rfl⟩:=au h2
 refine⟨id,fun hV r ow w m hs hf hm=> ?_⟩
 have hn:=(hf s.c (Nat.le_refl _) (Nat.lt_succ_self _)).1
 exact⟨_,_,.map (some w.heap.size),_,by subst hm;simp,⟨Env.gg hn,hs.Qt hn,Frame.new _ _,fI.bind,Nat.le_succ _,lg⟩,.map (by simp [Env.bind])⟩
theorem Gk {r:Env}{x v u:Value} (h:yd x=some v) (hu:Rel r x u):Rel r v u∧∀(o:Operand) (ρ:Operand→Value),ρ o=u→∀w,(match ρ o with
  | .pointer none| .nilIface| .nilFunc=>runtimePanic .nilDeref
  | .func (.method name) first captured=>
   match (first[0]? :Option Value) with
   |some .nilIface=>runtimePanic .nilDeref
   |some (.iface t w)=>do
    if(←nilAhead ((←program).types.size+Made.depth) t w name) !=some false then
     unsupported (.noEntry "op/nilCheck.the method's receiver behind this interface value is a nil pointer, or cannot be seen to be none, and the arguments act or may panic (ledger 612)")
    pure (.value (.func (.method name) first captured))
   |_=>pure (.value (.func (.method name) first captured))
  |x=>pure (.value x):Sem Next).run P w= .ok (.value u) w:=by
 unfold yd at h
 split at h <;> cases h
 · cases hu with
   |ptr hb=>exact⟨.ptr hb,fun o ρ e w=>by rw [e];rfl⟩
   |litPtr=>exact⟨.litPtr,fun o ρ e w=>by rw [e];rfl⟩
 · obtain⟨us,cs,rfl,_,_⟩:=hu.qd
   exact⟨hu,fun o ρ e w=>by rw [e];rfl⟩
 · cases hu with|iface hb=>exact⟨.iface hb,fun o ρ e w=>by rw [e];rfl⟩
theorem F3 {r:Env}{x v u:Value}{i:Nat} (h:ye i x=some v) (hu:Rel r x u):∃y,Rel r v y∧∀w,(Instr.extract u i).run P w= .ok y w:=by
 unfold ye at h
 split at h
 · obtain⟨us,rfl,hr⟩:=hu.lS
   obtain⟨y,e,hy⟩:=hr.get i v h
   have e':us[i]? =some y:=by rw [←e];simp
   exact⟨y,hy,fun w=>by simp [Instr.extract,e']⟩
 · cases h
theorem HZ {r:Env}{op:UnOp}{x v u:Value} (h:Fc op x=some v) (hu:Rel r x u):Rel r v v∧∀w,(Op.unary op u).run P w= .ok v w:=by
 unfold Fc at h
 split at h
 · cases hu
   cases op <;> simp at h
   subst h;exact⟨.bool _,fun w=>by simp [Op.unary]⟩
 · cases hu
   cases op <;> simp at h
   subst h;exact⟨.int _ _,fun w=>by simp [Op.unary,Op.intArith]⟩
 · cases h
theorem GP {r:Env}{t:TypeId}{x v u:Value} (h:x8 P t x=some v) (hu:Rel r x u):Rel r v (.iface t u)∧∀w,(Instr.makeInterface t u).run P w= .ok (.iface t u) w:=by
 unfold x8 at h
 cases hD:P.underlying t with
 |none=>simp [hD] at h
 |some D=>
  cases D <;> simp [hD] at h <;> (subst h;exact⟨.iface hu,fun w=>by simp [Instr.makeInterface,run_underlying hD]⟩)
theorem rO {r:Env}{op:BinOp}{t:TypeId}{o1 o2:Operand}{x y v u1 u2:Value} (h:qp P op t o2 x y=some v) (h1:Rel r x u1) (h2:Rel r y u2) (w:World):
  (do eqGuard op t o1 o2 u1 u2;binOp op t u1 u2:Sem Value).run P w= .ok v w∧Rel r v v:=by
 unfold qp at h
 cases e:yf op x y with
 |some v'=>simp only [e] at h;cases h;exact GR e h1 h2 w
 |none=>
  simp only [e] at h
  cases op <;> simp only [Option.map_eq_some_iff] at h <;> try (cases h;done)
  · obtain⟨b,e2,rfl⟩:=h
    exact⟨(yP (o1:=o1) e2 h1 h2 w).1,.bool _⟩
  · obtain⟨b,e2,rfl⟩:=h
    exact⟨(yP (o1:=o1) e2 h1 h2 w).2,.bool _⟩
theorem wh {r:Env}{ts:Array TypeId}{t:TypeId}{x y v u1 u2:Value} (h:Fg x y=some v) (h1:Rel r x u1) (h2:Rel r y u2) (w:World):(Builtin.min_ ts t #[u1,u2]).run P w= .ok v w∧Rel r v v:=by
 unfold Fg at h
 split at h
 · cases h1;cases h2;cases h;exact⟨run_min_int2 w ts t _ _ _ _,.int _ _⟩
 · cases h
theorem yo {f:FuncId} (h:EM P f=true) (us:Array Value) (w:World):(callFunc f us).run P w= .ok (.enter f us) w:=by
 unfold EM at h
 cases e:P.funcs[f]? with
 |none=>simp [e] at h
 |some fn=>
  simp only [e,Bool.and_eq_true,Bool.not_eq_true'] at h
  have h2:fn.body.isNone=false:=by
   cases hb:fn.body with
   |none=>simp [hb] at h
   |some _=>rfl
  simp only [callFunc,Sem.run_bind,run_program,Result.andThen_ok,e,h.2,h2,Bool.false_eq_true,if_false]
  rfl
def UC (T:List Value) (o:Oper) (r:Env) (m:Sem Next):Prop:=∃a:Act,aw r T a.tmps.toList∧m=execOp a.eval o
theorem aJ.lV {o:Option Value}{A:Env→Sem Next→Prop} (h:∀v,o=some v→∀r m,A r m→∃u,Rel r v u∧∀w,m.run P w= .ok (.value u) w):aJ P (Sx.val (Sx.opt o)) A:=by
 intro d s v s' hx
 obtain⟨u,s1,h1,h2⟩:=bind_some hx
 obtain⟨e,rfl⟩:=gR h1
 obtain⟨rfl,rfl⟩:=au h2
 refine⟨id,fun hV r ow w m hs hf hm=> ?_⟩
 obtain⟨y,hy,hr⟩:=h u e r m hm
 exact⟨r,ow,.value y,w,hr w,aN.calm hs (Calm.refl _),hy⟩
theorem aJ.bP {b:Bool}{f:Unit→X jm}{A:Env→Sem Next→Prop} (h:b=true→aJ P (f ()) A):aJ P (X.bind (Sx.bP b) f) A:=by
 intro d s v s' hx
 obtain⟨u,s1,h1,h2⟩:=bind_some hx
 obtain⟨e,rfl⟩:=b7 h1
 exact h e d s v s' h2
theorem xo (b:Builtin) (ts:List TypeId) (asZ:List Value) (ty:TypeId) (cs:Array Bool):aJ P (oQ P b ts asZ) (fun r m=>∃us,aw r asZ us∧m=builtin b ⟨ts⟩ ty cs ⟨us⟩):=by
 unfold oQ
 split
 · refine(aJ.val (Nt _ ty _)).mono fun r m ⟨us,hu,hm⟩=> ?_
   cases hu with|cons h1 t=>cases t;exact⟨_,⟨_,h1,rfl⟩,hm⟩
 · refine(aJ.val (Ej _ _ ty _ _)).mono fun r m ⟨us,hu,hm⟩=> ?_
   cases hu with|cons h1 t=>cases t with|cons h2 t=>cases t;exact⟨_,⟨_,_,h1,h2,rfl⟩,hm⟩
 · refine aJ.lV fun v e r m ⟨us,hu,hm⟩=> ?_
   cases hu with|cons h1 t=>cases t with|cons h2 t=>cases t;exact⟨v,(wh (P:=P) (ts:= #[]) (t:=0) e h1 h2 default).2,fun w=>by
    subst hm
    have:=(wh (P:=P) (ts:=⟨ts⟩) (t:=ty) e h1 h2 w).1
    simp only [builtin,Sem.run_bind,this,Result.andThen_ok];rfl⟩
 · rename_i t0 t1 mv kv
   intro d s v s' hx
   obtain⟨u,s1,h1,h2⟩:=bind_some hx
   obtain⟨rfl,rfl⟩:=au h2
   obtain⟨g1,g2⟩:=Fo t0 ty mv kv (ts:=⟨[t0,t1]⟩) rfl d s u s1 h1
   refine⟨g1,fun hV r ow w m hs hf ⟨us,hu,hm⟩=> ?_⟩
   cases hu with|cons h1 t=>cases t with|cons h2 t=>cases t with|nil=>
   rename_i u1 u2
   obtain⟨r',ow',w',e1,e2⟩:=g2 hV r ow w u1 u2 hs hf h1 h2
   refine⟨r',ow',.value (.tuple #[]),w',?_,e2,aw.mkTuple .nil⟩
   subst hm
   show(Builtin.delete_ ⟨[t0,t1]⟩ ty #[u1,u2] >>= fun v=>pure (Next.value v)).run P w=_
   simp [e1]
 · exact aJ.fail
theorem yz (T:List Value) (o:Oper):aJ P (c9 P T o) (UC T o):=by
 obtain⟨dst,op,ty,pos,after,guard⟩:=o
 cases op with
 |insert _ _ _ _|ready _|waits _|sliceToArrayPointer _ _|makeChan _ _|mapEntry _ _ _|entryStore _ _ _ _|entry _|typeAssert _ _ _ _|go _|defer _|panic _|send _ _|recv _ _ _|select _ _=>exact aJ.fail
 |move x=>
  refine aJ.lV (o:=bE T x) fun v e r m ⟨a,ha,hm⟩=>⟨a.eval x,bx ha e,fun w=> ?_⟩
  subst hm;rfl
 |assign x=>
  refine aJ.lV (o:=bE T x) fun v e r m ⟨a,ha,hm⟩=>⟨a.eval x,bx ha e,fun w=> ?_⟩
  subst hm;rfl
 |pick c x y=>
  refine aJ.opt (o:=bE T c) fun cv ec=> ?_
  split
  · rename_i b
    intro d s v s' h
    obtain⟨t,s1,h1,h2⟩:=bind_some h
    obtain⟨cm,hb⟩:=jS h1
    have hsel:∃z,(t=true∧z=x∨t=false∧z=y)∧Sx.val (Sx.opt (bE T z)) d s1=some (v,s'):=by
     cases t
     · exact⟨y,.inr ⟨rfl,rfl⟩,h2⟩
     · exact⟨x,.inl ⟨rfl,rfl⟩,h2⟩
    obtain⟨z,hz,h3⟩:=hsel
    obtain⟨u,s2,h4,h5⟩:=bind_some h3
    obtain⟨e,rfl⟩:=gR h4
    obtain⟨rfl,rfl⟩:=au h5
    refine⟨cm.V,fun hV r ow w m hs hf ⟨a,ha,hm⟩=>⟨r,ow,.value (a.eval z),w,?_,aN.calm hs cm,bx ha e⟩⟩
    have hc:=bx ha ec
    have hbt:=hb hV
    subst hbt
    generalize hq:a.eval c=q at hc
    cases hc
    subst hm
    rcases hz with⟨rfl,rfl⟩|⟨rfl,rfl⟩ <;> simp [execOp,hq,asBool]
  · exact aJ.fail
 |alloc t=>
  exact(aJ.val (G0 P t)).mono fun r m ⟨a,ha,hm⟩=>⟨_,rfl,hm⟩
 |box t x=>
  exact aJ.opt (o:=bE T x) fun v e=>(aJ.val (Cv P t v)).mono fun r m ⟨a,ha,hm⟩=>⟨_,⟨_,bx ha e,rfl⟩,hm⟩
 |build t ps=>
  exact aJ.opt (o:=mG T ps.toList) fun v e=>(aJ.val (Fz P t v)).mono fun r m ⟨a,ha,hm⟩=>⟨_,⟨_,vK ha e,rfl⟩,by
   subst hm
   show execOp a.eval ⟨dst,.build t ps,ty,pos,after,guard⟩=_
   have:(⟨ps.toList.map fun(i,x)=>(i,a.eval x)⟩:Array (Nat×Value))=ps.map fun(i,x)=>(i,a.eval x):=by apply Array.ext';simp
   rw [this];rfl⟩
 |buildSlice t n ps=>
  exact aJ.opt (o:=mG T ps.toList) fun v e=>(aJ.val (v8 t n v)).mono fun r m ⟨a,ha,hm⟩=>⟨_,⟨_,vK ha e,rfl⟩,by
   subst hm
   have:(⟨ps.toList.map fun(i,x)=>(i,a.eval x)⟩:Array (Nat×Value))=ps.map fun(i,x)=>(i,a.eval x):=by apply Array.ext';simp
   rw [this];rfl⟩
 |load t x=>
  exact aJ.opt (o:=bE T x) fun v e=>(aJ.val (HG P t v)).mono fun r m ⟨a,ha,hm⟩=>⟨_,⟨_,bx ha e,rfl⟩,hm⟩
 |store t x y=>
  exact aJ.opt (o:=bE T x) fun v e=>aJ.opt (o:=bE T y) fun v2 e2=>(aJ.unit (FY P t v v2)).mono fun r m ⟨a,ha,hm⟩=>⟨_,⟨_,_,bx ha e,bx ha e2,rfl⟩,hm⟩
 |nilCheck x=>
  exact aJ.opt (o:=bE T x) fun v e=>aJ.lV (o:=yd v) fun v2 e2 r m ⟨a,ha,hm⟩=>by
   obtain⟨h1,h2⟩:=Gk (P:=P) e2 (bx ha e)
   exact⟨_,h1,fun w=>by subst hm;exact h2 x a.eval rfl w⟩
 |binOp op t x y yt=>
  refine aJ.opt (o:=bE T x) fun v e=>aJ.opt (o:=bE T y) fun v2 e2=> ?_
  cases hc:yj op v v2 with
  |none=>
   cases hrm:sk op v v2 with
   |none=>
    show aJ P (rL P op t y v v2 (sk op v v2)) _
    rw [hrm]
    exact aJ.lV (o:=qp P op t y v v2) fun v3 e3 r m ⟨a,ha,hm⟩=>by
     refine⟨v3,(rO (o1:=x) e3 (bx ha e) (bx ha e2) default).2,fun w=> ?_⟩
     have h3:=(rO (o1:=x) e3 (bx ha e) (bx ha e2) w).1
     subst hm
     show((do eqGuard op t x y (a.eval x) (a.eval y);binOp op t (a.eval x) (a.eval y):Sem Value) >>= fun z=>pure (Next.value z)).run P w=_
     rw [Sem.run_bind,h3];rfl
   |some pq=>
    obtain⟨p,q⟩:=pq
    show aJ P (rL P op t y v v2 (sk op v v2)) _
    rw [hrm]
    obtain⟨rfl,rfl,rfl⟩:=Fj hrm
    intro d s z s' h
    unfold rL at h
    obtain⟨_,s1,h1,h2⟩:=bind_some h
    obtain⟨cm,hk⟩:=eY h1
    obtain⟨rfl,rfl⟩:=au h2
    refine⟨cm.V,fun hV r ow w m hs hf ⟨a,ha,hm⟩=>⟨r,ow,.value (.int .i64 (p.tmod q)),w,?_,aN.calm hs cm,.int _ _⟩⟩
    have g1:=bx ha e
    have g2:=bx ha e2
    generalize hx:a.eval x=vx at g1
    generalize hy:a.eval y=vy at g2
    cases g1;cases g2
    subst hm
    have hq:(q==0)=false:=by
     have:=hk hV
     cases hb:(q==0) with
     |false=>rfl
     |true=>rw [hb] at this;cases this
    have hq0:¬q=0:=by simpa using hq
    show((do eqGuard .rem t x y (a.eval x) (a.eval y);binOp .rem t (a.eval x) (a.eval y):Sem Value) >>= fun z=>pure (Next.value z)).run P w=_
    rw [hx,hy]
    have h3:(do eqGuard .rem t x y (.int .i64 p) (.int .i64 q);binOp .rem t (.int .i64 p) (.int .i64 q):Sem Value).run P w= .ok (.int .i64 (p.tmod q)) w:=by
     simp [eqGuard_at_int,binOp,Op.intDiv,hq0]
    rw [Sem.run_bind,h3];rfl
  |some pq=>
   obtain⟨p,q⟩:=pq
   obtain⟨rfl,rfl,rfl⟩:=Eo hc
   intro d s z s' h
   unfold z8 at h
   obtain⟨_,s1,h1,h2⟩:=bind_some h
   obtain⟨cm,hk⟩:=eY h1
   obtain⟨rfl,rfl⟩:=au h2
   refine⟨cm.V,fun hV r ow w m hs hf ⟨a,ha,hm⟩=>⟨r,ow,.value (.string (zE p q)),w,?_,aN.calm hs cm,.string _⟩⟩
   have g1:=bx ha e
   have g2:=bx ha e2
   generalize hx:a.eval x=vx at g1
   generalize hy:a.eval y=vy at g2
   cases g1;cases g2
   subst hm
   have hle:=Nat.le_of_ble_eq_true (hk hV)
   have hsz:∀b:ByteArray,b.size=b.data.toList.length:=fun b=>Array.length_toList.symm
   have hb:¬((((p.size+q.size:Nat)):Int) > IntKind.i64.max):=by
    rw [hsz,hsz]
    show¬(((p.data.toList.length+q.data.toList.length:Nat):Int) > 9223372036854775807)
    omega
   show((do eqGuard .add t x y (a.eval x) (a.eval y);binOp .add t (a.eval x) (a.eval y):Sem Value) >>= fun z=>pure (Next.value z)).run P w=_
   rw [hx,hy]
   have h3:(do eqGuard .add t x y (.string p) (.string q);binOp .add t (.string p) (.string q):Sem Value).run P w= .ok (.string (zE p q)) w:=by
    rw [M4]
    simp only [eqGuard_at_string,binOp,Op.stringOp,if_neg hb,Sem.run_bind]
    rfl
   rw [Sem.run_bind,h3];rfl
 |unOp op t x=>
  exact aJ.opt (o:=bE T x) fun v e=>aJ.lV (o:=Fc op v) fun v2 e2 r m ⟨a,ha,hm⟩=>by
   obtain⟨h1,h2⟩:=HZ (P:=P) e2 (bx ha e)
   exact⟨_,h1,fun w=>by
    subst hm
    show(Op.unary op (a.eval x) >>= fun z=>pure (Next.value z)).run P w=_
    rw [Sem.run_bind,h2 w];rfl⟩
 |makeInterface t x=>
  exact aJ.opt (o:=bE T x) fun v e=>aJ.lV (o:=x8 P t v) fun v2 e2 r m ⟨a,ha,hm⟩=>by
   obtain⟨h1,h2⟩:=GP e2 (bx ha e)
   exact⟨_,h1,fun w=>by
    subst hm
    show(Instr.makeInterface t (a.eval x) >>= fun z=>pure (Next.value z)).run P w=_
    rw [Sem.run_bind,h2 w];rfl⟩
 |makeFunc fn f c=>
  refine aJ.opt (o:=j6 T f.toList) fun fv e=>aJ.opt (o:=j6 T c.toList) fun cv e2=> ?_
  cases fn with
  |func g=>exact aJ.Ms.mono fun r m ⟨a,ha,hm⟩=>⟨.func (.func g) (f.map a.eval) (c.map a.eval),by
    have h1:=nh ha e
    have h2:=nh ha e2
    have e3:f.map a.eval=⟨f.toList.map a.eval⟩:=by apply Array.ext';simp
    have e4:c.map a.eval=⟨c.toList.map a.eval⟩:=by apply Array.ext';simp
    rw [e3,e4];exact aw.rQ h1 h2,fun w=>by subst hm;rfl⟩
  |_=>exact aJ.fail
 |makeMap t res=>
  cases res with
  |none=>exact(aJ.val Ev).mono fun r m ⟨a,ha,hm⟩=>⟨_,rfl,by subst hm;rfl⟩
  |some _=>exact aJ.fail
 |range t x=>
  exact aJ.opt (o:=bE T x) fun v e=>(aJ.val (GV t v)).mono fun r m ⟨a,ha,hm⟩=>⟨_,⟨_,bx ha e,rfl⟩,hm⟩
 |next x b=>
  cases b with
  |true=>exact aJ.opt (o:=bE T x) fun v e=>(aJ.val (JM v _)).mono fun r m ⟨a,ha,hm⟩=>⟨_,⟨_,bx ha e,rfl⟩,hm⟩
  |false=>exact aJ.fail
 |convert src dst x=>
  exact aJ.opt (o:=bE T x) fun v e=>(aJ.val (Kg src dst v)).mono fun r m ⟨a,ha,hm⟩=>⟨_,⟨_,bx ha e,rfl⟩,hm⟩
 |makeSlice t l c=>
  exact aJ.opt (o:=bE T l) fun v e=>aJ.opt (o:=bE T c) fun v2 e2=>(aJ.val (xp t v v2)).mono fun r m ⟨a,ha,hm⟩=>⟨_,⟨_,_,bx ha e,bx ha e2,rfl⟩,hm⟩
 |slice t x lo hi mx=>
  exact aJ.opt (o:=bE T x) fun v e=>aJ.opt (o:=kP T lo) fun v2 e2=>aJ.opt (o:=kP T hi) fun v3 e3=>aJ.opt (o:=kP T mx) fun v4 e4=>
   (aJ.val (GS t v v2 v3 v4)).mono fun r m ⟨a,ha,hm⟩=>⟨_,⟨_,_,_,_,bx ha e,vJ ha e2,vJ ha e3,vJ ha e4,rfl⟩,hm⟩
 |fieldAddr t x f=>
  exact aJ.opt (o:=bE T x) fun v e=>(aJ.val (xS t v f)).mono fun r m ⟨a,ha,hm⟩=>⟨_,⟨_,bx ha e,rfl⟩,hm⟩
 |field t x f=>
  exact aJ.opt (o:=bE T x) fun v e=>(aJ.val (FO t v f)).mono fun r m ⟨a,ha,hm⟩=>⟨_,⟨_,bx ha e,rfl⟩,hm⟩
 |indexAddr t x i=>
  exact aJ.opt (o:=bE T x) fun v e=>aJ.opt (o:=bE T i) fun v2 e2=>(aJ.val (xt t v v2)).mono fun r m ⟨a,ha,hm⟩=>⟨_,⟨_,_,bx ha e,bx ha e2,rfl⟩,hm⟩
 |index t x i=>
  exact aJ.opt (o:=bE T x) fun v e=>aJ.opt (o:=bE T i) fun v2 e2=>(aJ.val (F9 t v v2)).mono fun r m ⟨a,ha,hm⟩=>⟨_,⟨_,_,bx ha e,bx ha e2,rfl⟩,hm⟩
 |lookup t x i ok=>
  exact aJ.opt (o:=bE T x) fun v e=>aJ.opt (o:=bE T i) fun v2 e2=>(aJ.val (DB t v v2 ok)).mono fun r m ⟨a,ha,hm⟩=>⟨_,⟨_,_,bx ha e,bx ha e2,rfl⟩,hm⟩
 |mapUpdate t x k z=>
  exact aJ.opt (o:=bE T x) fun v e=>aJ.opt (o:=bE T k) fun v2 e2=>aJ.opt (o:=bE T z) fun v3 e3=>(aJ.unit (xv t v v2 v3)).mono fun r m ⟨a,ha,hm⟩=>⟨_,⟨_,_,_,bx ha e,bx ha e2,bx ha e3,rfl⟩,hm⟩
 |extract x i=>
  exact aJ.opt (o:=bE T x) fun v e=>aJ.lV (o:=ye i v) fun v2 e2 r m ⟨a,ha,hm⟩=>by
   obtain⟨y,h1,h2⟩:=F3 (P:=P) e2 (bx ha e)
   exact⟨y,h1,fun w=>by
    subst hm
    show(Instr.extract (a.eval x) i >>= fun z=>pure (Next.value z)).run P w=_
    rw [Sem.run_bind,h2 w];rfl⟩
 |call c=>
  obtain⟨cal,args,ats⟩:=c
  refine aJ.opt (o:=j6 T args.toList) fun asZ ea=> ?_
  have hargs:∀a:Act,args.map a.eval=⟨args.toList.map a.eval⟩:=fun a=>by apply Array.ext';simp
  cases cal with
  |invoke rc name=>
   refine aJ.opt (o:=bE T rc) fun rv er=> ?_
   split
   · rename_i t v
     refine aJ.opt (o:=xZ P t name) fun g eg=>aJ.bP fun hok=>aJ.ym.mono fun r m ⟨a,ha,hm⟩=> ?_
     have hr:=bx ha er
     generalize hx:a.eval rc=vx at hr
     cases hr with
     |iface hv=>
      rename_i v'
      refine⟨#[v']++args.map a.eval,?_,fun w=> ?_⟩
      · simp only [Array.toList_append,hargs]
        exact .cons hv (nh ha ea)
      · subst hm
        have h3:=yo (P:=P) hok (#[v']++args.map a.eval) w
        have h4:=GK eg (P.types.size+99) v' w
        have h5:(callMethod (.iface t v') name (args.map a.eval)).run P w= .ok (.enter g (#[v']++args.map a.eval)) w:=by
         unfold callMethod
         simp only [Sem.run_bind,run_program,Result.andThen_ok]
         rw [show P.types.size+Made.depth=P.types.size+99+1 from rfl,h4]
         simp only [Result.andThen_ok]
         exact h3
        have h6:(#[Value.iface t v']++args.map a.eval)[0]? =some (.iface t v'):=by
         rw [←Array.getElem?_toList,Array.toList_append]
         rfl
        have h7:(#[Value.iface t v']++args.map a.eval).extract 1 (#[Value.iface t v']++args.map a.eval).size=args.map a.eval:=by
         apply Array.ext'
         simp
         exact List.take_of_length_le (by simp)
        simp only [execOp,resolve,hx,Sem.run_bind,Sem.run_pure,Result.andThen_ok,invoke,h6,h7]
        exact h5
   · exact aJ.fail
  |value f=>
   refine aJ.opt (o:=bE T f) fun fv ef=> ?_
   split
   · rename_i g first cap
     refine aJ.bP fun hok=>aJ.ym.mono fun r m ⟨a,ha,hm⟩=> ?_
     obtain⟨fs,cs,hfe,h1,h2⟩:=(bx ha ef).qd
     refine⟨fs++args.map a.eval++cs,?_,fun w=> ?_⟩
     · simp only [Array.toList_append,hargs]
       exact(h1.append (nh ha ea)).append h2
     · subst hm
       have h3:=yo (P:=P) hok (fs++args.map a.eval++cs) w
       simp only [execOp,resolve,hfe,Deferred.ofValue,Sem.run_bind,Sem.run_pure,Result.andThen_ok,invoke]
       exact h3
   · exact aJ.fail
  |builtin b=>
   refine(xo b ats.toList asZ ty (args.map fun| .const _=>true|_=>false)).mono fun r m ⟨a,ha,hm⟩=>⟨_,nh ha ea,?_⟩
   subst hm
   simp only [execOp,resolve,hargs]
   rfl
end
section
inductive Task where
 |call (f:FuncId) (args:List Value)
 |code (c:Code) (T:List Value)
 |inLoop (c:Code) (T:List Value)
 |inScope (c body:Code) (T:List Value)
inductive dI where
 |val (v:Value)
 |out (e:bU) (T:List Value)
abbrev Rec:=Task→X dI
def jj (T:List Value) (dst:Option Tmp) (v:Value):List Value:=match dst with
 |some d=>T.set d v
 |none=>T
def lG (rec:Rec) (f:FuncId) (args:List Value):X Value:=X.bind (rec (.call f args)) fun r=>match r with
 | .val v=>X.pure v
 |_=>X.fail
def mO (P:Program) (rec:Rec) (T:List Value) (o:Oper):X Value:=X.bind (c9 P T o) fun r=>match r with
 | .val v=>X.pure v
 | .unit=>X.pure undef
 | .call f args=>lG rec f args
def kn (ops:List Oper) (T:List Value) (o:Oper):X Bool:=match o.guard with
 |none=>X.pure true
 |some (j,want)=>match (ops[j]?).bind (·.dst) with
  |none=>X.pure false
  |some d=>match T.getD d undef with
   | .bool b=>X.bind (ask b) fun t=>X.pure (t==want)
   | .tuple _=>X.pure false
   |_=>X.fail
def fz (P:Program) (rec:Rec) (ops:List Oper) (T:List Value) (o:Oper):X Value:=X.bind (kn ops T o) fun b=>match b with
 |true=>mO P rec T o
 |false=>X.pure undef
def jk (P:Program) (rec:Rec) (ops:List Oper) (T:List Value) (o:Oper):X (List Value):=X.bind (fz P rec ops T o) fun v=>X.pure (jj T o.dst v)
def ee (P:Program) (rec:Rec) (ops:List Oper):List Oper→List Value→X (List Value)
 | [],T=>X.pure T
 |o::l,T=>X.bind (jk P rec ops T o) fun T'=>ee P rec ops l T'
structure iB where
 tr:List Nat
 tw:List Nat
 R:List Nat
 W:List Nat
def ou {α:Type} (x:X α):X (α×List Nat×List Nat):=fun d s=>match x d { s with R:= [],W:= []} with
 |some (a,s')=>some ((a,s'.R,s'.W), { s' with R:=s'.R++s.R,W:=s'.W++s.W})
 |none=>none
def tmpsOf:List Operand→List Nat
 | []=> []
 | .tmp t::l=>t::tmpsOf l
 |_::l=>tmpsOf l
def looks (ops:List Oper) (o:Oper):List Nat:=(match o.guard with
 |some (g,_)=>((ops[g]?).bind (·.dst)).toList
 |none=> [])++tmpsOf o.op.operands.toList
def nB (P:Program) (rec:Rec) (ops:List Oper):List Oper→List Value→X (List Value×List iB)
 | [],T=>X.pure (T,[])
 |o::l,T=>X.bind (ou (fz P rec ops T o)) fun q=>X.bind (nB P rec ops l (jj T o.dst q.1)) fun z=>X.pure (z.1,⟨looks ops o,o.dst.toList,q.2.1,q.2.2⟩::z.2)
def cY (n:Nat):List Nat→Bool
 | []=>false
 |m::l=>match Nat.beq m n with
  |true=>true
  |false=>cY n l
def qv:List Nat→List Nat→Bool
 | [],_=>true
 |n::l,m=>match cY n m with
  |true=>false
  |false=>qv l m
def indep (x y:iB):Bool:=qv x.tw y.tr && (qv x.tw y.tw && (qv x.tr y.tw && (qv x.W y.R && (qv x.W y.W && qv x.R y.W))))
def ahead (masks:List Nat):List Edge→Nat→Nat
 | [],m=>m
 |e::l,m=>match Region.binds .any e with
  |true=>ahead masks l (m ||| (2 ^ e.on ||| masks.getD e.on 0))
  |false=>ahead masks l m
def iV:List Oper→List Nat→List Nat
 | [],ms=>ms
 |o::l,ms=>iV l (ms++ [ahead ms o.after.toList 0])
def oP (j:Nat) (mask:Nat) (y:iB):Nat→List iB→Bool
 |_,[]=>true
 |i,x::l=>(Nat.testBit mask i || indep x y) && oP j mask y (i+1) l
def qy (masks:List Nat) (all:List iB):Nat→List iB→Bool
 |_,[]=>true
 |j,y::l=>oP j (masks.getD j 0) y 0 (all.take j) && qy masks all (j+1) l
def nf:Nat→List Oper→Bool
 |_,[]=>true
 |i,o::l=>(o.after.toList.all fun e=> !Region.binds .any e || Nat.blt e.on i) && nf (i+1) l
def tD (P:Program) (rec:Rec) (ops:List Oper) (T:List Value):X (List Value):=X.bind (nB P rec ops ops T) fun z=>X.bind (bP (nf 0 ops && qy (iV ops []) z.2 0 z.2)) fun _=>X.pure z.1
def iY (P:Program) (T:List Value):List ResultVar→X (List Value)
 | []=>X.pure []
 | .tmp t::l=>X.bind (iY P T l) fun vs=>X.pure (T.getD t undef::vs)
 | .cell a t::l=>X.bind (jd P t (T.getD a undef)) fun v=>X.bind (iY P T l) fun vs=>X.pure (v::vs)
def tW:List Value→Value
 | [v]=>v
 |vs=> .tuple ⟨vs⟩
def stepT (P:Program) (ro rec:Rec):Task→X dI
 | .call f args=>match P.funcs[f]? with
  |some fn=>match fn.body with
   |some c=>X.bind (rec (.code c (args++List.replicate (fn.ntmps - args.length) undef))) fun r=>match r with
    | .out .normal T=>X.bind (iY P T fn.results.toList) fun vs=>X.pure (.val (tW vs))
    | .out .ret T=>X.bind (iY P T fn.results.toList) fun vs=>X.pure (.val (tW vs))
    |_=>X.fail
   |none=>X.fail
  |none=>X.fail
 | .inLoop c T=>X.bind (rec (.code c T)) fun r=>match r with
  | .out .normal T'=>rec (.inLoop c T')
  |r=>X.pure r
 | .inScope c body T=>X.bind (rec (.code c T)) fun r=>match r with
  | .out (.goto l) T'=>match findLabel body l with
   |some rest=>rec (.inScope rest body T')
   |none=>X.pure (.out (.goto l) T')
  |r=>X.pure r
 | .code c T=>match c with
  | .skip=>X.pure (.out .normal T)
  | .label _=>X.pure (.out .normal T)
  | .region _ ops false=>X.bind (ee P ro ops.toList ops.toList T) fun T'=>X.pure (.out .normal T')
  | .region _ ops true=>X.bind (tD P ro ops.toList T) fun T'=>X.pure (.out .normal T')
  | .seq a b=>X.bind (rec (.code a T)) fun r=>match r with
   | .out .normal T'=>rec (.code b T')
   |r=>X.pure r
  | .cond c a b=>X.bind (opt (bE T c)) fun v=>match v with
   | .bool b0=>X.bind (ask b0) fun t=>match t with
    |true=>rec (.code a T)
    |false=>rec (.code b T)
   |_=>X.fail
  | .block id a=>X.bind (rec (.code a T)) fun r=>match r with
   | .out (.exit i) T'=>match Nat.beq i id with
    |true=>X.pure (.out .normal T')
    |false=>X.pure (.out (.exit i) T')
   |r=>X.pure r
  | .loop a=>rec (.inLoop a T)
  | .exit id=>X.pure (.out (.exit id) T)
  | .scope a=>rec (.inScope a a T)
  | .goto l=>X.pure (.out (.goto l) T)
  | .ret=>X.pure (.out .ret T)
  | .rangeFunc _ _ _ _=>X.fail
  | .refuse _=>X.fail
abbrev aP:=Task→Option (X dI)
def Gm:aP:=fun _=>none
def ex (P:Program) (C:aP):Nat→Rec
 |0=>fun _=>X.fail
 |n+1=>fun t=>match C t with
  |some x=>x
  |none=>stepT P (ex P C n) (ex P C n) t
def pS (rec:Rec):Prop:=∀t,Local (rec t)
section
variable {P:Program}{rec:Rec}(hr:pS rec)
include hr
theorem Local.lG (f:FuncId) (args:List Value):Local (lG rec f args):=by
 unfold Sx.lG
 refine Local.bind (hr _) fun r=> ?_
 split
 · exact Local.pure _
 · exact Local.fail
theorem Local.mO (T:List Value) (o:Oper):Local (mO P rec T o):=by
 unfold Sx.mO
 refine Local.bind (Local.c9 _ _ _) fun r=> ?_
 split
 · exact Local.pure _
 · exact Local.pure _
 · exact Local.lG hr _ _
omit hr in
theorem Local.kn (ops:List Oper) (T:List Value) (o:Oper):Local (kn ops T o):=by
 unfold Sx.kn
 split
 · exact Local.pure _
 · split
   · exact Local.pure _
   · split
     · exact Local.bind (Local.ask _) fun _=>Local.pure _
     · exact Local.pure _
     · exact Local.fail
theorem Local.fz (ops:List Oper) (T:List Value) (o:Oper):Local (fz P rec ops T o):=by
 unfold Sx.fz
 refine Local.bind (Local.kn _ _ _) fun b=> ?_
 split
 · exact Local.mO hr _ _
 · exact Local.pure _
theorem Local.jk (ops:List Oper) (T:List Value) (o:Oper):Local (jk P rec ops T o):=Local.bind (Local.fz hr _ _ _) fun _=>Local.pure _
theorem Local.ee (ops:List Oper):∀(l:List Oper) (T:List Value),Local (ee P rec ops l T)
 | [],_=>Local.pure _
 |o::l,T=>Local.bind (Local.jk hr ops T o) fun _=>Local.ee ops l _
omit hr in
theorem Local.ou {α:Type}{x:X α} (hx:Local x):Local (ou x):=by
 intro d s a s' h
 unfold Sx.ou at h
 cases e:x d { s with R:= [],W:= []} with
 |none=>simp [e] at h
 |some p=>
  obtain⟨b,s1⟩:=p
  simp only [e,Option.some.injEq,Prod.mk.injEq] at h
  obtain⟨rfl,rfl⟩:=h
  obtain⟨c1,R,W,V,hR,hW,hV,k1,l1⟩:=hx d _ b s1 e
  simp only [List.append_nil] at hR hW hV
  refine⟨c1,R,W,V,by simp [hR],by simp [hW],hV,k1,fun s2 hc hk hag=> ?_⟩
  obtain⟨h2,e2,g1,g2⟩:=l1 { s2 with R:= [],W:= []} hc hk hag
  refine⟨h2,?_,g1,g2⟩
  unfold Sx.ou
  rw [e2]
  simp [hR,hW]
theorem Local.nB (ops:List Oper):∀(l:List Oper) (T:List Value),Local (nB P rec ops l T)
 | [],_=>Local.pure _
 |o::l,T=>Local.bind (Local.ou (Local.fz hr ops T o)) fun _=>Local.bind (Local.nB ops l _) fun _=>Local.pure _
theorem Local.tD (ops:List Oper) (T:List Value):Local (tD P rec ops T):=
 Local.bind (Local.nB hr ops _ _) fun _=>Local.bind (Local.bP _) fun _=>Local.pure _
omit hr in
theorem Local.iY (T:List Value):∀(l:List ResultVar),Local (iY P T l)
 | []=>Local.pure _
 | .tmp t::l=>Local.bind (Local.iY T l) fun _=>Local.pure _
 | .cell a t::l=>Local.bind (Local.jd _ _ _) fun _=>Local.bind (Local.iY T l) fun _=>Local.pure _
theorem Local.stepT {ro:Rec} (hro:pS ro) (t:Task):Local (stepT P ro rec t):=by
 cases t with
 |call f args=>
  simp only [Sx.stepT]
  cases P.funcs[f]? with
  |none=>exact Local.fail
  |some fn=>
   simp only
   cases fn.body with
   |none=>exact Local.fail
   |some c=>
    refine Local.bind (hr _) fun r=> ?_
    split
    · exact Local.bind (Local.iY _ _) fun _=>Local.pure _
    · exact Local.bind (Local.iY _ _) fun _=>Local.pure _
    · exact Local.fail
 |inLoop c T=>
  refine Local.bind (hr _) fun r=> ?_
  split
  · exact hr _
  · exact Local.pure _
 |inScope c b T=>
  refine Local.bind (hr _) fun r=> ?_
  split
  · split
    · exact hr _
    · exact Local.pure _
  · exact Local.pure _
 |code c T=>
  unfold Sx.stepT
  cases c with
  |skip=>exact Local.pure _
  |label _=>exact Local.pure _
  |region id ops draw=>
   cases draw
   · exact Local.bind (Local.ee hro _ _ _) fun _=>Local.pure _
   · exact Local.bind (Local.tD hro _ _) fun _=>Local.pure _
  |seq a b=>
   refine Local.bind (hr _) fun r=> ?_
   split
   · exact hr _
   · exact Local.pure _
  |cond c a b=>
   refine Local.bind (Local.opt _) fun v=> ?_
   split
   · refine Local.bind (Local.ask _) fun t=> ?_
     split
     · exact hr _
     · exact hr _
   · exact Local.fail
  |block id a=>
   refine Local.bind (hr _) fun r=> ?_
   split
   · split
     · exact Local.pure _
     · exact Local.pure _
   · exact Local.pure _
  |loop a=>exact hr _
  |exit id=>exact Local.pure _
  |scope a=>exact hr _
  |goto l=>exact Local.pure _
  |ret=>exact Local.pure _
  |rangeFunc _ _ _ _=>exact Local.fail
  |refuse _=>exact Local.fail
omit hr in
theorem Local.ex {C:aP} (hC:∀t x,C t=some x→Local x):∀(n:Nat),pS (ex P C n)
 |0=>fun _=>Local.fail
 |n+1=>fun t=>by
  unfold Sx.ex
  cases e:C t with
  |some x=>exact hC t x e
  |none=>exact Local.stepT (Local.ex hC n) (Local.ex hC n) t
end
end
section
def cO:bU→Exit→Prop
 | .normal,.normal=>True
 | .exit i,.exit j=>i=j
 | .goto i,.goto j=>i=j
 | .ret,.ret=>True
 |_,_=>False
def pR (P:Program) (r:Env) (ow:Nat→Option Nat) (w:World) (s s':St) (e:bU) (T':List Value):Exit→Act→World→Prop:=fun e' a' w'=>
 cO e e'∧a'.defers= []∧∃r' ow',aN P r ow w s r' ow' w' s'∧aw r' T' a'.tmps.toList
def gJ (P:Program) (c:Code) (Q:Exit→Act→World→Prop) (a:Act) (w:World):Prop:=
 ∀(b:_root_.Go.Frame) (k:List Item) (cs:List _root_.Go.Frame),∃e a' w',Q e a' w'∧Arrives P (lone (b.at a (.code c:: .inLoop c::k)) cs w) b k cs e a' w'
def sE (P:Program) (c body:Code) (Q:Exit→Act→World→Prop) (a:Act) (w:World):Prop:=
 ∀(b:_root_.Go.Frame) (k:List Item) (cs:List _root_.Go.Frame),∃e a' w',Q e a' w'∧Arrives P (lone (b.at a (.code c:: .inScope body::k)) cs w) b k cs e a' w'
def ub (P:Program) (r:Env) (ow:Nat→Option Nat) (w:World) (s s':St) (v:Value):Ending→World→Prop:=fun e w'=>
 ∃r' ow' u,e= .returned u∧aN P r ow w s r' ow' w' s'∧Rel r' v u
def uC (P:Program) (r:Env) (ow:Nat→Option Nat) (w:World) (s s':St):Task→dI→Prop
 | .call f args,.val v=>∀us:Array Value,aw r args us.toList→Calls P f us w (ub P r ow w s s' v)
 | .code c T,.out e T'=>∀a:Act,aw r T a.tmps.toList→a.defers= []→c.wp P (pR P r ow w s s' e T') a w
 | .inLoop c T,.out e T'=>∀a:Act,aw r T a.tmps.toList→a.defers= []→gJ P c (pR P r ow w s s' e T') a w
 | .inScope c body T,.out e T'=>∀a:Act,aw r T a.tmps.toList→a.defers= []→sE P c body (pR P r ow w s s' e T') a w
 |_,_=>True
def gF (P:Program) (x:X dI) (t:Task):Prop:=∀d s res s',x d s=some (res,s')→(aW s'.V→aW s.V)∧(aW s'.V→∀r ow w,Sat P r ow s.h w→bF r s.c s'.c→uC P r ow w s s' t res)
structure lT (P:Program) (rec:Rec):Prop where
 loc:pS rec
 snd:∀t,gF P (rec t) t
def aU {α:Type} (x:X α):Prop:=∀d s a s',x d s=some (a,s')→s.c≤s'.c
theorem Local.jK {α:Type}{x:X α} (h:Local x):aU x:=fun d s a s' e=>(h d s a s' e).1
theorem aU.pure {α:Type} (a:α):aU (X.pure a):=(Local.pure a).jK
theorem aU.fail {α:Type}:aU (X.fail:X α):=Local.fail.jK
theorem aU.bind {α β:Type}{x:X α}{f:α→X β} (h:aU x) (k:∀a,aU (f a)):aU (X.bind x f):=fun d s a s' e=>by
 obtain⟨b,s1,h1,h2⟩:=bind_some e
 exact Nat.le_trans (h d s b s1 h1) (k b d s1 a s' h2)
structure gC (P:Program) (rec:Rec):Prop where
 mono:∀t,aU (rec t)
 snd:∀t,gF P (rec t) t
theorem lT.mono {P:Program}{rec:Rec} (h:lT P rec):gC P rec:=⟨fun t=>(h.loc t).jK,h.snd⟩
section
variable {P:Program}{rec:Rec}
theorem aU.lG (hr:∀t,aU (rec t)) (f:FuncId) (asZ:List Value):aU (lG rec f asZ):=by
 unfold Sx.lG
 refine aU.bind (hr _) fun r=> ?_
 split
 · exact aU.pure _
 · exact aU.fail
theorem aU.fz (hr:∀t,aU (rec t)) (ops:List Oper) (T:List Value) (o:Oper):aU (fz P rec ops T o):=by
 unfold Sx.fz
 refine aU.bind (Local.kn _ _ _).jK fun b=> ?_
 split
 · unfold Sx.mO
   refine aU.bind (Local.c9 _ _ _).jK fun r=> ?_
   split
   · exact aU.pure _
   · exact aU.pure _
   · exact aU.lG hr _ _
 · exact aU.pure _
theorem aU.jk (hr:∀t,aU (rec t)) (ops:List Oper) (T:List Value) (o:Oper):aU (jk P rec ops T o):=aU.bind (aU.fz hr _ _ _) fun _=>aU.pure _
theorem aU.ee (hr:∀t,aU (rec t)) (ops:List Oper):∀(l:List Oper) (T:List Value),aU (ee P rec ops l T)
 | [],_=>aU.pure _
 |o::l,T=>aU.bind (aU.jk hr ops T o) fun _=>aU.ee hr ops l _
end
section
variable {P:Program}
theorem mT {c:Code}{Q:Exit→Act→World→Prop}{a:Act}{w:World} (h:gJ P c Q a w):(Code.loop c).wp P Q a w:=
 fun b k cs=>let ⟨e,a',w',q,r⟩:=h b k cs;⟨e,a',w',q,.of_steps (.one step_loop) r⟩
theorem eR {c:Code}{Q:Exit→Act→World→Prop}{a:Act}{w:World} (h:c.wp P (Exit.then (gJ P c Q) Q) a w):gJ P c Q a w:=by
 intro b k cs
 obtain⟨e,a1,w1,hq,harr⟩:=h b (.inLoop c::k) cs
 cases e with
 |normal=>
  obtain⟨e2,a2,w2,q2,r2⟩:=hq b k cs
  exact⟨e2,a2,w2,q2,.of_steps (Steps.trans harr (.one step_inLoop)) r2⟩
 |exit id=>exact⟨_,a1,w1,hq,.pass (x:= .inLoop c) rfl (fun _ _=> .inl (by simp)) harr⟩
 |goto l=>exact⟨_,a1,w1,hq,.pass (x:= .inLoop c) rfl (fun _ _=> .inl (by simp)) harr⟩
 |ret=>exact⟨_,a1,w1,hq,.pass (x:= .inLoop c) rfl (fun _ _=> .inl (by simp)) harr⟩
 |panic ch=>exact⟨_,a1,w1,hq,.pass (x:= .inLoop c) rfl (fun _ _=> .inl (by simp)) harr⟩
 |outgrown=>exact⟨_,a1,w1,hq,.pass (x:= .inLoop c) rfl (fun _ _=> .inl (by simp)) harr⟩
theorem AW {c:Code}{Q:Exit→Act→World→Prop}{a:Act}{w:World} (h:sE P c c Q a w):(Code.scope c).wp P Q a w:=
 fun b k cs=>let ⟨e,a',w',q,r⟩:=h b k cs;⟨e,a',w',q,.of_steps (.one step_scope) r⟩
theorem step_inScope {b:_root_.Go.Frame}{a:Act}{k:List Item}{cs:List _root_.Go.Frame}{w:World}{c:Code}:step P (lone (b.at a (.inScope c::k)) cs w)= .next (lone (b.at a k) cs w):=
 step_lone_go (by simp [stepG,stepG.exec,Frame.at])
def uF (P:Program) (body:Code) (Q:Exit→Act→World→Prop):Exit→Act→World→Prop
 | .goto l,a,w=>match findLabel body l with
  |some rest=>sE P rest body Q a w
  |none=>Q (.goto l) a w
 |e,a,w=>Q e a w
theorem oj {c body:Code}{Q:Exit→Act→World→Prop}{a:Act}{w:World} (h:c.wp P (uF P body Q) a w):sE P c body Q a w:=by
 intro b k cs
 obtain⟨e,a1,w1,hq,harr⟩:=h b (.inScope body::k) cs
 cases e with
 |normal=>exact⟨.normal,a1,w1,hq,Steps.trans harr (.one step_inScope)⟩
 |exit id=>exact⟨.exit id,a1,w1,hq,fun k' hk=>harr k' (by simp [exitTo,hk])⟩
 |goto l=>
  simp only [uF] at hq
  cases hf:findLabel body l with
  |none=>
   simp only [hf] at hq
   exact⟨.goto l,a1,w1,hq,fun k' hk=>harr k' (by simp [gotoIn,hf,hk])⟩
  |some rest=>
   simp only [hf] at hq
   obtain⟨e2,a2,w2,q2,r2⟩:=hq b k cs
   exact⟨e2,a2,w2,q2,.of_steps (harr _ (by simp [gotoIn,hf])) r2⟩
 |ret=>exact⟨_,a1,w1,hq,harr⟩
 |panic ch=>exact⟨_,a1,w1,hq,harr⟩
 |outgrown=>exact⟨_,a1,w1,hq,harr⟩
theorem qx {r:Env}{T:List Value}{a:Act} (h:aw r T a.tmps.toList) (dst:Option Tmp) {v u:Value} (hv:Rel r v u):aw r (jj T dst v) (a.put dst u).tmps.toList:=by
 cases dst with
 |none=>exact h
 |some d=>simpa [jj,Act.put] using h.set hv d
theorem put_defers (a:Act) (dst:Option Tmp) (u:Value):(a.put dst u).defers=a.defers:=by cases dst <;> rfl
theorem rK {r:Env}:Rel r undef undef:=aw.mkTuple .nil
theorem Gx {rec:Rec} (hr:gC P rec) {T:List Value}{o:Oper}{d:bj}{s s':St}{v:Value} (h:mO P rec T o d s=some (v,s')):
  (aW s'.V→aW s.V)∧(aW s'.V→∀(r:Env) (ow:Nat→Option Nat) (w:World) (a:Act),Sat P r ow s.h w→bF r s.c s'.c→aw r T a.tmps.toList→∀(K:Act→World→Prop) (Q:Exit→Act→World→Prop),
   (∀r' ow' u w',aN P r ow w s r' ow' w' s'→Rel r' v u→K (a.put o.dst u) w')→o.wp P a w K Q):=by
 unfold mO at h
 obtain⟨res,s1,h1,h2⟩:=bind_some h
 obtain⟨g1,g2⟩:=yz (P:=P) T o d s res s1 h1
 have l1:s.c≤s1.c:=(Local.c9 P T o d s _ s1 h1).1
 cases res with
 |val v'=>
  simp only at h2
  obtain⟨rfl,rfl⟩:=au h2
  refine⟨g1,fun hV r ow w a hs hf ha K Q hK=> ?_⟩
  obtain⟨r',ow',n,w',e1,e2,e3⟩:=g2 hV r ow w _ hs hf ⟨a,ha,rfl⟩
  unfold Oper.wp
  rw [e1]
  cases n <;> simp only [pJ] at e3
  exact hK _ _ _ _ e2 e3
 |unit=>
  simp only at h2
  obtain⟨rfl,rfl⟩:=au h2
  refine⟨g1,fun hV r ow w a hs hf ha K Q hK=> ?_⟩
  obtain⟨r',ow',n,w',e1,e2,e3⟩:=g2 hV r ow w _ hs hf ⟨a,ha,rfl⟩
  unfold Oper.wp
  rw [e1]
  cases n <;> simp only [pJ] at e3
  exact hK _ _ _ _ e2 rK
 |call f args=>
  simp only at h2
  unfold lG at h2
  obtain⟨res2,s2,h3,h4⟩:=bind_some h2
  have l2:s1.c≤s2.c:=hr.mono _ d s1 _ s2 h3
  obtain⟨g3,g4⟩:=hr.snd _ d s1 res2 s2 h3
  cases res2 with
  |out e T'=>simp [X.fail] at h4
  |val v'=>
   simp only at h4
   obtain⟨rfl,rfl⟩:=au h4
   refine⟨fun hV=>g1 (g3 hV),fun hV r ow w a hs hf ha K Q hK=> ?_⟩
   obtain⟨r1,ow1,n,w1,e1,e2,e3⟩:=g2 (g3 hV) r ow w _ hs (hf.sub (Nat.le_refl _) l2) ⟨a,ha,rfl⟩
   unfold Oper.wp
   rw [e1]
   cases n <;> simp only [pJ] at e3
   obtain⟨rfl,e4⟩:=e3
   have hc:=g4 hV r1 ow1 w1 e2.sat (hf.after e2.new l1) _ e4
   refine Calls.mono hc fun e w2 ⟨r',ow',u,he,hp,hu⟩=> ?_
   subst he
   exact hK _ _ _ _ (e2.trans hp) hu
theorem F8 {ops:Array Oper}{T:List Value}{o:Oper}{d:bj}{s s':St}{b:Bool} (h:kn ops.toList T o d s=some (b,s')):
  Calm s s'∧(aW s'.V→∀(r:Env) (a:Act),aw r T a.tmps.toList→Region.wanted o (yielded ops a.tmps)=b):=by
 unfold kn at h
 cases hg:o.guard with
 |none=>
  simp only [hg] at h
  obtain⟨rfl,rfl⟩:=au h
  exact⟨Calm.refl _,fun _ r a ha=>by simp [Region.wanted,hg]⟩
 |some q=>
  obtain⟨j,want⟩:=q
  simp only [hg,Array.getElem?_toList] at h
  cases hd:(ops[j]?).bind (·.dst) with
  |none=>
   simp only [hd] at h
   obtain⟨rfl,rfl⟩:=au h
   exact⟨Calm.refl _,fun _ r a ha=>by simp [Region.wanted,hg,yielded,hd]⟩
  |some dd=>
   simp only [hd] at h
   have key:∀(r:Env) (a:Act),aw r T a.tmps.toList→Rel r (T.getD dd undef) (a.tmps.getD dd undef):=fun r a ha=>sK ha dd
   generalize hb0:T.getD dd undef=tv at h
   cases tv <;> try (simp [X.fail] at h;done)
   case bool b0=>
    obtain⟨t,s1,h1,h2⟩:=bind_some h
    obtain⟨cm,hb⟩:=jS h1
    obtain⟨rfl,rfl⟩:=au h2
    refine⟨cm,fun hV r a ha=> ?_⟩
    have h3:=key r a ha
    rw [hb0] at h3
    have hbt:=hb hV
    subst hbt
    have h4:a.tmps[dd]? =some (.bool b0):=by
     rw [Array.getD_eq_getD_getElem?] at h3
     cases e:a.tmps[dd]? with
     |none=>rw [e] at h3;simp [undef] at h3;cases h3
     |some x=>rw [e] at h3;simp at h3;cases h3;rfl
    simp [Region.wanted,hg,yielded,hd,h4]
   case tuple vs=>
    obtain⟨rfl,rfl⟩:=au h
    refine⟨Calm.refl _,fun hV r a ha=> ?_⟩
    have h3:=key r a ha
    rw [hb0] at h3
    have h4:∀q,a.tmps[dd]? ≠some (.bool q):=by
     intro q e
     rw [Array.getD_eq_getD_getElem?,e] at h3
     cases h3
    have h5:yielded ops a.tmps j=none:=by
     unfold yielded
     simp only [hd,Option.bind_some]
     try (split;(rename_i q hq;exact absurd hq (h4 q));rfl)
    simp [Region.wanted,hg,h5]
theorem rN {rec:Rec} (hr:gC P rec) {ops:Array Oper}{T:List Value}{v:Value}{o:Oper}{i:Nat} (hi:ops[i]? =some o) {d:bj}{s s':St} (h:fz P rec ops.toList T o d s=some (v,s')):
  (aW s'.V→aW s.V)∧(aW s'.V→∀(r:Env) (ow:Nat→Option Nat) (w:World) (a:Act),Sat P r ow s.h w→bF r s.c s'.c→aw r T a.tmps.toList→∀(K:Act→World→Prop) (Q:Exit→Act→World→Prop),
   (∀r' ow' u w',aN P r ow w s r' ow' w' s'→Rel r' v u→K (a.put o.dst u) w')→wpOp P ops Q i K a w):=by
 unfold fz at h
 obtain⟨b,s1,h1,h2⟩:=bind_some h
 obtain⟨cm,hw⟩:=F8 h1
 cases b with
 |true=>
  simp only at h2
  obtain⟨g1,g2⟩:=Gx hr h2
  refine⟨fun hV=>cm.V (g1 hV),fun hV r ow w a hs hf ha K Q hK=> ?_⟩
  unfold wpOp
  simp only [hi,hw (g1 hV) r a ha,if_true]
  refine .inl (g2 hV r ow w a (by rw [cm.h];exact hs) (by rw [cm.c];exact hf) ha K Q fun r' ow' u w' hp hu=> ?_)
  exact hK r' ow' u w' ((aN.calm hs cm).trans hp) hu
 |false=>
  simp only at h2
  obtain⟨rfl,rfl⟩:=au h2
  refine⟨cm.V,fun hV r ow w a hs hf ha K Q hK=> ?_⟩
  unfold wpOp
  simp only [hi,hw hV r a ha,Bool.false_eq_true,if_false]
  exact hK r ow undef w (aN.calm hs cm) rK
theorem ur {rec:Rec} (hr:gC P rec) {ops:Array Oper}{T T':List Value}{o:Oper}{i:Nat} (hi:ops[i]? =some o) {d:bj}{s s':St} (h:jk P rec ops.toList T o d s=some (T',s')):
  (aW s'.V→aW s.V)∧(aW s'.V→∀(r:Env) (ow:Nat→Option Nat) (w:World) (a:Act),Sat P r ow s.h w→bF r s.c s'.c→aw r T a.tmps.toList→∀(K:Act→World→Prop) (Q:Exit→Act→World→Prop),
   (∀r' ow' u v w',aN P r ow w s r' ow' w' s'→Rel r' v u→T'=jj T o.dst v→K (a.put o.dst u) w')→wpOp P ops Q i K a w):=by
 unfold jk at h
 obtain⟨v,s1,h1,h2⟩:=bind_some h
 obtain⟨rfl,rfl⟩:=au h2
 obtain⟨g1,g2⟩:=rN hr hi h1
 exact⟨g1,fun hV r ow w a hs hf ha K Q hK=>g2 hV r ow w a hs hf ha K Q fun r' ow' u w' hp hu=>hK r' ow' u v w' hp hu rfl⟩
theorem mW {rec:Rec} (hr:gC P rec) {ops:Array Oper}:∀(l:List Oper) (i:Nat) (T T':List Value) (d:bj) (s s':St),ops.toList.drop i=l→ee P rec ops.toList l T d s=some (T',s')→
  (aW s'.V→aW s.V)∧(aW s'.V→∀(r:Env) (ow:Nat→Option Nat) (w:World) (a:Act),Sat P r ow s.h w→bF r s.c s'.c→aw r T a.tmps.toList→a.defers= []→∀(Q:Exit→Act→World→Prop),
   (∀r' ow' a' w',aN P r ow w s r' ow' w' s'→aw r' T' a'.tmps.toList→a'.defers= []→Q .normal a' w')→wpOps P ops Q (List.range' i (ops.size - i)) a w)
 | [],i,T,T',d,s,s',hl,h=>by
  obtain⟨rfl,rfl⟩:=au (d:=d) h
  have hle:ops.size - i=0:=by
   have:=congrArg List.length hl
   simpa using this
  refine⟨id,fun hV r ow w a hs hf ha hd Q hQ=> ?_⟩
  rw [hle]
  exact hQ r ow a w (aN.calm hs (Calm.refl _)) ha hd
 |o::l,i,T,T',d,s,s',hl,h=>by
  obtain⟨T1,s1,h1,h2⟩:=bind_some h
  have hi:ops[i]? =some o:=by
   have:=congrArg (·[0]?) hl
   simpa using this
  have hl':ops.toList.drop (i+1)=l:=by
   have:=congrArg (List.drop 1) hl
   simpa [List.drop_drop] using this
  have hlt:i < ops.size:=by
   rcases Nat.lt_or_ge i ops.size with q|q
   · exact q
   · rw [Array.getElem?_eq_none q] at hi;cases hi
  have l1:s.c≤s1.c:=aU.jk hr.mono _ _ _ d s _ s1 h1
  have l2:s1.c≤s'.c:=aU.ee hr.mono _ _ _ d s1 _ s' h2
  obtain⟨g1,g2⟩:=ur hr hi h1
  obtain⟨g3,g4⟩:=mW hr l (i+1) T1 T' d s1 s' hl' h2
  refine⟨fun hV=>g1 (g3 hV),fun hV r ow w a hs hf ha hd Q hQ=> ?_⟩
  have hrange:List.range' i (ops.size - i)=i::List.range' (i+1) (ops.size - (i+1)):=by
   have:ops.size - i=(ops.size - (i+1))+1:=by omega
   rw [this,List.range'_succ]
  rw [hrange,wpOps_cons]
  refine g2 (g3 hV) r ow w a hs (hf.sub (Nat.le_refl _) l2) ha _ _ fun r1 ow1 u v w1 hp hu he=> ?_
  subst he
  refine g4 hV r1 ow1 w1 _ hp.sat (hf.after hp.new l1) (qx (ha.mono hp.le) o.dst hu) (by rw [put_defers];exact hd) Q fun r' ow' a' w' hp' ha' hd'=>hQ r' ow' a' w' (hp.trans hp') ha' hd'
end
end
section
section
variable {P:Program}{T U:List Value}
theorem Gp:∀ {x:Operand},(∀t,x= .tmp t→T.getD t undef=U.getD t undef)→bE T x=bE U x
 | .tmp t,h=>by simp only [bE];rw [h t rfl]
 | .const _,_=>rfl
 | .global _,_=>rfl
 | .func _,_=>rfl
theorem pf:∀ {l:List Operand},(∀x∈l,bE T x=bE U x)→j6 T l=j6 U l
 | [],_=>rfl
 |x::l,h=>by simp only [j6];rw [h x List.mem_cons_self,pf fun y hy=>h y (List.mem_cons_of_mem _ hy)]
theorem rR:∀ {l:List (Nat×Operand)},(∀x∈l,bE T x.2=bE U x.2)→mG T l=mG U l
 | [],_=>rfl
 |(i,x)::l,h=>by simp only [mG];rw [h (i,x) List.mem_cons_self,rR fun y hy=>h y (List.mem_cons_of_mem _ hy)]
theorem rP {o:Option Operand} (h:∀x,o=some x→bE T x=bE U x):kP T o=kP U o:=by
 cases o with
 |none=>rfl
 |some x=>simp only [kP];rw [h x rfl]
theorem EH {l:List Operand}{t:Nat} (h:Operand.tmp t∈l):t∈tmpsOf l:=by
 induction l with
 |nil=>cases h
 |cons x l ih=>
  rcases List.mem_cons.1 h with e|h'
  · subst e;exact List.mem_cons_self
  · cases x with
    |tmp u=>exact List.mem_cons_of_mem _ (ih h')
    |const _=>exact ih h'
    |global _=>exact ih h'
    |func _=>exact ih h'
theorem Fp {o:Oper} (h:∀x∈o.op.operands,bE T x=bE U x):c9 P T o=c9 P U o:=by
 obtain⟨dst,op,ty,pos,after,guard⟩:=o
 cases op with
 |call c=>
  obtain⟨cal,args,ats⟩:=c
  have ha:j6 T args.toList=j6 U args.toList:=pf fun x hx=>h x (by simp [Op.operands,Call.operands,Array.mem_toList_iff.1 hx])
  cases cal with
  |value f=>
   have hf:bE T f=bE U f:=h f (by simp [Op.operands,Call.operands])
   simp only [c9,ha,hf]
  |invoke rc _=>
   have hf:bE T rc=bE U rc:=h rc (by simp [Op.operands,Call.operands])
   simp only [c9,ha,hf]
  |builtin b=>simp only [c9,ha]
 |build t ps=>
  have:mG T ps.toList=mG U ps.toList:=rR fun x hx=>h x.2 (by simp only [Op.operands,List.mem_toArray,List.mem_map];exact⟨x,hx,rfl⟩)
  simp only [c9,this]
 |buildSlice t n ps=>
  have:mG T ps.toList=mG U ps.toList:=rR fun x hx=>h x.2 (by simp only [Op.operands,List.mem_toArray,List.mem_map];exact⟨x,hx,rfl⟩)
  simp only [c9,this]
 |makeFunc fn f c=>
  have h1:j6 T f.toList=j6 U f.toList:=pf fun x hx=>h x (by simp [Op.operands,Array.mem_toList_iff.1 hx])
  have h2:j6 T c.toList=j6 U c.toList:=pf fun x hx=>h x (by simp [Op.operands,Array.mem_toList_iff.1 hx])
  simp only [c9,h1,h2]
 |slice t x lo hi mx=>
  have h1:bE T x=bE U x:=h x (by simp [Op.operands])
  have h2:kP T lo=kP U lo:=rP fun y hy=>h y (by subst hy;simp [Op.operands])
  have h3:kP T hi=kP U hi:=rP fun y hy=>h y (by subst hy;simp [Op.operands])
  have h4:kP T mx=kP U mx:=rP fun y hy=>h y (by subst hy;simp [Op.operands])
  simp only [c9,h1,h2,h3,h4]
 |move x=>have h1:=h x (by simp [Op.operands]);simp only [c9,h1]
 |assign x=>have h1:=h x (by simp [Op.operands]);simp only [c9,h1]
 |pick c x y=>have h1:=h c (by simp [Op.operands]);have h2:=h x (by simp [Op.operands]);have h3:=h y (by simp [Op.operands]);simp only [c9,h1,h2,h3]
 |box t x=>have h1:=h x (by simp [Op.operands]);simp only [c9,h1]
 |load t x=>have h1:=h x (by simp [Op.operands]);simp only [c9,h1]
 |store t x y=>have h1:=h x (by simp [Op.operands]);have h2:=h y (by simp [Op.operands]);simp only [c9,h1,h2]
 |nilCheck x=>have h1:=h x (by simp [Op.operands]);simp only [c9,h1]
 |binOp op t x y yt=>have h1:=h x (by simp [Op.operands]);have h2:=h y (by simp [Op.operands]);simp only [c9,h1,h2]
 |unOp op t x=>have h1:=h x (by simp [Op.operands]);simp only [c9,h1]
 |makeInterface t x=>have h1:=h x (by simp [Op.operands]);simp only [c9,h1]
 |makeSlice t x y=>have h1:=h x (by simp [Op.operands]);have h2:=h y (by simp [Op.operands]);simp only [c9,h1,h2]
 |fieldAddr t x f=>have h1:=h x (by simp [Op.operands]);simp only [c9,h1]
 |field t x f=>have h1:=h x (by simp [Op.operands]);simp only [c9,h1]
 |indexAddr t x y=>have h1:=h x (by simp [Op.operands]);have h2:=h y (by simp [Op.operands]);simp only [c9,h1,h2]
 |index t x y=>have h1:=h x (by simp [Op.operands]);have h2:=h y (by simp [Op.operands]);simp only [c9,h1,h2]
 |lookup t x y ok=>have h1:=h x (by simp [Op.operands]);have h2:=h y (by simp [Op.operands]);simp only [c9,h1,h2]
 |mapUpdate t m k v=>have h1:=h m (by simp [Op.operands]);have h2:=h k (by simp [Op.operands]);have h3:=h v (by simp [Op.operands]);simp only [c9,h1,h2,h3]
 |extract x i=>have h1:=h x (by simp [Op.operands]);simp only [c9,h1]
 |makeMap t res=>cases res <;> rfl
 |range t x=>have h1:=h x (by simp [Op.operands]);simp only [c9,h1]
 |next x b=>have h1:=h x (by simp [Op.operands]);cases b <;> simp only [c9,h1]
 |convert s t x=>have h1:=h x (by simp [Op.operands]);simp only [c9,h1]
 |_=>rfl
theorem BL {rec:Rec}{ops:List Oper}{o:Oper} (h:∀t∈looks ops o,T.getD t undef=U.getD t undef):fz P rec ops T o=fz P rec ops U o:=by
 have h1:kn ops T o=kn ops U o:=by
  unfold kn
  cases hg:o.guard with
  |none=>rfl
  |some q=>
   obtain⟨j,want⟩:=q
   simp only
   cases hd:(ops[j]?).bind (·.dst) with
   |none=>rfl
   |some d=>simp only;rw [h d (by simp [looks,hg,hd])]
 have h2:c9 P T o=c9 P U o:=Fp fun x hx=>Gp fun t ht=>h t (by
  subst ht
  exact List.mem_append_right _ (EH (Array.mem_toList_iff.2 hx)))
 unfold fz mO
 rw [h1,h2]
end
theorem za {n:Nat}:∀ {l:List Nat},cY n l=true ↔ n∈l
 | []=>by simp [cY]
 |m::l=>by
  simp only [cY,cj]
  by_cases h:m=n
  · simp [h]
  · simp [h,za,Ne.symm h]
theorem jV:∀ {l m:List Nat},qv l m=true→∀n,n∈l→n ∉ m
 | [],_,_,n,h=>by cases h
 |x::l,m,h,n,hn=>by
  simp only [qv] at h
  cases hx:cY x m with
  |true=>simp [hx] at h
  |false=>
   simp only [hx] at h
   rcases List.mem_cons.1 hn with rfl|hn
   · intro hm;rw [za.2 hm] at hx;cases hx
   · exact jV h n hn
structure uH (x y:iB):Prop where
 tr:∀t,t∈x.tw→t ∉ y.tr
 tw:∀t,t∈x.tw→t ∉ y.tw
 rt:∀t,t∈x.tr→t ∉ y.tw
 WR:∀n,n∈x.W→n ∉ y.R
 WW:∀n,n∈x.W→n ∉ y.W
 RW:∀n,n∈x.R→n ∉ y.W
theorem Hy {x y:iB} (h:indep x y=true):uH x y:=by
 simp only [indep,Bool.and_eq_true] at h
 exact⟨jV h.1,jV h.2.1,jV h.2.2.1,jV h.2.2.2.1,jV h.2.2.2.2.1,jV h.2.2.2.2.2⟩
theorem p5 {j mask:Nat}{y:iB}:∀ {l:List iB}{k:Nat},oP j mask y k l=true→∀(i:Nat) (x:iB),l[i]? =some x→Nat.testBit mask (k+i)=true∨uH x y
 | [],_,_,i,x,h=>by simp at h
 |z::l,k,h,i,x,hx=>by
  simp only [oP,Bool.and_eq_true,Bool.or_eq_true] at h
  cases i with
  |zero=>simp at hx;subst hx;exact h.1.imp id Hy
  |succ i=>
   have:=p5 h.2 i x (by simpa using hx)
   rw [show k+1+i=k+(i+1) from by omega] at this
   exact this
theorem iH {masks:List Nat}{all:List iB}:∀ {l:List iB}{k:Nat},all.drop k=l→qy masks all k l=true→∀(i j:Nat) (x y:iB),k≤j→i < j→all[i]? =some x→all[j]? =some y→Nat.testBit (masks.getD j 0) i=true∨uH x y
 | [],k,hl,_,i,j,x,y,hk,hij,hx,hy=>by
  have h1:=congrArg List.length hl
  simp at h1
  have h2:=(List.getElem?_eq_some_iff.1 hy).1
  omega
 |z::l,k,hl,h,i,j,x,y,hk,hij,hx,hy=>by
  simp only [qy,Bool.and_eq_true] at h
  by_cases e:j=k
  · subst e
    have hz:z=y:=by
     have:=congrArg (·[0]?) hl
     simp at this
     rw [hy] at this;exact(Option.some.inj this).symm
    subst hz
    have:=p5 h.1 i x (by rw [List.getElem?_take,if_pos hij];exact hx)
    rwa [Nat.zero_add] at this
  · exact iH (k:=k+1) (by have:=congrArg (List.drop 1) hl;simpa [List.drop_drop] using this) h.2 i j x y (by omega) hij hx hy
def jL (L:Nat→Bool) (o:Oper):Prop:=∀e∈o.after.toList,Region.binds .any e=true→L e.on=true
theorem rF (ops:List Oper) (L:Nat→Bool):∀(l:List Oper) (ms:List Nat),ops.drop ms.length=l→nf ms.length l=true→(∀k,k < ms.length→jL L (ops.getD k default)→(∀j,j < k→L j=true→jL L (ops.getD j default))→∀i,Nat.testBit (ms.getD k 0) i=true→L i=true)→
  ∀k,k < ops.length→jL L (ops.getD k default)→(∀j,j < k→L j=true→jL L (ops.getD j default))→∀i,Nat.testBit ((iV l ms).getD k 0) i=true→L i=true
 | [],ms,hl,_,hms,k,hk,hc,hj,i,hi=>by
  have h1:=congrArg List.length hl
  simp at h1
  exact hms k (by omega) hc hj i hi
 |o::l,ms,hl,hed,hms,k,hk,hc,hj,i,hi=>by
  simp only [nf,Bool.and_eq_true,List.all_eq_true] at hed
  have ho:ops[ms.length]? =some o:=by
   have:=congrArg (·[0]?) hl
   simpa using this
  refine rF ops L l (ms++ [ahead ms o.after.toList 0]) (by have:=congrArg (List.drop 1) hl;simpa [List.drop_drop] using this) (by simpa using hed.2) (fun q hq hcq hjq x hx=> ?_) k hk hc hj i (by simpa [iV] using hi)
  simp only [List.length_append,List.length_cons,List.length_nil] at hq
  by_cases e:q=ms.length
  · subst e
    have hgd:(ms++ [ahead ms o.after.toList 0]).getD ms.length 0=ahead ms o.after.toList 0:=by simp [List.getD]
    rw [hgd] at hx
    have hod:ops.getD ms.length default=o:=by simp [List.getD,ho]
    rw [hod] at hcq
    have key:∀(es:List Edge) (m:Nat),(∀e∈es,Region.binds .any e=true→e.on < ms.length∧L e.on=true)→(∀i,Nat.testBit m i=true→L i=true)→∀i,Nat.testBit (ahead ms es m) i=true→L i=true:=by
     intro es
     induction es with
     |nil=>intro m _ hm i hi;exact hm i hi
     |cons e es ih=>
      intro m he hm i hi
      simp only [ahead] at hi
      cases hb:Region.binds .any e with
      |false=>simp only [hb] at hi;exact ih m (fun x hx=>he x (List.mem_cons_of_mem _ hx)) hm i hi
      |true=>
       simp only [hb] at hi
       refine ih _ (fun x hx=>he x (List.mem_cons_of_mem _ hx)) (fun k hk=> ?_) i hi
       rw [Nat.testBit_or,Nat.testBit_or] at hk
       simp only [Bool.or_eq_true] at hk
       obtain⟨h1,h2⟩:=he e List.mem_cons_self hb
       rcases hk with hk|hk|hk
       · exact hm k hk
       · rw [Nat.testBit_two_pow] at hk
         simp at hk;subst hk;exact h2
       · exact hms e.on h1 (hjq e.on h1 h2) (fun j hj'=>hjq j (by omega)) k hk
    refine key o.after.toList 0 (fun e he hb=>⟨?_,hcq e he hb⟩) (fun i hi=>by simp at hi) x hx
    have:=hed.1 e he
    simp only [hb,Bool.not_true,Bool.false_or] at this
    exact Nat.le_of_ble_eq_true this
  · have hq':q < ms.length:=by omega
    have hgd:(ms++ [ahead ms o.after.toList 0]).getD q 0=ms.getD q 0:=by simp [List.getD,List.getElem?_append_left hq']
    rw [hgd] at hx
    exact hms q hq' hcq hjq x hx
end
end Go.Sx
