/- TxnNothing: the symbolic executor. No condition. -/
import Derived.Deep.Slices
import Derived.Below
import Derived.Laws.World
import Derived.Test.YtalanookmohdeaaGreatDoorM4
namespace Go.Sx
variable {P:Program}
def kW:Env:=⟨fun _=>none,fun _=>0,fun n=>if n=0 then some undef else none⟩
def m6 (w:World):Nat→Option Nat:=fun b=>if b < w.heap.size then some 0 else none
def aC (w:World):Heap:= [(0,.args w.heap.size w)]
theorem Kc (w:World):Sat P kW (m6 w) (aC w) w:=by
 refine⟨fun n c h=> ?_,fun b n h=> ?_,fun b n h=> ?_⟩
 · simp only [aC,Heap.get,cj] at h
   by_cases e:(0:Nat)=n
   · subst e
     simp only [decide_true,if_true,Option.some.injEq] at h
     subst h
     exact fun b hb=>⟨by simp [m6,hb],rfl⟩
   · simp [e] at h
 · unfold m6 at h
   split at h
   · assumption
   · cases h
 · unfold m6 at h
   split at h
   · cases h;right;simp [kW]
   · cases h
theorem D7 (c:Nat):bF kW 1 c:=fun n h1 _=>⟨rfl,by simp only [kW];rw [if_neg (by omega)]⟩
theorem Ho {r':Env}{ow':Nat→Option Nat}{w w':World}{s s':St} (hp:aN P kW (m6 w) w s r' ow' w' s') (h0:s'.h.get 0=some (.args w.heap.size w)):Old w w':=
 ⟨hp.frame.os,hp.frame.tape,hp.frame.output,hp.frame.size,fun b hb=>(hp.sat.chunk 0 _ h0 b hb).2⟩
theorem ql {f:FuncId}{args:List Value}{w:World}{c1:Nat}{h1:Heap}{v:Value} (hd:ab P 1 (aC w) c1 h1 (.call f args) (.val v)) (h0:h1.get 0=some (.args w.heap.size w))
  {us:Array Value} (hu:aw kW args us.toList):Calls P f us w fun e w'=>∃r' u,e= .returned u∧Rel r' v u∧Old w w':=
 Calls.mono (hd.2 kW (m6 w) w (Kc w) (D7 c1) us hu) fun e w' ⟨r',ow',u,he,hp,hv⟩=>⟨r',u,he,hv,Ho hp h0⟩
def lit:Value→Value
 | .slice (some a) l c=> .slice (some ⟨a.block,a.off,some 0⟩) l c
 |v=>v
def sJ:Value→Prop
 | .bool _| .int _ _| .string _| .slice none 0 0=>True
 | .slice (some a) l c=>(a.spot=none∨l=0)∧l≤c
 |_=>False
theorem L0 {r:Env}:∀ {v:Value},sJ v→Rel r (lit v) v
 | .bool _,_=> .bool _
 | .int _ _,_=> .int _ _
 | .string _,_=> .string _
 | .slice none 0 0,_=> .sliceNil
 | .slice (some ⟨b,off,sp⟩) l c,h=>by
  obtain⟨h1,h2⟩:=h
  exact .litSlice h2 h1
theorem kr {w:World}{b off:Nat}{vs:List Value} (hb:b < w.heap.size) (h:∀(j:Nat) (v:Value),vs[j]? =some v→sJ v∧w.cell? ⟨b,off+j,none⟩=some v):aZ w.heap.size w b off (vs.map lit):=by
 refine⟨hb,fun j v e=> ?_⟩
 rw [List.getElem?_map] at e
 obtain⟨u,e1,rfl⟩:=Option.map_eq_some_iff.1 e
 obtain⟨h1,h2⟩:=h j u e1
 exact⟨u,h2,fun r=>L0 h1⟩
section
variable {P:Program}
def eL:List (Nat×Value)→Nat→Value
 | [],_=> .chan none
 |(k,v)::l,n=>match Nat.beq k n with
  |true=>v
  |false=>eL l n
def ay:Nat→Nat→List (Nat×Value)→List Value
 |0,_,_=> []
 |n+1,k,l=>eL l k::ay n (k+1) l
theorem oU {r:Env}{us:List Value}:∀ {l:List (Nat×Value)},(∀p∈l,∀u,us[p.1]? =some u→Rel r p.2 u)→∀(j:Nat) (u:Value),us[j]? =some u→Rel r (eL l j) u
 | [],_,_,_,_=> .any
 |(k,v)::l,h,j,u,hu=>by
  simp only [eL,cj]
  by_cases e:k=j
  · subst e
    simp only [decide_true]
    exact h (k,v) List.mem_cons_self u hu
  · simp only [e,decide_false]
    exact oU (fun p hp=>h p (List.mem_cons_of_mem _ hp)) j u hu
theorem ng {r:Env}{l:List (Nat×Value)}:∀(n k:Nat) (us:List Value),us.length=n→(∀(j:Nat) (u:Value),us[j]? =some u→Rel r (eL l (k+j)) u)→aw r (ay n k l) us
 |0,k,us,hl,_=>by
  have:us= []:=List.eq_nil_of_length_eq_zero hl
  subst this;exact .nil
 |n+1,k,us,hl,h=>by
  cases us with
  |nil=>cases hl
  |cons u us=>
   refine .cons (h 0 u rfl) (ng n (k+1) us (by simpa using hl) fun j u hu=> ?_)
   rw [show k+1+j=k+(j+1) by omega]
   exact h (j+1) u (by simpa using hu)
theorem OH {r:Env}{c c2 n:Nat}{T2 us:List Value}{l:List (Nat×Value)} (h:aw r T2 us) (hn:T2.length=n) (hl:∀p∈l,T2.getD p.1 undef=p.2∧tX c c2 p.2):aw (r.cut c c2) (ay n 0 l) us:=by
 refine ng n 0 us (by rw [←h.length,hn]) fun j u hu=> ?_
 rw [Nat.zero_add]
 refine oU (fun p hp u hu=> ?_) j u hu
 obtain⟨h1,h2⟩:=hl p hp
 obtain⟨x,hx,hr⟩:=h.get' p.1 u hu
 have:T2.getD p.1 undef=x:=by rw [List.getD_eq_getElem?_getD,hx];rfl
 rw [←h1,this]
 rw [←h1,this] at h2
 exact h2 r u hr
def PV:Option (dI×St)→Option (Value×Option Chunk×List VC)
 |some (.val v,s)=>some (v,s.h.get 0,s.V)
 |_=>none
end
section
variable {P:Program}
abbrev Names:=List (Nat×Nat)
def Names.src:Names→Nat→Option Nat
 | [],_=>none
 |(m,s)::ρ,n=>match Nat.beq m n with
  |true=>some s
  |false=>Names.src ρ n
def Names.rV:Names→Nat→Option Nat
 | [],_=>none
 |(m,s)::ρ,n=>match Nat.beq s n with
  |true=>some m
  |false=>Names.rV ρ n
def x7:Option Nat→Nat→Bool
 |some a,b=>Nat.beq a b
 |none,_=>false
theorem Ag {o:Option Nat}{n:Nat} (h:x7 o n=true):o=some n:=by
 cases o with
 |none=>simp [x7] at h
 |some a=>rw [Nat.eq_of_beq_eq_true h]
def Names.yi (all:Names) (c0 cm:Nat):Names→Bool
 | []=>true
 |(m,s)::ρ=>inside c0 cm m && (x7 (all.src m) s && (x7 (all.rV s) m && Names.yi all c0 cm ρ))
def Names.ok (ρ:Names) (c0 cm:Nat):Bool:=Names.yi ρ c0 cm ρ
theorem Names.pd {all:Names}{c0 cm m s:Nat}:∀ {ρ:Names},Names.yi all c0 cm ρ=true→(m,s)∈ρ→inside c0 cm m=true∧all.src m=some s∧all.rV s=some m
 |(m',s')::ρ,h,hm=>by
  simp only [Names.yi,Bool.and_eq_true] at h
  obtain⟨h1,h2,h3,h4⟩:=h
  rcases List.mem_cons.1 hm with e|e
  · cases e;exact⟨h1,Ag h2,Ag h3⟩
  · exact Names.pd h4 e
theorem Names.Dh {m s:Nat}:∀ {ρ:Names},ρ.src m=some s→(m,s)∈ρ
 | [],h=>by cases h
 |(m',s')::ρ,h=>by
  simp only [Names.src,cj] at h
  by_cases e:m'=m
  · subst e;simp only [decide_true,Option.some.injEq] at h;subst h;exact List.mem_cons_self
  · simp only [e,decide_false] at h;exact List.mem_cons_of_mem _ (Names.Dh h)
theorem Names.vU {m s:Nat}:∀ {ρ:Names},ρ.rV s=some m→(m,s)∈ρ
 | [],h=>by cases h
 |(m',s')::ρ,h=>by
  simp only [Names.rV,cj] at h
  by_cases e:s'=s
  · subst e;simp only [decide_true,Option.some.injEq] at h;subst h;exact List.mem_cons_self
  · simp only [e,decide_false] at h;exact List.mem_cons_of_mem _ (Names.vU h)
def nameOf (ρ:Names) (c0 c1 n:Nat):Option Nat:=match ρ.rV n with
 |some m=>some m
 |none=>match inside c0 c1 n with
  |true=>none
  |false=>some n
def Env.bC (ρ:Names) (c0 c1:Nat) (r:Env):Env:=
 ⟨fun n=>if inside c0 c1 n then(match ρ.src n with|some s=>r.blk s|none=>none) else r.blk n,
  fun n=>if inside c0 c1 n then(match ρ.src n with|some s=>r.cap s|none=>r.cap n) else r.cap n,
  fun n=>if inside c0 c1 n then(match ρ.src n with|some s=>r.val s|none=>none) else r.val n⟩
def rG (ρ:Names) (c0 c1:Nat) (ow:Nat→Option Nat):Nat→Option Nat:=fun b=>match ow b with
 |some s=>nameOf ρ c0 c1 s
 |none=>none
theorem F0 {c0 cm c1 n:Nat} (h:cm≤c1) (hi:inside c0 cm n=true):inside c0 c1 n=true:=by
 rw [b8] at hi ⊢
 omega
theorem jc {ρ:Names}{c0 cm c1 n m:Nat} (hρ:ρ.ok c0 cm=true) (hc:cm≤c1) (r:Env) (h:nameOf ρ c0 c1 n=some m):
  (r.bC ρ c0 c1).blk m=r.blk n∧(r.bC ρ c0 c1).cap m=r.cap n∧(r.bC ρ c0 c1).val m=r.val n:=by
 unfold nameOf at h
 cases e:ρ.rV n with
 |some k=>
  simp only [e,Option.some.injEq] at h
  subst h
  obtain⟨h1,h2,_⟩:=Names.pd hρ (Names.vU e)
  have h3:=F0 hc h1
  exact⟨by simp [Env.bC,h3,h2],by simp [Env.bC,h3,h2],by simp [Env.bC,h3,h2]⟩
 |none=>
  simp only [e] at h
  cases hi:inside c0 c1 n with
  |true=>simp [hi] at h
  |false=>
   simp only [hi,Option.some.injEq] at h
   subst h
   exact⟨by simp [Env.bC,hi],by simp [Env.bC,hi],by simp [Env.bC,hi]⟩
def ao (nm:Nat→Option Nat):Nat→Value→Value
 |0,_=> .chan none
 |f+1,v=>match v with
  | .bool b=> .bool b
  | .int k n=> .int k n
  | .string s=> .string s
  | .pointer none=> .pointer none
  | .slice none l c=> .slice none l c
  | .map none=> .map none
  | .nilFunc=> .nilFunc
  | .nilIface=> .nilIface
  | .pointer (some ⟨n,o,none⟩)=>match nm n with
   |some m=> .pointer (some ⟨m,o,none⟩)
   |none=> .chan none
  | .pointer (some ⟨b,o,some k⟩)=> .pointer (some ⟨b,o,some k⟩)
  | .slice (some ⟨n,o,none⟩) l c=>match nm n with
   |some m=> .slice (some ⟨m,o,none⟩) l c
   |none=> .chan none
  | .slice (some ⟨b,o,some k⟩) l c=> .slice (some ⟨b,o,some k⟩) l c
  | .map (some n)=>match nm n with
   |some m=> .map (some m)
   |none=> .chan none
  | .chan (some n)=>match nm n with
   |some m=> .chan (some m)
   |none=> .chan none
  | .iface t v=> .iface t (ao nm f v)
  | .agg ⟨l⟩=> .agg ⟨l.map (ao nm f)⟩
  | .tuple ⟨l⟩=> .tuple ⟨l.map (ao nm f)⟩
  | .func fn ⟨a⟩ ⟨b⟩=> .func fn ⟨a.map (ao nm f)⟩ ⟨b.map (ao nm f)⟩
  |_=> .chan none
theorem cV {r r2:Env}{g:Value→Value} (hg:∀v u,Rel r v u→Rel r2 (g v) u) {l us:List Value} (h:aw r l us):aw r2 (l.map g) us:=by
 induction h with
 |nil=>exact .nil
 |cons h _ ih=>exact .cons (hg _ _ h) ih
theorem b9 {r r2:Env}{nm:Nat→Option Nat} (hb:∀n m,nm n=some m→r2.blk m=r.blk n∧r2.cap m=r.cap n∧r2.val m=r.val n):∀(f:Nat) (v u:Value),Rel r v u→Rel r2 (ao nm f v) u
 |0,_,_,_=> .any
 |f+1,v,u,h=>by
  have ih:=b9 hb f
  unfold ao
  split
  · cases h;exact .bool _
  · cases h;exact .int _ _
  · cases h;exact .string _
  · cases h;exact .ptrNil
  · cases h;exact .sliceNil
  · cases h;exact .mapNil
  · cases h;exact .nilFunc
  · cases h;exact .nilIface
  · cases h with
    |ptr hn=>
     split
     · rename_i e;exact .ptr ((hb _ _ e).1.trans hn)
     · exact .any
  · cases h;exact .litPtr
  · cases h with
    |slice hn ho hl h0 h2=>
     split
     · rename_i e;exact .slice ((hb _ _ e).1.trans hn) ho hl (fun q=>by rw [(hb _ _ e).2.1];exact h0 q) h2
     · exact .any
  · cases h with
    |litSlice hl hs=>exact .litSlice hl hs
  · cases h with
    |map hn=>
     split
     · rename_i e;exact .map ((hb _ _ e).1.trans hn)
     · exact .any
  · cases h with
    |opq hn=>
     split
     · rename_i e;exact .opq ((hb _ _ e).2.2.trans hn)
     · exact .any
  · cases h with
    |iface h=>exact .iface (ih _ _ h)
  · obtain⟨ys,rfl,hl⟩:=h.j3
    exact aw.kL (ys:=ys.toList) (cV ih hl)
  · obtain⟨ys,rfl,hl⟩:=h.lS
    exact aw.mkTuple (ys:=ys.toList) (cV ih hl)
  · obtain⟨ys,bs,rfl,hl,hl'⟩:=h.qd
    exact aw.rQ (ys:=ys.toList) (bs:=bs.toList) (cV ih hl) (cV ih hl')
  · exact .any
inductive aj:List Value→List Value→Prop
 |nil {l:List Value}:aj [] l
 |any {v:Value} {l' l:List Value} (h:aj l' l):aj (.chan none::l') (v::l)
 |same {v' v:Value} {l' l:List Value} (e:v'=v) (h:aj l' l):aj (v'::l') (v::l)
 |ifc {t:TypeId} {v v0:Value} {l' l:List Value} (e:v= .iface t v0) (h:aj l' l):aj (.iface t (.chan none)::l') (v::l)
theorem aj.refl:∀(l:List Value),aj l l
 | []=> .nil
 |_::l=> .same rfl (aj.refl l)
theorem aj.rel {r:Env}{l' l:List Value} (h:aj l' l):∀ {us:List Value},aw r l us→aw r l' (us.take l'.length):=by
 induction h with
 |nil=>intro us _;simp;exact .nil
 |any _ ih=>intro us hu;cases hu with|cons h t=>exact .cons .any (ih t)
 |same e _ ih=>intro us hu;cases hu with|cons h t=>subst e;exact .cons h (ih t)
 |ifc e _ ih=>intro us hu;cases hu with|cons h t=>subst e;cases h with|iface h=>exact .cons (.iface .any) (ih t)
theorem aj.len {l' l:List Value} (h:aj l' l):l'.length≤l.length:=by
 induction h with
 |nil=>exact Nat.zero_le _
 |any _ ih=>simpa using ih
 |same _ _ ih=>simpa using ih
 |ifc _ _ ih=>simpa using ih
def Chunk.bC (nm:Nat→Option Nat):Chunk→Chunk
 | .cells l t=> .cells (l.map (ao nm 9)) t
 | .map es=> .map (es.map fun p=>(ao nm 9 p.1,ao nm 9 p.2))
 |x=>x
inductive az:Chunk→Chunk→Prop
 |cells {l l':List Value} {t:TypeId} (h:aj l' l):az (.cells l t) (.cells l' t)
 |map {es es':List (Value×Value)} (hl:es'.length=es.length) (h1:aj (es'.map (·.1)) (es.map (·.1))) (h2:aj (es'.map (·.2)) (es.map (·.2))):az (.map es) (.map es')
 |args {B:Nat} {w:World}:az (.args B w) (.args B w)
 |bag {e:TypeId} {m m':Nat} (h:m≤m'):az (.bag e m) (.bag e m')
 |iter {s:ByteArray} {pos:Nat}:az (.iter s pos) (.iter s pos)
 |sem {x:aG}:az (.sem x) (.sem x)
 |froz {S:List Nat} {w:World}:az (.froz S w) (.froz S w)
theorem DT {ρ:Names}{c0 cm c1 s n:Nat} (hρ:ρ.ok c0 cm=true) (hc:cm≤c1) (hn:nameOf ρ c0 c1 s=some n) {x x':Chunk} (h:az (x.bC (nameOf ρ c0 c1)) x') {r:Env}{ow:Nat→Option Nat}{w:World} (hs:x.sat P r ow w s):
  x'.sat P (r.bC ρ c0 c1) (rG ρ c0 c1 ow) w n:=by
 obtain⟨e1,e2,e3⟩:=jc hρ hc r hn
 have hV:=b9 (r:=r) (r2:=r.bC ρ c0 c1) (nm:=nameOf ρ c0 c1) (fun n m h=>jc hρ hc r h) 9
 have hO:∀b,ow b=some s→rG ρ c0 c1 ow b=some n:=fun b hb=>by simp [rG,hb,hn]
 cases x with
 |cells l t=>
  obtain⟨b,c,h1,h2,h3,h4,h5,h6⟩:=hs
  cases h with
  |cells hcov=>
   have h7:=hcov.rel (cV hV h4)
   have h8:=hcov.len
   rw [List.length_map] at h8
   rw [List.take_take,Nat.min_eq_left h8] at h7
   exact⟨b,c,e1.trans h1,hO b h2,h3,h7,Nat.le_trans h8 h5,by rw [e2];exact h6⟩
 |map es=>
  obtain⟨b,es2,k,h1,h2,h3,h4,h5⟩:=hs
  cases h with
  |map hl hk hv=>
   have g1:=hk.rel (us:=es2.toList.map (·.key)) (by have:=cV hV h4;rw [List.map_map] at this ⊢;exact this)
   have g2:=hv.rel (us:=es2.toList.map (·.val)) (by have:=cV hV h5;rw [List.map_map] at this ⊢;exact this)
   have hlen:=h4.length
   rw [List.length_map,List.length_map] at hlen
   rw [List.length_map] at hl
   rw [List.length_map,hl,List.take_of_length_le (by rw [List.length_map];omega)] at g1 g2
   exact⟨b,es2,k,e1.trans h1,hO b h2,h3,g1,g2⟩
 |args B w0=>
  cases h with
  |args=>exact fun b hb=>⟨hO b (hs b hb).1,(hs b hb).2⟩
 |froz S w0=>
  cases h with
  |froz=>exact fun b hb=>⟨hO b (hs b hb).1,(hs b hb).2⟩
 |sem x=>
  cases h with
  |sem=>exact x.up (fun b hb=>hO b hb) hs
 |bag e m=>
  obtain⟨a,l,c,h1,h2,h3⟩:=hs
  cases h with
  |bag hm=>exact⟨a,l,c,e3.trans h1,Nat.le_trans h2 hm,h3.imp id fun⟨b,cs,q1,q2,q3⟩=>⟨b,cs,q1,hO b q2,q3⟩⟩
 |iter s pos=>
  obtain⟨b,h1,h2,h3⟩:=hs
  cases h with
  |iter=>exact⟨b,e1.trans h1,hO b h2,h3⟩
inductive tJ (nm:Nat→Option Nat):List Nat→List (Option Chunk)→Heap→Prop
 |nil:tJ nm [] [] []
 |cons {s n:Nat} {y x':Chunk} {ss:List Nat} {ys:List (Option Chunk)} {h':Heap} (hn:nm s=some n) (hx:az y x') (ht:tJ nm ss ys h'):tJ nm (s::ss) (some y::ys) ((n,x')::h')
structure jJ (ρ:Names) (c0 c1:Nat) (h2:Heap) (T2:List Value) (h':Heap) (T':List Value):Prop where
 heap:∀n x',h'.get n=some x'→∃s x,nameOf ρ c0 c1 s=some n∧h2.get s=some x∧az (x.bC (nameOf ρ c0 c1)) x'
 tmps:∀r r2 us,(∀n m,nameOf ρ c0 c1 n=some m→r2.blk m=r.blk n∧r2.cap m=r.cap n∧r2.val m=r.val n)→aw r T2 us→aw r2 T' us
theorem CK {nm:Nat→Option Nat}{n:Nat}{T2 vs:List Value}{l:List (Nat×Value)} (hn:T2.length=n) (hs:((l.map (·.1)).map fun k=>ao nm 9 (T2.getD k undef))=vs) (hc:aj (l.map (·.2)) vs)
  (r r2:Env) (us:List Value) (hb:∀n m,nm n=some m→r2.blk m=r.blk n∧r2.cap m=r.cap n∧r2.val m=r.val n) (h:aw r T2 us):aw r2 (ay n 0 l) us:=by
 refine ng n 0 us (by rw [←h.length,hn]) fun j u hu=> ?_
 rw [Nat.zero_add]
 refine oU (fun p hp u2 hu2=> ?_) j u hu
 have key:∀ {l:List (Nat×Value)} {vs:List Value},((l.map (·.1)).map fun k=>ao nm 9 (T2.getD k undef))=vs→aj (l.map (·.2)) vs→p∈l→∀u,us[p.1]? =some u→Rel r2 p.2 u:=by
  intro l
  induction l with
  |nil=>intro vs _ _ hp;cases hp
  |cons q l ih=>
   intro vs e hc hp u hu
   subst e
   simp only [List.map_cons] at hc
   have one:∀v',v'=ao nm 9 (T2.getD q.1 undef)→p=q→Rel r2 v' u:=fun v' e1 e2=>by
    subst e1;subst e2
    obtain⟨x,hx,hr⟩:=h.get' p.1 u hu
    have:T2.getD p.1 undef=x:=by rw [List.getD_eq_getElem?_getD,hx];rfl
    rw [this]
    exact b9 hb 9 _ _ hr
   rcases List.mem_cons.1 hp with e|e
   · subst e
     generalize p.2=z at hc ⊢
     cases hc with
     |any _=>exact .any
     |same e2 _=>exact one z e2 rfl
     |ifc e2 _=>
      have:=one _ e2.symm rfl
      cases this with|iface h=>exact .iface .any
   · generalize q.2=z at hc
     cases hc with
     |any hc=>exact ih rfl hc e u hu
     |same _ hc=>exact ih rfl hc e u hu
     |ifc _ hc=>exact ih rfl hc e u hu
 exact key hs hc hp u2 hu2
theorem aN.bC {ρ:Names}{r r':Env}{ow ow':Nat→Option Nat}{w w':World}{c0 cm c1 c2:Nat}{h0 h2 h':Heap} (hρ:ρ.ok c0 cm=true) (h0m:c0≤cm) (hm1:cm≤c1) (h21:c2≤c1) (hf:bF r c0 c1)
  (hp:aN P r ow w (bb c0 h0) r' ow' w' (bb c2 h2)) (hk:∀n x',h'.get n=some x'→∃s x,nameOf ρ c0 c1 s=some n∧h2.get s=some x∧az (x.bC (nameOf ρ c0 c1)) x'):
  aN P r ow w (bb c0 h0) (r'.bC ρ c0 c1) (rG ρ c0 c1 ow') w' (bb cm h')∧bF (r'.bC ρ c0 c1) cm c1:=by
 have out:∀n,r.blk n≠none∨r.val n≠none→inside c0 c1 n=false:=fun n hn=>by
  cases hi:inside c0 c1 n with
  |false=>rfl
  |true=>
   have:=hf n (b8.1 hi).1 (b8.1 hi).2
   rcases hn with q|q
   · exact absurd this.1 q
   · exact absurd this.2 q
 have new:∀n,inside c0 c1 n=true→(∃s,ρ.src n=some s)→c0≤n∧n < cm:=fun n _ ⟨s,hs⟩=>b8.1 (Names.pd hρ (Names.Dh hs)).1
 refine⟨⟨⟨fun n b e=> ?_,fun n b e=> ?_,fun n v e=> ?_⟩,⟨fun n x hn=> ?_,fun b n e=> ?_,fun b n e=> ?_⟩,⟨hp.frame.os,hp.frame.tape,hp.frame.output,hp.frame.size,fun b hb ho=> ?_⟩,⟨fun n e=> ?_,fun n e=> ?_⟩,h0m,fun b n e=> ?_⟩,fun n h1 h2=> ?_⟩
 · have hi:=out n (.inl (by rw [e];simp))
   simp only [Env.bC,hi,Bool.false_eq_true,if_false]
   exact hp.le.blk n b e
 · have hi:=out n (.inl (by rw [e];simp))
   simp only [Env.bC,hi,Bool.false_eq_true,if_false]
   exact hp.le.cap n b e
 · have hi:=out n (.inr (by rw [e];simp))
   simp only [Env.bC,hi,Bool.false_eq_true,if_false]
   exact hp.le.val n v e
 · obtain⟨s,x0,q1,q2,q3⟩:=hk n x hn
   exact DT hρ hm1 q1 q3 (hp.sat.chunk s x0 q2)
 · unfold rG at e
   cases e2:ow' b with
   |none=>simp [e2] at e
   |some s=>exact hp.sat.bound b s e2
 · unfold rG at e
   cases e2:ow' b with
   |none=>simp [e2] at e
   |some s=>
    simp only [e2] at e
    obtain⟨q1,_,q3⟩:=jc hρ hm1 r' e
    rw [q1,q3]
    exact hp.sat.known b s e2
 · have:=hp.frame.aq b hb ho
   exact⟨by simp [rG,this.1],this.2⟩
 · show r.blk n≠none∨_
   simp only [Env.bC] at e
   cases hi:inside c0 c1 n with
   |true=>
    simp only [hi,if_true] at e
    cases hs:ρ.src n with
    |none=>simp [hs] at e
    |some s=>exact .inr (new n hi ⟨s,hs⟩)
   |false=>
    simp only [hi,Bool.false_eq_true,if_false] at e
    rcases hp.new.1 n e with q|q
    · exact .inl q
    · have q':c0≤n∧n < c2:=q
      rw [b8.2 ⟨q'.1,Nat.lt_of_lt_of_le q'.2 h21⟩] at hi;cases hi
 · show r.val n≠none∨_
   simp only [Env.bC] at e
   cases hi:inside c0 c1 n with
   |true=>
    simp only [hi,if_true] at e
    cases hs:ρ.src n with
    |none=>simp [hs] at e
    |some s=>exact .inr (new n hi ⟨s,hs⟩)
   |false=>
    simp only [hi,Bool.false_eq_true,if_false] at e
    rcases hp.new.2 n e with q|q
    · exact .inl q
    · have q':c0≤n∧n < c2:=q
      rw [b8.2 ⟨q'.1,Nat.lt_of_lt_of_le q'.2 h21⟩] at hi;cases hi
 · unfold rG at e
   cases e2:ow' b with
   |none=>simp [e2] at e
   |some s=>
    simp only [e2] at e
    unfold nameOf at e
    cases e3:ρ.rV s with
    |some m=>
     simp only [e3,Option.some.injEq] at e
     subst e
     exact .inr (b8.1 (Names.pd hρ (Names.vU e3)).1)
    |none=>
     simp only [e3] at e
     cases hi:inside c0 c1 s with
     |true=>simp [hi] at e
     |false=>
      simp only [hi,Option.some.injEq] at e
      subst e
      rcases hp.own b s e2 with q|q
      · exact .inl q
      · have q':c0≤s∧s < c2:=q
        rw [b8.2 ⟨q'.1,Nat.lt_of_lt_of_le q'.2 h21⟩] at hi;cases hi
 · have hi:inside c0 c1 n=true:=b8.2 ⟨Nat.le_trans h0m h1,h2⟩
   have hs:ρ.src n=none:=by
    cases hs:ρ.src n with
    |none=>rfl
    |some s=>have:=(new n hi ⟨s,hs⟩).2;omega
   exact⟨by simp [Env.bC,hi,hs],by simp [Env.bC,hi,hs]⟩
def Mid (P:Program) (c0:Nat) (h0:Heap) (cm:Nat) (hm:Heap) (c1:Nat) (h1:Heap) (code:Code) (T:List Value) (e:bU) (Tf:List Value):Prop:=
 ∀r0 ow0 w0 r ow w,bF r0 c0 c1→aN P r0 ow0 w0 (bb c0 h0) r ow w (bb cm hm)→bF r cm c1→∀a:Act,aw r T a.tmps.toList→a.defers= []→gJ P code (pR P r0 ow0 w0 (bb c0 h0) (bb c1 h1) e Tf) a w
theorem mid_step {ρ:Names}{c0 cm c1 c2:Nat}{h0 hm hm' h1 h2:Heap}{code:Code}{T T2 T' Tf:List Value}{e:bU} (hρ:ρ.ok c0 cm=true) (h0m:c0≤cm) (hm1:cm≤c1) (h21:c2≤c1)
  (hb:ab P cm hm c2 h2 (.code code T) (.out .normal T2)) (R:jJ ρ c0 c1 h2 T2 hm' T') (hn:Mid P c0 h0 cm hm' c1 h1 code T' e Tf):Mid P c0 h0 cm hm c1 h1 code T e Tf:=by
 intro r0 ow0 w0 r ow w hf hp hfr a ha hd
 refine eR (wp_mono (hb.2 r ow w hp.sat (hfr.sub (Nat.le_refl _) h21) a ha hd) ?_)
 intro e' a' w' ⟨hex,hd',r',ow',hp',ha'⟩
 cases e' <;> simp only [cO] at hex
 obtain⟨hq,hf'⟩:=(hp.trans hp').bC hρ h0m hm1 h21 hf R.heap
 exact hn r0 ow0 w0 _ _ w' hf hq hf' a' (R.tmps _ _ _ (fun n m h=>jc hρ hm1 r' h) ha') hd'
theorem mid_end {ρ:Names}{c0 cm c1 c2:Nat}{h0 hm h1 h2:Heap}{code:Code}{T T2 Tf:List Value}{e:bU} (he:e≠ .normal) (hρ:ρ.ok c0 c1=true) (h0m:c0≤cm) (h21:c2≤c1)
  (hb:ab P cm hm c2 h2 (.code code T) (.out e T2)) (R:jJ ρ c0 c1 h2 T2 h1 Tf):Mid P c0 h0 cm hm c1 h1 code T e Tf:=by
 intro r0 ow0 w0 r ow w hf hp hfr a ha hd
 have h01:c0≤c1:=Nat.le_trans h0m (Nat.le_trans hb.1 h21)
 refine eR (wp_mono (hb.2 r ow w hp.sat (hfr.sub (Nat.le_refl _) h21) a ha hd) ?_)
 intro e' a' w' ⟨hex,hd',r',ow',hp',ha'⟩
 obtain⟨hq,_⟩:=(hp.trans hp').bC hρ h01 (Nat.le_refl _) h21 hf R.heap
 have fin:pR P r0 ow0 w0 (bb c0 h0) (bb c1 h1) e Tf e' a' w':=⟨hex,hd',_,_,hq,R.tmps _ _ _ (fun n m h=>jc hρ (Nat.le_refl _) r' h) ha'⟩
 cases e' with
 |normal=>cases e <;> simp only [cO] at hex;exact(he rfl).elim
 |_=>exact fin
theorem gX {ρ:Names}{c0 cm c1:Nat}{h0 hm h1:Heap}{code:Code}{T0 T Tf:List Value}{e:bU} (hρ:ρ.ok c0 cm=true) (h0m:c0≤cm) (hm1:cm≤c1) (R:jJ ρ c0 c1 h0 T0 hm T)
  (hn:Mid P c0 h0 cm hm c1 h1 code T e Tf):ab P c0 h0 c1 h1 (.inLoop code T0) (.out e Tf):=by
 refine⟨Nat.le_trans h0m hm1,fun r ow w hs hf a ha hd=> ?_⟩
 obtain⟨hq,hf'⟩:=(aN.calm (P:=P) (s:=bb c0 h0) hs (Calm.refl _)).bC hρ h0m hm1 (Nat.le_trans h0m hm1) hf R.heap
 exact hn r ow w _ _ w hf hq hf' a (R.tmps _ _ _ (fun n m h=>jc hρ hm1 r h) ha) hd
theorem ez {c b:Bool} (h:c=b):VC.ok (.b (c==b)):=by subst h;exact beq_self_eq_true c
theorem vM {c:Bool} (h:c=true):VC.ok (.b c):=h
end
section
variable {P:Program}
def codeF (P:Program) (ro rec:Rec) (c:Code) (T:List Value):X dI:=match c with
 | .region _ ops false=>X.bind (ee P rec ops.toList ops.toList T) fun T'=>X.pure (.out .normal T')
 |c=>stepT P ro rec (.code c T)
def zm (k:Nat):X (Option eA):=fun d s=>some (d.look k,s)
def yh (P:Program) (f:FuncId) (asZ:List Value) (aq:List Nat) (c1:Nat) (h1:Heap) (v:Value):X dI:=fun _ s=>match Nat.ble s.c c1 && (fm aq s.c c1 h1 && a8 s.c (s.h.cw aq)) with
 |true=>some (.val v, { s with c:=c1,h:=h1++s.h.cw aq,V:= .p (ab P s.c (s.h.only aq) c1 h1 (.call f asZ) (.val v))::s.V})
 |false=>none
def Fl (P:Program) (f:FuncId) (asZ:List Value):Option eA→X dI
 |some (.loop _ aq c1 h1 _ [v])=>yh P f asZ aq c1 h1 v
 |_=>X.fail
def uv (P:Program) (ro rec:Rec) (f:FuncId) (asZ:List Value):X dI:=X.bind (zm (1000000+f)) fun b=>match b with
 |none=>stepT P ro rec (.call f asZ)
 |some _=>X.bind X.tick fun a=>Fl P f asZ a
theorem u7 {f:FuncId}{asZ:List Value}{aq:List Nat}{c1:Nat}{h1:Heap}{v:Value}{d:bj}{s s':St}{a:dI} (h:yh P f asZ aq c1 h1 v d s=some (a,s')):
  (s.c≤c1∧fm aq s.c c1 h1=true∧a8 s.c (s.h.cw aq)=true)∧a= .val v∧
   s'= { s with c:=c1,h:=h1++s.h.cw aq,V:= .p (ab P s.c (s.h.only aq) c1 h1 (.call f asZ) (.val v))::s.V}:=by
 unfold yh at h
 cases hb:Nat.ble s.c c1 && (fm aq s.c c1 h1 && a8 s.c (s.h.cw aq)) with
 |false=>simp [hb] at h
 |true=>
  simp only [hb,Option.some.injEq,Prod.mk.injEq] at h
  simp only [Bool.and_eq_true] at hb
  exact⟨⟨Nat.le_of_ble_eq_true hb.1,hb.2.1,hb.2.2⟩,h.1.symm,h.2.symm⟩
theorem tj {k:Nat}{d:bj}{s s':St}{a:Option eA} (h:zm k d s=some (a,s')):s=s':=by
 simp only [zm,Option.some.injEq,Prod.mk.injEq] at h
 exact h.2
theorem uS {f:FuncId}{asZ:List Value}{o:Option eA}{d:bj}{s s':St}{a:dI} (h:Fl P f asZ o d s=some (a,s')):
  ∃aq c1 h1 v,yh P f asZ aq c1 h1 v d s=some (a,s'):=by
 unfold Fl at h
 split at h
 · exact⟨_,_,_,_,h⟩
 · simp [X.fail] at h
theorem FL (hm:P.follows .mixedOrders=true) {ro rec:Rec} (ho:lT P ro) (hr:gC P rec) (f:FuncId) (asZ:List Value):aU (uv P ro rec f asZ)∧gF P (uv P ro rec f asZ) (.call f asZ):=by
 have hL:=wx hm ho hr
 constructor
 · intro d s a s' h
   unfold uv at h
   obtain⟨x,s1,h1,h2⟩:=bind_some h
   obtain rfl:=tj h1
   cases x with
   |none=>exact hL.mono (.call f asZ) d _ a s' h2
   |some _=>
    obtain⟨y,s2,h3,h4⟩:=bind_some h2
    obtain rfl:=kb h3
    obtain⟨aq,c1,h1',v,h5⟩:=uS h4
    obtain⟨h6,_,rfl⟩:=u7 h5
    exact h6.1
 · intro d s a s' h
   unfold uv at h
   obtain⟨x,s1,h1,h2⟩:=bind_some h
   obtain rfl:=tj h1
   cases x with
   |none=>exact hL.snd (.call f asZ) d _ a s' h2
   |some _=>
    obtain⟨y,s2,h3,h4⟩:=bind_some h2
    obtain rfl:=kb h3
    obtain⟨aq,c1,h1',v,h5⟩:=uS h4
    obtain⟨hb,rfl,rfl⟩:=u7 h5
    refine⟨fun hV=>nN hV,fun hV r ow w hs hf us hu=> ?_⟩
    have hdo:=nZ hV
    simp only [VC.ok] at hdo
    refine Calls.mono (hdo.2 r (part aq ow) w (hs.part aq) hf us hu) ?_
    intro e' w' ⟨r3,o3,u,q1,q3,q4⟩
    have q5:=aN.join hs hf hb.2.1 hb.2.2 q3
    exact⟨r3,_,u,q1,⟨q5.le,q5.sat,q5.frame,q5.new,q5.mono,q5.own⟩,q4⟩
def Ek (P:Program) (ro rec:Rec):Task→X dI
 | .inLoop c T=>X.bind X.tick fun a=>lj P ro rec c T a
 | .call f asZ=>uv P ro rec f asZ
 | .inScope c b T=>stepT P ro rec (.inScope c b T)
 | .code c T=>codeF P ro rec c T
def gn (P:Program) (C:aP):Nat→Rec
 |0=>fun _=>X.fail
 |n+1=>fun t=>match C t with
  |some x=>x
  |none=>Ek P (ex P C n) (gn P C n) t
theorem wj (hm:P.follows .mixedOrders=true) {ro rec:Rec} (ho:lT P ro) (hr:gC P rec) (t:Task):aU (Ek P ro rec t)∧gF P (Ek P ro rec t) t:=by
 have hL:=wx hm ho hr
 cases t with
 |inLoop c T=>exact⟨hL.mono (.inLoop c T),hL.snd (.inLoop c T)⟩
 |call f asZ=>exact FL hm ho hr f asZ
 |inScope c b T=>exact⟨hL.mono (.inScope c b T),hL.snd (.inScope c b T)⟩
 |code c T=>
  show aU (codeF P ro rec c T)∧gF P (codeF P ro rec c T) (.code c T)
  unfold codeF
  split
  · rename_i id ops
    refine⟨aU.bind (aU.ee hr.mono _ _ _) fun _=>aU.pure _,fun d s res s' h=> ?_⟩
    obtain⟨T',s1,h1,h2⟩:=bind_some h
    obtain⟨rfl,rfl⟩:=au h2
    obtain⟨g1,g2⟩:=mW hr ops.toList 0 T T' d s s1 (by simp) h1
    refine⟨g1,fun hV r ow w hs hf a ha hd=>wp_region ?_⟩
    rw [List.range_eq_range']
    exact g2 hV r ow w a hs hf ha hd _ fun r' ow' a' w' hp ha' hd'=>⟨trivial,hd',r',ow',hp,ha'⟩
  · exact⟨hL.mono (.code _ T),hL.snd (.code _ T)⟩
theorem so (hm:P.follows .mixedOrders=true) {C:aP} (hC:cC P C):∀n,gC P (gn P C n)
 |0=>⟨fun _=>aU.fail,fun _ _ _ _ _ h=>by simp [gn,X.fail] at h⟩
 |n+1=>by
  refine⟨fun t=> ?_,fun t=> ?_⟩
  · simp only [gn]
    cases e:C t with
    |some x=>exact(hC.loc t x e).jK
    |none=>exact(wj hm (rJ hm hC n) (so hm hC n) t).1
  · simp only [gn]
    cases e:C t with
    |some x=>exact hC.snd t x e
    |none=>exact(wj hm (rJ hm hC n) (so hm hC n) t).2
theorem gb (hm:P.follows .mixedOrders=true) {C:aP} (hC:cC P C) {n:Nat}{t:Task}{d:bj}{c:Nat}{h:Heap}{res:dI}{s':St}
  (e:gn P C n t d (bb c h)=some (res,s')) (hV:aW s'.V):ab P c h s'.c s'.h t res:=by
 have hr:=so hm hC n
 refine⟨hr.mono t d _ _ s' e,fun r ow w hs hf=> ?_⟩
 have:=(hr.snd t d _ _ s' e).2 hV r ow w hs hf
 cases t <;> cases res <;> try trivial
 · exact fun us hu=>Calls.mono (this us hu) fun e w' ⟨r',ow',u,he,hp,hv⟩=>⟨r',ow',u,he,⟨hp.le,hp.sat,hp.frame,hp.new,hp.mono,hp.own⟩,hv⟩
 · exact fun a ha hd=>wp_mono (this a ha hd) fun e' a' w' ⟨q1,q2,r3,o3,q3,q4⟩=>⟨q1,q2,r3,o3,⟨q3.le,q3.sat,q3.frame,q3.new,q3.mono,q3.own⟩,q4⟩
 · exact fun a ha hd=>gJ.mono (this a ha hd) fun e' a' w' ⟨q1,q2,r3,o3,q3,q4⟩=>⟨q1,q2,r3,o3,⟨q3.le,q3.sat,q3.frame,q3.new,q3.mono,q3.own⟩,q4⟩
 · intro a ha hd b k cs
   obtain⟨e3,a3,w3,⟨q1,q2,r3,o3,q3,q4⟩,q5⟩:=this a ha hd b k cs
   exact⟨e3,a3,w3,⟨q1,q2,r3,o3,⟨q3.le,q3.sat,q3.frame,q3.new,q3.mono,q3.own⟩,q4⟩,q5⟩
theorem fJ (hm:P.follows .mixedOrders=true) {C:aP} (hC:cC P C) {n:Nat}{t:Task}{d:bj}{c:Nat}{h:Heap}{v:Value}{x:Option Chunk}{L:List VC}
  (e0:PV (gn P C n t d (bb c h))=some (v,x,L)) (hV:aW L):∃c1 h1,ab P c h c1 h1 t (.val v)∧h1.get 0=x:=by
 match e1:gn P C n t d (bb c h),e0 with
 |some (.val v',s'),e0=>
  simp only [PV,Option.some.injEq,Prod.mk.injEq] at e0
  obtain⟨rfl,rfl,rfl⟩:=e0
  exact⟨s'.c,s'.h,gb hm hC e1 hV,rfl⟩
end
section
variable {P:Program}
def uj:Value→Value→Value
 | .chan none,_=> .chan none
 | .iface _ (.chan none),.iface t _=> .iface t (.chan none)
 |_,v=>v
def pj:List Value→List Value→List Value
 | [],_=> []
 |_::_,[]=> []
 |t::ts,v::vs=>uj t v::pj ts vs
theorem Av {t v:Value}{ts vs:List Value} (h:uj t v=t) (hc:aj ts vs):aj (t::ts) (v::vs):=by
 unfold uj at h
 split at h
 · exact .any hc
 · cases h;exact .ifc rfl hc
 · exact .same h.symm hc
theorem iQ:∀ {ts vs:List Value},pj ts vs=ts→aj ts vs
 | [],_,_=> .nil
 |_::_,[],h=>by cases h
 |t::ts,v::vs,h=>by
  simp only [pj,List.cons.injEq] at h
  exact Av h.1 (iQ h.2)
def xY:Chunk→Chunk→Chunk
 | .cells ts _,.cells vs t=> .cells (pj ts vs) t
 |_,x=>x
theorem EJ {x' x:Chunk}{nm:Nat→Option Nat} (h:xY x' (x.bC nm)=x'):az (x.bC nm) x':=by
 cases x with
 |cells vs t=>
  cases x' with
  |cells ts t'=>
   simp only [Chunk.bC,xY,Chunk.cells.injEq] at h
   obtain⟨h1,rfl⟩:=h
   exact .cells (iQ h1)
  |_=>simp [Chunk.bC,xY] at h
 |map es=>
  have h':Chunk.map (es.map fun p=>(ao nm 9 p.1,ao nm 9 p.2))=x':=by
   rw [←h];cases x' <;> rfl
  subst h'
  exact .map rfl (aj.refl _) (aj.refl _)
 |args B w0=>
  have h':Chunk.args B w0=x':=by rw [←h];cases x' <;> rfl
  subst h'
  exact .args
 |froz S w0=>
  have h':Chunk.froz S w0=x':=by rw [←h];cases x' <;> rfl
  subst h'
  exact .froz
 |sem z=>
  have h':Chunk.sem z=x':=by rw [←h];cases x' <;> rfl
  subst h'
  exact .sem
 |bag e m=>
  have h':Chunk.bag e m=x':=by rw [←h];cases x' <;> rfl
  subst h'
  exact .bag (Nat.le_refl _)
 |iter s pos=>
  have h':Chunk.iter s pos=x':=by rw [←h];cases x' <;> rfl
  subst h'
  exact .iter
def K3 (_:Chunk):Bool:=true
def yk (nm:Nat→Option Nat) (loose:Bool) (x' x:Chunk):Option (Chunk×List VC):=match loose with
 |false=>some (xY x' (x.bC nm),[])
 |true=>match x',x.bC nm with
  | .cells ts t',.cells vs t=>match Nat.beq t t' with
   |true=>some (.cells ts t',[.p (aj ts vs)])
   |false=>none
  |_,_=>none
theorem E6 {nm:Nat→Option Nat}{loose:Bool}{x' x:Chunk}{L:List VC} (h:yk nm loose x' x=some (x',L)) (hV:aW L):az (x.bC nm) x':=by
 unfold yk at h
 cases loose with
 |false=>
  simp only [Option.some.injEq,Prod.mk.injEq] at h
  exact EJ h.1
 |true=>
  simp only at h
  cases x with
  |cells l t0=>
   cases x' with
   |cells ts t'=>
    simp only [Chunk.bC] at h
    split at h
    · rename_i e
      have:=Nat.eq_of_beq_eq_true e
      subst this
      simp only [Option.some.injEq,Prod.mk.injEq,true_and] at h
      subst h
      exact .cells (nZ hV)
    · cases h
   |_=>simp [Chunk.bC] at h
  |_=>cases x' <;> simp [Chunk.bC] at h
def i4 (nm:Nat→Option Nat) (h2:Heap):List (Nat×Bool)→Heap→Option (Heap×List VC)
 | [],[]=>some ([],[])
 |(s,b)::ss,(_,x')::h'=>match h2.get s with
  |some x=>match K3 x with
   |true=>match nm s with
    |some m=>match yk nm b x' x with
     |some (y,L)=>match i4 nm h2 ss h' with
      |some (g,L')=>some ((m,y)::g,L++L')
      |none=>none
     |none=>none
    |none=>none
   |false=>none
  |none=>none
 |_,_=>none
theorem l9 {nm:Nat→Option Nat}{h2:Heap}{n:Nat}{y:Chunk}:∀ {ss:List (Nat×Bool)}{h':Heap}{L:List VC},i4 nm h2 ss h'=some (h',L)→aW L→h'.get n=some y→
  ∃s x,nm s=some n∧h2.get s=some x∧az (x.bC nm) y
 | [],[],_,_,_,hg=>by cases hg
 | [],_::_,_,h,_,_=>by simp [i4] at h
 |_::_,[],_,h,_,_=>by simp [i4] at h
 |(s,b)::ss,(k,x')::h',L,h,hV,hg=>by
  simp only [i4] at h
  cases e1:h2.get s with
  |none=>simp [e1] at h
  |some x=>
   simp only [e1] at h
   cases e2:K3 x with
   |false=>simp [e2] at h
   |true=>
    simp only [e2] at h
    cases e3:nm s with
    |none=>simp [e3] at h
    |some m=>
     simp only [e3] at h
     cases e6:yk nm b x' x with
     |none=>simp [e6] at h
     |some q=>
      obtain⟨z,L1⟩:=q
      simp only [e6] at h
      cases e4:i4 nm h2 ss h' with
      |none=>simp [e4] at h
      |some g=>
       obtain⟨g,L2⟩:=g
       simp only [e4,Option.some.injEq,List.cons.injEq,Prod.mk.injEq] at h
       obtain⟨⟨⟨rfl,rfl⟩,rfl⟩,rfl⟩:=h
       have hV1:aW L1:=fun v hv=>hV v (List.mem_append_left _ hv)
       have hV2:aW L2:=fun v hv=>hV v (List.mem_append_right _ hv)
       simp only [Heap.get,cj] at hg
       by_cases e5:m=n
       · subst e5
         simp only [decide_true,if_true,Option.some.injEq] at hg
         subst hg
         exact⟨s,x,e3,e1,E6 e6 hV1⟩
       · simp only [e5,decide_false,Bool.false_eq_true,if_false] at hg
         exact l9 e4 hV2 hg
def uV (nm:Nat→Option Nat) (l:List (Nat×Value)) (ss:List (Nat×Bool)) (h':Heap):Option (dI×St)→Option (bU×List Value×Nat×Nat×Heap×List VC×List VC)
 |some (.out e T,s)=>match i4 nm s.h ss h' with
  |some (g,L)=>some (e,pj (l.map (·.2)) ((l.map (·.1)).map fun k=>ao nm 9 (T.getD k undef)),T.length,s.c,g,L,s.V)
  |none=>none
 |_=>none
theorem qI (hm:P.follows .mixedOrders=true) {C:aP} (hC:cC P C) {ρ:Names}{c0 c1 n:Nat}{t:Task}{d:bj}{c:Nat}{h h':Heap}{l:List (Nat×Value)}{ss:List (Nat×Bool)}{e:bU}{len c2:Nat}{L L':List VC}
  (e0:uV (nameOf ρ c0 c1) l ss h' (gn P C n t d (bb c h))=some (e,l.map (·.2),len,c2,h',L',L)) (hV':aW L') (hV:aW L):
  ∃T2 h2,ab P c h c2 h2 t (.out e T2)∧jJ ρ c0 c1 h2 T2 h' (ay len 0 l):=by
 match e1:gn P C n t d (bb c h),e0 with
 |some (.out e' T,s'),e0=>
  simp only [uV] at e0
  cases e2:i4 (nameOf ρ c0 c1) s'.h ss h' with
  |none=>simp [e2] at e0
  |some g=>
   obtain⟨g,L1⟩:=g
   simp only [e2,Option.some.injEq,Prod.mk.injEq] at e0
   obtain⟨rfl,h1,rfl,rfl,rfl,rfl,rfl⟩:=e0
   exact⟨T,s'.h,gb hm hC e1 hV,⟨fun n y hg=>l9 e2 hV' hg,fun r r2 us hb hr=>CK rfl rfl (iQ h1) r r2 us hb hr⟩⟩
def bX (P:Program) (c0 cm c1:Nat) (hm:Heap) (code:Code) (T:List Value) (hm':Heap) (T':List Value):Prop:=
 ∃ρ T2 c2 h2,Names.ok ρ c0 cm=true∧c2≤c1∧ab P cm hm c2 h2 (.code code T) (.out .normal T2)∧jJ ρ c0 c1 h2 T2 hm' T'
def Ends (P:Program) (c0 cm c1:Nat) (hm:Heap) (code:Code) (T:List Value) (e:bU) (h1:Heap) (Tf:List Value):Prop:=
 ∃ρ T2 c2 h2,Names.ok ρ c0 c1=true∧c2≤c1∧ab P cm hm c2 h2 (.code code T) (.out e T2)∧jJ ρ c0 c1 h2 T2 h1 Tf
theorem bX.dt {c0 cm c1:Nat}{h0 hm hm' h1:Heap}{code:Code}{T T' Tf:List Value}{e:bU} (h:bX P c0 cm c1 hm code T hm' T') (h0m:c0≤cm) (hm1:cm≤c1) (hn:Mid P c0 h0 cm hm' c1 h1 code T' e Tf):Mid P c0 h0 cm hm c1 h1 code T e Tf:=by
 obtain⟨ρ,T2,c2,h2,a,b,c,d⟩:=h
 exact mid_step a h0m hm1 b c d hn
theorem Ends.dt {c0 cm c1:Nat}{h0 hm h1:Heap}{code:Code}{T Tf:List Value}{e:bU} (h:Ends P c0 cm c1 hm code T e h1 Tf) (he:e≠ .normal) (h0m:c0≤cm):Mid P c0 h0 cm hm c1 h1 code T e Tf:=by
 obtain⟨ρ,T2,c2,h2,a,b,c,d⟩:=h
 exact mid_end he a h0m b c d
theorem bc (hm:P.follows .mixedOrders=true) {C:aP} (hC:cC P C) (ρ:Names) {c0 cm c1 n:Nat}{code:Code}{T:List Value}{d:bj}{h h':Heap}{l:List (Nat×Value)} (ss:List (Nat×Bool)) {len c2:Nat}{L L':List VC}
  (e0:uV (nameOf ρ c0 c1) l ss h' (gn P C n (.code code T) d (bb cm h))=some (.normal,l.map (·.2),len,c2,h',L',L)) (hρ:Names.ok ρ c0 cm=true) (hc:Nat.ble c2 c1=true) (hV':aW L') (hV:aW L):bX P c0 cm c1 h code T h' (ay len 0 l):=by
 obtain⟨T2,h2,a,b⟩:=qI hm hC e0 hV' hV
 exact⟨ρ,T2,c2,h2,hρ,Nat.le_of_ble_eq_true hc,a,b⟩
theorem bL (hm:P.follows .mixedOrders=true) {C:aP} (hC:cC P C) (ρ:Names) {c0 cm c1 n:Nat}{code:Code}{T:List Value}{d:bj}{h h':Heap}{l:List (Nat×Value)} (ss:List (Nat×Bool)) {e:bU}{len c2:Nat}{L L':List VC}
  (e0:uV (nameOf ρ c0 c1) l ss h' (gn P C n (.code code T) d (bb cm h))=some (e,l.map (·.2),len,c2,h',L',L)) (hρ:Names.ok ρ c0 c1=true) (hc:Nat.ble c2 c1=true) (hV':aW L') (hV:aW L):Ends P c0 cm c1 h code T e h' (ay len 0 l):=by
 obtain⟨T2,h2,a,b⟩:=qI hm hC e0 hV' hV
 exact⟨ρ,T2,c2,h2,hρ,Nat.le_of_ble_eq_true hc,a,b⟩
def wX (nm:Nat→Option Nat) (l:List (Nat×Value)) (ss:List (Nat×Bool)) (h0:Heap) (T0:List Value) (h':Heap):Option (List Value×Nat×Heap×List VC):=match i4 nm h0 ss h' with
 |some (g,L)=>some (pj (l.map (·.2)) ((l.map (·.1)).map fun k=>ao nm 9 (T0.getD k undef)),T0.length,g,L)
 |none=>none
theorem nR {ρ:Names}{c0 c1 len:Nat}{h0 h':Heap}{T0:List Value}{l:List (Nat×Value)} (ss:List (Nat×Bool)) {L:List VC} (e0:wX (nameOf ρ c0 c1) l ss h0 T0 h'=some (l.map (·.2),len,h',L)) (hV:aW L):jJ ρ c0 c1 h0 T0 h' (ay len 0 l):=by
 unfold wX at e0
 cases e2:i4 (nameOf ρ c0 c1) h0 ss h' with
 |none=>simp [e2] at e0
 |some g=>
  obtain⟨g,L1⟩:=g
  simp only [e2,Option.some.injEq,Prod.mk.injEq] at e0
  obtain⟨h1,rfl,rfl,rfl⟩:=e0
  exact⟨fun n y hg=>l9 e2 hV hg,fun r r2 us hb hr=>CK rfl rfl (iQ h1) r r2 us hb hr⟩
end
section
variable {P:Program}
theorem IE {ρ:Names}{c0 c1 c2:Nat}{h0 h2 h':Heap}{code:Code}{T T2 T':List Value}{e:bU} (hρ:ρ.ok c0 c1=true) (h21:c2≤c1) (hb:ab P c0 h0 c2 h2 (.code code T) (.out e T2)) (R:jJ ρ c0 c1 h2 T2 h' T'):
  ab P c0 h0 c1 h' (.code code T) (.out e T'):=by
 have h01:c0≤c1:=Nat.le_trans hb.1 h21
 refine⟨h01,fun r ow w hs hf a ha hd=> ?_⟩
 refine wp_mono (hb.2 r ow w hs (hf.sub (Nat.le_refl _) h21) a ha hd) ?_
 intro e' a' w' ⟨hex,hd',r',ow',hp,ha'⟩
 obtain⟨hq,_⟩:=hp.bC hρ h01 (Nat.le_refl _) h21 hf R.heap
 exact⟨hex,hd',_,_,hq,R.tmps _ _ _ (fun n m h=>jc hρ (Nat.le_refl _) r' h) ha'⟩
theorem fg (hm:P.follows .mixedOrders=true) {C:aP} (hC:cC P C) (ρ:Names) {c0 c1 n:Nat}{code:Code}{T:List Value}{d:bj}{h h':Heap}{l:List (Nat×Value)} (ss:List (Nat×Bool)) {e:bU}{len c2:Nat}{L L':List VC}
  (e0:uV (nameOf ρ c0 c1) l ss h' (gn P C n (.code code T) d (bb c0 h))=some (e,l.map (·.2),len,c2,h',L',L)) (hρ:Names.ok ρ c0 c1=true) (hc:Nat.ble c2 c1=true) (hV':aW L') (hV:aW L):ab P c0 h c1 h' (.code code T) (.out e (ay len 0 l)):=by
 obtain⟨T2,h2,a,b⟩:=qI hm hC e0 hV' hV
 exact IE hρ (Nat.le_of_ble_eq_true hc) a b
theorem nw {c0 c1 c2:Nat}{h0 h1 h2:Heap}{a b:Code}{T T1 T2:List Value}{e:bU} (ha:ab P c0 h0 c1 h1 (.code a T) (.out .normal T1)) (hb:ab P c1 h1 c2 h2 (.code b T1) (.out e T2)):ab P c0 h0 c2 h2 (.code (.seq a b) T) (.out e T2):=by
 refine⟨Nat.le_trans ha.1 hb.1,fun r ow w hs hf x hx hd=> ?_⟩
 refine wp_seq (wp_mono (ha.2 r ow w hs (hf.sub (Nat.le_refl _) hb.1) x hx hd) ?_)
 intro e' a' w' ⟨hex,hd',r',ow',hp,ha'⟩
 cases e' <;> simp only [cO] at hex
 refine wp_mono (hb.2 r' ow' w' hp.sat (hf.after hp.new ha.1) a' ha' hd') ?_
 intro e2 a2 w2 ⟨q1,q2,r3,o3,q3,q4⟩
 exact⟨q1,q2,r3,o3,hp.trans q3,q4⟩
theorem rT {c0 c1:Nat}{h0 h1:Heap}{a b:Code}{T T1:List Value}{e:bU} (he:e≠ .normal) (ha:ab P c0 h0 c1 h1 (.code a T) (.out e T1)):ab P c0 h0 c1 h1 (.code (.seq a b) T) (.out e T1):=by
 refine⟨ha.1,fun r ow w hs hf x hx hd=> ?_⟩
 refine wp_seq (wp_mono (ha.2 r ow w hs hf x hx hd) ?_)
 intro e' a' w' hq
 cases e' with
 |normal=>obtain⟨hex,_⟩:=hq;cases e <;> simp only [cO] at hex;exact(he rfl).elim
 |_=>exact hq
def FN (slots:List Nat):Option (dI×St)→Option (bU×List Value×Nat×Nat×Heap×List VC)
 |some (.out e T,s)=>some (e,slots.map fun k=>T.getD k undef,T.length,s.c,s.h,s.V)
 |_=>none
theorem yU (r:Env) (c:Nat):r.cut c c=r:=by
 have:∀n,inside c c n=false:=fun n=>by
  cases h:inside c c n with
  |false=>rfl
  |true=>have:=b8.1 h;omega
 unfold Env.cut
 simp only [this,Bool.false_eq_true,if_false]
theorem L5 {r:Env}{n:Nat}{T2 us:List Value}{l:List (Nat×Value)} (h:aw r T2 us) (hn:T2.length=n) (hl:((l.map (·.1)).map fun k=>T2.getD k undef)=l.map (·.2)):aw r (ay n 0 l) us:=by
 have:=OH (c:=0) (c2:=0) h hn (l:=l) fun p hp=>⟨by
  have:∀ {l:List (Nat×Value)},((l.map (·.1)).map fun k=>T2.getD k undef)=l.map (·.2)→p∈l→T2.getD p.1 undef=p.2:=by
   intro l
   induction l with
   |nil=>intro _ hp;cases hp
   |cons q l ih=>
    intro e hp
    simp only [List.map_cons,List.cons.injEq] at e
    rcases List.mem_cons.1 hp with rfl|hp
    · exact e.1
    · exact ih e.2 hp
  exact this hl hp,fun r u hr=>by rw [yU];exact hr⟩
 rwa [yU] at this
theorem fj (hm:P.follows .mixedOrders=true) {C:aP} (hC:cC P C) {c n:Nat}{code:Code}{T:List Value}{d:bj}{h h2:Heap}{l:List (Nat×Value)}{e:bU}{len c2:Nat}{L:List VC}
  (e0:FN (l.map (·.1)) (gn P C n (.code code T) d (bb c h))=some (e,l.map (·.2),len,c2,h2,L)) (hV:aW L):ab P c h c2 h2 (.code code T) (.out e (ay len 0 l)):=by
 match e1:gn P C n (.code code T) d (bb c h),e0 with
 |some (.out e' T',s'),e0=>
  simp only [FN,Option.some.injEq,Prod.mk.injEq] at e0
  obtain⟨rfl,h1,rfl,rfl,rfl,rfl⟩:=e0
  have hd:=gb hm hC e1 hV
  refine⟨hd.1,fun r ow w hs hf a ha hx=>wp_mono (hd.2 r ow w hs hf a ha hx) ?_⟩
  intro e2 a2 w2 ⟨q1,q2,r3,o3,q3,q4⟩
  exact⟨q1,q2,r3,o3,q3,L5 q4 rfl h1⟩
theorem FG {f:FuncId}{fn:Func}{body:Code}{t:Nat} (hf:P.funcs[f]? =some fn) (hb:fn.body=some body) (hr:fn.results= #[.tmp t]) {c0 c1:Nat}{h0 h1:Heap}{args T2:List Value}{v:Value}
  (hd:ab P c0 h0 c1 h1 (.code body (args++List.replicate (fn.ntmps - args.length) undef)) (.out .ret T2)) (hv:T2.getD t undef=v):ab P c0 h0 c1 h1 (.call f args) (.val v):=by
 refine⟨hd.1,fun r ow w hs hfr us hus=> ?_⟩
 have hwp:=hd.2 r ow w hs hfr { tmps:=us++Array.replicate (fn.ntmps - us.size) undef,defers:= []} (sF hus) rfl
 refine calls_of_wp hf hb (wp_mono hwp ?_)
 intro e' a' w' ⟨hex,hd',r',ow',hp,ha'⟩
 cases e' <;> simp only [cO] at hex
 have hx:iY P T2 fn.results.toList [] (bb c1 h1)=some ([T2.getD t undef],bb c1 h1):=by rw [hr];rfl
 obtain⟨u,g1,g2⟩:=(lI hx).2 af r' ow' w' a'.tmps hp.sat ha'
 rw [hv] at g2
 exact⟨hd',u,g1,r',ow',u,rfl,hp,g2⟩
theorem dp {f:FuncId}{args:List Value}{v:Value}{c1:Nat}{h1:Heap} (hd:ab P 0 [] c1 h1 (.call f args) (.val v)) (ha:lJ (bare 9) args=true) (hv:bare 9 v=true):cQ P f args v:=by
 intro r us w hu
 have hus:us.toList=args:=lC (j5 9) ha hu
 have hu':aw nil args us.toList:=by rw [hus];exact lR (jZ 9) ha
 exact Calls.mono (hd.2 nil uf w (Dx w) (fun n _ _=>⟨rfl,rfl⟩) us hu') fun e w' ⟨r',ow',u,he,hp,hr⟩=>⟨u,he,by rw [j5 9 v u hv hr];exact jZ 9 v hv,hp.frame.old⟩
end
section
variable {P:Program}
end
section
variable {P:Program}
def DU (a:ByteArray) (v:Int):X dI:=X.bind (eW (Nat.ble a.data.toList.length 4294967295)) fun _=>X.pure (.val (.int .i64 v))
theorem Jo {f:FuncId}{a b:ByteArray}{v:Int} (hg:(a.data.toList.length:Int) < 4294967296→cQ P f [.string a,.string b] (.int .i64 v)):gF P (DU a v) (.call f [.string a,.string b]):=by
 intro d s res s' h
 unfold DU at h
 obtain⟨_,s1,h1,h2⟩:=bind_some h
 obtain⟨cm,e⟩:=eY h1
 obtain⟨rfl,rfl⟩:=au h2
 refine⟨cm.V,fun hV r ow w hs _ us hu=> ?_⟩
 exact Calls.mono (hg (by have:=Nat.le_of_ble_eq_true (e hV);omega) r us w hu) fun e' w' ⟨u,he,hv,ho⟩=>⟨r,ow,u,he,aN.KR rfl cm.c cm.h (aN.old hs ho),hv⟩
def rq (C:aP) (f:FuncId) (g:ByteArray→ByteArray→Int):aP:=fun t=>match t with
 | .call k xs=>match Nat.beq k f with
  |true=>(match xs with
   | [.string a,.string b]=>some (DU a (g a b))
   |_=>none)
  |false=>C (.call k xs)
 |t=>C t
theorem cC.rq {C:aP} (h:cC P C) {f:FuncId}{g:ByteArray→ByteArray→Int} (hg:∀a b:ByteArray,(a.data.toList.length:Int) < 4294967296→cQ P f [.string a,.string b] (.int .i64 (g a b))):cC P (rq C f g):=by
 have key:∀t x,Sx.rq C f g t=some x→C t=some x∨∃a b,t= .call f [.string a,.string b]∧x=DU a (g a b):=by
  intro t x e
  unfold Sx.rq at e
  split at e
  · rename_i k xs
    cases hb:Nat.beq k f with
    |true=>
     simp only [hb] at e
     obtain rfl:=Nat.eq_of_beq_eq_true hb
     split at e
     · cases e
       exact .inr ⟨_,_,rfl,rfl⟩
     · cases e
    |false=>
     simp only [hb] at e
     exact .inl e
  · exact .inl e
 refine⟨fun t x e=> ?_,fun t x e=> ?_⟩
 · rcases key t x e with q|⟨a,b,rfl,rfl⟩
   · exact h.loc t x q
   · exact Local.bind (Local.eW _) fun _=>Local.pure _
 · rcases key t x e with q|⟨a,b,rfl,rfl⟩
   · exact h.snd t x q
   · exact Jo (hg a b)
end
section
variable {P:Program}
def iR:List Nat→Nat→Nat→Option Nat
 | [],_,_=>none
 |m::l,i,n=>match Nat.beq m n with
  |true=>some i
  |false=>iR l (i+1) n
def back (l:List Nat) (n:Nat):Option Nat:=iR l 0 n
def fP (l:List Nat) (c n:Nat):Nat:=match l[n]? with
 |some m=>m
 |none=>c+(n - l.length)
def fwd (l:List Nat) (c k1 n:Nat):Option Nat:=match Nat.blt n k1 with
 |true=>some (fP l c n)
 |false=>none
def cu:List Nat→Bool
 | []=>true
 |m::l=> !cY m l && cu l
theorem rI {n:Nat}:∀ {l:List Nat}{i j:Nat},iR l i n=some j→i≤j∧l[j - i]? =some n
 | [],_,_,h=>by cases h
 |m::l,i,j,h=>by
  simp only [iR,cj] at h
  by_cases e:m=n
  · subst e;simp only [decide_true,Option.some.injEq] at h;subst h;simp
  · simp only [e,decide_false] at h
    obtain⟨h1,h2⟩:=rI h
    refine⟨by omega,?_⟩
    rw [show j - i=(j - (i+1))+1 by omega]
    simpa using h2
theorem jg {l:List Nat}{n j:Nat} (h:back l n=some j):l[j]? =some n:=by
 have:=(rI h).2
 simpa using this
theorem rA {n:Nat}:∀ {l:List Nat}{i:Nat},iR l i n=none→n ∉ l
 | [],_,_=>by simp
 |m::l,i,h=>by
  simp only [iR,cj] at h
  by_cases e:m=n
  · simp [e] at h
  · simp only [e,decide_false] at h
    simp only [List.mem_cons,not_or]
    exact⟨fun q=>e q.symm,rA h⟩
theorem GU {l:List Nat}{n:Nat} (h:back l n=none):n ∉ l:=rA h
theorem CN {n:Nat}:∀ {l:List Nat}{i j:Nat},cu l=true→l[j]? =some n→iR l i n=some (i+j)
 | [],_,_,_,h=>by simp at h
 |m::l,i,j,hk,h=>by
  simp only [cu,Bool.and_eq_true,Bool.not_eq_true'] at hk
  cases j with
  |zero=>
   simp only [List.getElem?_cons_zero,Option.some.injEq] at h
   subst h
   simp [iR,cj]
  |succ j=>
   simp only [List.getElem?_cons_succ] at h
   have hmem:n∈l:=List.mem_of_getElem? h
   have hne:¬m=n:=fun e=>by subst e;rw [eZ.2 hmem] at hk;exact absurd hk.1 (by simp)
   simp only [iR,cj,hne,decide_false]
   rw [CN hk.2 h]
   congr 1
   omega
theorem CV {l:List Nat}{n j:Nat} (hk:cu l=true) (h:l[j]? =some n):back l n=some j:=by
 have:=CN (i:=0) hk h
 simpa [back] using this
theorem fX {l:List Nat}{c n j:Nat} (h:back l n=some j):fP l c j=n:=by simp [fP,jg h]
theorem Jp {l:List Nat}{c i:Nat} (h:i < l.length):fP l c i∈l:=by simp [fP,List.getElem?_eq_getElem h]
theorem lU {l:List Nat}{c i:Nat} (h:l.length≤i):fP l c i=c+(i - l.length):=by simp [fP,List.getElem?_eq_none h]
def Env.at (r:Env) (l:List Nat) (c:Nat):Env:=⟨fun i=>r.blk (fP l c i),fun i=>r.cap (fP l c i),fun i=>r.val (fP l c i)⟩
def uD (l:List Nat) (ow:Nat→Option Nat):Nat→Option Nat:=fun b=>match ow b with
 |some n=>back l n
 |none=>none
theorem nW {l:List Nat}{ow:Nat→Option Nat}{b i:Nat}:uD l ow b=some i ↔∃n,ow b=some n∧back l n=some i:=by
 unfold uD
 cases e:ow b with
 |none=>simp
 |some n=>simp
def home (l:List Nat) (c c1 n:Nat):Option Nat:=match back l n with
 |some i=>some i
 |none=>if c≤n∧n < c1 then some (l.length+(n - c)) else none
def Env.out (r r':Env) (l:List Nat) (c c1:Nat):Env:=
 ⟨fun n=>match home l c c1 n with|some i=>r'.blk i|none=>r.blk n,
  fun n=>match home l c c1 n with|some i=>r'.cap i|none=>r.cap n,
  fun n=>match home l c c1 n with|some i=>r'.val i|none=>r.val n⟩
def r9 (l:List Nat) (c:Nat) (ow ow':Nat→Option Nat):Nat→Option Nat:=fun b=>match ow b with
 |some n=>(match back l n with
  |some _=>(ow' b).map (fP l c)
  |none=>some n)
 |none=>(ow' b).map (fP l c)
theorem Jc {l:List Nat}{c k1 i:Nat} (hk:cu l=true) (hr:∀n∈l,¬(c≤n∧n < c+(k1 - l.length))) (hi:i < k1) (hl:l.length≤k1):home l c (c+(k1 - l.length)) (fP l c i)=some i:=by
 by_cases h:i < l.length
 · unfold home
   have e:l[i]? =some l[i]:=List.getElem?_eq_getElem h
   have:fP l c i=l[i]:=by simp [fP,e]
   rw [this,CV hk e]
 · have h':l.length≤i:=Nat.le_of_not_lt h
   have e:=lU (c:=c) h'
   unfold home
   have:back l (fP l c i)=none:=by
    cases e2:back l (fP l c i) with
    |none=>rfl
    |some j=>
     have:=hr _ (List.mem_of_getElem? (jg e2))
     rw [e] at this;omega
   rw [this]
   simp only
   rw [e,if_pos (by omega)]
   congr 1
   omega
theorem oi {nm:Nat→Option Nat}{s n:Nat}{x x':Chunk}{r r2:Env}{ow ow2:Nat→Option Nat}{w:World} (hb:∀n m,nm n=some m→r2.blk m=r.blk n∧r2.cap m=r.cap n∧r2.val m=r.val n)
  (hO:∀b,ow b=some s→ow2 b=some n) (hn:nm s=some n) (h:az (x.bC nm) x') (hs:x.sat P r ow w s):x'.sat P r2 ow2 w n:=by
 obtain⟨e1,e2,e3⟩:=hb _ _ hn
 have hV:=b9 (r:=r) (r2:=r2) (nm:=nm) hb 9
 cases x with
 |cells l t=>
  obtain⟨b,c,h1,h2,h3,h4,h5,h6⟩:=hs
  cases h with
  |cells hcov=>
   have h7:=hcov.rel (cV hV h4)
   have h8:=hcov.len
   rw [List.length_map] at h8
   rw [List.take_take,Nat.min_eq_left h8] at h7
   exact⟨b,c,e1.trans h1,hO b h2,h3,h7,Nat.le_trans h8 h5,by rw [e2];exact h6⟩
 |map es=>
  obtain⟨b,es2,k,h1,h2,h3,h4,h5⟩:=hs
  cases h with
  |map hl hk hv=>
   have g1:=hk.rel (us:=es2.toList.map (·.key)) (by have:=cV hV h4;rw [List.map_map] at this ⊢;exact this)
   have g2:=hv.rel (us:=es2.toList.map (·.val)) (by have:=cV hV h5;rw [List.map_map] at this ⊢;exact this)
   have hlen:=h4.length
   rw [List.length_map,List.length_map] at hlen
   rw [List.length_map] at hl
   rw [List.length_map,hl,List.take_of_length_le (by rw [List.length_map];omega)] at g1 g2
   exact⟨b,es2,k,e1.trans h1,hO b h2,h3,g1,g2⟩
 |args B w0=>
  cases h with
  |args=>exact fun b hb=>⟨hO b (hs b hb).1,(hs b hb).2⟩
 |froz S w0=>
  cases h with
  |froz=>exact fun b hb=>⟨hO b (hs b hb).1,(hs b hb).2⟩
 |sem x=>
  cases h with
  |sem=>exact x.up (fun b hb=>hO b hb) hs
 |bag e m=>
  obtain⟨a,l,c,h1,h2,h3⟩:=hs
  cases h with
  |bag hm=>exact⟨a,l,c,e3.trans h1,Nat.le_trans h2 hm,h3.imp id fun⟨b,cs,q1,q2,q3⟩=>⟨b,cs,q1,hO b q2,q3⟩⟩
 |iter s pos=>
  obtain⟨b,h1,h2,h3⟩:=hs
  cases h with
  |iter=>exact⟨b,e1.trans h1,hO b h2,h3⟩
theorem Gv {r:Env}{ow:Nat→Option Nat}{H h0:Heap}{w:World}{l:List Nat}{c:Nat} (hs:Sat P r ow H w)
  (hin:∀i x,h0.get i=some x→∃n y,back l n=some i∧H.get n=some y∧az (y.bC (back l)) x):Sat P (r.at l c) (uD l ow) h0 w:=by
 have hb:∀n m,back l n=some m→(r.at l c).blk m=r.blk n∧(r.at l c).cap m=r.cap n∧(r.at l c).val m=r.val n:=fun n m h=>by
  simp [Env.at,fX (c:=c) h]
 refine⟨fun i x hx=> ?_,fun b i e=> ?_,fun b i e=> ?_⟩
 · obtain⟨n,y,h1,h2,h3⟩:=hin i x hx
   exact oi hb (fun b e=>nW.2 ⟨n,e,h1⟩) h1 h3 (hs.chunk n y h2)
 · obtain⟨n,h1,_⟩:=nW.1 e
   exact hs.bound b n h1
 · obtain⟨n,h1,h2⟩:=nW.1 e
   obtain⟨e1,_,e3⟩:=hb n i h2
   rw [e1,e3]
   exact hs.known b n h1
theorem C7 {r r':Env}{ow ow':Nat→Option Nat}{w w':World}{l:List Nat}{c k1:Nat}{H H' h0 h1:Heap} (hk:cu l=true) (hr:∀n∈l,¬(c≤n∧n < c+(k1 - l.length))) (hl:l.length≤k1) (hs:Sat P r ow H w) (hf:bF r c (c+(k1 - l.length)))
  (hp:aN P (r.at l c) (uD l ow) w (bb l.length h0) r' ow' w' (bb k1 h1))
  (hout:∀n x,H'.get n=some x→(∃i y,h1.get i=some y∧fwd l c k1 i=some n∧az (y.bC (fwd l c k1)) x)∨(back l n=none∧¬(c≤n∧n < c+(k1 - l.length))∧H.get n=some x)):
  aN P r ow w (bb c H) (r.out r' l c (c+(k1 - l.length))) (r9 l c ow ow') w' (bb (c+(k1 - l.length)) H')∧
   ∀n m,fwd l c k1 n=some m→(r.out r' l c (c+(k1 - l.length))).blk m=r'.blk n∧(r.out r' l c (c+(k1 - l.length))).cap m=r'.cap n∧(r.out r' l c (c+(k1 - l.length))).val m=r'.val n:=by
 have hfw:∀n m,fwd l c k1 n=some m→n < k1∧m=fP l c n:=fun n m h=>by
  unfold fwd at h
  cases e:Nat.blt n k1 with
  |false=>simp [e] at h
  |true=>simp only [e,Option.some.injEq] at h;exact⟨Nat.le_of_ble_eq_true e,h.symm⟩
 have hb:∀n m,fwd l c k1 n=some m→(r.out r' l c (c+(k1 - l.length))).blk m=r'.blk n∧(r.out r' l c (c+(k1 - l.length))).cap m=r'.cap n∧(r.out r' l c (c+(k1 - l.length))).val m=r'.val n:=fun n m h=>by
  obtain⟨h1,rfl⟩:=hfw n m h
  simp [Env.out,Jc hk hr h1 hl]
 have hhome:∀n i,home l c (c+(k1 - l.length)) n=some i→(back l n=some i∧i < l.length)∨(back l n=none∧c≤n∧n < c+(k1 - l.length)∧i=l.length+(n - c)):=fun n i h=>by
  unfold home at h
  cases e:back l n with
  |some j=>
   simp only [e,Option.some.injEq] at h
   subst h
   exact .inl ⟨rfl,(List.getElem?_eq_some_iff.1 (jg e)).1⟩
  |none=>
   simp only [e] at h
   split at h
   · rename_i q
     simp only [Option.some.injEq] at h
     exact .inr ⟨rfl,q.1,q.2,h.symm⟩
   · cases h
 have hgone:∀b m,ow b=some m→back l m=none→ow' b=none∧w'.heap[b]? =w.heap[b]? :=fun b m e hm=>
  hp.frame.aq b (hs.bound b m e) (by unfold uD;rw [e];exact hm)
 have hnone:∀b,ow b=none→uD l ow b=none:=fun b e=>by unfold uD;rw [e]
 have hown:∀b i,ow' b=some i→i < k1:=fun b i e=>by
  rcases hp.own b i e with⟨b',q⟩|⟨_,q⟩
  · obtain⟨n,_,q2⟩:=nW.1 q
    have:=(List.getElem?_eq_some_iff.1 (jg q2)).1
    omega
  · exact q
 have hfi:∀i,i < k1→fwd l c k1 i=some (fP l c i):=fun i h=>by
  unfold fwd
  have:Nat.blt i k1=true:=Nat.ble_eq_true_of_le h
  rw [this]
 have hOut:∀b i,ow' b=some i→r9 l c ow ow' b=some (fP l c i):=fun b i e=>by
  unfold r9
  cases e2:ow b with
  |none=>simp [e]
  |some n=>
   simp only
   cases e3:back l n with
   |some j=>simp [e]
   |none=>have:=(hgone b n e2 e3).1;rw [this] at e;cases e
 have hle:r.Le (r.out r' l c (c+(k1 - l.length))):=by
  have key:∀n,r.blk n≠none∨r.val n≠none→∀i,home l c (c+(k1 - l.length)) n=some i→back l n=some i:=fun n hn i h=>by
   rcases hhome n i h with q|⟨_,q1,q2,_⟩
   · exact q.1
   · have:=hf n q1 q2
     rcases hn with x|x
     · exact absurd this.1 x
     · exact absurd this.2 x
  refine⟨fun n b e=> ?_,fun n b e=> ?_,fun n v e=> ?_⟩
  · show(match home l c (c+(k1 - l.length)) n with|some i=>r'.blk i|none=>r.blk n)=some b
    cases e2:home l c (c+(k1 - l.length)) n with
    |none=>exact e
    |some i=>
     have hb':=key n (.inl (by simp [e])) i e2
     exact hp.le.blk i b (by simp only [Env.at,fX (c:=c) hb'];exact e)
  · show(match home l c (c+(k1 - l.length)) n with|some i=>r'.cap i|none=>r.cap n)=r.cap n
    cases e2:home l c (c+(k1 - l.length)) n with
    |none=>rfl
    |some i=>
     have hb':=key n (.inl (by simp [e])) i e2
     have:=hp.le.cap i b (by simp only [Env.at,fX (c:=c) hb'];exact e)
     show r'.cap i=r.cap n
     rw [this]
     simp only [Env.at,fX (c:=c) hb']
  · show(match home l c (c+(k1 - l.length)) n with|some i=>r'.val i|none=>r.val n)=some v
    cases e2:home l c (c+(k1 - l.length)) n with
    |none=>exact e
    |some i=>
     have hb':=key n (.inr (by simp [e])) i e2
     exact hp.le.val i v (by simp only [Env.at,fX (c:=c) hb'];exact e)
 refine⟨⟨hle,⟨fun n x hn=> ?_,fun b n e=> ?_,fun b n e=> ?_⟩,⟨hp.frame.os,hp.frame.tape,hp.frame.output,hp.frame.size,fun b hb' ho=> ?_⟩,⟨fun n e=> ?_,fun n e=> ?_⟩,Nat.le_add_right _ _,fun b n e=> ?_⟩,hb⟩
 · rcases hout n x hn with⟨i,y,h1',h2',h3'⟩|⟨h1',h2',h3'⟩
   · obtain⟨hi,rfl⟩:=hfw i n h2'
     exact oi hb (fun b e=>hOut b i e) h2' h3' (hp.sat.chunk i y h1')
   · refine Chunk.cR (w:=w) (ow:=ow) (fun b hb'=>(hgone b n hb' h1').2) (fun b=> ?_) (Chunk.dX hle (hs.chunk n x h3'))
     have hno:(ow' b).map (fP l c)≠some n:=fun q=>by
      obtain⟨i,q1,q2⟩:=Option.map_eq_some_iff.1 q
      by_cases hi:i < l.length
      · have:=Jp (c:=c) hi
        rw [q2] at this
        exact GU h1' this
      · have:=lU (c:=c) (Nat.le_of_not_lt hi)
        have hi1:=hown b i q1
        exact h2' ⟨by omega,by omega⟩
     unfold r9
     cases e2:ow b with
     |none=>simp only [reduceCtorEq,iff_false];exact hno
     |some m=>
      simp only
      cases e3:back l m with
      |some j=>
       simp only [Option.some.injEq]
       refine⟨fun q=>absurd q hno,fun q=>by subst q;rw [h1'] at e3;cases e3⟩
      |none=>simp
 · unfold r9 at e
   cases e2:ow b with
   |none=>
    simp only [e2] at e
    obtain⟨i,q1,_⟩:=Option.map_eq_some_iff.1 e
    exact hp.sat.bound b i q1
   |some m=>exact Nat.lt_of_lt_of_le (hs.bound b m e2) hp.frame.size
 · have key:(ow' b).map (fP l c)=some n→(r.out r' l c (c+(k1 - l.length))).blk n≠none∨(r.out r' l c (c+(k1 - l.length))).val n≠none:=fun q=>by
    obtain⟨i,q1,q2⟩:=Option.map_eq_some_iff.1 q
    have hi:=hown b i q1
    obtain⟨e1,_,e3⟩:=hb i n (by rw [hfi i hi,q2])
    rw [e1,e3]
    exact hp.sat.known b i q1
   unfold r9 at e
   cases e2:ow b with
   |none=>simp only [e2] at e;exact key e
   |some m=>
    simp only [e2] at e
    cases e3:back l m with
    |some j=>simp only [e3] at e;exact key e
    |none=>
     simp only [e3,Option.some.injEq] at e
     subst e
     exact hle.known (hs.known b m e2)
 · have:=hp.frame.aq b hb' (hnone b ho)
   refine⟨?_,this.2⟩
   unfold r9
   rw [ho]
   simp [this.1]
 · by_cases hin:c≤n∧n < c+(k1 - l.length)
   · exact .inr hin
   · left
     change (match home l c (c+(k1 - l.length)) n with|some i=>r'.blk i|none=>r.blk n)≠none at e
     cases e2:home l c (c+(k1 - l.length)) n with
     |none=>rw [e2] at e;exact e
     |some i=>
      rw [e2] at e
      rcases hhome n i e2 with⟨q1,q2⟩|⟨_,q1,q2,_⟩
      · rcases hp.new.1 i e with x|⟨x,_⟩
        · simpa only [Env.at,fX (c:=c) q1] using x
        · exact absurd x (by show¬l.length≤i;omega)
      · exact absurd ⟨q1,q2⟩ hin
 · by_cases hin:c≤n∧n < c+(k1 - l.length)
   · exact .inr hin
   · left
     change (match home l c (c+(k1 - l.length)) n with|some i=>r'.val i|none=>r.val n)≠none at e
     cases e2:home l c (c+(k1 - l.length)) n with
     |none=>rw [e2] at e;exact e
     |some i=>
      rw [e2] at e
      rcases hhome n i e2 with⟨q1,q2⟩|⟨_,q1,q2,_⟩
      · rcases hp.new.2 i e with x|⟨x,_⟩
        · simpa only [Env.at,fX (c:=c) q1] using x
        · exact absurd x (by show¬l.length≤i;omega)
      · exact absurd ⟨q1,q2⟩ hin
 · have key:(ow' b).map (fP l c)=some n→(∃b',ow b'=some n)∨(c≤n∧n < c+(k1 - l.length)):=fun q=>by
    obtain⟨i,q1,q2⟩:=Option.map_eq_some_iff.1 q
    have hi:=hown b i q1
    by_cases hil:i < l.length
    · left
      rcases hp.own b i q1 with⟨b',x⟩|⟨x,_⟩
      · obtain⟨m,x1,x2⟩:=nW.1 x
        exact⟨b',by rw [x1,←q2,fX x2]⟩
      · exact absurd x (by show¬l.length≤i;omega)
    · right
      have:=lU (c:=c) (Nat.le_of_not_lt hil)
      omega
   unfold r9 at e
   cases e2:ow b with
   |none=>simp only [e2] at e;exact key e
   |some m=>
    simp only [e2] at e
    cases e3:back l m with
    |some j=>simp only [e3] at e;exact key e
    |none=>
     simp only [e3,Option.some.injEq] at e
     subst e
     exact .inl ⟨b,e2⟩
theorem fp {f:FuncId}{k1:Nat}{h0 h1:Heap}{args0 args:List Value}{v0 v:Value}{l:List Nat}{c c1:Nat}{H H':Heap} (hd:ab P l.length h0 k1 h1 (.call f args0) (.val v0)) (hk:cu l=true) (hr:∀n∈l,¬(c≤n∧n < c+(k1 - l.length))) (hc:c+(k1 - l.length)≤c1)
  (hin:∀i x,h0.get i=some x→∃n y,back l n=some i∧H.get n=some y∧az (y.bC (back l)) x)
  (hargs:∀r r2 us,(∀n m,back l n=some m→r2.blk m=r.blk n∧r2.cap m=r.cap n∧r2.val m=r.val n)→aw r args us→aw r2 args0 us)
  (hout:∀n x,H'.get n=some x→(∃i y,h1.get i=some y∧fwd l c k1 i=some n∧az (y.bC (fwd l c k1)) x)∨(back l n=none∧¬(c≤n∧n < c+(k1 - l.length))∧H.get n=some x))
  (hv:∀r r2 u,(∀n m,fwd l c k1 n=some m→r2.blk m=r.blk n∧r2.cap m=r.cap n∧r2.val m=r.val n)→Rel r v0 u→Rel r2 v u):ab P c H c1 H' (.call f args) (.val v):=by
 refine⟨by omega,fun r ow w hs hf us hus=> ?_⟩
 have hl:l.length≤k1:=hd.1
 have hf':bF r c (c+(k1 - l.length)):=hf.sub (Nat.le_refl _) hc
 have hfa:bF (r.at l c) l.length k1:=fun n h1 h2=>by
  simp only [Env.at,lU (c:=c) h1]
  exact hf' _ (by omega) (by omega)
 have hua:=hargs r (r.at l c) us.toList (fun n m h=>by simp [Env.at,fX (c:=c) h]) hus
 refine Calls.mono (hd.2 (r.at l c) (uD l ow) w (Gv hs hin) hfa us hua) fun e w' ⟨r',ow',u,he,hp,hrel⟩=> ?_
 obtain⟨hq,hb⟩:=C7 hk hr hl hs hf' hp hout
 exact⟨_,_,u,he,hq.upto hc,hv _ _ u hb hrel⟩
end
section
variable {P:Program}
def iZ (C:aP) (f:FuncId) (g:List Value→Option (Bool×Value)):aP:=fun t=>match t with
 | .call k xs=>match Nat.beq k f with
  |true=>(match g xs with
   |some (b,v)=>some (X.bind (eW b) fun _=>X.pure (.val v))
   |none=>none)
  |false=>C (.call k xs)
 |t=>C t
theorem cC.iZ {C:aP} (h:cC P C) {f:FuncId}{g:List Value→Option (Bool×Value)} (hg:∀xs b v,g xs=some (b,v)→b=true→cQ P f xs v):cC P (iZ C f g):=by
 have key:∀t x,Sx.iZ C f g t=some x→C t=some x∨∃xs b v,t= .call f xs∧g xs=some (b,v)∧x=X.bind (eW b) fun _=>X.pure (.val v):=by
  intro t x e
  unfold Sx.iZ at e
  split at e
  · rename_i k xs
    cases hb:Nat.beq k f with
    |true=>
     simp only [hb] at e
     obtain rfl:=Nat.eq_of_beq_eq_true hb
     cases hx:g xs with
     |none=>simp [hx] at e
     |some q=>
      obtain⟨b,v⟩:=q
      simp only [hx,Option.some.injEq] at e
      exact .inr ⟨_,_,_,rfl,hx,e.symm⟩
    |false=>
     simp only [hb] at e
     exact .inl e
  · exact .inl e
 refine⟨fun t x e=> ?_,fun t x e=> ?_⟩
 · rcases key t x e with q|⟨xs,b,v,rfl,hx,rfl⟩
   · exact h.loc t x q
   · exact Local.bind (Local.eW _) fun _=>Local.pure _
 · rcases key t x e with q|⟨xs,b,v,rfl,hx,rfl⟩
   · exact h.snd t x q
   · intro d s res s' h
     obtain⟨_,s1,h1,h2⟩:=bind_some h
     obtain⟨cm,e⟩:=eY h1
     obtain⟨rfl,rfl⟩:=au h2
     refine⟨cm.V,fun hV r ow w hs _ us hu=> ?_⟩
     exact Calls.mono (hg xs b v hx (e hV) r us w hu) fun e' w' ⟨u,he,hv,ho⟩=>⟨r,ow,u,he,aN.KR rfl cm.c cm.h (aN.old hs ho),hv⟩
theorem HE {ρ:Names}{c0 c1 c2:Nat}{h0 h2 h':Heap}{f:FuncId}{args:List Value}{v0 v:Value} (hρ:ρ.ok c0 c1=true) (h21:c2≤c1) (hb:ab P c0 h0 c2 h2 (.call f args) (.val v0))
  (hk:∀n x',h'.get n=some x'→∃s x,nameOf ρ c0 c1 s=some n∧h2.get s=some x∧az (x.bC (nameOf ρ c0 c1)) x') (hv:ao (nameOf ρ c0 c1) 9 v0=v):ab P c0 h0 c1 h' (.call f args) (.val v):=by
 have h01:c0≤c1:=Nat.le_trans hb.1 h21
 refine⟨h01,fun r ow w hs hf us hu=>Calls.mono (hb.2 r ow w hs (hf.sub (Nat.le_refl _) h21) us hu) fun e w' ⟨r',ow',u,he,hp,hr⟩=> ?_⟩
 obtain⟨hq,_⟩:=hp.bC hρ h01 (Nat.le_refl _) h21 hf hk
 exact⟨_,_,u,he,hq,by subst hv;exact b9 (fun n m h=>jc hρ (Nat.le_refl _) r' h) 9 _ _ hr⟩
def Kn (nm:Nat→Option Nat) (ss:List (Nat×Bool)) (h':Heap):Option (dI×St)→Option (Value×Nat×Heap×List VC×List VC)
 |some (.val v,s)=>match i4 nm s.h ss h' with
  |some (g,L)=>some (ao nm 9 v,s.c,g,L,s.V)
  |none=>none
 |_=>none
theorem bZ (hm:P.follows .mixedOrders=true) {C:aP} (hC:cC P C) (ρ:Names) {c0 c1 n:Nat}{f:FuncId}{args:List Value}{d:bj}{h h':Heap} (ss:List (Nat×Bool)) {v:Value}{c2:Nat}{L L':List VC}
  (e0:Kn (nameOf ρ c0 c1) ss h' (gn P C n (.call f args) d (bb c0 h))=some (v,c2,h',L',L)) (hρ:Names.ok ρ c0 c1=true) (hc:Nat.ble c2 c1=true) (hV':aW L') (hV:aW L):ab P c0 h c1 h' (.call f args) (.val v):=by
 match e1:gn P C n (.call f args) d (bb c0 h),e0 with
 |some (.val v',s'),e0=>
  simp only [Kn] at e0
  cases e2:i4 (nameOf ρ c0 c1) s'.h ss h' with
  |none=>simp [e2] at e0
  |some g=>
   obtain⟨g,L1⟩:=g
   simp only [e2,Option.some.injEq,Prod.mk.injEq] at e0
   obtain⟨h1,rfl,rfl,rfl,rfl⟩:=e0
   exact HE hρ (Nat.le_of_ble_eq_true hc) (gb hm hC e1 hV) (fun n y hg=>l9 e2 hV' hg) h1
end
section
variable {P:Program}
theorem ko {c c':Nat}{h:Heap} (hb:a8 c h=true) (ha:∀n x,h.get n=some x→x.cD c c'=true):xW P c c' h h:=by
 intro n x hn
 have hi:inside c c' n=false:=by
  cases hi:inside c c' n with
  |false=>rfl
  |true=>
   have:=(b8.1 hi).1
   have:=gf hb hn
   omega
 exact⟨hi,hn,Chunk.eC hi (ha n x hn)⟩
end
section
variable {P:Program}
end
section
variable {P:Program}
end
end Go.Sx
