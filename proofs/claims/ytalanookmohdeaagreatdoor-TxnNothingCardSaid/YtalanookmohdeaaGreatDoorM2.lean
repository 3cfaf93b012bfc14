/- TxnNothing: the symbolic executor. No condition. -/
import Derived.Test.YtalanookmohdeaaGreatDoorM1
namespace Go.Sx
section
variable {P:Program}
def hJ (P:Program) (t:TypeId) (len cap:Value):X Value:=match len,cap with
 | .int _ l,.int _ c=>match P.underlying t with
  |some (.slice e)=>match P.info? e with
   |some i=>X.bind (lO i) fun _=>X.bind (eW (decide (l=c∧0≤l∧(i.bytes:Int)*c≤281474976710656∧c≤9223372036854775807))) fun _=>X.bind (zeroV P e) fun z=>
     X.bind (ky e (eN (du z) c.toNat)) fun n=>X.pure (.slice (some ⟨n,0,none⟩) c.toNat 0)
   |none=>X.fail
  |_=>X.fail
 |_,_=>X.fail
theorem xp (t:TypeId) (len cap:Value):jx P (hJ P t len cap) (fun r m=>∃u y,Rel r len u∧Rel r cap y∧m=Instr.makeSlice t u y):=by
 intro d s v s' h
 unfold hJ at h
 split at h
 · rename_i k1 l k2 c
   cases hD:P.underlying t with
   |none=>simp [hD,X.fail] at h
   |some D=>
   cases D <;> simp only [hD] at h <;> try (simp [X.fail] at h;done)
   rename_i e
   cases hi:P.info? e with
   |none=>simp [hi,X.fail] at h
   |some i=>
   simp only [hi] at h
   obtain⟨_,s1,h1,h2⟩:=bind_some h
   obtain⟨⟨z,hz,hzl⟩,rfl⟩:=pA h1
   obtain⟨_,s2,h3,h4⟩:=bind_some h2
   obtain⟨cm,hk⟩:=eY h3
   obtain⟨z',s3,h5,h6⟩:=bind_some h4
   obtain⟨⟨i',hi',hz'⟩,hp,rfl⟩:=lZ h5
   obtain rfl:i=i':=by rw [hi] at hi';exact Option.some.inj hi'
   obtain rfl:z=z':=by rw [hz] at hz';exact Option.some.inj hz'
   rw [Cm,hzl] at h6
   obtain⟨n,s4,h7,h8⟩:=bind_some h6
   obtain⟨rfl,rfl⟩:=hU h7
   obtain⟨rfl,rfl⟩:=au h8
   refine⟨fun hV=>cm.V hV,fun hV r ow w m hs hf ⟨u,y,hu,hy,hm⟩=> ?_⟩
   obtain⟨rfl,h0,hb,h63⟩:=of_decide_eq_true (hk hV)
   cases hu;cases hy;subst hm
   have hrun:=run_make (P:=P) w t e i z hD hi hz k1 k2 l l h0 (Int.le_refl _) hb h63
   have hs2:Sat P r ow s2.h w:=by rw [cm.h];exact hs
   have hf2:bF r s2.c (s2.c+1):=by rw [cm.c];exact hf.sub (Nat.le_refl _) (by show s.c+1≤s2.c+1;rw [cm.c];exact Nat.le_refl _)
   have hlen:(ij (du z) (l.toNat*i.size)).length=l.toNat*i.size:=by simp [pZ]
   have hpost:=nP (P:=P) (s:=s2) (t:=e) (k:=l.toNat) hs2 hf2 (ld (sY (r:=r) hp (l.toNat*i.size))) (Nat.le_refl _) (by rw [hlen,eT hi]) s2.R (s2.c::s2.W) s2.V s2.k
   have hmc:madeCells z.cells (l.toNat*i.size)=⟨ij (du z) (l.toNat*i.size)⟩:=by
    unfold madeCells;rw [vj,gU]
   rw [hmc] at hrun
   exact⟨_,_,_,_,hrun,(aN.calm (P:=P) hs cm).trans hpost,.slice (by simp [Env.bind]) (.inl rfl) (Nat.le_refl _) (fun _=>⟨rfl,rfl,by simp [Env.bind]⟩) (fun e=>by cases e)⟩
 · simp [X.fail] at h
def Aa (s:ByteArray) (l h:Nat):ByteArray:=⟨⟨(s.data.toList.drop l).take (h - l)⟩⟩
theorem FQ (s:ByteArray) (l h:Nat) (hl:l≤h) (hh:h≤s.size):Aa s l h=s.extract l h:=by
 rw [ByteArray.ext_iff]
 rw [ByteArray.data_extract]
 apply Array.ext'
 simp [Aa,Array.toList_extract,List.extract]
def we (dflt:Int):Option Value→Option Int
 |none=>some dflt
 |some (.int _ n)=>some n
 |some _=>none
inductive po (r:Env):Option Value→Option Value→Prop
 |none:po r none none
 |some {x y:Value} (h:Rel r x y):po r (some x) (some y)
theorem na {r:Env}{d n:Int}{o p:Option Value} (h:we d o=some n) (hr:po r o p):(o=none∧p=none∧n=d)∨∃k,o=some (.int k n)∧p=some (.int k n):=by
 cases hr with
 |none=>simp [we] at h;exact .inl ⟨rfl,rfl,h.symm⟩
 |some hx=>
  rename_i x y
  cases x <;> simp [we] at h
  subst h;cases hx
  exact .inr ⟨_,rfl,rfl⟩
def lk (P:Program) (t:TypeId) (x:Value) (lo hi mx:Option Value):X Value:=match x with
 | .string s=>match P.underlying t with
  |some .string=>X.bind (opt (we 0 lo)) fun l=>X.bind (opt (we (s.data.toList.length:Int) hi)) fun h=>X.bind (bP mx.isNone) fun _=>
    X.bind (eW (decide (0≤l∧l≤h∧h≤(s.data.toList.length:Int)))) fun _=>X.pure (.string (Aa s l.toNat h.toNat))
  |_=>X.fail
 | .slice a len mk=>match P.underlying t with
  |some (.slice e)=>X.bind (bP (mx.isNone || hi.isSome)) fun _=>X.bind (dZ P e) fun sz=>X.bind (opt (we 0 lo)) fun l=>X.bind (opt (we (len:Int) hi)) fun h=>X.bind (opt (we h mx)) fun m=>
    X.bind (eW (decide (0≤l∧l≤h∧h≤(len:Int)∧m=h))) fun _=>match a with
    |none=>X.pure (.slice none 0 0)
    |some ⟨n,off,none⟩=>X.bind (ask (decide (l=0))) fun z=>match z,mx with
     |true,none=>X.pure (.slice (some ⟨n,off,none⟩) h.toNat (match mk with|0=>0|_=>1))
     |true,some _=>X.pure (.slice (some ⟨n,off,none⟩) h.toNat 2)
     |false,none=>X.pure (.slice (some ⟨n,off+l.toNat*sz,none⟩) (h - l).toNat 1)
     |false,some _=>X.fail
    |_=>X.fail
  |_=>X.fail
 |_=>X.fail
theorem uJ {w:World}{isS:Bool}{len cap:Nat}{l h:Int}{lo hi:Option Value} (h1:(lo=none∧l=0)∨∃k,lo=some (.int k l)) (h2:(hi=none∧h=(len:Int))∨∃k,hi=some (.int k h))
  (h0:0≤l) (hl:l≤h) (hh:h≤len) (hc:len≤cap):(Instr.sliceBounds isS len cap lo hi none).run P w= .ok (l.toNat,h.toNat,cap) w:=by
 have eh:(h.toNat:Int)=h:=Int.toNat_of_nonneg (by omega)
 have h3:0≤h:=by omega
 have h4:h≤(cap:Int):=by omega
 rcases h1 with⟨rfl,rfl⟩|⟨k1,rfl⟩ <;> rcases h2 with⟨rfl,rfl⟩|⟨k2,rfl⟩
 · simp [Instr.sliceBounds]
 · simp [Instr.sliceBounds,run_sliceBound,h3,h4]
 · simp [Instr.sliceBounds,run_sliceBound,h0,hl]
 · simp [Instr.sliceBounds,run_sliceBound,h3,h4,h0,eh,hl]
theorem AI {w:World}{isS:Bool}{len cap:Nat}{l h:Int}{lo hi:Option Value}{km:IntKind} (h1:(lo=none∧l=0)∨∃k,lo=some (.int k l)) (h2:∃k,hi=some (.int k h))
  (h0:0≤l) (hl:l≤h) (hh:h≤len) (hc:len≤cap):(Instr.sliceBounds isS len cap lo hi (some (.int km h))).run P w= .ok (l.toNat,h.toNat,h.toNat) w:=by
 have eh:(h.toNat:Int)=h:=Int.toNat_of_nonneg (by omega)
 have h3:0≤h:=by omega
 have h4:h≤(cap:Int):=by omega
 have h5:h≤(h.toNat:Int):=by omega
 rcases h1 with⟨rfl,rfl⟩|⟨k1,rfl⟩ <;> obtain⟨k2,rfl⟩:=h2
 · have q1:=fun code=>run_sliceBound (P:=P) w km h cap code h3 h4
   have q2:=fun code=>run_sliceBound (P:=P) w k2 h h.toNat code h3 h5
   simp only [Instr.sliceBounds,Sem.run_bind,Sem.run_pure,q1,Result.andThen_ok,q2];rfl
 · simp [Instr.sliceBounds,run_sliceBound,h3,h4,h0,eh,hl]
theorem GS (t:TypeId) (x:Value) (lo hi mx:Option Value):jx P (lk P t x lo hi mx) (fun r m=>∃u lo' hi' mx',Rel r x u∧po r lo lo'∧po r hi hi'∧po r mx mx'∧m=Instr.sliceAt t u lo' hi' mx'):=by
 intro d s v s' h
 unfold lk at h
 split at h
 · rename_i sx
   cases hD:P.underlying t with
   |none=>simp [hD,X.fail] at h
   |some D=>
   cases D <;> simp only [hD] at h <;> try (simp [X.fail] at h;done)
   obtain⟨l,s1,h1,h2⟩:=bind_some h
   obtain⟨hl,rfl⟩:=gR h1
   obtain⟨hh,s2,h3,h4⟩:=bind_some h2
   obtain⟨hhh,rfl⟩:=gR h3
   obtain⟨_,s3,h5,h6⟩:=bind_some h4
   obtain⟨hmx,rfl⟩:=b7 h5
   obtain⟨_,s4,h7,h8⟩:=bind_some h6
   obtain⟨cm,hk⟩:=eY h7
   obtain⟨rfl,rfl⟩:=au h8
   refine⟨fun hV=>cm.V hV,fun hV r ow w m hs hf ⟨u,lo',hi',mx',hu,hlo,hhi,hmx',hm⟩=> ?_⟩
   obtain⟨g1,g2,g3⟩:=of_decide_eq_true (hk hV)
   have hm0:mx=none:=by simpa using hmx
   subst hm0
   cases hmx'
   cases hu
   have hb:=uJ (P:=P) (w:=w) (isS:=false) (len:=sx.size) (cap:=sx.size) (l:=l) (h:=hh) (lo:=lo') (hi:=hi')
    (by rcases na hl hlo with⟨_,h2,h3⟩|⟨k,_,h2⟩;exact .inl ⟨h2,h3⟩;exact .inr ⟨k,h2⟩) (by rcases na hhh hhi with⟨_,h2,h3⟩|⟨k,_,h2⟩;exact .inl ⟨h2,h3⟩;exact .inr ⟨k,h2⟩) g1 g2 g3 (Nat.le_refl _)
   refine⟨r,ow,_,w,?_,aN.calm hs cm,.string _⟩
   subst hm
   rw [FQ sx l.toNat hh.toNat (by omega) (by show _≤sx.data.toList.length;omega)]
   simp [Instr.sliceAt,run_underlying hD,Instr.slice,hb]
 · rename_i a len mk
   cases hD:P.underlying t with
   |none=>simp [hD,X.fail] at h
   |some D=>
   cases D <;> simp only [hD] at h <;> try (simp [X.fail] at h;done)
   rename_i e
   obtain⟨_,sm,hm1,hm2⟩:=bind_some h
   obtain⟨hms,rfl⟩:=b7 hm1
   obtain⟨sz,s0,h00,h01⟩:=bind_some hm2
   obtain⟨⟨i,hi0,rfl⟩,rfl⟩:=ik h00
   obtain⟨l,s1,h1,h2⟩:=bind_some h01
   obtain⟨hl,rfl⟩:=gR h1
   obtain⟨hh,s2,h3,h4⟩:=bind_some h2
   obtain⟨hhh,rfl⟩:=gR h3
   obtain⟨mm,s3,h5,h6⟩:=bind_some h4
   obtain⟨hmm,rfl⟩:=gR h5
   obtain⟨_,s4,h7,h8⟩:=bind_some h6
   obtain⟨cm,hk⟩:=eY h7
   have key:aW s4.V→∀(r:Env) (w:World) (u:Value) (lo' hi' mx':Option Value),Rel r (.slice a len mk) u→po r lo lo'→po r hi hi'→po r mx mx'→∀(a':Option Addr) (c:Nat),u= .slice a' len c→len≤c→
     (0≤l∧l≤hh∧hh≤(len:Int))∧(Instr.sliceAt t u lo' hi' mx').run P w= .ok (.slice (if(if mx=none then c else hh.toNat)=l.toNat then a' else a'.map (·.add (l.toNat*i.size))) (hh.toNat - l.toNat) ((if mx=none then c else hh.toNat) - l.toNat)) w:=by
    intro hV r w u lo' hi' mx' hu hlo hhi hmx a' c hua hc
    obtain⟨g1,g2,g3,g4⟩:=of_decide_eq_true (hk hV)
    refine⟨⟨g1,g2,g3⟩,?_⟩
    subst hua
    have hb1:(lo'=none∧l=0)∨∃k,lo'=some (.int k l):=by rcases na hl hlo with⟨_,h2,h3⟩|⟨k,_,h2⟩;exact .inl ⟨h2,h3⟩;exact .inr ⟨k,h2⟩
    rcases na hmm hmx with⟨e1,e2,e3⟩|⟨k,e1,e2⟩
    · subst e1;subst e2
      have hb:=uJ (P:=P) (w:=w) (isS:=true) (len:=len) (cap:=c) (l:=l) (h:=hh) (lo:=lo') (hi:=hi') hb1 (by rcases na hhh hhi with⟨_,h2,h3⟩|⟨k,_,h2⟩;exact .inl ⟨h2,h3⟩;exact .inr ⟨k,h2⟩) g1 g2 g3 hc
      simp [Instr.sliceAt,run_underlying hD,Instr.slice,hb,ew hi0]
    · subst e1;subst e2
      subst g4
      rcases na hhh hhi with⟨q1,q2,q3⟩|⟨k2,q1,q2⟩
      · subst q1;simp at hms
      · have hb:=AI (P:=P) (w:=w) (isS:=true) (len:=len) (cap:=c) (l:=l) (h:=mm) (lo:=lo') (hi:=hi') (km:=k) hb1 ⟨k2,q2⟩ g1 g2 g3 hc
        simp [Instr.sliceAt,run_underlying hD,Instr.slice,hb,ew hi0]
   split at h8
   · obtain⟨rfl,rfl⟩:=au h8
     refine⟨fun hV=>cm.V hV,fun hV r ow w m hs hf ⟨u,lo',hi',mx',hu,hlo,hhi,hmx',hm⟩=> ?_⟩
     have hu':=hu
     cases hu with
     |sliceNil=>
      obtain⟨⟨g1,g2,g3⟩,hrun⟩:=key hV r w _ lo' hi' mx' hu' hlo hhi hmx' none 0 rfl (Nat.le_refl _)
      subst hm
      refine⟨r,ow,_,w,hrun,aN.calm hs cm,?_⟩
      have q1:hh.toNat=0:=by omega
      have q2:l.toNat=0:=by omega
      rw [q1,q2]
      simp
      exact .sliceNil
   · rename_i n off
     obtain⟨zb,s5,h9,h10⟩:=bind_some h8
     obtain⟨cm2,hz⟩:=jS h9
     have cmm:=cm.trans cm2
     split at h10
     · obtain⟨rfl,rfl⟩:=au h10
       refine⟨fun hV=>cmm.V hV,fun hV r ow w m hs hf ⟨u,lo',hi',mx',hu,hlo,hhi,hmx',hm⟩=> ?_⟩
       have hl0:l=0:=by have:=hz hV;simpa using this
       have hu':=hu
       cases hu with
       | @slice _ b _ off' _ _ c hbk ho hlc h0 h2=>
       obtain⟨⟨g1,g2,g3⟩,hrun⟩:=key (cm2.V hV) r w _ lo' hi' none hu' hlo hhi (by cases hmx';exact .none) _ c rfl hlc
       subst hl0
       subst hm
       cases hmx'
       refine⟨r,ow,_,w,hrun,aN.calm hs cmm,?_⟩
       simp only [if_true,Int.toNat_zero,Nat.zero_mul,Addr.add_zero',Option.map_some,ite_self,Nat.sub_zero]
       refine .slice hbk (ho.imp id fun e=>by omega) (by omega) (fun e=> ?_) (fun e=> ?_)
       · split at e
         · exact h0 rfl
         · cases e
       · split at e <;> cases e
     · obtain⟨rfl,rfl⟩:=au h10
       refine⟨fun hV=>cmm.V hV,fun hV r ow w m hs hf ⟨u,lo',hi',mx',hu,hlo,hhi,hmx',hm⟩=> ?_⟩
       have hl0:l=0:=by have:=hz hV;simpa using this
       have hu':=hu
       cases hu with
       | @slice _ b _ off' _ _ c hbk ho hlc h0 h2=>
       obtain⟨⟨g1,g2,g3⟩,hrun⟩:=key (cm2.V hV) r w _ lo' hi' mx' hu' hlo hhi hmx' _ c rfl hlc
       subst hl0
       subst hm
       refine⟨r,ow,_,w,hrun,aN.calm hs cmm,?_⟩
       simp only [Int.toNat_zero,Nat.zero_mul,Addr.add_zero',Option.map_some,ite_self,Nat.sub_zero]
       exact .slice hbk (ho.imp id fun e=>by omega) (by simp) (fun e=>by cases e) (fun e=>by simp)
     · obtain⟨rfl,rfl⟩:=au h10
       refine⟨fun hV=>cmm.V hV,fun hV r ow w m hs hf ⟨u,lo',hi',mx',hu,hlo,hhi,hmx',hm⟩=> ?_⟩
       have hl0:l≠0:=by have:=hz hV;simpa using this
       have hu':=hu
       cases hu with
       | @slice _ b _ off' _ _ c hbk ho hlc h0 h2=>
       obtain⟨⟨g1,g2,g3⟩,hrun⟩:=key (cm2.V hV) r w _ lo' hi' none hu' hlo hhi (by cases hmx';exact .none) _ c rfl hlc
       subst hm
       cases hmx'
       have hoff:off'=off:=by
        rcases ho with e|e
        · exact e
        · omega
       subst hoff
       simp only [if_true] at hrun
       by_cases hcl:c=l.toNat
       · rw [if_pos hcl] at hrun
         refine⟨r,ow,_,w,hrun,aN.calm hs cmm,?_⟩
         have e1:(hh - l).toNat=0:=by omega
         have e2:hh.toNat - l.toNat=0:=by omega
         rw [e1,e2]
         exact .slice hbk (.inr rfl) (Nat.zero_le _) (fun e=>by cases e) (fun e=>by cases e)
       · rw [if_neg hcl] at hrun
         refine⟨r,ow,_,w,hrun,aN.calm hs cmm,?_⟩
         have e1:(hh - l).toNat=hh.toNat - l.toNat:=by omega
         rw [e1]
         simp only [Option.map_some,kj]
         exact .slice hbk (.inl rfl) (by omega) (fun e=>by cases e) (fun e=>by cases e)
     · simp [X.fail] at h10
   · simp [X.fail] at h8
 · simp [X.fail] at h
end
section
section
variable {P:Program}
def dv (k:IntKind) (a:Int):List (Value×Value)→Nat→Option (Option (Nat×Value))
 | [],_=>some none
 |(.int k' b,v)::es,i=>if k=k' then(match (a==b) with
  |true=>some (some (i,v))
  |false=>dv k a es (i+1)) else none
 |_::_,_=>none
theorem ke {r:Env}{k j:IntKind}{a:Int}:∀ {es:List (Value×Value)}{es':List MapEntry}{i:Nat}{o:Option (Nat×Value)},aw r (es.map (·.1)) (es'.map (·.key))→aw r (es.map (·.2)) (es'.map (·.val))→dv k a es i=some o→
  ∃o',Instr.findNow (.int j) (.int k a) es' i=some o'∧(match o,o' with|none,none=>True|some (x,v),some (y,u)=>x=y∧Rel r v u|_,_=>False)
 | [],[],i,o,_,_,h=>by simp [dv] at h;subst h;exact⟨none,rfl,trivial⟩
 | [],_::_,_,_,h,_,_=>by cases h
 |_::_,[],_,_,h,_,_=>by cases h
 |(kx,vx)::es,⟨ek,ev,eb⟩::es',i,o,h1,h2,h=>by
  cases h1 with
  |cons hk h1=>
  cases h2 with
  |cons hv h2=>
  cases kx <;> simp only [dv] at h <;> try (cases h;done)
  rename_i k' b
  cases hk
  split at h
  · rename_i e;subst e
    simp only [Instr.findNow,Instr.sameNow,if_true]
    cases hab:(a==b) with
    |true=>simp only [hab] at h;cases h;exact⟨_,rfl,rfl,hv⟩
    |false=>simp only [hab] at h;exact ke h1 h2 h
  · cases h
def jI (k:IntKind) (a:Int):List (Value×Value)→Nat→X (Option (Nat×Value))
 | [],_=>X.pure none
 |(.int k' b,v)::es,i=>if k=k' then X.bind (ask (a==b)) fun t=>match t with
  |true=>X.pure (some (i,v))
  |false=>jI k a es (i+1) else X.fail
 |_::_,_=>X.fail
theorem uN {k:IntKind}{a:Int}{d:bj}{s':St}:∀ {es:List (Value×Value)}{i:Nat}{o:Option (Nat×Value)}{s:St},jI k a es i d s=some (o,s')→Calm s s'∧(aW s'.V→dv k a es i=some o)
 | [],_,_,_,h=>by
  obtain⟨rfl,rfl⟩:=au h
  exact⟨.refl _,fun _=>rfl⟩
 |(kx,vx)::es,i,o,s,h=>by
  cases kx <;> simp only [jI] at h <;> try (simp [X.fail] at h;done)
  rename_i k' b
  split at h
  · rename_i e;subst e
    obtain⟨t,s1,h1,h2⟩:=bind_some h
    obtain⟨c1,e1⟩:=jS h1
    cases t with
    |true=>
     obtain⟨rfl,rfl⟩:=au h2
     exact⟨c1,fun hV=>by simp only [dv,if_true,e1 hV]⟩
    |false=>
     obtain⟨c2,e2⟩:=uN h2
     exact⟨c1.trans c2,fun hV=>by simp only [dv,if_true,e1 (c2.V hV),e2 hV]⟩
  · simp [X.fail] at h
def kA (k:IntKind) (a:Int) (es:List (Value×Value)):X (Option (Nat×Value)):=X.bind X.om fun q=>match q with
 |some (.cell (.tuple ⟨.nilFunc::r⟩))=>X.bind X.tick fun _=>(match r with
  | []=>X.bind (X.emit (.p (dv k a es 0=some none))) fun _=>X.pure none
  | [.int _ (.ofNat i),v]=>X.bind (X.emit (.p (dv k a es 0=some (some (i,v))))) fun _=>X.pure (some (i,v))
  |_=>X.fail)
 |_=>jI k a es 0
theorem GF {d:bj}{s s':St}{a:Option eA} (h:X.om d s=some (a,s')):Calm s s':=by
 simp only [X.om,Option.some.injEq,Prod.mk.injEq] at h
 obtain⟨_,rfl⟩:=h
 exact .refl _
theorem qJ {k:IntKind}{a:Int}{d:bj}{s s':St}{es:List (Value×Value)}{o:Option (Nat×Value)} (h:kA k a es d s=some (o,s')):Calm s s'∧(aW s'.V→dv k a es 0=some o):=by
 unfold kA at h
 obtain⟨q,s1,h1,h2⟩:=bind_some h
 have c1:=GF h1
 split at h2
 · obtain⟨_,s2,h3,h4⟩:=bind_some h2
   have c2:=iu h3
   split at h4
   · obtain⟨_,s3,h5,h6⟩:=bind_some h4
     obtain⟨c3,e3⟩:=fC h5
     obtain⟨rfl,rfl⟩:=au h6
     exact⟨(c1.trans c2).trans c3,fun hV=>e3 hV⟩
   · obtain⟨_,s3,h5,h6⟩:=bind_some h4
     obtain⟨c3,e3⟩:=fC h5
     obtain⟨rfl,rfl⟩:=au h6
     exact⟨(c1.trans c2).trans c3,fun hV=>e3 hV⟩
   · simp [X.fail] at h4
 · obtain⟨c2,e2⟩:=uN h2
   exact⟨c1.trans c2,e2⟩
theorem run_checkKey {t:TypeId}{j:IntKind}{k:IntKind}{a:Int} (h:P.underlying t=some (.int j)) (b:Bool) (n:Nat) (w:World):(Instr.checkKey b (n+1) t (.int k a)).run P w= .ok () w:=by
 simp [Instr.checkKey,run_underlying h]
def mapOf (P:Program) (t:TypeId) (m ix:Value):X (Nat×IntKind×Int×TypeId×List (Value×Value)):=match m,ix with
 | .map (some n),.int k a=>match P.underlying t with
  |some (.map kt et)=>match P.underlying kt with
   |some (.int _)=>X.bind (X.rd n) fun c=>match c with
    | .map es=>X.pure (n,k,a,et,es)
    |_=>X.fail
   |_=>X.fail
  |_=>X.fail
 |_,_=>X.fail
theorem qM {t:TypeId}{m ix:Value}{d:bj}{s s':St}{n:Nat}{k:IntKind}{a:Int}{et:TypeId}{es:List (Value×Value)} (h:mapOf P t m ix d s=some ((n,k,a,et,es),s')):
  m= .map (some n)∧ix= .int k a∧(∃kt j,P.underlying t=some (.map kt et)∧P.underlying kt=some (.int j))∧s.h.get n=some (.map es)∧Calm s s':=by
 unfold mapOf at h
 split at h
 · cases hD:P.underlying t with
   |none=>simp [hD,X.fail] at h
   |some D=>
   cases D <;> simp only [hD] at h <;> try (simp [X.fail] at h;done)
   rename_i kt et'
   cases hK:P.underlying kt with
   |none=>simp [hK,X.fail] at h
   |some D=>
   cases D <;> simp only [hK] at h <;> try (simp [X.fail] at h;done)
   rename_i j
   obtain⟨c,s1,h1,h2⟩:=bind_some h
   obtain⟨g,cm⟩:=iW h1
   split at h2
   · obtain⟨h3,rfl⟩:=au h2
     cases h3
     exact⟨rfl,rfl,⟨_,_,rfl,hK⟩,g,cm⟩
   · simp [X.fail] at h2
 · simp [X.fail] at h
def zZ (ok:Bool) (v:Value) (b:Bool):Value:=match ok with
 |true=> .tuple ⟨[v,.bool b]⟩
 |false=>v
theorem uo {r:Env}{v u:Value} (h:Rel r v u) (ok b:Bool):Rel r (zZ ok v b) (if ok then .tuple #[u,.bool b] else u):=by
 cases ok
 · exact h
 · exact aw.mkTuple (.cons h (.cons (.bool b) .nil))
def jN (P:Program) (t:TypeId) (m ix:Value) (ok:Bool):X Value:=X.bind (mapOf P t m ix) fun q=>X.bind (kA q.2.1 q.2.2.1 q.2.2.2.2) fun o=>match o with
 |some (_,v)=>X.pure (zZ ok v true)
 |none=>X.bind (zeroV P q.2.2.2.1) fun z=>X.bind (bP (plain z)) fun _=>X.pure (zZ ok z false)
theorem DB (t:TypeId) (mv ix:Value) (ok:Bool):jx P (jN P t mv ix ok) (fun r m=>∃u y,Rel r mv u∧Rel r ix y∧m=Instr.lookup t u y ok):=by
 intro d s v s' h
 unfold jN at h
 obtain⟨⟨n,k,a,et,es⟩,s1,h1,h2⟩:=bind_some h
 obtain⟨rfl,rfl,⟨kt,j,hD,hK⟩,hg,cm⟩:=qM h1
 simp only at h2
 obtain⟨o,sf,hf0,h2⟩:=bind_some h2
 obtain⟨cf,hff⟩:=qJ hf0
 have cm:=cm.trans cf
 · try simp only at h2
   cases o with
   |some p=>
    obtain⟨ip,vp⟩:=p
    simp only at h2
    obtain⟨rfl,rfl⟩:=au h2
    refine⟨cm.V,fun hV r ow w m hs hfr ⟨u,y,hu,hy,hm⟩=> ?_⟩
    have hf:=hff hV
    cases hy
    cases hu with
    |map hb=>
    obtain⟨b,es',kk,q1,q2,q3,q4,q5⟩:=hs.chunk n _ hg
    rename_i b0
    obtain rfl:b=b0:=by rw [hb] at q1;exact(Option.some.inj q1).symm
    obtain⟨o',g1,g2⟩:=ke (j:=j) q4 q5 hf
    cases o' with
    |none=>exact g2.elim
    |some p'=>
    obtain⟨ip',vp'⟩:=p'
    refine⟨r,ow,_,w,?_,aN.calm hs cm,uo g2.2 ok true⟩
    subst hm
    have hgo:(getObj b).run P w= .ok (.map es' kk) w:=by simp [getObj,Sem.run,q3]
    simp [Instr.lookup,run_underlying hD,hgo,run_checkKey hK,Instr.findKey,run_underlying hK,g1]
   |none=>
    simp only at h2
    obtain⟨z,s2,h3,h4⟩:=bind_some h2
    obtain⟨⟨i,hi,hz⟩,hp,rfl⟩:=lZ h3
    obtain⟨_,s3,h5,h6⟩:=bind_some h4
    obtain⟨hpl,rfl⟩:=b7 h5
    obtain⟨rfl,rfl⟩:=au h6
    refine⟨cm.V,fun hV r ow w m hs hfr ⟨u,y,hu,hy,hm⟩=> ?_⟩
    have hf:=hff hV
    cases hy
    cases hu with
    |map hb=>
    obtain⟨b,es',kk,q1,q2,q3,q4,q5⟩:=hs.chunk n _ hg
    rename_i b0
    obtain rfl:b=b0:=by rw [hb] at q1;exact(Option.some.inj q1).symm
    obtain⟨o',g1,g2⟩:=ke (j:=j) q4 q5 hf
    cases o' with
    |some p'=>exact g2.elim
    |none=>
    refine⟨r,ow,_,w,?_,aN.calm hs cm,uo (oC hpl) ok false⟩
    subst hm
    have hgo:(getObj b).run P w= .ok (.map es' kk) w:=by simp [getObj,Sem.run,q3]
    simp [Instr.lookup,run_underlying hD,hgo,run_checkKey hK,Instr.findKey,run_underlying hK,g1,qh hi hz]
def nK:List (Value×Value)→Nat→Value→List (Value×Value)
 | [],_,_=> []
 |(k,_)::es,0,v=>(k,v)::es
 |e::es,i+1,v=>e::nK es i v
def gY (P:Program) (t:TypeId) (m ix v:Value):X Unit:=X.bind (mapOf P t m ix) fun q=>X.bind (kA q.2.1 q.2.2.1 q.2.2.2.2) fun o=>match o with
 |some (i,_)=>X.wr q.1 (.map (nK q.2.2.2.2 i v))
 |none=>X.wr q.1 (.map (q.2.2.2.2++ [(ix,v)]))
def jX (P:Program) (t:TypeId) (m ix:Value):X Unit:=X.bind (mapOf P t m ix) fun q=>X.bind (kA q.2.1 q.2.2.1 q.2.2.2.2) fun o=>match o with
 |some (i,_)=>X.wr q.1 (.map (q.2.2.2.2.eraseIdx i))
 |none=>X.wr q.1 (.map q.2.2.2.2)
theorem wC {k:IntKind}{a:Int}:∀ {es:List (Value×Value)}{i0 i:Nat}{v:Value},dv k a es i0=some (some (i,v))→i0≤i∧es[i - i0]? =some (.int k a,v)
 | [],_,_,_,h=>by simp [dv] at h
 |(kx,vx)::es,i0,i,v,h=>by
  cases kx <;> simp only [dv] at h <;> try (cases h;done)
  rename_i k' b
  split at h
  · rename_i e;subst e
    cases hab:(a==b) with
    |true=>
     simp only [hab] at h
     cases h
     have:a=b:=by simpa using hab
     subst this
     exact⟨Nat.le_refl _,by simp⟩
    |false=>
     simp only [hab] at h
     obtain⟨h1,h2⟩:=wC h
     refine⟨by omega,?_⟩
     have:i - i0=(i - (i0+1))+1:=by omega
     rw [this];simpa using h2
  · cases h
theorem mQ {w:World}{b:Nat}{es:Array MapEntry}{k:Nat} (h:w.heap[b]? =some (.map es k)) (o:Obj):(setObj b o).run P w= .ok () { w with heap:=w.heap.setIfInBounds b o}:=by
 simp [setObj,Sem.run,h]
theorem dF {w:World}{b:Nat}{o o':Obj} (h:w.heap[b]? =some o'):vR w b o { w with heap:=w.heap.setIfInBounds b o}:=
 have hb:b < w.heap.size:=by
  rcases Nat.lt_or_ge b w.heap.size with h1|h1
  · exact h1
  · rw [Array.getElem?_eq_none h1] at h;cases h
 ⟨rfl,rfl,rfl,by simp,by simp [hb],fun k hk=>by simp [Array.getElem?_setIfInBounds,hk.symm]⟩
theorem wB:∀(es:List (Value×Value)) (i:Nat) (v:Value),(nK es i v).map (·.1)=es.map (·.1)
 | [],_,_=>rfl
 |(_,_)::_,0,_=>rfl
 |(_,_)::es,i+1,v=>by simp [nK,wB es]
theorem wN:∀(es:List (Value×Value)) (i:Nat) (v:Value),(nK es i v).map (·.2)=(es.map (·.2)).set i v
 | [],_,_=>rfl
 |(_,_)::_,0,_=>rfl
 |(_,_)::es,i+1,v=>by simp [nK,wN es]
theorem rb {r:Env}{xs ys:List Value} (h:aw r xs ys):∀i,aw r (xs.eraseIdx i) (ys.eraseIdx i):=by
 induction h with
 |nil=>intro i;exact .nil
 |cons h t ih=>intro i;cases i with
  |zero=>exact t
  |succ i=>exact .cons h (ih i)
theorem iJ {α β:Type} (f:α→β):∀(l:List α) (i:Nat),(l.eraseIdx i).map f=(l.map f).eraseIdx i
 | [],_=>rfl
 |_::_,0=>rfl
 |_::l,i+1=>by simp [iJ f l i]
theorem Fo (t ty:TypeId) (mv ix:Value) {ts:Array TypeId} (hts:ts[0]? =some t):∀d s v s',jX P t mv ix d s=some (v,s')→(aW s'.V→aW s.V)∧(aW s'.V→∀r ow w u y,Sat P r ow s.h w→bF r s.c s'.c→Rel r mv u→Rel r ix y→
  ∃r' ow' w',(Builtin.delete_ ts ty #[u,y]).run P w= .ok (.tuple #[]) w'∧aN P r ow w s r' ow' w' s'):=by
 intro d s v s' h
 unfold jX at h
 obtain⟨⟨n,k,a,et,es⟩,s1,h1,h2⟩:=bind_some h
 obtain⟨rfl,rfl,⟨kt,j,hD,hK⟩,hg,cm⟩:=qM h1
 simp only at h2
 obtain⟨o,sf,hf0,h2⟩:=bind_some h2
 obtain⟨cf,hff⟩:=qJ hf0
 have cm:=cm.trans cf
 · try simp only at h2
   have hs':∃es2,s'= { sf with h:=sf.h.put n (.map es2),W:=n::sf.W}∧((o=none∧es2=es)∨∃i v,o=some (i,v)∧es2=es.eraseIdx i):=by
    cases o with
    |none=>obtain⟨_,rfl⟩:=lf h2;exact⟨_,rfl,.inl ⟨rfl,rfl⟩⟩
    |some p=>obtain⟨ip,vp⟩:=p;obtain⟨_,rfl⟩:=lf h2;exact⟨_,rfl,.inr ⟨_,_,rfl,rfl⟩⟩
   obtain⟨es2,rfl,hes⟩:=hs'
   refine⟨fun hV=>cm.V hV,fun hV r ow w u y hs hfr hu hy=> ?_⟩
   have hf:=hff hV
   cases hy
   cases hu with
   |map hb=>
   obtain⟨b,es',kk,q1,q2,q3,q4,q5⟩:=hs.chunk n _ hg
   rename_i b0
   obtain rfl:b=b0:=by rw [hb] at q1;exact(Option.some.inj q1).symm
   obtain⟨o',g1,g2⟩:=ke (j:=j) q4 q5 hf
   have hgo:(getObj b).run P w= .ok (.map es' kk) w:=by simp [getObj,Sem.run,q3]
   rcases hes with⟨rfl,rfl⟩|⟨i,vv,rfl,rfl⟩
   · cases o' with
     |some _=>exact g2.elim
     |none=>
     refine⟨r,ow,_,?_,⟨Env.Le.refl _,?_,Frame.pN q2 (dF (o:= .map es' kk) q3),fI.refl _ _ _,Nat.le_of_eq cm.c.symm,fun b n e=> .inl ⟨b,e⟩⟩⟩
     · simp [Builtin.delete_,hts,run_underlying hD,hgo,run_checkKey hK,Instr.findKey,run_underlying hK,g1,mQ q3]
     · show Sat P r ow (sf.h.put n _) _
       rw [cm.h]
       exact hs.pN q2 (dF q3) ⟨b,es',kk,hb,q2,(dF q3).at_,q4,q5⟩
   · cases o' with
     |none=>exact g2.elim
     |some p=>
     obtain⟨i',u'⟩:=p
     obtain⟨rfl,_⟩:=g2
     refine⟨r,ow,_,?_,⟨Env.Le.refl _,?_,Frame.pN q2 (dF (o:= .map (es'.eraseIdxIfInBounds i) kk) q3),fI.refl _ _ _,Nat.le_of_eq cm.c.symm,fun b n e=> .inl ⟨b,e⟩⟩⟩
     · simp [Builtin.delete_,hts,run_underlying hD,hgo,run_checkKey hK,Instr.findKey,run_underlying hK,g1,mQ q3]
     · show Sat P r ow (sf.h.put n _) _
       rw [cm.h]
       have he:(es'.eraseIdxIfInBounds i).toList=es'.toList.eraseIdx i:=by
        unfold Array.eraseIdxIfInBounds
        split
        · simp
        · rename_i hlt;rw [List.eraseIdx_of_length_le (by simpa using hlt)]
       refine hs.pN q2 (dF q3) ⟨b,_,kk,hb,q2,(dF q3).at_,?_,?_⟩
       · rw [he,iJ,iJ];exact rb q4 i
       · rw [he,iJ,iJ];exact rb q5 i
theorem xv (t:TypeId) (mv ix x:Value):zq P (gY P t mv ix x) (fun r m=>∃u y z,Rel r mv u∧Rel r ix y∧Rel r x z∧m=Instr.mapUpdate t u y z):=by
 intro d s v s' h
 unfold gY at h
 obtain⟨⟨n,k,a,et,es⟩,s1,h1,h2⟩:=bind_some h
 obtain⟨rfl,rfl,⟨kt,j,hD,hK⟩,hg,cm⟩:=qM h1
 simp only at h2
 obtain⟨o,sf,hf0,h2⟩:=bind_some h2
 obtain⟨cf,hff⟩:=qJ hf0
 have cm:=cm.trans cf
 · try simp only at h2
   cases o with
   |none=>
    obtain⟨_,rfl⟩:=lf h2
    refine⟨fun hV=>cm.V hV,fun hV r ow w m hs hfr ⟨u,y,z,hu,hy,hz,hm⟩=> ?_⟩
    have hf:=hff hV
    cases hy
    cases hu with
    |map hb=>
    obtain⟨b,es',kk,q1,q2,q3,q4,q5⟩:=hs.chunk n _ hg
    rename_i b0
    obtain rfl:b=b0:=by rw [hb] at q1;exact(Option.some.inj q1).symm
    obtain⟨o',g1,g2⟩:=ke (j:=j) q4 q5 hf
    have hgo:(getObj b).run P w= .ok (.map es' kk) w:=by simp [getObj,Sem.run,q3]
    cases o' with
    |some _=>exact g2.elim
    |none=>
    refine⟨r,ow,_,?_,⟨Env.Le.refl _,?_,Frame.pN q2 (dF (o:= .map (es'.push { key:= .int k a,val:=z,born:=kk}) (kk+1)) q3),fI.refl _ _ _,Nat.le_of_eq cm.c.symm,fun b n e=> .inl ⟨b,e⟩⟩⟩
    · subst hm
      simp [Instr.mapUpdate,run_underlying hD,hgo,run_checkKey hK,Instr.findKey,run_underlying hK,g1,mQ q3]
    · show Sat P r ow (sf.h.put n _) _
      rw [cm.h]
      refine hs.pN q2 (dF q3) ⟨b,_,_,hb,q2,(dF q3).at_,?_,?_⟩
      · simp only [List.map_append,Array.toList_push];exact q4.append (.cons (.int _ _) .nil)
      · simp only [List.map_append,Array.toList_push];exact q5.append (.cons hz .nil)
   |some p=>
    obtain⟨i,vp⟩:=p
    obtain⟨_,rfl⟩:=lf h2
    refine⟨fun hV=>cm.V hV,fun hV r ow w m hs hfr ⟨u,y,z,hu,hy,hz,hm⟩=> ?_⟩
    have hf:=hff hV
    cases hy
    cases hu with
    |map hb=>
    obtain⟨b,es',kk,q1,q2,q3,q4,q5⟩:=hs.chunk n _ hg
    rename_i b0
    obtain rfl:b=b0:=by rw [hb] at q1;exact(Option.some.inj q1).symm
    obtain⟨o',g1,g2⟩:=ke (j:=j) q4 q5 hf
    have hgo:(getObj b).run P w= .ok (.map es' kk) w:=by simp [getObj,Sem.run,q3]
    cases o' with
    |none=>exact g2.elim
    |some p=>
    obtain⟨i',u'⟩:=p
    obtain⟨rfl,_⟩:=g2
    have hkey:∃e,es'[i]? =some e∧e.key= .int k a:=by
     obtain⟨_,h3⟩:=wC hf
     rw [Nat.sub_zero] at h3
     obtain⟨y,e1,e2⟩:=q4.get i (.int k a) (by simp [h3])
     simp only [List.getElem?_map,Option.map_eq_some_iff] at e1
     obtain⟨e,e3,e4⟩:=e1
     refine⟨e,by simpa using e3,?_⟩
     rw [e4];cases e2;rfl
    obtain⟨⟨ek,ev,eb⟩,he1,he2⟩:=hkey
    simp only at he2
    subst he2
    have hks:(Instr.keyThatStays (.int k a) (.int k a)).run P w= .ok (.int k a) w:=by simp [Instr.keyThatStays,Instr.sameBits]
    refine⟨r,ow,_,?_,⟨Env.Le.refl _,?_,Frame.pN q2 (dF (o:= .map (es'.modify i fun e=> { e with key:= .int k a,val:=z}) kk) q3),fI.refl _ _ _,Nat.le_of_eq cm.c.symm,fun b n e=> .inl ⟨b,e⟩⟩⟩
    · subst hm
      simp [Instr.mapUpdate,run_underlying hD,hgo,run_checkKey hK,Instr.findKey,run_underlying hK,g1,he1,hks,mQ q3]
    · show Sat P r ow (sf.h.put n _) _
      rw [cm.h]
      have hlt:i < es'.size:=by
       rcases Nat.lt_or_ge i es'.size with h3|h3
       · exact h3
       · rw [Array.getElem?_eq_none h3] at he1;cases he1
      have he3:es'[i]=⟨.int k a,ev,eb⟩:=by
       have h3:=he1
       rw [Array.getElem?_eq_getElem hlt] at h3
       exact Option.some.inj h3
      have hmod:(es'.modify i fun e=> { e with key:= .int k a,val:=z}).toList=es'.toList.set i ⟨.int k a,z,eb⟩:=by
       apply List.ext_getElem?
       intro q
       simp only [Array.getElem?_toList,Array.getElem?_modify,List.getElem?_set]
       by_cases hq:i=q
       · subst hq;simp [hlt,he3]
       · simp [hq]
      refine hs.pN q2 (dF q3) ⟨b,_,_,hb,q2,(dF q3).at_,?_,?_⟩
      · rw [hmod,wB,List.map_set]
        have:(es'.toList.map (·.key)).set i (.int k a)=es'.toList.map (·.key):=by
         apply List.ext_getElem?
         intro q
         simp only [List.getElem?_set,List.length_map]
         by_cases hq:i=q
         · subst hq;simp [hlt,he3]
         · simp [hq]
        rw [this];exact q4
      · rw [hmod,wN,List.map_set];exact q5.set hz i
end
end
section
section
variable {P:Program}
theorem Sat.Lr {r:Env}{ow:Nat→Option Nat}{h:Heap}{w:World} (hs:Sat P r ow h w) {n:Nat} (hn:r.blk n=none) (x:ByteArray):
  Sat P (r.bind n w.heap.size 0) (own ow w.heap.size n) (h.put n (.iter x 0)) { w with heap:=w.heap.push (.stringIter x 0)} where
 chunk:=fun m c hm=>by
  rw [Heap.cG] at hm
  split at hm
  · rename_i e;subst e;cases hm
    exact⟨w.heap.size,by simp [Env.bind],by simp [own],by simp⟩
  · rename_i e
    refine Chunk.cR (w:=w) (ow:=ow) (fun b hb=> ?_) (fun b=> ?_) (Chunk.dX (Env.gg hn) (hs.chunk m c hm))
    · have:=hs.bound b m hb
      simp [Array.getElem?_push,Nat.ne_of_lt this]
    · unfold own
      split
      · rename_i e2;subst e2
        exact⟨fun e3=>absurd (Option.some.inj e3).symm e,fun e3=>absurd (hs.bound _ _ e3) (Nat.lt_irrefl _)⟩
      · exact Iff.rfl
 bound:=fun b m hb=>by
  unfold own at hb
  split at hb
  · rename_i e;subst e;simp
  · have:=hs.bound b m hb;simp;omega
 known:=fun b m hb=>by
  unfold own at hb
  split at hb
  · cases hb;exact .inl (by simp [Env.bind])
  · exact(Env.gg hn).known (hs.known b m hb)
def ly (P:Program) (t:TypeId) (x:Value):X Value:=match x with
 | .string s=>match P.underlying t with
  |some .string=>X.bind (X.new (.iter s 0)) fun n=>X.pure (.pointer (some ⟨n,0,none⟩))
  |_=>X.fail
 |_=>X.fail
theorem GV (t:TypeId) (x:Value):jx P (ly P t x) (fun r m=>∃u,Rel r x u∧m=Instr.range t u):=by
 intro d s v s' h
 unfold ly at h
 split at h
 · rename_i sx
   cases hD:P.underlying t with
   |none=>simp [hD,X.fail] at h
   |some D=>
    cases D <;> simp only [hD] at h <;> try (simp [X.fail] at h;done)
    obtain⟨n,s1,h1,h2⟩:=bind_some h
    obtain⟨rfl,rfl⟩:=hU h1
    obtain⟨rfl,rfl⟩:=au h2
    refine⟨id,fun hV r ow w m hs hf ⟨u,hu,hm⟩=> ?_⟩
    cases hu
    have hn:=(hf s.c (Nat.le_refl _) (Nat.lt_succ_self _)).1
    refine⟨_,_,.pointer (some ⟨w.heap.size,0,none⟩),_,?_,⟨Env.gg hn,hs.Lr hn sx,Frame.new _ _,fI.bind,Nat.le_succ _,lg⟩,.ptr (by simp [Env.bind])⟩
    subst hm
    simp [Instr.range,run_underlying hD]
 · simp [X.fail] at h
theorem A7 {w:World}{b:Nat}{x:ByteArray}{k:Nat} (h:w.heap[b]? =some (.stringIter x k)) (o:Obj):(setObj b o).run P w= .ok () { w with heap:=w.heap.setIfInBounds b o}:=by
 simp [setObj,Sem.run,h]
def oh (x:Value):X Value:=match x with
 | .pointer (some ⟨n,0,none⟩)=>X.bind (X.rd n) fun c=>match c with
  | .iter s pos=>X.bind (ask (Nat.blt pos s.data.toList.length)) fun t=>match t with
   |true=>X.bind (X.wr n (.iter s (pos+(Utf8.decode s pos).2))) fun _=>X.pure (.tuple ⟨[.bool true,.int .i64 (pos:Int),.int .i32 ((Utf8.decode s pos).1:Int)]⟩)
   |false=>X.pure (.tuple ⟨[.bool false]⟩)
  |_=>X.fail
 |_=>X.fail
theorem JM (x:Value) (ty:TypeId):jx P (oh x) (fun r m=>∃u,Rel r x u∧m=Instr.next u true ty):=by
 intro d s v s' h
 unfold oh at h
 split at h
 · rename_i n
   obtain⟨c,s1,h1,h2⟩:=bind_some h
   obtain⟨hg,cm⟩:=iW h1
   split at h2
   · rename_i sx pos
     obtain⟨t,s2,h3,h4⟩:=bind_some h2
     obtain⟨cm2,ht⟩:=jS h3
     have cm:=cm.trans cm2
     cases t with
     |true=>
      simp only at h4
      obtain⟨_,s3,h5,h6⟩:=bind_some h4
      obtain⟨_,rfl⟩:=lf h5
      obtain⟨rfl,rfl⟩:=au h6
      refine⟨fun hV=>cm.V hV,fun hV r ow w m hs hf ⟨u,hu,hm⟩=> ?_⟩
      have hb:pos < sx.size:=by
       have:=ht hV
       rw [Nat.blt_eq] at this
       simpa using this
      cases hu with
      |ptr hbk=>
      obtain⟨b,q1,q2,q3⟩:=hs.chunk n _ hg
      rename_i b0
      obtain rfl:b=b0:=by rw [hbk] at q1;exact(Option.some.inj q1).symm
      have hgo:(getObj b).run P w= .ok (.stringIter sx pos) w:=by simp [getObj,Sem.run,q3]
      refine⟨r,ow,_,_,?_,⟨Env.Le.refl _,?_,Frame.pN q2 (dF (o:= .stringIter sx (pos+(Utf8.decode sx pos).2)) q3),fI.refl _ _ _,Nat.le_of_eq cm.c.symm,fun b n e=> .inl ⟨b,e⟩⟩,aw.mkTuple (.cons (.bool _) (.cons (.int _ _) (.cons (.int _ _) .nil)))⟩
      · subst hm
        simp [Instr.next,hgo,hb,A7 q3,goInt]
      · show Sat P r ow (s2.h.put n _) _
        rw [cm.h]
        exact hs.pN q2 (dF q3) ⟨b,hbk,q2,(dF q3).at_⟩
     |false=>
      simp only at h4
      obtain⟨rfl,rfl⟩:=au h4
      refine⟨cm.V,fun hV r ow w m hs hf ⟨u,hu,hm⟩=> ?_⟩
      have hb:¬pos < sx.size:=by
       intro q
       have:=ht hV
       rw [Bool.eq_false_iff,ne_eq,Nat.blt_eq] at this
       exact this (by simpa using q)
      cases hu with
      |ptr hbk=>
      obtain⟨b,q1,q2,q3⟩:=hs.chunk n _ hg
      rename_i b0
      obtain rfl:b=b0:=by rw [hbk] at q1;exact(Option.some.inj q1).symm
      have hgo:(getObj b).run P w= .ok (.stringIter sx pos) w:=by simp [getObj,Sem.run,q3]
      refine⟨r,ow,.tuple #[.bool false],w,?_,aN.calm hs cm,aw.mkTuple (.cons (.bool _) .nil)⟩
      subst hm
      simp [Instr.next,hgo,hb]
   · simp [X.fail] at h2
 · simp [X.fail] at h
def nF (P:Program) (src dst:TypeId) (x:Value):X Value:=match x with
 | .int _ n=>match P.underlying src with
  |some _=>match P.underlying dst with
   |some (.int k)=>X.pure (.int k (k.wrap n))
   |_=>X.fail
  |none=>X.fail
 |_=>X.fail
theorem Kg (src dst:TypeId) (x:Value):jx P (nF P src dst x) (fun r m=>∃u,Rel r x u∧m=convert src dst u):=by
 intro d s v s' h
 unfold nF at h
 split at h
 · rename_i k0 n
   cases hS:P.underlying src with
   |none=>simp [hS,X.fail] at h
   |some S=>
    simp only [hS] at h
    cases hD:P.underlying dst with
    |none=>simp [hD,X.fail] at h
    |some D=>
     cases D <;> simp only [hD] at h <;> try (simp [X.fail] at h;done)
     rename_i k
     obtain⟨rfl,rfl⟩:=au h
     refine⟨id,fun hV r ow w m hs hf ⟨u,hu,hm⟩=> ?_⟩
     cases hu
     refine⟨r,ow,.int k (k.wrap n),w,?_,aN.calm hs (Calm.refl _),.int _ _⟩
     subst hm
     simp [convert,run_underlying hS,run_underlying hD,Conv.intToInt]
 · simp [X.fail] at h
theorem Local.ly (t:TypeId) (x:Value):Local (ly P t x):=by
 unfold Sx.ly
 repeat' (first|exact Local.pure _|exact Local.fail|exact Local.new _|refine Local.bind ?_ fun _=> ?_|split)
theorem Local.oh (x:Value):Local (oh x):=by
 unfold Sx.oh
 repeat' (first|exact Local.pure _|exact Local.fail|exact Local.rd _|exact Local.wr _ _|exact Local.ask _|refine Local.bind ?_ fun _=> ?_|split)
theorem Local.nF (src dst:TypeId) (x:Value):Local (nF P src dst x):=by
 unfold Sx.nF
 repeat' (first|exact Local.pure _|exact Local.fail|split)
end
end
section
def bE (T:List Value):Operand→Option Value
 | .tmp t=>some (T.getD t undef)
 | .const v=>match plain v with
  |true=>some v
  |false=>none
 | .global _=>none
 | .func f=>some (.func (.func f) ⟨[]⟩ ⟨[]⟩)
def j6 (T:List Value):List Operand→Option (List Value)
 | []=>some []
 |x::l=>match bE T x with
  |some v=>match j6 T l with
   |some vs=>some (v::vs)
   |none=>none
  |none=>none
def mG (T:List Value):List (Nat×Operand)→Option (List (Nat×Value))
 | []=>some []
 |(i,x)::l=>match bE T x with
  |some v=>match mG T l with
   |some vs=>some ((i,v)::vs)
   |none=>none
  |none=>none
def kP (T:List Value):Option Operand→Option (Option Value)
 |none=>some none
 |some x=>match bE T x with
  |some v=>some (some v)
  |none=>none
section
variable {r:Env}{T:List Value}{a:Act}
theorem sK (h:aw r T a.tmps.toList) (t:Nat):Rel r (T.getD t undef) (a.tmps.getD t undef):=by
 have hl:=h.length
 rw [List.getD_eq_getElem?_getD]
 cases e:T[t]? with
 |some x=>
  obtain⟨y,e2,hy⟩:=h.get t x e
  have:a.tmps.getD t undef=y:=by simp [Array.getD_eq_getD_getElem?,←Array.getElem?_toList,e2]
  rw [this];exact hy
 |none=>
  have h1:T.length≤t:=by simpa using e
  have h2:a.tmps[t]? =none:=by simp;rw [←Array.length_toList,←hl];exact h1
  have:a.tmps.getD t undef=undef:=by simp [Array.getD_eq_getD_getElem?,h2]
  rw [this];exact aw.mkTuple .nil
theorem bx (h:aw r T a.tmps.toList):∀ {x:Operand}{v:Value},bE T x=some v→Rel r v (a.eval x)
 | .tmp t,v,e=>by simp [bE] at e;subst e;have:=sK h t;simpa [Act.eval] using this
 | .const c,v,e=>by
  simp only [bE] at e
  cases hp:plain c with
  |false=>simp [hp] at e
  |true=>simp [hp] at e;subst e;exact oC hp
 | .global _,v,e=>by simp [bE] at e
 | .func f,v,e=>by simp [bE] at e;subst e;exact aw.rQ .nil .nil
theorem nh (h:aw r T a.tmps.toList):∀ {l:List Operand}{vs:List Value},j6 T l=some vs→aw r vs (l.map a.eval)
 | [],vs,e=>by simp [j6] at e;subst e;exact .nil
 |x::l,vs,e=>by
  simp only [j6] at e
  cases e1:bE T x with
  |none=>simp [e1] at e
  |some v=>
   simp only [e1] at e
   cases e2:j6 T l with
   |none=>simp [e2] at e
   |some us=>simp only [e2] at e;cases e;exact .cons (bx h e1) (nh h e2)
theorem vK (h:aw r T a.tmps.toList):∀ {l:List (Nat×Operand)}{vs:List (Nat×Value)},mG T l=some vs→ua r vs (l.map fun(i,x)=>(i,a.eval x))
 | [],vs,e=>by simp [mG] at e;subst e;exact .nil
 |(i,x)::l,vs,e=>by
  simp only [mG] at e
  cases e1:bE T x with
  |none=>simp [e1] at e
  |some v=>
   simp only [e1] at e
   cases e2:mG T l with
   |none=>simp [e2] at e
   |some us=>simp only [e2] at e;cases e;exact .cons (bx h e1) (vK h e2)
theorem vJ (h:aw r T a.tmps.toList) {o:Option Operand}{v:Option Value} (e:kP T o=some v):po r v (o.map a.eval):=by
 cases o with
 |none=>simp [kP] at e;subst e;exact .none
 |some x=>
  simp only [kP] at e
  cases e1:bE T x with
  |none=>simp [e1] at e
  |some u=>simp only [e1] at e;cases e;exact .some (bx h e1)
end
def yd:Value→Option Value
 | .pointer (some a)=>some (.pointer (some a))
 | .func (.func f) a c=>some (.func (.func f) a c)
 | .iface t v=>some (.iface t v)
 |_=>none
def Fc (op:UnOp):Value→Option Value
 | .bool b=>match op with
  | .not=>some (.bool !b)
  |_=>none
 | .int k n=>match op with
  | .neg=>some (.int k (k.wrap (0 - n)))
  |_=>none
 |_=>none
def ye (i:Nat):Value→Option Value
 | .tuple vs=>vs.toList[i]?
 |_=>none
def x8 (P:Program) (t:TypeId) (x:Value):Option Value:=match P.underlying t with
 |some (.interface _)=>none
 |some _=>some (.iface t x)
 |none=>none
def Fg:Value→Value→Option Value
 | .int k x,.int _ y=>some (.int k (if y < x then y else x))
 |_,_=>none
def qp (P:Program) (op:BinOp) (t:TypeId) (o2:Operand) (x y:Value):Option Value:=match yf op x y with
 |some v=>some v
 |none=>match op with
  | .eql=>(sc P t o2 x y).map .bool
  | .neq=>(sc P t o2 x y).map fun b=> .bool !b
  |_=>none
def zE (a b:ByteArray):ByteArray:=⟨⟨a.data.toList++b.data.toList⟩⟩
theorem M4 (a b:ByteArray):zE a b=a++b:=by
 apply ByteArray.ext
 apply Array.toList_inj.1
 simp [zE]
def yj (op:BinOp) (a b:Value):Option (ByteArray×ByteArray):=match op,a,b with
 | .add,.string p,.string q=>some (p,q)
 |_,_,_=>none
theorem Eo {op:BinOp}{a b:Value}{p q:ByteArray} (h:yj op a b=some (p,q)):op= .add∧a= .string p∧b= .string q:=by
 unfold yj at h
 split at h
 · cases h;exact⟨rfl,rfl,rfl⟩
 · cases h
def EM (P:Program) (f:FuncId):Bool:=match P.funcs[f]? with
 |some fn=>fn.body.isSome && !(fn.name== "runtime.NumGoroutine")
 |none=>false
def val (x:X Value):X jm:=X.bind x fun v=>X.pure (.val v)
def unit (x:X Unit):X jm:=X.bind x fun _=>X.pure .unit
def nothing (x:X Unit):X jm:=X.bind x fun _=>X.pure (.val (.tuple ⟨[]⟩))
def oQ (P:Program) (b:Builtin) (ts:List TypeId) (asZ:List Value):X jm:=match b,ts,asZ with
 | .len,[t],[x]=>val (qo P t x)
 | .append,[t,tx],[s,x]=>val (jU P t tx s x)
 | .min,_,[x,y]=>val (opt (Fg x y))
 | .delete,[t,_],[m,k]=>nothing (jX P t m k)
 |_,_,_=>X.fail
def xZ (P:Program) (t:TypeId) (name:String):Option FuncId:=match P.info? t with
 |none=>none
 |some i=>match i.methods.find? (fun m=>m.name==name) with
  |none=>none
  |some m=>match m.path.toList with
   | []=>match m.func with
    |some (f,true)=>(match P.underlying t with
     |some (.pointer _)=>some f
     |_=>none)
    |some (f,false)=>(match P.underlying t with
     |some (.pointer _)=>none
     |some _=>some f
     |none=>none)
    |none=>none
   |_=>none
theorem DP {P:Program}{t:TypeId}{i:TypeInfo} (h:P.info? t=some i) (w:World):(typeInfo t).run P w= .ok i w:=by
 simp [typeInfo,h]
theorem GK {P:Program}{t:TypeId}{name:String}{f:FuncId} (h:xZ P t name=some f) (n:Nat) (v:Value) (w:World):(Go.method (n+1) t v name).run P w= .ok (f,v) w:=by
 unfold xZ at h
 cases hi:P.info? t with
 |none=>simp [hi] at h
 |some i=>
  simp only [hi] at h
  cases hm:i.methods.find? (fun m=>m.name==name) with
  |none=>simp [hm] at h
  |some m=>
   simp only [hm] at h
   cases hp:m.path.toList with
   |cons a l=>simp [hp] at h
   |nil=>
    simp only [hp] at h
    cases hf:m.func with
    |none=>simp [hf] at h
    |some q=>
     obtain⟨g,pr⟩:=q
     unfold Go.method
     simp only [Sem.run_bind,DP hi,Result.andThen_ok,hm,hp,follow,Sem.run_pure,hf]
     cases hu:P.underlying t with
     |none=>cases pr <;> simp [hf,hu] at h
     |some D=>
      cases pr <;> cases D <;> simp [hf,hu] at h <;> subst h <;> simp [receiverAt,run_underlying hu,Place.get]
def sk (op:BinOp) (a b:Value):Option (Int×Int):=match op,a,b with
 | .rem,.int .i64 p,.int .i64 q=>some (p,q)
 |_,_,_=>none
theorem Fj {op:BinOp}{a b:Value}{p q:Int} (h:sk op a b=some (p,q)):op= .rem∧a= .int .i64 p∧b= .int .i64 q:=by
 unfold sk at h
 split at h
 · cases h;exact⟨rfl,rfl,rfl⟩
 · cases h
def rL (P:Program) (op:BinOp) (t:TypeId) (y:Operand) (a b:Value):Option (Int×Int)→X jm
 |some (p,q)=>X.bind (eW (!(q==0))) fun _=>X.pure (.val (.int .i64 (p.tmod q)))
 |none=>val (opt (qp P op t y a b))
def z8 (P:Program) (op:BinOp) (t:TypeId) (y:Operand) (a b:Value):Option (ByteArray×ByteArray)→X jm
 |some (p,q)=>X.bind (eW (Nat.ble (p.data.toList.length+q.data.toList.length) 9223372036854775807)) fun _=>X.pure (.val (.string (zE p q)))
 |none=>rL P op t y a b (sk op a b)
def c9 (P:Program) (T:List Value) (o:Oper):X jm:=match o.op with
 | .move x=>val (opt (bE T x))
 | .assign x=>val (opt (bE T x))
 | .pick c x y=>X.bind (opt (bE T c)) fun c=>match c with
  | .bool b=>X.bind (ask b) fun t=>match t with
   |true=>val (opt (bE T x))
   |false=>val (opt (bE T y))
  |_=>X.fail
 | .alloc t=>val (X.bind (zeroV P t) fun z=>mV P t z)
 | .box t x=>X.bind (opt (bE T x)) fun v=>val (mV P t v)
 | .build t ps=>X.bind (opt (mG T ps.toList)) fun l=>val (lq P t l)
 | .buildSlice t n ps=>X.bind (opt (mG T ps.toList)) fun l=>val (gk P t n l)
 | .load t x=>X.bind (opt (bE T x)) fun a=>val (jd P t a)
 | .store t x y=>X.bind (opt (bE T x)) fun a=>X.bind (opt (bE T y)) fun v=>unit (lh P t a v)
 | .nilCheck x=>X.bind (opt (bE T x)) fun v=>val (opt (yd v))
 | .binOp op t x y _=>X.bind (opt (bE T x)) fun a=>X.bind (opt (bE T y)) fun b=>z8 P op t y a b (yj op a b)
 | .unOp op _ x=>X.bind (opt (bE T x)) fun v=>val (opt (Fc op v))
 | .makeInterface t x=>X.bind (opt (bE T x)) fun v=>val (opt (x8 P t v))
 | .makeFunc fn f c=>X.bind (opt (j6 T f.toList)) fun f=>X.bind (opt (j6 T c.toList)) fun c=>match fn with
  | .func g=>X.pure (.val (.func (.func g) ⟨f⟩ ⟨c⟩))
  |_=>X.fail
 | .makeMap _ none=>val (X.bind (X.new (.map [])) fun n=>X.pure (.map (some n)))
 | .range t x=>X.bind (opt (bE T x)) fun v=>val (ly P t v)
 | .next x true=>X.bind (opt (bE T x)) fun v=>val (oh v)
 | .convert src dst x=>X.bind (opt (bE T x)) fun v=>val (nF P src dst v)
 | .makeSlice t l c=>X.bind (opt (bE T l)) fun l=>X.bind (opt (bE T c)) fun c=>val (hJ P t l c)
 | .slice t x lo hi mx=>X.bind (opt (bE T x)) fun v=>X.bind (opt (kP T lo)) fun lo=>X.bind (opt (kP T hi)) fun hi=>X.bind (opt (kP T mx)) fun mx=>val (lk P t v lo hi mx)
 | .fieldAddr t x f=>X.bind (opt (bE T x)) fun v=>val (gT P t v f)
 | .field t x f=>X.bind (opt (bE T x)) fun v=>val (kX P t v f)
 | .indexAddr t x i=>X.bind (opt (bE T x)) fun v=>X.bind (opt (bE T i)) fun i=>val (gQ P t v i)
 | .index t x i=>X.bind (opt (bE T x)) fun v=>X.bind (opt (bE T i)) fun i=>val (lr P t v i)
 | .lookup t x i ok=>X.bind (opt (bE T x)) fun v=>X.bind (opt (bE T i)) fun i=>val (jN P t v i ok)
 | .mapUpdate t m k v=>X.bind (opt (bE T m)) fun m=>X.bind (opt (bE T k)) fun k=>X.bind (opt (bE T v)) fun v=>unit (gY P t m k v)
 | .extract x i=>X.bind (opt (bE T x)) fun v=>val (opt (ye i v))
 | .call c=>X.bind (opt (j6 T c.args.toList)) fun asZ=>match c.callee with
  | .value f=>X.bind (opt (bE T f)) fun fv=>match fv with
   | .func (.func g) first cap=>X.bind (bP (EM P g)) fun _=>X.pure (.call g (first.toList++asZ++cap.toList))
   |_=>X.fail
  | .builtin b=>oQ P b c.argTypes.toList asZ
  | .invoke r name=>X.bind (opt (bE T r)) fun rv=>match rv with
   | .iface t v=>X.bind (opt (xZ P t name)) fun g=>X.bind (bP (EM P g)) fun _=>X.pure (.call g (v::asZ))
   |_=>X.fail
 |_=>X.fail
theorem Local.lq (P:Program) (t:TypeId) (ps:List (Nat×Value)):Local (lq P t ps):=by
 unfold Sx.lq
 repeat' (first|exact Local.pure _|exact Local.fail|exact Local.rd _|exact Local.wr _ _|exact Local.drop _|exact Local.new _|exact Local.opt _|exact Local.bP _|exact Local.ask _|exact Local.eW _|exact Local.addrOf _|exact Local.dZ _ _|exact Local.fO _ _|exact Local.zeroV _ _|exact Local.bO _ _ _|refine Local.bind ?_ fun _=> ?_|split)
theorem Local.gk (P:Program) (t:TypeId) (n:Nat) (ps:List (Nat×Value)):Local (gk P t n ps):=by
 unfold Sx.gk
 repeat' (first|exact Local.pure _|exact Local.fail|exact Local.rd _|exact Local.wr _ _|exact Local.drop _|exact Local.new _|exact Local.opt _|exact Local.bP _|exact Local.ask _|exact Local.eW _|exact Local.addrOf _|exact Local.dZ _ _|exact Local.fO _ _|exact Local.zeroV _ _|exact Local.bO _ _ _|refine Local.bind ?_ fun _=> ?_|split|unfold Sx.ky)
theorem Local.gT (P:Program) (t:TypeId) (a:Value) (i:Nat):Local (gT P t a i):=by
 unfold Sx.gT
 repeat' (first|exact Local.pure _|exact Local.fail|exact Local.rd _|exact Local.wr _ _|exact Local.drop _|exact Local.new _|exact Local.opt _|exact Local.bP _|exact Local.ask _|exact Local.eW _|exact Local.addrOf _|exact Local.placeOf _|exact Local.dZ _ _|exact Local.fO _ _|exact Local.zeroV _ _|exact Local.bO _ _ _|refine Local.bind ?_ fun _=> ?_|split)
theorem Local.kX (P:Program) (t:TypeId) (a:Value) (i:Nat):Local (kX P t a i):=by
 unfold Sx.kX
 repeat' (first|exact Local.pure _|exact Local.fail|exact Local.rd _|exact Local.wr _ _|exact Local.drop _|exact Local.new _|exact Local.opt _|exact Local.bP _|exact Local.ask _|exact Local.eW _|exact Local.addrOf _|exact Local.dZ _ _|exact Local.fO _ _|exact Local.zeroV _ _|exact Local.bO _ _ _|refine Local.bind ?_ fun _=> ?_|split)
theorem Local.gQ (P:Program) (t:TypeId) (a b:Value):Local (gQ P t a b):=by
 unfold Sx.gQ
 repeat' (first|exact Local.pure _|exact Local.fail|exact Local.rd _|exact Local.wr _ _|exact Local.drop _|exact Local.new _|exact Local.opt _|exact Local.bP _|exact Local.ask _|exact Local.eW _|exact Local.addrOf _|exact Local.dZ _ _|exact Local.fO _ _|exact Local.zeroV _ _|exact Local.bO _ _ _|refine Local.bind ?_ fun _=> ?_|split)
theorem Local.lr (P:Program) (t:TypeId) (a b:Value):Local (lr P t a b):=by
 unfold Sx.lr
 repeat' (first|exact Local.pure _|exact Local.fail|exact Local.rd _|exact Local.wr _ _|exact Local.drop _|exact Local.new _|exact Local.opt _|exact Local.bP _|exact Local.ask _|exact Local.eW _|exact Local.addrOf _|exact Local.dZ _ _|exact Local.fO _ _|exact Local.zeroV _ _|exact Local.bO _ _ _|refine Local.bind ?_ fun _=> ?_|split)
theorem Local.qo (P:Program) (t:TypeId) (a:Value):Local (qo P t a):=by
 unfold Sx.qo
 repeat' (first|exact Local.pure _|exact Local.fail|exact Local.rd _|exact Local.wr _ _|exact Local.drop _|exact Local.new _|exact Local.opt _|exact Local.bP _|exact Local.ask _|exact Local.eW _|exact Local.addrOf _|exact Local.dZ _ _|exact Local.fO _ _|exact Local.zeroV _ _|exact Local.bO _ _ _|refine Local.bind ?_ fun _=> ?_|split)
theorem Local.hJ (P:Program) (t:TypeId) (a b:Value):Local (hJ P t a b):=by
 unfold Sx.hJ
 repeat' (first|exact Local.pure _|exact Local.fail|exact Local.rd _|exact Local.wr _ _|exact Local.drop _|exact Local.new _|exact Local.opt _|exact Local.bP _|exact Local.ask _|exact Local.eW _|exact Local.addrOf _|exact Local.dZ _ _|exact Local.fO _ _|exact Local.zeroV _ _|exact Local.bO _ _ _|refine Local.bind ?_ fun _=> ?_|split|unfold Sx.ky|unfold Sx.lO)
theorem Local.lk (P:Program) (t:TypeId) (x:Value) (lo hi mx:Option Value):Local (lk P t x lo hi mx):=by
 unfold Sx.lk
 repeat' (first|exact Local.pure _|exact Local.fail|exact Local.rd _|exact Local.wr _ _|exact Local.drop _|exact Local.new _|exact Local.opt _|exact Local.bP _|exact Local.ask _|exact Local.eW _|exact Local.addrOf _|exact Local.dZ _ _|exact Local.fO _ _|exact Local.zeroV _ _|exact Local.bO _ _ _|refine Local.bind ?_ fun _=> ?_|split)
theorem Local.jh (P:Program) (t tx:TypeId) (a b:Value):Local (jh P t tx a b):=by
 unfold Sx.jh
 repeat' (first|exact Local.pure _|exact Local.fail|exact Local.rd _|exact Local.wr _ _|exact Local.drop _|exact Local.new _|exact Local.opt _|exact Local.bP _|exact Local.ask _|exact Local.eW _|exact Local.addrOf _|exact Local.dZ _ _|exact Local.fO _ _|exact Local.zeroV _ _|exact Local.bO _ _ _|exact Local.om|exact Local.tick|exact Local.emit _|refine Local.bind ?_ fun _=> ?_|split|unfold Sx.oM|unfold Sx.lO|unfold Sx.pG|unfold Sx.ky|unfold Sx.u9)
theorem Local.ji (P:Program) (t tx:TypeId) (n:Nat) (b:Value):Local (ji P t tx n b):=by
 unfold Sx.ji
 repeat' (first|exact Local.pure _|exact Local.fail|exact Local.rd _|exact Local.wr _ _|exact Local.drop _|exact Local.new _|exact Local.opt _|exact Local.bP _|exact Local.ask _|exact Local.eW _|exact Local.addrOf _|exact Local.dZ _ _|exact Local.fO _ _|exact Local.zeroV _ _|exact Local.bO _ _ _|refine Local.bind ?_ fun _=> ?_|split|unfold Sx.oM|unfold Sx.lO|unfold Sx.pG|unfold Sx.ky)
theorem Local.jU (P:Program) (t tx:TypeId) (a b:Value):Local (jU P t tx a b):=by
 unfold Sx.jU
 split
 · exact Local.ji _ _ _ _ _
 · exact Local.jh _ _ _ _ _
theorem Local.jI (k:IntKind) (a:Int):∀(es:List (Value×Value)) (i:Nat),Local (jI k a es i)
 | [],_=>Local.pure _
 |(kx,vx)::es,i=>by
  cases kx <;> unfold Sx.jI <;> try exact Local.fail
  split
  · refine Local.bind (Local.ask _) fun t=> ?_
    cases t
    · exact Local.jI k a es (i+1)
    · exact Local.pure _
  · exact Local.fail
theorem Local.kA (k:IntKind) (a:Int) (es:List (Value×Value)):Local (kA k a es):=by
 unfold Sx.kA
 refine Local.bind Local.om fun q=> ?_
 split
 · refine Local.bind Local.tick fun _=> ?_
   split
   · exact Local.bind (Local.emit _) fun _=>Local.pure _
   · exact Local.bind (Local.emit _) fun _=>Local.pure _
   · exact Local.fail
 · exact Local.jI _ _ _ _
theorem Local.jN (P:Program) (t:TypeId) (a b:Value) (ok:Bool):Local (jN P t a b ok):=by
 unfold Sx.jN
 repeat' (first|exact Local.pure _|exact Local.fail|exact Local.rd _|exact Local.wr _ _|exact Local.drop _|exact Local.new _|exact Local.opt _|exact Local.bP _|exact Local.ask _|exact Local.eW _|exact Local.addrOf _|exact Local.dZ _ _|exact Local.fO _ _|exact Local.zeroV _ _|exact Local.bO _ _ _|exact Local.kA _ _ _|exact Local.jI _ _ _ _|refine Local.bind ?_ fun _=> ?_|split|unfold Sx.mapOf)
theorem Local.gY (P:Program) (t:TypeId) (a b c:Value):Local (gY P t a b c):=by
 unfold Sx.gY
 repeat' (first|exact Local.pure _|exact Local.fail|exact Local.rd _|exact Local.wr _ _|exact Local.drop _|exact Local.new _|exact Local.opt _|exact Local.bP _|exact Local.ask _|exact Local.eW _|exact Local.addrOf _|exact Local.dZ _ _|exact Local.fO _ _|exact Local.zeroV _ _|exact Local.bO _ _ _|exact Local.kA _ _ _|exact Local.jI _ _ _ _|refine Local.bind ?_ fun _=> ?_|split|unfold Sx.mapOf)
theorem Local.jX (P:Program) (t:TypeId) (a b:Value):Local (jX P t a b):=by
 unfold Sx.jX
 repeat' (first|exact Local.pure _|exact Local.fail|exact Local.rd _|exact Local.wr _ _|exact Local.drop _|exact Local.new _|exact Local.opt _|exact Local.bP _|exact Local.ask _|exact Local.eW _|exact Local.addrOf _|exact Local.dZ _ _|exact Local.fO _ _|exact Local.zeroV _ _|exact Local.bO _ _ _|exact Local.kA _ _ _|exact Local.jI _ _ _ _|refine Local.bind ?_ fun _=> ?_|split|unfold Sx.mapOf)
theorem Local.c9 (P:Program) (T:List Value) (o:Oper):Local (c9 P T o):=by
 unfold Sx.c9 Sx.val Sx.unit
 repeat' (first|exact Local.pure _|exact Local.fail|exact Local.rd _|exact Local.wr _ _|exact Local.drop _|exact Local.new _|exact Local.opt _|exact Local.bP _|exact Local.ask _|exact Local.eW _|exact Local.addrOf _|exact Local.dZ _ _|exact Local.fO _ _|exact Local.zeroV _ _|exact Local.bO _ _ _|exact Local.mV _ _ _|exact Local.jd _ _ _|exact Local.lh _ _ _ _|exact Local.lq _ _ _|exact Local.gk _ _ _ _|exact Local.gT _ _ _ _|exact Local.kX _ _ _ _|exact Local.gQ _ _ _ _|exact Local.lr _ _ _ _|exact Local.qo _ _ _|exact Local.hJ _ _ _ _|exact Local.lk _ _ _ _ _ _|exact Local.jU _ _ _ _ _|exact Local.jN _ _ _ _ _|exact Local.gY _ _ _ _ _|exact Local.jX _ _ _ _|exact Local.ly _ _|exact Local.oh _|exact Local.nF _ _ _|refine Local.bind ?_ fun _=> ?_|split|unfold Sx.oQ Sx.val Sx.nothing|unfold Sx.z8|unfold Sx.rL)
end
end Go.Sx
