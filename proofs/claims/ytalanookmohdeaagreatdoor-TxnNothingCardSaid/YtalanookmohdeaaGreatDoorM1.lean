/- TxnNothing: the symbolic executor. No condition. -/
import Derived.Deep.AppendSrc
import Derived.Deep.Upon
import Derived.Laws.MakeOwn
import Derived.Room.Entries
import Derived.Test.YtalanookmohdeaaGreatDoorM0
namespace Go.Sx
def pJ (r:Env):jm→Next→Prop
 | .val v,.value u=>Rel r v u
 | .unit,.skip=>True
 | .call f args,.enter g asZ=>f=g∧aw r args asZ.toList
 |_,_=>False
structure aN (P:Program) (r:Env) (ow:Nat→Option Nat) (w:World) (s:St) (r':Env) (ow':Nat→Option Nat) (w':World) (s':St):Prop where
 le:r.Le r'
 sat:Sat P r' ow' s'.h w'
 frame:Frame ow w ow' w'
 new:fI r r' s.c s'.c
 mono:s.c≤s'.c
 own:∀b n,ow' b=some n→(∃b',ow b'=some n)∨(s.c≤n∧n < s'.c)
theorem aN.trans {P:Program}{r r1 r2:Env}{o o1 o2:Nat→Option Nat}{w w1 w2:World}{s s1 s2:St} (h:aN P r o w s r1 o1 w1 s1) (k:aN P r1 o1 w1 s1 r2 o2 w2 s2):aN P r o w s r2 o2 w2 s2:=
 ⟨h.le.trans k.le,k.sat,h.frame.trans k.frame,h.new.trans k.new h.mono k.mono,Nat.le_trans h.mono k.mono,fun b n e=>by
  have h1:=h.mono
  have h2:=k.mono
  rcases k.own b n e with⟨b',e'⟩|⟨e1,e2⟩
  · rcases h.own b' n e' with x|⟨e1,e2⟩
    · exact .inl x
    · exact .inr ⟨e1,by omega⟩
  · exact .inr ⟨by omega,e2⟩⟩
theorem aN.calm {P:Program}{r:Env}{o:Nat→Option Nat}{w:World}{s s':St} (hs:Sat P r o s.h w) (hc:Calm s s'):aN P r o w s r o w s':=
 ⟨Env.Le.refl _,by rw [hc.h];exact hs,Frame.refl _ _,fI.refl _ _ _,Nat.le_of_eq hc.c.symm,fun b n e=> .inl ⟨b,e⟩⟩
def jx (P:Program) (x:X Value) (A:Env→Sem Value→Prop):Prop:=
 ∀d s v s',x d s=some (v,s')→(aW s'.V→aW s.V)∧(aW s'.V→∀r ow w m,Sat P r ow s.h w→bF r s.c s'.c→A r m→
  ∃r' ow' u w',m.run P w= .ok u w'∧aN P r ow w s r' ow' w' s'∧Rel r' v u)
def zq (P:Program) (x:X Unit) (A:Env→Sem Unit→Prop):Prop:=
 ∀d s v s',x d s=some (v,s')→(aW s'.V→aW s.V)∧(aW s'.V→∀r ow w m,Sat P r ow s.h w→bF r s.c s'.c→A r m→
  ∃r' ow' w',m.run P w= .ok () w'∧aN P r ow w s r' ow' w' s')
theorem Rel.Dl {r:Env}{n off:Nat}{u:Value} (h:Rel r (.pointer (some ⟨n,off,none⟩)) u):∃b,u= .pointer (some ⟨b,off,none⟩)∧r.blk n=some b:=by
 cases h with|ptr hb=>exact⟨_,rfl,hb⟩
theorem Rel.Jq {r:Env}:∀ {z:Value},iz (du z)=true→mZ z=false→Rel r z z
 | .agg cs,h,_=> .agg rfl (fun i h1 h2=>by
   have ha:aw r cs.toList cs.toList:=kH h
   obtain⟨y,e,hy⟩:=ha.get i cs[i] (by simp)
   have:cs[i]=y:=by simpa [h1] using e
   rw [←this] at hy;exact hy)
 | .bool _,h,_| .int _ _,h,_| .float _ _,h,_| .complex _ _ _,h,_| .string _,h,_| .pointer _,h,_| .slice _ _ _,h,_| .map _,h,_| .func _ _ _,h,_| .nilFunc,h,_| .iface _ _,h,_| .nilIface,h,_| .tuple _,h,_=>by
  have ha:=kH (r:=r) h
  cases ha with|cons hx _=>exact hx
 | .chan _,_,h=>by simp [mZ] at h
theorem Rel.Hd {r:Env}{n off:Nat}{sp:Option Nat}{u:Value} (h:Rel r (.pointer (some ⟨n,off,sp⟩)) u):
  ∃b,u= .pointer (some ⟨b,off,none⟩)∧∀o,Rel r (.pointer (some ⟨n,o,sp⟩)) (.pointer (some ⟨b,o,none⟩)):=by
 cases h with
 |ptr hb=>exact⟨_,rfl,fun o=> .ptr hb⟩
 |litPtr=>exact⟨_,rfl,fun o=> .litPtr⟩
theorem Dr {w:World}{b:Nat} (r:Env):∀(vs:List Value) (off:Nat) (_:∀(j:Nat) (v:Value),vs[j]? =some v→∃u,w.cell? ⟨b,off+j,none⟩=some u∧∀r:Env,Rel r v u),
  ∃us:List Value,aw r vs us∧∀(j:Nat) (v:Value),us[j]? =some v→w.cell? ⟨b,off+j,none⟩=some v
 | [],off,_=>⟨[],.nil,fun j v h=>by simp at h⟩
 |x::vs,off,h=>by
  obtain⟨u,h1,h2⟩:=h 0 x rfl
  obtain⟨us,h3,h4⟩:=Dr r vs (off+1) fun j v e=>by
   obtain⟨u,e1,e2⟩:=h (j+1) v e
   exact⟨u,by rw [show off+1+j=off+(j+1) by omega];exact e1,e2⟩
  refine⟨u::us,.cons (h2 r) h3,fun j v e=> ?_⟩
  cases j with
  |zero=>simp at e;subst e;exact h1
  |succ j=>rw [show off+(j+1)=off+1+j by omega];exact h4 j v (by simpa using e)
theorem wY {P:Program}{w0 w:World}{b:Nat} (hw:w.heap[b]? =w0.heap[b]?) {vs:List Value}{off:Nat} (h:∀(j:Nat) (v:Value),vs[j]? =some v→∃u,w0.cell? ⟨b,off+j,none⟩=some u∧∀r:Env,Rel r v u) (r:Env):
  ∃us:List Value,(loadCells ⟨b,off,none⟩ vs.length).run P w= .ok ⟨us⟩ w∧aw r vs us∧(∀v,vs= [v]→∃u,us= [u]∧w.cell? ⟨b,off,none⟩=some u):=by
 have hcell:∀o,w.cell? ⟨b,o,none⟩=w0.cell? ⟨b,o,none⟩:=fun o=>by simp [World.cell?,hw]
 obtain⟨us,h1,h2⟩:=Dr (w:=w) (b:=b) r vs off fun j v e=>by rw [hcell];exact h j v e
 refine⟨us,?_,h1,fun v hv=> ?_⟩
 · rw [h1.length]
   have hadd:∀j,(⟨b,off,none⟩:Addr).add j=⟨b,off+j,none⟩:=fun j=>by
    unfold Addr.add
    split
    · rename_i e;subst e;rfl
    · rfl
   exact run_loadCells_list (P:=P) (w:=w) ⟨b,off,none⟩ us (fun j v e=>by rw [hadd];exact h2 j v e)
 · subst hv
   cases h1 with
   | @cons _ u _ _ _ ht=>
    cases ht
    exact⟨u,rfl,by simpa using h2 0 u rfl⟩
theorem Co {P:Program}{t:TypeId}{b off k:Nat}{v:Value}{d:bj}{s s':St} (h:kZ P t b off k d s=some (v,s')):
  Calm s s'∧(aW s'.V→∀(r:Env) (ow:Nat→Option Nat) (w:World),Sat P r ow s.h w→∃y,(loadVar t ⟨b,off,none⟩).run P w= .ok y w∧Rel r v y):=by
 unfold kZ at h
 obtain⟨g,s2,h3,h4⟩:=bind_some h
 obtain⟨⟨D,hD,rfl⟩,rfl⟩:=qz h3
 cases hg:lW D with
 |true=>
  simp only [hg] at h4
  obtain⟨sz,s3,h5,h6⟩:=bind_some h4
  obtain⟨⟨i,hi,rfl⟩,rfl⟩:=ik h5
  obtain⟨vs,s4,h7,h8⟩:=bind_some h6
  obtain⟨rfl,rfl⟩:=au h8
  obtain⟨cm,w0,hgt,hv⟩:=z7 h7
  refine⟨cm,fun hV r ow w hs=> ?_⟩
  obtain⟨e1,e2⟩:=hv hV
  obtain⟨us,hrun,hrel,_⟩:=wY (P:=P) (hgt hV P r ow w hs) e1 r
  refine⟨.agg ⟨us⟩,?_,hrel.kL⟩
  rw [e2] at hrun
  simp [loadVar,ga hD,hg,ew hi,hrun]
 |false=>
  simp only [hg] at h4
  obtain⟨vs,s4,h7,h8⟩:=bind_some h4
  split at h8
  · rename_i x0
    obtain⟨rfl,rfl⟩:=au h8
    obtain⟨cm,w0,hgt,hv⟩:=z7 h7
    refine⟨cm,fun hV r ow w hs=> ?_⟩
    obtain⟨e1,e2⟩:=hv hV
    obtain⟨us,hrun,hrel,hone⟩:=wY (P:=P) (hgt hV P r ow w hs) e1 r
    obtain⟨u,rfl,hu⟩:=hone _ rfl
    cases hrel with
    |cons hx _=>
     refine⟨u,?_,hx⟩
     simp [loadVar,ga hD,hg,hu]
  · simp [X.fail] at h8
theorem G4 (P:Program) (t:TypeId) (a:Value):jx P (jw P t a) (fun r m=>∃u,Rel r a u∧m=Instr.loadAt t u):=by
 intro d s v s' h
 unfold jw at h
 obtain⟨p,s1,h1,h2⟩:=bind_some h
 obtain⟨rfl,rfl⟩:=oG h1
 obtain⟨g,s2,h3,h4⟩:=bind_some h2
 obtain⟨⟨D,hD,rfl⟩,rfl⟩:=qz h3
 cases hg:lW D with
 |true=>
  simp only [hg] at h4
  obtain⟨sz,s3,h5,h6⟩:=bind_some h4
  obtain⟨⟨i,hi,rfl⟩,rfl⟩:=ik h5
  obtain⟨vs,s4,h7,h8⟩:=bind_some h6
  obtain⟨rfl,rfl⟩:=au h8
  obtain⟨cm,l,t0,hgt,hv⟩:=gK h7
  refine⟨cm.V,fun hV r ow w m hs _ ⟨u,hu,hm⟩=> ?_⟩
  obtain⟨e1,e2⟩:=hv hV
  cases hu with
  |ptr hb=>
   obtain⟨us,hrun,hrel⟩:=lA hs hb hgt (by rw [e2];exact e1)
   refine⟨r,ow,.agg ⟨us⟩,w,?_,aN.calm hs cm,hrel.kL⟩
   rw [e2] at hrun
   subst hm
   simp [Instr.loadAt,Instr.sureAddr,loadVar,ga hD,hg,ew hi,hrun]
 |false=>
  simp only [hg] at h4
  obtain⟨vs,s4,h7,h8⟩:=bind_some h4
  split at h8
  · rename_i x0
    obtain⟨rfl,rfl⟩:=au h8
    obtain⟨cm,l,t0,hgt,hv⟩:=gK h7
    refine⟨cm.V,fun hV r ow w m hs _ ⟨u,hu,hm⟩=> ?_⟩
    obtain⟨e1,e2⟩:=hv hV
    obtain⟨b,rfl,hb⟩:=hu.Dl
    obtain⟨us,hrun,hrel⟩:=lA hs hb hgt (vs:= [x0]) (by simpa using e1)
    cases hrel with
    | @cons _ y _ ys hx ht=>
     cases ht
     refine⟨r,ow,y,w,?_,aN.calm hs cm,hx⟩
     subst hm
     have h10:w.cell? ⟨b,p.2,none⟩=some y:=by
      obtain⟨b',c,q1,q2,q3,q4,q5,q6⟩:=hs.chunk _ _ hgt
      have hbb:b'=b:=by rw [hb] at q1;exact(Option.some.inj q1).symm
      subst hbb
      have hl:p.2 < l.length:=by
       have:=congrArg List.length e1
       simp at this;omega
      have hc:w.cell? ⟨b',p.2,none⟩=some c[p.2]:=by rw [cell_of q3];simp [Nat.lt_of_lt_of_le hl q5]
      have hrun':=hrun
      simp only [loadCells,loadCellsFrom,List.length_cons,List.length_nil,Sem.run_bind,run_load,Addr.add_zero',hc] at hrun'
      simp at hrun'
      rw [hc,hrun']
     simp [Instr.loadAt,Instr.sureAddr,loadVar,ga hD,hg,h10]
  · simp [X.fail] at h8
theorem HG (P:Program) (t:TypeId) (a:Value):jx P (jd P t a) (fun r m=>∃u,Rel r a u∧m=Instr.loadAt t u):=by
 unfold jd
 split
 · rename_i b off k
   intro d s v s' h
   obtain⟨cm,g⟩:=Co h
   refine⟨cm.V,fun hV r ow w m hs _ ⟨u,hu,hm⟩=> ?_⟩
   obtain⟨y,hy,hr⟩:=g hV r ow w hs
   cases hu
   refine⟨r,ow,y,w,?_,aN.calm hs cm,hr⟩
   subst hm
   simpa [Instr.loadAt,Instr.sureAddr] using hy
 · exact G4 P t a
theorem EL (P:Program) (t:TypeId) (a x:Value):zq P (jM P t a x) (fun r m=>∃u y,Rel r a u∧Rel r x y∧m=Instr.storeAt t u y):=by
 intro d s v s' h
 unfold jM at h
 obtain⟨p,s1,h1,h2⟩:=bind_some h
 obtain⟨rfl,rfl⟩:=oG h1
 obtain⟨sz,s3,h5,h6⟩:=bind_some h2
 obtain⟨⟨i,hi,rfl⟩,rfl⟩:=ik h5
 obtain⟨_,s4,h7,h8⟩:=bind_some h6
 obtain⟨ho,rfl⟩:=b7 h7
 obtain⟨_,s5,h9,h10⟩:=bind_some h8
 obtain⟨hl,rfl⟩:=b7 h9
 obtain⟨_,s6,h11,h12⟩:=bind_some h10
 obtain⟨hc,rfl⟩:=b7 h11
 obtain⟨c,s7,h13,h14⟩:=bind_some h12
 obtain⟨hg,cm⟩:=iW h13
 split at h14
 · rename_i l t0
   obtain⟨_,s8,h15,h16⟩:=bind_some h14
   obtain⟨cm2,hk⟩:=eY h15
   obtain⟨_,rfl⟩:=lf h16
   refine⟨fun hV=>cm.V (cm2.V hV),fun hV r ow w m hs _ ⟨u,y,hu,hy,hm⟩=> ?_⟩
   have hfit:=sa (hk hV)
   have hl':=Nat.eq_of_beq_eq_true hl
   have hcells:=hy.rB (by simpa using ho)
   cases hu with
   |ptr hb=>
    obtain⟨w',hrun,hsat,hfr⟩:=wO hs hb hg hcells (fun x u hx hr=>hr.sl (List.all_eq_true.1 hc x hx)) (by rw [hl'];exact hfit)
    refine⟨r,ow,w',?_,⟨Env.Le.refl _,?_,hfr,fI.refl _ _ _,?_,fun b n e=> .inl ⟨b,e⟩⟩⟩
    · subst hm
      have hsz:y.cells.size=i.size:=by
       have:=hcells.length
       rw [←Array.length_toList,gU,←this,hl']
      simp [Instr.storeAt,Instr.sureAddr,storeVar,ew hi,hsz,gU,hrun]
    · show Sat P r ow (s8.h.put _ _) w'
      rw [cm2.h,cm.h];exact hsat
    · show _≤s8.c
      rw [cm2.c,cm.c];exact Nat.le_refl _
 · simp [X.fail] at h14
theorem En (P:Program) (t:TypeId) (a:Value) (n:Nat):zq P (jR P t a n) (fun r m=>∃u y,Rel r a u∧Rel r (.chan (some n)) y∧m=Instr.storeAt t u y):=by
 intro d s v s' h
 unfold jR at h
 obtain⟨p,s1,h1,h2⟩:=bind_some h
 obtain⟨rfl,rfl⟩:=oG h1
 obtain⟨sz,s3,h5,h6⟩:=bind_some h2
 obtain⟨⟨i,hi,rfl⟩,rfl⟩:=ik h5
 obtain⟨_,s5,h9,h10⟩:=bind_some h6
 obtain⟨hl,rfl⟩:=b7 h9
 obtain⟨cb,s6,h11,h12⟩:=bind_some h10
 obtain⟨hgb,cmb⟩:=iW h11
 split at h12
 · rename_i eb mb
   obtain⟨c,s7,h13,h14⟩:=bind_some h12
   obtain⟨hg,cm⟩:=iW h13
   split at h14
   · rename_i l t0
     obtain⟨_,s8,h15,h16⟩:=bind_some h14
     obtain⟨cm2,hk⟩:=eY h15
     obtain⟨_,rfl⟩:=lf h16
     refine⟨fun hV=>cmb.V (cm.V (cm2.V hV)),fun hV r ow w m hs _ ⟨u,y,hu,hy,hm⟩=> ?_⟩
     have hfit:=sa (hk hV)
     have hl':=Nat.eq_of_beq_eq_true hl
     obtain⟨a0,l0,c0,g1,_,_⟩:=hs.chunk n _ hgb
     cases hy with
     |opq hy=>
     rw [g1] at hy
     cases hy
     have hcells:aw r [.chan (some n)] [.slice a0 l0 c0]:= .cons (.opq g1) .nil
     cases hu with
     |ptr hb=>
      obtain⟨w',hrun,hsat,hfr⟩:=wO hs hb (by rw [←cmb.h];exact hg) hcells (fun x u hx hr=>by
       rw [List.mem_singleton] at hx
       subst hx
       cases hr with
       |opq hr=>rw [g1] at hr;cases hr;exact⟨fun _=>by simp,fun _=>by simp⟩) (by simpa using hfit)
      refine⟨r,ow,w',?_,⟨Env.Le.refl _,?_,hfr,fI.refl _ _ _,?_,fun b n e=> .inl ⟨b,e⟩⟩⟩
      · subst hm
        simp [Instr.storeAt,Instr.sureAddr,storeVar,ew hi,hl',Value.cells,hrun]
      · show Sat P r ow (s8.h.put _ _) w'
        rw [cm2.h,cm.h,cmb.h];exact hsat
      · show _≤s8.c
        rw [cm2.c,cm.c,cmb.c];exact Nat.le_refl _
   · simp [X.fail] at h14
 · simp [X.fail] at h12
theorem FY (P:Program) (t:TypeId) (a x:Value):zq P (lh P t a x) (fun r m=>∃u y,Rel r a u∧Rel r x y∧m=Instr.storeAt t u y):=by
 unfold lh
 split
 · exact En P t a _
 · exact EL P t a x
theorem lg {ow:Nat→Option Nat}{k c:Nat}:∀b n,own ow k c b=some n→(∃b',ow b'=some n)∨(c≤n∧n < c+1):=by
 intro b n e
 unfold own at e
 split at e
 · cases e;exact .inr ⟨Nat.le_refl _,Nat.lt_succ_self _⟩
 · exact .inl ⟨b,e⟩
theorem nP {P:Program}{r:Env}{ow:Nat→Option Nat}{w:World}{s:St}{l cs:List Value}{t:TypeId}{k:Nat} (hs:Sat P r ow s.h w) (hf:bF r s.c (s.c+1)) (hl:aw r l (cs.take l.length)) (hle:l.length≤cs.length)
  (hk:cs.length=k*P.cellsOf t) (R W:List Nat) (V:List VC) (kk:Nat):
  aN P r ow w s (r.bind s.c w.heap.size k) (own ow w.heap.size s.c) { w with heap:=w.heap.push (.cells ⟨cs⟩ t)} ⟨s.c+1,kk,s.h.put s.c (.cells l t),R,W,V⟩:=
 ⟨Env.gg (hf s.c (Nat.le_refl _) (Nat.lt_succ_self _)).1,hs.new (hf s.c (Nat.le_refl _) (Nat.lt_succ_self _)).1 hl hle hk,Frame.new _ _,fI.bind,Nat.le_succ _,lg⟩
theorem ld {r:Env}{l cs:List Value} (h:aw r l cs):aw r l (cs.take l.length):=by rw [h.length,List.take_length];exact h
theorem Cv (P:Program) (t:TypeId) (x:Value):jx P (mV P t x) (fun r m=>∃y,Rel r x y∧m=Instr.box t y):=by
 intro d s v s' h
 unfold mV at h
 obtain⟨sz,s3,h5,h6⟩:=bind_some h
 obtain⟨⟨i,hi,rfl⟩,rfl⟩:=ik h5
 obtain⟨_,s4,h7,h8⟩:=bind_some h6
 obtain⟨ho,rfl⟩:=b7 h7
 obtain⟨_,s5,h9,h10⟩:=bind_some h8
 obtain⟨hl,rfl⟩:=b7 h9
 obtain⟨n,s6,h11,h12⟩:=bind_some h10
 obtain⟨rfl,rfl⟩:=hU h11
 obtain⟨rfl,rfl⟩:=au h12
 refine⟨fun hV=>hV,fun hV r ow w m hs hf ⟨y,hy,hm⟩=> ?_⟩
 have hcells:=hy.rB (by simpa using ho)
 have hl':=Nat.eq_of_beq_eq_true hl
 have hp:=nP (P:=P) (s:=s) (t:=t) (k:=1) hs hf (ld hcells) (Nat.le_of_eq hcells.length) (by rw [←hcells.length,hl',eT hi,Nat.one_mul]) s.R (s.c::s.W) s.V s.k
 refine⟨_,_,.pointer (some ⟨w.heap.size,0,none⟩),_,?_,hp,.ptr (by simp [Env.bind])⟩
 subst hm
 have:y.cells=⟨du y⟩:=by rw [←gU]
 simp [Instr.box,newVar,newRow,this]
theorem G0 (P:Program) (t:TypeId):jx P (X.bind (zeroV P t) fun z=>mV P t z) (fun _ m=>m=Instr.alloc t true (.tuple #[])):=by
 intro d s v s' h
 obtain⟨z,s1,h1,h2⟩:=bind_some h
 obtain⟨⟨i,hi,hz⟩,hp,rfl⟩:=lZ h1
 obtain⟨g1,g2⟩:=Cv P t z d s v s' h2
 refine⟨g1,fun hV r ow w m hs hf hm=> ?_⟩
 have hzr:Rel r z z:=by
  unfold mV at h2
  obtain⟨_,_,q1,q2⟩:=bind_some h2
  obtain⟨_,rfl⟩:=ik q1
  obtain⟨_,_,q3,q4⟩:=bind_some q2
  obtain⟨ho,_⟩:=b7 q3
  exact Rel.Jq hp (by simpa using ho)
 obtain⟨r',ow',u,w',hrun,hpost,hrel⟩:=g2 hV r ow w _ hs hf ⟨z,hzr,rfl⟩
 refine⟨r',ow',u,w',?_,hpost,hrel⟩
 subst hm
 simpa [Instr.alloc,Instr.box,qh hi hz] using hrun
def kq (place:Nat→Option (Nat×Nat)):List Value→List (Nat×Value)→Option (List Value)
 |cells,[]=>some cells
 |cells,(i,v)::rest=>match place i with
  |some (off,size)=>match mZ v with
   |true=>none
   |false=>match Nat.beq (du v).length size with
    |false=>none
    |true=>match Nat.ble (off+size) cells.length with
     |false=>none
     |true=>kq place (aH cells off (du v)) rest
  |none=>none
inductive ua (r:Env):List (Nat×Value)→List (Nat×Value)→Prop
 |nil:ua r [] []
 |cons {i:Nat} {x y:Value} {xs ys:List (Nat×Value)} (h:Rel r x y) (t:ua r xs ys):ua r ((i,x)::xs) ((i,y)::ys)
theorem sP:∀(l:List Value) (k off:Nat) (cs:Array Value),
  ((l.zipIdx k).foldl (fun cs (x:Value×Nat)=>cs.setIfInBounds (off+x.2) x.1) cs)=⟨aH cs.toList (off+k) l⟩
 | [],k,off,cs=>rfl
 |v::l,k,off,cs=>by
  simp only [List.zipIdx_cons,List.foldl_cons,aH]
  rw [sP l (k+1) off]
  simp [Nat.add_assoc]
theorem zU (a:Array Value) (off:Nat) (cs:Array Value):(a.zipIdx.foldl (fun cs (x:Value×Nat)=>cs.setIfInBounds (off+x.2) x.1) cs)=⟨aH cs.toList off a.toList⟩:=by
 rw [←Array.foldl_toList,Array.toList_zipIdx,sP,Nat.add_zero]
theorem w6 {r:Env}{place:Nat→Option (Nat×Nat)}:∀ {ps qs:List (Nat×Value)}{l l' cs:List Value},ua r ps qs→aw r l cs→kq place l ps=some l'→
  ∃cs',Instr.fill place ⟨cs⟩ qs=some ⟨cs'⟩∧aw r l' cs':=by
 intro ps qs l l' cs hp
 induction hp generalizing l cs with
 |nil=>intro hl h;simp [kq] at h;subst h;exact⟨cs,rfl,hl⟩
 | @cons i x y xs ys hx t ih=>
  intro hl h
  simp only [kq] at h
  cases hpl:place i with
  |none=>simp [hpl] at h
  |some q=>
   obtain⟨off,size⟩:=q
   simp only [hpl] at h
   cases ho:mZ x with
   |true=>simp [ho] at h
   |false=>
    simp only [ho] at h
    cases hs:Nat.beq (du x).length size with
    |false=>simp [hs] at h
    |true=>
     simp only [hs] at h
     cases hb:Nat.ble (off+size) l.length with
     |false=>simp [hb] at h
     |true=>
      simp only [hb] at h
      have hc:=hx.rB ho
      have h1:=Nat.eq_of_beq_eq_true hs
      have h2:=Nat.le_of_ble_eq_true hb
      obtain⟨cs',e,hr⟩:=ih (uO hc off hl) h
      refine⟨cs',?_,hr⟩
      have hsz:y.cells.size=size:=by rw [←Array.length_toList,gU,←hc.length,h1]
      have hlen:off+y.cells.size≤(⟨cs⟩:Array Value).size:=by rw [hsz];show _≤cs.length;rw [←hl.length];exact h2
      simp only [Instr.fill,hpl]
      rw [if_neg (by simp [hsz];simpa [hsz] using hlen)]
      have:=zU y.cells off ⟨cs⟩
      rw [gU] at this
      rw [this];exact e
def su (P:Program) (fs:List Field) (i:Nat):Option (Nat×Nat):=match fs[i]? with
 |some f=>match P.info? f.type with
  |some j=>some (f.offset,j.size)
  |none=>none
 |none=>none
def lz (P:Program):List Field→Bool
 | []=>true
 |f::fs=>match P.info? f.type with
  |some _=>lz P fs
  |none=>false
theorem run_places {P:Program} (w:World):∀(fs:List Field),lz P fs=true→(fs.mapM (fun f=>do pure (f.offset,←sizeOf f.type):Field→Sem (Nat×Nat))).run P w= .ok (fs.map fun f=>(f.offset,P.cellsOf f.type)) w
 | [],_=>by simp
 |f::fs,h=>by
  simp only [lz] at h
  cases e:P.info? f.type with
  |none=>simp [e] at h
  |some j=>
   simp only [e] at h
   have ih:=run_places w fs h
   simp only [List.mapM_cons,Sem.run_bind,Sem.run_pure,ew e,Result.andThen_ok,List.map_cons,eT e]
   rw [ih];simp
def lq (P:Program) (t:TypeId) (ps:List (Nat×Value)):X Value:=X.bind (zeroV P t) fun z=>match P.underlying t with
 |some (.struct fs)=>match lz P fs.toList with
  |true=>match kq (su P fs.toList) (du z) ps with
   |some cs=>X.pure (.agg ⟨cs⟩)
   |none=>X.fail
  |false=>X.fail
 |_=>X.fail
theorem Fz (P:Program) (t:TypeId) (ps:List (Nat×Value)):jx P (lq P t ps) (fun r m=>∃qs,ua r ps qs∧m=Instr.build t ⟨qs⟩):=by
 intro d s v s' h
 unfold lq at h
 obtain⟨z,s1,h1,h2⟩:=bind_some h
 obtain⟨⟨i,hi,hz⟩,hp,rfl⟩:=lZ h1
 cases hD:P.underlying t with
 |none=>simp [hD,X.fail] at h2
 |some D=>
  cases D <;> simp only [hD] at h2 <;> try (simp [X.fail] at h2;done)
  rename_i fs
  cases hio:lz P fs.toList with
  |false=>simp [hio,X.fail] at h2
  |true=>
   simp only [hio] at h2
   cases hf:kq (su P fs.toList) (du z) ps with
   |none=>simp [hf,X.fail] at h2
   |some cs=>
    simp only [hf] at h2
    obtain⟨rfl,rfl⟩:=au h2
    refine⟨id,fun hV r ow w m hs hfr ⟨qs,hq,hm⟩=> ?_⟩
    obtain⟨cs',e,hr⟩:=w6 hq (kH (r:=r) hp) hf
    refine⟨r,ow,.agg ⟨cs'⟩,w,?_,aN.calm hs (Calm.refl _),hr.kL⟩
    subst hm
    have hpl:su P fs.toList=fun i=>(((fs.toList.map fun f=>(f.offset,P.cellsOf f.type)).toArray)[i]?):=by
     funext i
     unfold su
     simp only [List.getElem?_toArray,List.getElem?_map]
     cases hx:fs.toList[i]? with
     |none=>rfl
     |some f=>
      have:∀(l:List Field),lz P l=true→∀f∈l,∃j,P.info? f.type=some j:=by
       intro l
       induction l with
       |nil=>intro _ f hf;cases hf
       |cons g l ih=>
        intro hl f hf
        simp only [lz] at hl
        cases eg:P.info? g.type with
        |none=>simp [eg] at hl
        |some j=>
         simp only [eg] at hl
         rcases List.mem_cons.1 hf with rfl|hf
         · exact⟨j,eg⟩
         · exact ih hl f hf
      obtain⟨j,ej⟩:=this _ hio f (List.mem_of_getElem? hx)
      simp [ej,eT ej]
    have hzc:z.cells=⟨du z⟩:=by rw [←gU]
    have hrp:=run_places (P:=P) w fs.toList hio
    rw [hpl] at e
    have hmap:(fs.mapM (fun f=>do pure (f.offset,←sizeOf f.type):Field→Sem (Nat×Nat))).run P w= .ok ((fs.toList.map fun f=>(f.offset,P.cellsOf f.type)).toArray) w:=by
     rw [←Array.toArray_toList (xs:=fs),List.mapM_toArray]
     simp only [Sem.run_map,hrp,Result.andThen_ok]
    simp only [Instr.build,Sem.run_bind,qh hi hz,run_underlying hD,Result.andThen_ok,hmap,hzc,e]
    simp
section
section
variable {P:Program}
def D4 (zl:List Value) (m:Nat):Nat→Nat→List Value
 |0,_=> []
 |n+1,j=>zl.getD (j % m) default::D4 zl m n (j+1)
def ij (zl:List Value) (n:Nat):List Value:=D4 zl zl.length n 0
theorem Cr (zl:List Value) (m:Nat):∀n j,D4 zl m n j=(List.range' j n).map fun k=>zl.getD (k % m) default
 |0,_=>rfl
 |n+1,j=>by rw [D4,Cr zl m n (j+1),List.range'_succ,List.map_cons]
def eN (zl:List Value):Nat→List Value
 |0=> []
 |n+1=>zl++eN zl n
theorem gE (zl:List Value) (n:Nat):ij zl n=(List.range n).map fun j=>zl.getD (j % zl.length) default:=by
 rw [ij,Cr,List.range_eq_range']
theorem pZ (zl:List Value) (n:Nat):(ij zl n).length=n:=by rw [gE];simp
theorem Cm (zl:List Value):∀n,eN zl n=ij zl (n*zl.length)
 |0=>by simp [eN,gE]
 |n+1=>by
  rw [eN,Cm zl n,gE,gE,show(n+1)*zl.length=zl.length+n*zl.length by rw [Nat.succ_mul,Nat.add_comm],List.range_add,List.map_append,List.map_map]
  congr 1
  · apply List.ext_getElem
    · simp
    · intro i h1 h2
      have hi:i < zl.length:=h1
      simp [List.getD,Nat.mod_eq_of_lt hi,hi]
  · apply List.map_congr_left
    intro j _
    simp
theorem vj (z:Array Value) (n:Nat):((Array.range n).map fun j=>z[j % z.size]!)=⟨ij z.toList n⟩:=by
 apply Array.ext'
 simp only [gE,Array.toList_map,Array.toList_range]
 apply List.map_congr_left
 intro j _
 simp [List.getD]
 rw [getElem!_def]
 cases z[j % z.size]? <;> rfl
theorem w5 {r:Env}:∀ {l:List Value},iz l=true→∀v∈l,Rel r v v
 | [],_,v,hv=>by cases hv
 |x::l,h,v,hv=>by
  simp only [iz,Bool.and_eq_true] at h
  rcases List.mem_cons.1 hv with rfl|hv
  · exact oC h.1
  · exact w5 h.2 v hv
theorem wH {r:Env}:∀ {l:List Value},(∀v∈l,Rel r v v)→aw r l l
 | [],_=> .nil
 |x::l,h=> .cons (h x List.mem_cons_self) (wH fun v hv=>h v (List.mem_cons_of_mem _ hv))
theorem sY {r:Env}{zl:List Value} (h:iz zl=true) (n:Nat):aw r (ij zl n) (ij zl n):=by
 apply wH
 intro v hv
 rw [gE] at hv
 obtain⟨j,_,rfl⟩:=List.mem_map.1 hv
 rw [List.getD_eq_getElem?_getD]
 cases e:zl[j % zl.length]? with
 |none=>exact Rel.bool false
 |some x=>exact w5 h x (List.mem_of_getElem? e)
def gk (P:Program) (t:TypeId) (len:Nat) (ps:List (Nat×Value)):X Value:=match P.underlying t with
 |some (.slice e)=>X.bind (dZ P e) fun sz=>X.bind (bP (Nat.ble (len*sz) 16777216)) fun _=>match Nat.beq (len*sz) 0 with
  |true=>match ps with
   | []=>X.bind (ky e []) fun n=>X.pure (.slice (some ⟨n,0,none⟩) len 0)
   |_=>X.fail
  |false=>X.bind (zeroV P e) fun z=>match kq (fun i=>some (i*sz,sz)) (ij (du z) (len*sz)) ps with
   |some cs=>X.bind (ky e cs) fun n=>X.pure (.slice (some ⟨n,0,none⟩) len 0)
   |none=>X.fail
 |_=>X.fail
theorem rS {place:Nat→Option (Nat×Nat)}:∀ {ps:List (Nat×Value)}{l l':List Value},kq place l ps=some l'→l'.length=l.length
 | [],_,l',h=>by simp [kq] at h;subst h;rfl
 |(i,v)::ps,l,l',h=>by
  simp only [kq] at h
  split at h
  · split at h
    · cases h
    · split at h
      · cases h
      · split at h
        · cases h
        · rw [rS h,cJ]
  · cases h
theorem v8 (t:TypeId) (len:Nat) (ps:List (Nat×Value)):jx P (gk P t len ps) (fun r m=>∃qs,ua r ps qs∧m=Instr.buildSlice t len ⟨qs⟩):=by
 intro d s v s' h
 unfold gk at h
 cases hD:P.underlying t with
 |none=>simp [hD,X.fail] at h
 |some D=>
  cases D <;> simp only [hD] at h <;> try (simp [X.fail] at h;done)
  rename_i e
  obtain⟨sz,s1,h1,h2⟩:=bind_some h
  obtain⟨⟨i,hi,rfl⟩,rfl⟩:=ik h1
  obtain⟨_,s2,h3,h4⟩:=bind_some h2
  obtain⟨hfit,rfl⟩:=b7 h3
  have hfit':=Nat.le_of_ble_eq_true hfit
  have hfit2:¬(16777216 < len*i.size):=by omega
  cases hz0:Nat.beq (len*i.size) 0 with
  |true=>
   have h0:=Nat.eq_of_beq_eq_true hz0
   simp only [hz0] at h4
   cases ps with
   |cons _ _=>simp [X.fail] at h4
   |nil=>
    obtain⟨n,s3,h5,h6⟩:=bind_some h4
    obtain⟨rfl,rfl⟩:=hU h5
    obtain⟨rfl,rfl⟩:=au h6
    refine⟨id,fun hV r ow w m hs hf ⟨qs,hq,hm⟩=> ?_⟩
    cases hq
    have hp:=nP (P:=P) (s:=s) (t:=e) (k:=len) (l:= []) (cs:= []) hs hf .nil (Nat.le_refl _) (by rw [eT hi,h0];rfl) s.R (s.c::s.W) s.V s.k
    refine⟨_,_,.slice (some ⟨w.heap.size,0,none⟩) len len,_,?_,hp,.slice (by simp [Env.bind]) (.inl rfl) (Nat.le_refl _) (fun _=>⟨rfl,rfl,by simp [Env.bind]⟩) (fun _=>rfl)⟩
    subst hm
    simp [Instr.buildSlice,run_underlying hD,ew hi,h0,Instr.fill,newRow,Array.range_zero']
  |false=>
   have h0:=Nat.ne_of_beq_eq_false hz0
   simp only [hz0] at h4
   obtain⟨z,s3,h5,h6⟩:=bind_some h4
   obtain⟨⟨i',hi',hz⟩,hp,rfl⟩:=lZ h5
   obtain rfl:i=i':=by rw [hi] at hi';exact Option.some.inj hi'
   cases hf:kq (fun j=>some (j*i.size,i.size)) (ij (du z) (len*i.size)) ps with
   |none=>simp [hf,X.fail] at h6
   |some cs=>
    simp only [hf] at h6
    obtain⟨n,s4,h7,h8⟩:=bind_some h6
    obtain⟨rfl,rfl⟩:=hU h7
    obtain⟨rfl,rfl⟩:=au h8
    refine⟨id,fun hV r ow w m hs hfr ⟨qs,hq,hm⟩=> ?_⟩
    obtain⟨cs',he,hr⟩:=w6 hq (sY (r:=r) hp (len*i.size)) hf
    have hlen:cs.length=len*i.size:=by rw [rS hf];simp [pZ]
    have hpost:=nP (P:=P) (s:=s) (t:=e) (k:=len) hs hfr (ld hr) (Nat.le_of_eq hr.length) (by rw [←hr.length,hlen,eT hi]) s.R (s.c::s.W) s.V s.k
    refine⟨_,_,.slice (some ⟨w.heap.size,0,none⟩) len len,_,?_,hpost,.slice (by simp [Env.bind]) (.inl rfl) (Nat.le_refl _) (fun _=>⟨rfl,rfl,by simp [Env.bind]⟩) (fun _=>rfl)⟩
    subst hm
    have hzc:z.cells.toList=du z:=gU z
    have h1:=vj z.cells (len*i.size)
    rw [hzc] at h1
    simp only [Instr.buildSlice,Sem.run_bind,run_underlying hD,ew hi,Result.andThen_ok]
    simp [hfit2,h0,qh hi hz,h1,he,newRow]
def placeOf:Value→X (Nat×Nat×Option Nat)
 | .pointer (some ⟨n,off,sp⟩)=>X.pure (n,off,sp)
 |_=>X.fail
theorem Local.placeOf (v:Value):Local (placeOf v):=by unfold Sx.placeOf;split;exact Local.pure _;exact Local.fail
theorem Fq {v:Value}{p:Nat×Nat×Option Nat}{d:bj}{s s':St} (h:placeOf v d s=some (p,s')):v= .pointer (some ⟨p.1,p.2.1,p.2.2⟩)∧s=s':=by
 unfold placeOf at h
 split at h
 · obtain⟨rfl,rfl⟩:=au h;exact⟨rfl,rfl⟩
 · simp [X.fail] at h
def gT (P:Program) (t:TypeId) (a:Value) (i:Nat):X Value:=X.bind (placeOf a) fun p=>match P.underlying t with
 |some (.struct fs)=>match fs.toList[i]? with
  |some f=>match P.info? f.type with
   |some j=>match Nat.beq j.size 0 with
    |false=>X.pure (.pointer (some ⟨p.1,p.2.1+f.offset,p.2.2⟩))
    |true=>X.fail
   |none=>X.fail
  |none=>X.fail
 |_=>X.fail
theorem xS (t:TypeId) (a:Value) (i:Nat):jx P (gT P t a i) (fun r m=>∃u,Rel r a u∧m=Instr.fieldAt t u i):=by
 intro d s v s' h
 unfold gT at h
 obtain⟨p,s1,h1,h2⟩:=bind_some h
 obtain⟨rfl,rfl⟩:=Fq h1
 cases hD:P.underlying t with
 |none=>simp [hD,X.fail] at h2
 |some D=>
  cases D <;> simp only [hD] at h2 <;> try (simp [X.fail] at h2;done)
  rename_i fs
  cases hf:fs.toList[i]? with
  |none=>simp [hf,X.fail] at h2
  |some f=>
   simp only [hf] at h2
   cases hj:P.info? f.type with
   |none=>simp [hj,X.fail] at h2
   |some j=>
    simp only [hj] at h2
    cases hz:Nat.beq j.size 0 with
    |true=>simp [hz,X.fail] at h2
    |false=>
     simp only [hz] at h2
     obtain⟨rfl,rfl⟩:=au h2
     refine⟨id,fun hV r ow w m hs hfr ⟨u,hu,hm⟩=> ?_⟩
     obtain⟨b,rfl,hb⟩:=hu.Hd
     refine⟨r,ow,.pointer (some ⟨b,p.2.1+f.offset,none⟩),w,?_,aN.calm hs (Calm.refl _),hb _⟩
     subst hm
     have hne:=Nat.ne_of_beq_eq_false hz
     have hf':fs[i]? =some f:=by rw [←hf];simp
     simp [Instr.fieldAt,run_underlying hD,hf',Instr.sureAddr,fieldPlace,ew hj,hne,kj]
def kX (P:Program) (t:TypeId) (x:Value) (i:Nat):X Value:=match x with
 | .agg xs=>match P.underlying t with
  |some (.struct fs)=>match fs.toList[i]? with
   |some f=>X.bind (fO P f.type) fun g=>match g with
    |true=>X.bind (dZ P f.type) fun sz=>X.pure (.agg ⟨(xs.toList.drop f.offset).take sz⟩)
    |false=>opt xs.toList[f.offset]?
   |none=>X.fail
  |_=>X.fail
 |_=>X.fail
theorem extract_drop (cs:Array Value) (off n:Nat):cs.extract off (off+n)=⟨(cs.toList.drop off).take n⟩:=by
 apply Array.ext'
 simp [Array.toList_extract,List.extract]
theorem FO (t:TypeId) (x:Value) (i:Nat):jx P (kX P t x i) (fun r m=>∃u,Rel r x u∧m=Instr.field t u i):=by
 intro d s v s' h
 unfold kX at h
 cases x <;> try (simp [X.fail] at h;done)
 rename_i xs
 simp only at h
 cases hD:P.underlying t with
 |none=>simp [hD,X.fail] at h
 |some D=>
  cases D <;> simp only [hD] at h <;> try (simp [X.fail] at h;done)
  rename_i fs
  cases hf:fs.toList[i]? with
  |none=>simp [hf,X.fail] at h
  |some f=>
   simp only [hf] at h
   obtain⟨g,s1,h1,h2⟩:=bind_some h
   obtain⟨⟨E,hE,rfl⟩,rfl⟩:=qz h1
   have hf':fs[i]? =some f:=by rw [←hf];simp
   cases hg:lW E with
   |true=>
    simp only [hg] at h2
    obtain⟨sz,s2,h3,h4⟩:=bind_some h2
    obtain⟨⟨j,hj,rfl⟩,rfl⟩:=ik h3
    obtain⟨rfl,rfl⟩:=au h4
    refine⟨id,fun hV r ow w m hs hfr ⟨u,hu,hm⟩=> ?_⟩
    obtain⟨us,rfl,hr⟩:=hu.j3
    refine⟨r,ow,.agg ⟨(us.toList.drop f.offset).take j.size⟩,w,?_,aN.calm hs (Calm.refl _),((hr.drop _).take _).kL⟩
    subst hm
    simp [Instr.field,run_underlying hD,hf',asAgg,part,ga hE,hg,ew hj,extract_drop]
   |false=>
    simp only [hg] at h2
    obtain⟨he,rfl⟩:=gR h2
    refine⟨id,fun hV r ow w m hs hfr ⟨u,hu,hm⟩=> ?_⟩
    obtain⟨us,rfl,hr⟩:=hu.j3
    obtain⟨y,ey,hy⟩:=hr.get _ _ he
    refine⟨r,ow,y,w,?_,aN.calm hs (Calm.refl _),hy⟩
    subst hm
    have ey':us[f.offset]? =some y:=by rw [←ey];simp
    simp [Instr.field,run_underlying hD,hf',asAgg,part,ga hE,hg,ey']
def gQ (P:Program) (t:TypeId) (x ix:Value):X Value:=match x,ix with
 | .slice (some ⟨n,off,sp⟩) l _,.int _ i=>match P.underlying t with
  |some (.slice e)=>X.bind (eW (decide (0≤i∧i < (l:Int)))) fun _=>X.bind (dZ P e) fun sz=>X.pure (.pointer (some ⟨n,off+i.toNat*sz,sp⟩))
  |_=>X.fail
 |_,_=>X.fail
theorem xt (t:TypeId) (x ix:Value):jx P (gQ P t x ix) (fun r m=>∃u y,Rel r x u∧Rel r ix y∧m=Instr.indexAt t u y):=by
 intro d s v s' h
 unfold gQ at h
 split at h
 · rename_i n off sp l mk k i
   cases hD:P.underlying t with
   |none=>simp [hD,X.fail] at h
   |some D=>
    cases D <;> simp only [hD] at h <;> try (simp [X.fail] at h;done)
    rename_i e
    obtain⟨_,s1,h1,h2⟩:=bind_some h
    obtain⟨cm,hk⟩:=eY h1
    obtain⟨sz,s2,h3,h4⟩:=bind_some h2
    obtain⟨⟨j,hj,rfl⟩,rfl⟩:=ik h3
    obtain⟨rfl,rfl⟩:=au h4
    refine⟨cm.V,fun hV r ow w m hs hfr ⟨u,y,hu,hy,hm⟩=> ?_⟩
    have hb:=of_decide_eq_true (hk hV)
    cases hy
    cases hu with
    | @slice _ b _ off' _ _ c hbk ho hl h0 h2'=>
     have hoff:off'=off:=by
      rcases ho with e|e
      · exact e
      · subst e;have:=hb.2;have:=hb.1;omega
     subst hoff
     refine⟨r,ow,.pointer (some ⟨b,off'+i.toNat*j.size,none⟩),w,?_,aN.calm hs cm,.ptr hbk⟩
     subst hm
     simp [Instr.indexAt,run_underlying hD,asIntOf,hb,ew hj,kj]
    | @litSlice _ _ _ _ _ sp hl hsp=>
     obtain rfl:sp=none:=hsp.resolve_right (by omega)
     refine⟨r,ow,.pointer (some ⟨n,off+i.toNat*j.size,none⟩),w,?_,aN.calm hs cm,.litPtr⟩
     subst hm
     simp [Instr.indexAt,run_underlying hD,asIntOf,hb,ew hj,kj]
 · simp [X.fail] at h
def lr (P:Program) (t:TypeId) (x ix:Value):X Value:=match x,ix with
 | .string s,.int _ i=>match P.underlying t with
  |some .string=>X.bind (eW (decide (0≤i∧i < (s.data.toList.length:Int)))) fun _=>X.pure (.int .u8 (((s.data.toList.getD i.toNat 0).toNat:Nat):Int))
  |_=>X.fail
 |_,_=>X.fail
theorem F9 (t:TypeId) (x ix:Value):jx P (lr P t x ix) (fun r m=>∃u y,Rel r x u∧Rel r ix y∧m=Instr.index t u y):=by
 intro d s v s' h
 unfold lr at h
 split at h
 · rename_i sx k i
   cases hD:P.underlying t with
   |none=>simp [hD,X.fail] at h
   |some D=>
    cases D <;> simp only [hD] at h <;> try (simp [X.fail] at h;done)
    obtain⟨_,s1,h1,h2⟩:=bind_some h
    obtain⟨cm,hk⟩:=eY h1
    obtain⟨rfl,rfl⟩:=au h2
    refine⟨cm.V,fun hV r ow w m hs hfr ⟨u,y,hu,hy,hm⟩=> ?_⟩
    have hb:=of_decide_eq_true (hk hV)
    cases hy;cases hu
    refine⟨r,ow,_,w,?_,aN.calm hs cm,.int _ _⟩
    subst hm
    have hlt:i.toNat < sx.data.toList.length:=by omega
    have hg:sx[i.toNat]? =some (sx.data.toList.getD i.toNat 0):=by
     have h2:i.toNat < sx.size:=hlt
     rw [getElem?_pos sx i.toNat h2]
     congr 1
     rw [List.getD_eq_getElem?_getD,List.getElem?_eq_getElem hlt]
     rfl
    simp [Instr.index,run_underlying hD,asIntOf,hb.1,hg]
 · simp [X.fail] at h
def qo (P:Program) (t:TypeId) (x:Value):X Value:=match x with
 | .slice _ l _=>(match P.underlying t with
  |some (.slice _)=>X.pure (.int .i64 (l:Int))
  |_=>X.fail)
 | .string s=>(match P.underlying t with
  |some .string=>X.pure (.int .i64 (s.data.toList.length:Int))
  |_=>X.fail)
 | .map (some n)=>(match P.underlying t with
  |some (.map _ _)=>X.bind (X.rd n) fun c=>(match c with
   | .map es=>X.pure (.int .i64 (es.length:Int))
   |_=>X.fail)
  |_=>X.fail)
 |_=>X.fail
theorem Nt (t ty:TypeId) (x:Value):jx P (qo P t x) (fun r m=>∃u,Rel r x u∧m=Builtin.len_ #[t] ty #[u]):=by
 intro d s v s' h
 unfold qo at h
 split at h
 · rename_i a l c
   cases hD:P.underlying t with
   |none=>simp [hD,X.fail] at h
   |some D=>
    cases D <;> simp only [hD] at h <;> try (simp [X.fail] at h;done)
    obtain⟨rfl,rfl⟩:=au h
    refine⟨id,fun hV r ow w m hs hfr ⟨u,hu,hm⟩=>⟨r,ow,.int .i64 (l:Int),w,?_,aN.calm hs (Calm.refl _),.int _ _⟩⟩
    subst hm
    cases hu <;> simp [Builtin.len_,run_underlying hD,goInt]
 · rename_i sx
   cases hD:P.underlying t with
   |none=>simp [hD,X.fail] at h
   |some D=>
    cases D <;> simp only [hD] at h <;> try (simp [X.fail] at h;done)
    obtain⟨rfl,rfl⟩:=au h
    refine⟨id,fun hV r ow w m hs hfr ⟨u,hu,hm⟩=>⟨r,ow,.int .i64 (sx.data.toList.length:Int),w,?_,aN.calm hs (Calm.refl _),.int _ _⟩⟩
    subst hm
    cases hu
    simp [Builtin.len_,run_underlying hD,goInt]
 · rename_i n
   cases hD:P.underlying t with
   |none=>simp [hD,X.fail] at h
   |some D=>
    cases D <;> simp only [hD] at h <;> try (simp [X.fail] at h;done)
    obtain⟨c,s1,h1,h2⟩:=bind_some h
    obtain⟨hg,cm⟩:=iW h1
    cases c <;> simp only at h2 <;> try (simp [X.fail] at h2;done)
    rename_i es
    obtain⟨rfl,rfl⟩:=au h2
    refine⟨cm.V,fun hV r ow w m hs hfr ⟨u,hu,hm⟩=> ?_⟩
    cases hu with
    |map hb=>
    obtain⟨b,es',kk,q1,q2,q3,q4,q5⟩:=hs.chunk n _ hg
    rename_i b0
    obtain rfl:b=b0:=by rw [hb] at q1;exact(Option.some.inj q1).symm
    have hgo:(getObj b).run P w= .ok (.map es' kk) w:=by simp [getObj,Sem.run,q3]
    have hl:es.length=es'.size:=by have:=q4.length;simpa using this
    refine⟨r,ow,.int .i64 (es.length:Int),w,?_,aN.calm hs cm,.int _ _⟩
    subst hm
    simp [Builtin.len_,run_underlying hD,hgo,goInt,hl]
 · simp [X.fail] at h
end
end
section
theorem rC:∀(us l:List Value) (k:Nat),k+us.length≤l.length→aH l k us=l.take k++us++l.drop (k+us.length)
 | [],l,k,_=>by simp [aH]
 |u::us,l,k,h=>by
  simp only [List.length_cons] at h
  simp only [aH]
  rw [rC us (l.set k u) (k+1) (by simp;omega)]
  have h1:(l.set k u).take (k+1)=l.take k++ [u]:=by
   rw [List.take_succ_eq_append_getElem (by simp;omega)]
   rw [List.take_set_of_le (by omega)]
   simp
  have h2:(l.set k u).drop (k+1+us.length)=l.drop (k+(us.length+1)):=by
   rw [List.drop_set_of_lt (by omega)];congr 1;omega
  rw [h1,h2];simp
section
variable {P:Program}
def bz (n b:Nat):Bool:=Nat.ble (n*(2*b+1)) 281474976710656
theorem Ei {n m b:Nat} (h:n≤m) (hb:bz m b=true):bz n b=true:=Nat.ble_eq_true_of_le (Nat.le_trans (Nat.mul_le_mul_right _ h) (Nat.le_of_ble_eq_true hb))
theorem wo {n b c:Nat} (h:bz n b=true) (hc:c < n):Builtin.nextslicecap n c*b≤281474976710656∧(n:Int)≤9223372036854775807:=by
 have h1:=Nat.le_of_ble_eq_true h
 have h2:=Room.nextslicecap_le' hc
 have h3:Builtin.nextslicecap n c*b≤2*n*b:=Nat.mul_le_mul_right b h2
 have h4:n*(2*b+1)=2*n*b+n:=by rw [Nat.mul_add,Nat.mul_one];congr 1;rw [Nat.mul_left_comm,Nat.mul_assoc]
 omega
def pG (n e:Nat):X Unit:=X.bind (X.rd n) fun c=>match c with
 | .cells _ t0=>bP (Nat.beq t0 e)
 |_=>X.fail
def lO (i:TypeInfo):X Unit:=match i.zero with
 |some z=>bP (Nat.beq (du z).length i.size)
 |none=>X.fail
def oM (e:TypeId) (i:TypeInfo) (s:Value) (l:Nat) (vs:List Value):X Value:=match s with
 | .slice none 0 _=>X.bind (eW (bz l i.bytes)) fun _=>X.bind (ky e vs) fun n=>X.pure (.slice (some ⟨n,0,none⟩) l 0)
 | .slice (some ⟨n,off,none⟩) len mk=>X.bind (bO n off (len*i.size)) fun os=>X.bind (eW (bz (len+l) i.bytes)) fun _=>match mk with
  |0=>X.bind (pG n e) fun _=>X.bind (X.drop n) fun _=>X.bind (ky e (os++vs)) fun n'=>X.pure (.slice (some ⟨n',0,none⟩) (len+l) 0)
  |2=>X.bind (ky e (os++vs)) fun n'=>X.pure (.slice (some ⟨n',0,none⟩) (len+l) 0)
  |_=>X.fail
 |_=>X.fail
def isSlice:Value→Bool
 | .slice _ _ _=>true
 |_=>false
def u9 (vs:List Value):X Unit:=X.bind X.om fun q=>match q with
 |some (.cell .nilFunc)=>X.bind X.tick fun _=>X.emit (.b (vs.all ed))
 |_=>bP (vs.all ed)
def jh (P:Program) (t tx:TypeId) (s x:Value):X Value:=match P.underlying t with
 |some (.slice e)=>match P.underlying tx with
  |some (.slice _)=>match P.info? e with
   |some i=>X.bind (bP (isSlice s)) fun _=>match x with
    | .slice none 0 _=>X.pure s
    | .slice (some ⟨m,offm,none⟩) l _=>X.bind (ask (Nat.beq l 0)) fun z=>match z with
     |true=>X.pure s
     |false=>X.bind (lO i) fun _=>X.bind (bO m offm (l*i.size)) fun vs=>X.bind (u9 vs) fun _=>oM e i s l vs
    |_=>X.fail
   |none=>X.fail
  |_=>X.fail
 |_=>X.fail
def ji (P:Program) (t tx:TypeId) (n:Nat) (x:Value):X Value:=match P.underlying t with
 |some (.slice e)=>match P.underlying tx with
  |some (.slice _)=>match P.info? e with
   |some i=>match x with
    | .slice (some ⟨m,offm,none⟩) (l+1) _=>X.bind (lO i) fun _=>X.bind (bO m offm ((l+1)*i.size)) fun vs=>X.bind (bP (vs.all ed)) fun _=>X.bind (X.rd n) fun c=>match c with
     | .bag e' mx=>X.bind (bP (Nat.beq e' e)) fun _=>X.bind (eW (bz (mx+(l+1)) i.bytes)) fun _=>X.bind (X.drop n) fun _=>X.bind (X.new (.bag e (mx+(l+1)))) fun n'=>X.pure (.chan (some n'))
     |_=>X.fail
    |_=>X.fail
   |none=>X.fail
  |_=>X.fail
 |_=>X.fail
def jU (P:Program) (t tx:TypeId) (s x:Value):X Value:=match s with
 | .chan (some n)=>ji P t tx n x
 |_=>jh P t tx s x
theorem Ep {vs:List Value}{d:bj}{s s':St}{u:Unit} (h:u9 vs d s=some (u,s')):Calm s s'∧(aW s'.V→vs.all ed=true):=by
 unfold u9 at h
 obtain⟨q,s1,h1,h2⟩:=bind_some h
 have hs1:s=s1:=by simp only [X.om,Option.some.injEq,Prod.mk.injEq] at h1;exact h1.2
 subst hs1
 split at h2
 · obtain⟨x,s2,h3,h4⟩:=bind_some h2
   have c1:=iu h3
   obtain⟨c2,e⟩:=fC h4
   exact⟨c1.trans c2,fun hV=>e hV⟩
 · obtain⟨e,rfl⟩:=b7 h2
   exact⟨.refl _,fun _=>e⟩
theorem pA {i:TypeInfo}{d:bj}{s s':St}{u:Unit} (h:lO i d s=some (u,s')):(∃z,i.zero=some z∧(du z).length=i.size)∧s=s':=by
 unfold lO at h
 cases e:i.zero with
 |none=>simp [e,X.fail] at h
 |some z=>
  simp only [e] at h
  obtain⟨h1,h2⟩:=b7 h
  exact⟨⟨z,rfl,Nat.eq_of_beq_eq_true h1⟩,h2⟩
theorem zK {n e:Nat}{d:bj}{s s':St}{u:Unit} (h:pG n e d s=some (u,s')):(∃l,s.h.get n=some (.cells l e))∧Calm s s':=by
 unfold pG at h
 obtain⟨c,s1,h1,h2⟩:=bind_some h
 obtain⟨g,cm⟩:=iW h1
 split at h2
 · obtain⟨h3,rfl⟩:=b7 h2
   have:=Nat.eq_of_beq_eq_true h3
   subst this
   exact⟨⟨_,g⟩,cm⟩
 · simp [X.fail] at h2
theorem iU {r:Env}{ow:Nat→Option Nat}{h:Heap}{w:World} (hs:Sat P r ow h w) {n off off' b len sz mk c:Nat}{os l:List Value}{t0:TypeId} (hb:r.blk n=some b) (ho:off'=off∨len=0)
  (hg:h.get n=some (.cells l t0)) (hv:os=(l.drop off).take (len*sz)∧os.length=len*sz):
  ∃us:List Value,aw r os us∧us.length=len*sz∧∀w':World,w'.heap=w.heap→(Builtin.firstCells sz len (.slice (some ⟨b,off',none⟩) mk c)).run P w'= .ok us.toArray w':=by
 rcases ho with rfl|rfl
 · obtain⟨us,h1,h2⟩:=lA hs hb hg (vs:=os) (by rw [hv.2];exact hv.1)
   refine⟨us,h2,by rw [←h2.length,hv.2],fun w' hw'=> ?_⟩
   obtain⟨us',h1',h2'⟩:=lA (hs.drew hw') hb hg (vs:=os) (by rw [hv.2];exact hv.1)
   have hcell:∀(b':Nat) (k:Nat),w'.cell? ⟨b',k,none⟩=w.cell? ⟨b',k,none⟩:=fun b' k=>by simp [World.cell?,hw']
   have hus:us'=us:=by
    obtain⟨b2,c2,q1,q2,q3,q4,q5,q6⟩:=hs.chunk n _ hg
    have:b2=b:=by rw [hb] at q1;exact(Option.some.inj q1).symm
    subst this
    have hr:=(q4.drop off').take os.length
    have hlen:((c2.toList.drop off').take os.length).length=os.length:=by
     have h7:os.length=((l.drop off').take (len*sz)).length:=congrArg List.length hv.1
     have h8:=hv.2
     simp [List.length_take,List.length_drop] at h7 ⊢
     omega
    have e1:=oO (P:=P) q3 hlen
    have e2:=oO (P:=P) (w:=w') (by rw [hw'];exact q3) hlen
    rw [e1] at h1;rw [e2] at h1'
    simp only [Result.ok.injEq,Array.mk.injEq,and_true] at h1 h1'
    rw [←h1,←h1']
   rw [hus] at h1'
   rw [hv.2] at h1'
   simp only [Builtin.firstCells]
   exact h1'
 · have hz:os= []:=by
    have:=hv.2;simp at this;exact this
   subst hz
   exact⟨[],.nil,by simp,fun w' _=>by simp [Builtin.firstCells,loadCells,loadCellsFrom]⟩
theorem vh {r:Env}{vs us:List Value} (h:aw r vs us) (hc:vs.all ed=true):∀u∈us,u.oneCell'=true:=by
 intro u hu
 obtain⟨i,hi,rfl⟩:=List.getElem_of_mem hu
 obtain⟨x,hx,hrel⟩:=h.get' i us[i] (by simp)
 have:=hrel.sl (List.all_eq_true.1 hc x (List.mem_of_getElem? hx))
 generalize us[i]=v at this
 cases v <;> first|rfl|exact absurd rfl (this.1 _)|exact absurd rfl (this.2 _)
theorem og {r:Env}{ow:Nat→Option Nat}{w:World}{s:St}{t tx ty e e':TypeId}{i:TypeInfo}{z:Value}{base:Option Addr}{len cap l:Nat}{x:Value}{os vs us ns:List Value}{R W:List Nat}{V:List VC}{kk:Nat}
  (hs:Sat P r ow s.h w) (hf:bF r s.c (s.c+1)) (hD:P.underlying t=some (.slice e)) (hx:P.underlying tx=some (.slice e')) (hi:P.info? e=some i) (hz:i.zero=some z) (hzl:(du z).length=i.size)
  (hold:aw r os us) (hnew:aw r vs ns) (hol:us.length=len*i.size) (hnl:ns.length=l*i.size) (hc:vs.all ed=true)
  (ho:∀w':World,w'.heap=w.heap→(Builtin.firstCells i.size len (.slice base len cap)).run P w'= .ok us.toArray w') (hlen:∀w':World,(Builtin.lenOf x).run P w'= .ok l w')
  (hn:∀w':World,w'.heap=w.heap→(Builtin.firstCells i.size l x).run P w'= .ok ns.toArray w') (hg:cap < len+l) (hb:bz (len+l) i.bytes=true):
  ∃r' ow' u w',(Builtin.append_ #[t,tx] ty #[.slice base len cap,x]).run P w= .ok u w'∧aN P r ow w s r' ow' w' ⟨s.c+1,kk,s.h.put s.c (.cells (os++vs) e),R,W,V⟩∧Rel r' (.slice (some ⟨s.c,0,none⟩) (len+l) 0) u:=by
 have hsrc:Src P i.size tx x l ns w:=⟨.inl ⟨_,hx⟩,hlen,hn w rfl,hn w.drew rfl,hnl,vh hnew hc⟩
 obtain⟨h1,h2⟩:=wo hb hg
 have hrun:=run_append_grow_src (P:=P) w t tx ty e i z hD hi hz base len cap us (ho w.drew rfl) x l ns hsrc hg h2 h1
 have hcap:len+l≤grownCap w (len+l) cap e:=by simp only [grownCap,Question.cut];exact Nat.le_add_right _ _
 generalize grownCap w (len+l) cap e=N at hrun hcap
 have hs':Sat P r ow s.h w.drew:=hs.drew rfl
 have hzs:z.cells.size=i.size:=by rw [←Array.length_toList,gU,hzl]
 have hzc:(Builtin.zeroCells z.cells (N - (len+l))).toList.length=(N - (len+l))*i.size:=by simp [Builtin.zeroCells,hzs]
 have hp:=nP (P:=P) (w:=w.drew) (s:=s) (t:=e) (k:=N) (l:=os++vs) (cs:=us++ns++(Builtin.zeroCells z.cells (N - (len+l))).toList) hs' hf
  (by rw [List.append_assoc]
      have:=hold.append hnew
      rw [this.length,←List.append_assoc,List.take_left']
      · exact this
      · rfl)
  (by rw [(hold.append hnew).length];simp) (by
   rw [List.length_append,List.length_append,hzc,hol,hnl,eT hi,←Nat.add_mul,←Nat.add_mul]
   congr 1;omega) R W V kk
 refine⟨r.bind s.c w.heap.size N,own ow w.heap.size s.c,_,_,hrun,?_,?_⟩
 · have hw:(⟨us++ns++(Builtin.zeroCells z.cells (N - (len+l))).toList⟩:Array Value)=(us++ns).toArray++Builtin.zeroCells z.cells (N - (len+l)):=by
    apply Array.ext';simp
   rw [hw] at hp
   exact⟨hp.le,hp.sat,(Frame.drew (ow:=ow) (w:=w) (w':=w.drew) rfl rfl rfl rfl).trans hp.frame,hp.new,hp.mono,hp.own⟩
 · exact .slice (by simp [Env.bind]) (.inl rfl) hcap (fun _=>⟨rfl,rfl,by simp [Env.bind]⟩) (fun e=>by cases e)
theorem Bn {r:Env}{ow:Nat→Option Nat}{w:World}{s:St}{t tx ty e e':TypeId}{i:TypeInfo}{b n len l:Nat}{x:Value}{os vs us ns l0:List Value}{R W:List Nat}{V:List VC}{kk:Nat}
  (hs:Sat P r ow s.h w) (hf:bF r s.c (s.c+1)) (hD:P.underlying t=some (.slice e)) (hx:P.underlying tx=some (.slice e')) (hi:P.info? e=some i)
  (hb:r.blk n=some b) (hg:s.h.get n=some (.cells l0 e)) (hold:aw r os us) (hnew:aw r vs ns) (hnl:ns.length=l*i.size) (hc:vs.all ed=true) (hos:os=(l0.drop 0).take (len*i.size)∧os.length=len*i.size)
  (hlen:∀w':World,(Builtin.lenOf x).run P w'= .ok l w') (hn:(Builtin.firstCells i.size l x).run P w= .ok ns.toArray w) (hroom:len+l≤r.cap n):
  ∃r' ow' u w',(Builtin.append_ #[t,tx] ty #[.slice (some ⟨b,0,none⟩) len (r.cap n),x]).run P w= .ok u w'∧aN P r ow w s r' ow' w' ⟨s.c+1,kk,(s.h.del n).put s.c (.cells (os++vs) e),R,W,V⟩∧Rel r' (.slice (some ⟨s.c,0,none⟩) (len+l) 0) u:=by
 obtain⟨b',c,q1,q2,q3,q4,q5,q6⟩:=hs.chunk n _ hg
 obtain rfl:b'=b:=by rw [hb] at q1;exact(Option.some.inj q1).symm
 have hsz:c.size=r.cap n*i.size:=by rw [q6,eT hi]
 have hfit:len*i.size+ns.length≤c.size:=by
  rw [hnl,hsz,←Nat.add_mul];exact Nat.mul_le_mul_right _ hroom
 obtain⟨w',e1,e2⟩:=ir (P:=P) (b:=b') (off:=len*i.size) (t:=e) ns 0 c w q3 (by omega) (fun u hu=>by
  obtain⟨k,hk,rfl⟩:=List.getElem_of_mem hu
  obtain⟨y,hy,hrel⟩:=hnew.get' k ns[k] (by simp)
  exact hrel.sl (List.all_eq_true.1 hc y (List.mem_of_getElem? hy)))
 have hfr:=hf s.c (Nat.le_refl _) (Nat.lt_succ_self _)
 have hne:n≠s.c:=fun e=>by subst e;rw [hb] at hfr;cases hfr.1
 have hle:=Env.gg (n:=s.c) (b:=b') (k:=r.cap n) hfr.1
 refine⟨r.bind s.c b' (r.cap n),own ow b' s.c,.slice (some ⟨b',0,none⟩) (len+l) (r.cap n),w',?_,⟨hle,⟨fun m cc hm=> ?_,fun k m hk=> ?_,fun k m hk=> ?_⟩,⟨e2.os,e2.tape,e2.output,Nat.le_of_eq e2.size.symm,fun k hk ho=> ?_⟩,fI.bind,Nat.le_succ _,lg⟩,.slice (by simp [Env.bind]) (.inl rfl) hroom (fun _=>⟨rfl,rfl,by simp [Env.bind]⟩) (fun e=>by cases e)⟩
 · have e1':(storeCells ((⟨b',0,none⟩:Addr).add (len*i.size)) ns).run P w= .ok () w':=by rw [kj,Nat.zero_add];exact e1
   simp [Builtin.append_,run_underlying hD,run_underlying hx,ew hi,hlen,hroom,hn,e1']
 · rw [Heap.cG] at hm
   split at hm
   · rename_i e3;subst e3;cases hm
     refine⟨b',_,by simp [Env.bind],by simp [own],e2.at_,?_,?_,?_⟩
     · refine aw.mono hle ?_
       show aw r (os++vs) ((aH c.toList (len*i.size+0) ns).take (os++vs).length)
       rw [Nat.add_zero,rC _ _ _ (by simpa using hfit)]
       have h1:(os++vs).length=(c.toList.take (len*i.size)++ns).length:=by
        rw [List.length_append,List.length_append,hos.2,hnew.length,List.length_take]
        have:len*i.size≤c.toList.length:=by simp;omega
        omega
       rw [h1,List.take_left]
       refine aw.append ?_ hnew
       have h2:=q4.take (len*i.size)
       have h3:os=l0.take (len*i.size):=by simpa using hos.1
       rw [←h3,List.take_take] at h2
       have h4:min (len*i.size) l0.length=len*i.size:=by
        have:=congrArg List.length h3
        rw [hos.2,List.length_take] at this;omega
       rw [h4] at h2;exact h2
     · simp only [List.size_toArray,cJ]
       rw [List.length_append,hos.2,hnew.length];simpa using hfit
     · simp only [List.size_toArray,cJ]
       simpa [Env.bind] using q6
   · rename_i e3
     rw [Heap.lx] at hm
     split at hm
     · cases hm
     · rename_i e4
       refine Chunk.cR (w:=w) (ow:=ow) (fun k hk=>e2.other k (fun e5=> ?_)) (fun k=> ?_) (Chunk.dX hle (hs.chunk m cc hm))
       · subst e5;rw [q2] at hk;exact e4 (Option.some.inj hk).symm
       · unfold own
         split
         · rename_i e6;subst e6
           exact⟨fun e7=>absurd (Option.some.inj e7).symm e3,fun e7=>by rw [q2] at e7;exact absurd (Option.some.inj e7).symm e4⟩
         · exact Iff.rfl
 · rw [e2.size]
   unfold own at hk
   split at hk
   · rename_i e3;subst e3;exact hs.bound _ _ q2
   · exact hs.bound _ _ hk
 · unfold own at hk
   split at hk
   · cases hk;exact .inl (by simp [Env.bind])
   · exact hle.known (hs.known k m hk)
 · have hkb:k≠b':=fun e3=>by subst e3;rw [q2] at ho;cases ho
   exact⟨by simp [own,hkb,ho],e2.other k hkb⟩
theorem BC (t tx ty:TypeId) (sv x:Value):jx P (jh P t tx sv x) (fun r m=>∃u y,Rel r sv u∧Rel r x y∧m=Builtin.append_ #[t,tx] ty #[u,y]):=by
 intro d s v s' h
 unfold jh at h
 cases hD:P.underlying t with
 |none=>simp [hD,X.fail] at h
 |some D=>
 cases D <;> simp only [hD] at h <;> try (simp [X.fail] at h;done)
 rename_i e
 cases hx:P.underlying tx with
 |none=>simp [hx,X.fail] at h
 |some D=>
 cases D <;> simp only [hx] at h <;> try (simp [X.fail] at h;done)
 rename_i e'
 cases hi:P.info? e with
 |none=>simp [hi,X.fail] at h
 |some i=>
 simp only [hi] at h
 obtain⟨_,s0,h0,h1⟩:=bind_some h
 obtain⟨hsl,rfl⟩:=b7 h0
 split at h1
 ·
   obtain⟨rfl,rfl⟩:=au h1
   refine⟨id,fun hV r ow w m hs hf ⟨u,y,hu,hy,hm⟩=>⟨r,ow,u,w,?_,aN.calm hs (Calm.refl _),hu⟩⟩
   subst hm
   cases hy
   cases sv <;> try (simp [isSlice] at hsl;done)
   cases hu with
   |sliceNil=>exact run_append_nothing w t tx ty e i hD hi none 0 0 (Nat.le_refl _) _ (Src.ofNil w hx 0)
   |slice _ _ hl _ _=>exact run_append_nothing w t tx ty e i hD hi _ _ _ hl _ (Src.ofNil w hx 0)
   |litSlice hl _=>exact run_append_nothing w t tx ty e i hD hi _ _ _ hl _ (Src.ofNil w hx 0)
 · rename_i mm offm l mk
   obtain⟨zb,s1,h2,h3⟩:=bind_some h1
   obtain⟨cm1,hz⟩:=jS h2
   cases zb with
   |true=>
    simp only at h3
    obtain⟨rfl,rfl⟩:=au h3
    refine⟨cm1.V,fun hV r ow w m hs hf ⟨u,y,hu,hy,hm⟩=>⟨r,ow,u,w,?_,aN.calm hs cm1,hu⟩⟩
    have hl0:=Nat.eq_of_beq_eq_true (hz hV)
    subst hl0
    subst hm
    cases hy with
    | @slice _ b _ off' _ _ c hbm hom hlm h0m h2m=>
    have hsrc:Src P i.size tx (.slice (some ⟨b,off',none⟩) 0 c) 0 [] w:=Src.ofSlice w hx ⟨b,off',none⟩ 0 c [] (by simp) (fun j u hj=>by simp at hj) (fun u hu=>by cases hu)
    cases sv <;> try (simp [isSlice] at hsl;done)
    cases hu with
    |sliceNil=>exact run_append_nothing w t tx ty e i hD hi none 0 0 (Nat.le_refl _) _ hsrc
    |slice _ _ hl _ _=>exact run_append_nothing w t tx ty e i hD hi _ _ _ hl _ hsrc
    |litSlice hl _=>exact run_append_nothing w t tx ty e i hD hi _ _ _ hl _ hsrc
   |false=>
    simp only at h3
    obtain⟨_,s2,h4,h5⟩:=bind_some h3
    obtain⟨⟨z,hzz,hzl⟩,rfl⟩:=pA h4
    obtain⟨vs,s3,h6,h7⟩:=bind_some h5
    obtain⟨cm2,lm,tm,hgm,hvs⟩:=gK h6
    obtain⟨_,s4,h8,h9⟩:=bind_some h7
    obtain⟨mN,hcell⟩:=Ep h8
    have cm12:=(cm1.trans cm2).trans mN
    unfold oM at h9
    split at h9
    ·
      obtain⟨_,s5,h10,h11⟩:=bind_some h9
      obtain⟨cm3,hbig⟩:=eY h10
      obtain⟨n,s6,h12,h13⟩:=bind_some h11
      obtain⟨rfl,rfl⟩:=hU h12
      obtain⟨rfl,rfl⟩:=au h13
      refine⟨fun hV=>cm12.V (cm3.V hV),fun hV r ow w m hs hf ⟨u,y,hu,hy,hm⟩=> ?_⟩
      have hs5:Sat P r ow s5.h w:=by rw [cm3.h,cm12.h];exact hs
      have hc5:s5.c=s.c:=by rw [cm3.c,cm12.c]
      have hvs':=hvs (mN.V (cm3.V hV))
      have hgm':s5.h.get mm=some (.cells lm tm):=by rw [cm3.h,mN.h,cm2.h];exact hgm
      have hlne:l≠0:=by
       have:=hz (cm2.V (mN.V (cm3.V hV)))
       exact Nat.ne_of_beq_eq_false this
      cases hu
      cases hy with
      | @slice _ b _ off' _ _ c hbm hom hlm h0m h2m=>
      subst hm
      obtain⟨ns,g1,g2,g3⟩:=iU (P:=P) hs5 hbm hom hgm' hvs' (mk:=l) (c:=c)
      obtain⟨r',ow',u,w',e1,e2,e3⟩:=og (P:=P) (s:=s5) (ty:=ty) (base:=none) (len:=0) (cap:=0) (x:= .slice (some ⟨b,off',none⟩) l c) (os:= []) (us:= []) (R:=s5.R) (W:=s5.c::s5.W) (V:=s5.V) (kk:=s5.k)
       hs5 (by rw [hc5];exact hf.sub (Nat.le_refl _) (by show s.c+1≤s5.c+1;omega)) hD hx hi hzz hzl .nil g1 (by simp) g2 (hcell (cm3.V hV)) (fun w' _=>by simp [Builtin.firstCells]) (fun w'=>by simp [Builtin.lenOf]) g3 (by omega) (by rw [Nat.zero_add];exact hbig hV)
      refine⟨r',ow',u,w',e1,?_,by simpa using e3⟩
      have e2':=(aN.calm (P:=P) hs (cm12.trans cm3)).trans e2
      simpa using e2'
    · rename_i n off len mk2
      obtain⟨os,s5,h10,h11⟩:=bind_some h9
      obtain⟨cm3,ln,tn,hgn,hos⟩:=gK h10
      obtain⟨_,s6,h12,h13⟩:=bind_some h11
      obtain⟨cm4,hbig⟩:=eY h12
      have cm14:=cm12.trans (cm3.trans cm4)
      split at h13
      ·
        obtain⟨_,s7,h14,h15⟩:=bind_some h13
        obtain⟨⟨l0,hg0⟩,cm5⟩:=zK h14
        have cm15:=cm14.trans cm5
        obtain⟨_,s8,h16,h17⟩:=bind_some h15
        obtain⟨_,rfl⟩:=wI h16
        obtain⟨n',s9,h18,h19⟩:=bind_some h17
        obtain⟨rfl,rfl⟩:=hU h18
        obtain⟨rfl,rfl⟩:=au h19
        refine⟨fun hV=>cm15.V hV,fun hV r ow w m hs hf ⟨u,y,hu,hy,hm⟩=> ?_⟩
        have hV5:aW s6.V:=cm5.V hV
        have hs7:Sat P r ow s7.h w:=by rw [cm15.h];exact hs
        have hc7:s7.c=s.c:=cm15.c
        have hf7:bF r s7.c (s7.c+1):=by rw [hc7];exact hf.sub (Nat.le_refl _) (by show s.c+1≤s7.c+1;omega)
        have hvs':=hvs (mN.V (cm3.V (cm4.V hV5)))
        have hos':=hos (cm4.V hV5)
        have hgm':s7.h.get mm=some (.cells lm tm):=by rw [cm5.h,cm4.h,cm3.h,mN.h,cm2.h];exact hgm
        have hgn':s7.h.get n=some (.cells ln tn):=by rw [cm5.h,cm4.h,cm3.h];exact hgn
        have hg0':s7.h.get n=some (.cells l0 e):=by rw [cm5.h];exact hg0
        obtain⟨rfl,rfl⟩:ln=l0∧tn=e:=by rw [hgn'] at hg0';cases hg0';exact⟨rfl,rfl⟩
        subst hm
        cases hu with
        | @slice _ bn _ offn _ _ cn hbn hon hln h0n h2n=>
        obtain⟨rfl,rfl,rfl⟩:=h0n rfl
        cases hy with
        | @slice _ b _ off' _ _ c hbm hom hlm h0m h2m=>
        obtain⟨ns,g1,g2,g3⟩:=iU (P:=P) hs7 hbm hom hgm' hvs' (mk:=l) (c:=c)
        obtain⟨us,k1,k2,k3⟩:=iU (P:=P) hs7 hbn (.inl rfl) hgn' hos' (mk:=len) (c:=r.cap n)
        have hpc:=aN.calm (P:=P) hs cm15
        by_cases hroom:len+l≤r.cap n
        · obtain⟨r',ow',u,w',e1,e2,e3⟩:=Bn (P:=P) (s:=s7) (ty:=ty) (x:= .slice (some ⟨b,off',none⟩) l c) (R:=s7.R) (W:=s7.c::n::s7.W) (V:=s7.V) (kk:=s7.k)
           hs7 hf7 hD hx hi hbn hgn' k1 g1 g2 (hcell (cm3.V (cm4.V hV5))) hos' (fun w'=>by simp [Builtin.lenOf]) (g3 w rfl) hroom
          exact⟨r',ow',u,w',e1,hpc.trans e2,e3⟩
        · have hs8:Sat P r ow (s7.h.del n) w:=hs7.del n
          obtain⟨r',ow',u,w',e1,e2,e3⟩:=og (P:=P) (s:=⟨s7.c,s7.k,s7.h.del n,s7.R,n::s7.W,s7.V⟩) (ty:=ty) (base:=some ⟨bn,0,none⟩) (len:=len) (cap:=r.cap n) (x:= .slice (some ⟨b,off',none⟩) l c) (R:=s7.R) (W:=s7.c::n::s7.W) (V:=s7.V) (kk:=s7.k)
           hs8 hf7 hD hx hi hzz hzl k1 g1 k2 g2 (hcell (cm3.V (cm4.V hV5))) k3 (fun w'=>by simp [Builtin.lenOf]) g3 (by omega) (hbig (hV5))
          refine⟨r',ow',u,w',e1,hpc.trans ⟨e2.le,e2.sat,e2.frame,e2.new,e2.mono,e2.own⟩,e3⟩
      ·
        obtain⟨n',s9,h18,h19⟩:=bind_some h13
        obtain⟨rfl,rfl⟩:=hU h18
        obtain⟨rfl,rfl⟩:=au h19
        refine⟨fun hV=>cm14.V hV,fun hV r ow w m hs hf ⟨u,y,hu,hy,hm⟩=> ?_⟩
        have hs7:Sat P r ow s6.h w:=by rw [cm14.h];exact hs
        have hc7:s6.c=s.c:=cm14.c
        have hf7:bF r s6.c (s6.c+1):=by rw [hc7];exact hf.sub (Nat.le_refl _) (by show s.c+1≤s6.c+1;omega)
        have hvs':=hvs (mN.V (cm3.V (cm4.V hV)))
        have hos':=hos (cm4.V hV)
        have hgm':s6.h.get mm=some (.cells lm tm):=by rw [cm4.h,cm3.h,mN.h,cm2.h];exact hgm
        have hgn':s6.h.get n=some (.cells ln tn):=by rw [cm4.h,cm3.h];exact hgn
        have hlne:l≠0:=by
         have:=hz (cm2.V (mN.V (cm3.V (cm4.V hV))))
         exact Nat.ne_of_beq_eq_false this
        subst hm
        cases hu with
        | @slice _ bn _ offn _ _ cn hbn hon hln h0n h2n=>
        obtain rfl:=h2n rfl
        cases hy with
        | @slice _ b _ off' _ _ c hbm hom hlm h0m h2m=>
        obtain⟨ns,g1,g2,g3⟩:=iU (P:=P) hs7 hbm hom hgm' hvs' (mk:=l) (c:=c)
        obtain⟨us,k1,k2,k3⟩:=iU (P:=P) hs7 hbn hon hgn' hos' (mk:=cn) (c:=cn)
        have hpc:=aN.calm (P:=P) hs cm14
        obtain⟨r',ow',u,w',e1,e2,e3⟩:=og (P:=P) (s:=s6) (ty:=ty) (base:=some ⟨bn,offn,none⟩) (len:=cn) (cap:=cn) (x:= .slice (some ⟨b,off',none⟩) l c) (R:=s6.R) (W:=s6.c::s6.W) (V:=s6.V) (kk:=s6.k)
         hs7 hf7 hD hx hi hzz hzl k1 g1 k2 g2 (hcell (cm3.V (cm4.V hV))) k3 (fun w'=>by simp [Builtin.lenOf]) g3 (by omega) (hbig hV)
        exact⟨r',ow',u,w',e1,hpc.trans e2,e3⟩
      · simp [X.fail] at h13
    · simp [X.fail] at h9
 · simp [X.fail] at h1
theorem yr {r:Env}{ow:Nat→Option Nat}{w w2:World}{s:St}{e:TypeId}{M n b2 c2 l2 kk:Nat}{cs:Array Value}{R W:List Nat}{V:List VC} (hs:Sat P r ow s.h w) (hf:bF r s.c (s.c+1))
  (hb2:b2 < w2.heap.size) (hat:w2.heap[b2]? =some (.cells cs e (0,0))) (hsz:cs.size=c2*P.cellsOf e) (hl:l2≤c2∧0 < l2) (hM:l2≤M) (hsize:w.heap.size≤w2.heap.size)
  (hkeep:∀b,b < w.heap.size→b≠b2→w2.heap[b]? =w.heap[b]?) (ho:w2.os=w.os) (ht:w2.tape=w.tape) (hu:w2.output=w.output) (hown:ow b2=some n∨w.heap.size≤b2):
  aN P r ow w s ⟨r.blk,r.cap,fun k=>if k=s.c then some (.slice (some ⟨b2,0,none⟩) l2 c2) else r.val k⟩ (own ow b2 s.c) w2 ⟨s.c+1,kk,(s.h.del n).put s.c (.bag e M),R,W,V⟩:=by
 have hfr:=hf s.c (Nat.le_refl _) (Nat.lt_succ_self _)
 have hle:r.Le ⟨r.blk,r.cap,fun k=>if k=s.c then some (.slice (some ⟨b2,0,none⟩) l2 c2) else r.val k⟩:=⟨fun _ _ h=>h,fun _ _ _=>rfl,fun k v hk=>by
  have:k≠s.c:=fun e=>by subst e;rw [hfr.2] at hk;cases hk
  simp only [this,if_false];exact hk⟩
 have hne:∀m k,ow k=some m→m≠n→k≠b2:=fun m k hk hmn e=>by
  subst e
  rcases hown with q|q
  · rw [q] at hk;exact hmn (Option.some.inj hk).symm
  · have:=hs.bound k m hk;omega
 refine⟨hle,⟨fun m cc hm=> ?_,fun k m hk=> ?_,fun k m hk=> ?_⟩,⟨ho,ht,hu,hsize,fun k hk hon=> ?_⟩,⟨fun m hm=> .inl hm,fun m hm=> ?_⟩,Nat.le_succ _,lg⟩
 · rw [Heap.cG] at hm
   split at hm
   · rename_i e3;subst e3;cases hm
     exact⟨_,l2,c2,by simp,hM,.inr ⟨b2,cs,rfl,by simp [own],hat,hsz,hl⟩⟩
   · rename_i e3
     rw [Heap.lx] at hm
     split at hm
     · cases hm
     · rename_i e4
       refine Chunk.cR (w:=w) (ow:=ow) (fun k hk=>hkeep k (hs.bound k m hk) (hne m k hk e4)) (fun k=> ?_) (Chunk.dX hle (hs.chunk m cc hm))
       unfold own
       split
       · rename_i e6;subst e6
         exact⟨fun e7=>absurd (Option.some.inj e7).symm e3,fun e7=>absurd rfl (hne m k e7 e4)⟩
       · exact Iff.rfl
 · unfold own at hk
   split at hk
   · rename_i e3;subst e3;exact hb2
   · exact Nat.lt_of_lt_of_le (hs.bound _ _ hk) hsize
 · unfold own at hk
   split at hk
   · cases hk;exact .inr (by simp)
   · exact hle.known (hs.known k m hk)
 · have hkb:k≠b2:=fun e=>by
    subst e
    rcases hown with q|q
    · rw [q] at hon;cases hon
    · omega
   exact⟨by simp [own,hkb,hon],hkeep k hk hkb⟩
 · by_cases e3:m=s.c
   · subst e3;exact .inr ⟨Nat.le_refl _,Nat.lt_succ_self _⟩
   · simp only [e3,if_false] at hm;exact .inl hm
theorem Bv (t tx ty:TypeId) (n:Nat) (x:Value):jx P (ji P t tx n x) (fun r m=>∃u y,Rel r (.chan (some n)) u∧Rel r x y∧m=Builtin.append_ #[t,tx] ty #[u,y]):=by
 intro d s v s' h
 unfold ji at h
 cases hD:P.underlying t with
 |none=>simp [hD,X.fail] at h
 |some D=>
 cases D <;> simp only [hD] at h <;> try (simp [X.fail] at h;done)
 rename_i e
 cases hx:P.underlying tx with
 |none=>simp [hx,X.fail] at h
 |some D=>
 cases D <;> simp only [hx] at h <;> try (simp [X.fail] at h;done)
 rename_i e'
 cases hi:P.info? e with
 |none=>simp [hi,X.fail] at h
 |some i=>
 simp only [hi] at h
 split at h
 · rename_i mm offm l mk
   obtain⟨_,s2,h4,h5⟩:=bind_some h
   obtain⟨⟨z,hzz,hzl⟩,rfl⟩:=pA h4
   obtain⟨vs,s3,h6,h7⟩:=bind_some h5
   obtain⟨cm2,lm,tm,hgm,hvs⟩:=gK h6
   obtain⟨_,s4,h8,h9⟩:=bind_some h7
   obtain⟨hcell,rfl⟩:=b7 h8
   obtain⟨cb,s5,h10,h11⟩:=bind_some h9
   obtain⟨hgb,cm3⟩:=iW h10
   split at h11
   · rename_i eb mx
     obtain⟨_,s6,h12,h13⟩:=bind_some h11
     obtain⟨heb,rfl⟩:=b7 h12
     have heq:e=eb:=(Nat.eq_of_beq_eq_true heb).symm
     subst heq
     obtain⟨_,s7,h14,h15⟩:=bind_some h13
     obtain⟨cm4,hbig⟩:=eY h14
     obtain⟨_,s8,h16,h17⟩:=bind_some h15
     obtain⟨_,rfl⟩:=wI h16
     obtain⟨n',s9,h18,h19⟩:=bind_some h17
     obtain⟨rfl,rfl⟩:=hU h18
     obtain⟨rfl,rfl⟩:=au h19
     have cm:=cm2.trans (cm3.trans cm4)
     refine⟨fun hV=>cm.V hV,fun hV r ow w m hs hf ⟨u,y,hu,hy,hm⟩=> ?_⟩
     have hs7:Sat P r ow s7.h w:=by rw [cm.h];exact hs
     have hc7:s7.c=s.c:=cm.c
     have hf7:bF r s7.c (s7.c+1):=by rw [hc7];exact hf.sub (Nat.le_refl _) (by show s.c+1≤s7.c+1;omega)
     have hvs':=hvs (cm3.V (cm4.V hV))
     have hgm':s7.h.get mm=some (.cells lm tm):=by rw [cm4.h,cm3.h,cm2.h];exact hgm
     have hgb':s7.h.get n=some (.bag e mx):=by rw [cm4.h,cm3.h];exact hgb
     subst hm
     obtain⟨a,l0,c0,g1,gm,g2⟩:=hs7.chunk n _ hgb'
     cases hu with
     |opq hu=>
     rw [g1] at hu
     cases hu
     cases hy with
     | @slice _ b _ off' _ _ c hbm hom hlm h0m h2m=>
     obtain⟨ns,k1,k2,k3⟩:=iU (P:=P) hs7 hbm hom hgm' hvs' (mk:=l+1) (c:=c)
     have hpc:=aN.calm (P:=P) hs cm
     have hbg:=hbig hV
     have hold:∃us:List Value,us.length=l0*i.size∧∀w':World,w'.heap=w.heap→(Builtin.firstCells i.size l0 (.slice a l0 c0)).run P w'= .ok us.toArray w':=by
      rcases g2 with⟨rfl,rfl,rfl⟩|⟨b0,cs,rfl,q2,q3,q4,q5,_⟩
      · exact⟨[],by simp,fun w' _=>by simp [Builtin.firstCells]⟩
      · have hlen:((cs.toList.drop 0).take (l0*i.size)).length=l0*i.size:=by
         rw [List.drop_zero,List.length_take,Nat.min_eq_left]
         have:=Nat.mul_le_mul_right i.size q5
         rw [eT hi] at q4
         simp only [Array.length_toList]
         omega
        exact⟨_,hlen,fun w' hw'=>by simpa [Builtin.firstCells] using oO (P:=P) (w:=w') (by rw [hw'];exact q3) hlen⟩
     obtain⟨us,hul,hrunu⟩:=hold
     by_cases hroom:l0+(l+1)≤c0
     · rcases g2 with⟨rfl,rfl,rfl⟩|⟨b0,cs,rfl,q2,q3,q4,q5,_⟩
       · omega
       · have hcsz:cs.size=c0*i.size:=by rw [q4,eT hi]
         have hfit:l0*i.size+ns.length≤cs.size:=by
          rw [k2,hcsz,←Nat.add_mul];exact Nat.mul_le_mul_right _ hroom
         obtain⟨w2,e1,e2⟩:=ir (P:=P) (b:=b0) (off:=l0*i.size) (t:=e) ns 0 cs w q3 (by omega) (fun u hu=>by
          obtain⟨k,hk,rfl⟩:=List.getElem_of_mem hu
          obtain⟨y,hy,hrel⟩:=k1.get' k ns[k] (by simp)
          exact hrel.sl (List.all_eq_true.1 hcell y (List.mem_of_getElem? hy)))
         have hp:=yr (P:=P) (s:=s7) (n:=n) (b2:=b0) (w2:=w2) (l2:=l0+(l+1)) (c2:=c0) (M:=mx+(l+1)) (kk:=s7.k) (R:=s7.R) (W:=s7.c::n::s7.W) (V:=s7.V) hs7 hf7 (by rw [e2.size];exact hs7.bound _ _ q2) e2.at_
          (by rw [←q4];simp [cJ]) ⟨hroom,by omega⟩ (by omega) (Nat.le_of_eq e2.size.symm) (fun b hb hne=>e2.other b hne) e2.os e2.tape e2.output (.inl q2)
         refine⟨_,_,.slice (some ⟨b0,0,none⟩) (l0+(l+1)) c0,w2,?_,hpc.trans hp,.opq (by simp)⟩
         have e1':(storeCells ((⟨b0,0,none⟩:Addr).add (l0*i.size)) ns).run P w= .ok () w2:=by rw [kj,Nat.zero_add];exact e1
         simp [Builtin.append_,run_underlying hD,run_underlying hx,ew hi,Builtin.lenOf,hroom,k3 w rfl,e1']
     · have hsrc:Src P i.size tx (.slice (some ⟨b,off',none⟩) (l+1) c) (l+1) ns w:=⟨.inl ⟨_,hx⟩,fun w'=>by simp [Builtin.lenOf],k3 w rfl,k3 w.drew rfl,k2,vh k1 hcell⟩
       have hbb:bz (l0+(l+1)) i.bytes=true:=Ei (by omega) hbg
       obtain⟨h1,h2⟩:=wo hbb (show c0 < l0+(l+1) by omega)
       have hrun:=run_append_grow_src (P:=P) w t tx ty e i z hD hi hzz a l0 c0 us (hrunu w.drew rfl) (.slice (some ⟨b,off',none⟩) (l+1) c) (l+1) ns hsrc (by omega) h2 h1
       have hcap:l0+(l+1)≤grownCap w (l0+(l+1)) c0 e:=by simp only [grownCap,Question.cut];exact Nat.le_add_right _ _
       generalize grownCap w (l0+(l+1)) c0 e=N at hrun hcap
       have hzs:z.cells.size=i.size:=by rw [←Array.length_toList,gU,hzl]
       have hp:=yr (P:=P) (s:=s7) (e:=e) (n:=n) (b2:=w.heap.size) (l2:=l0+(l+1)) (c2:=N) (M:=mx+(l+1)) (kk:=s7.k) (R:=s7.R) (W:=s7.c::n::s7.W) (V:=s7.V)
        (w2:= { w.drew with heap:=w.drew.heap.push (.cells ((us++ns).toArray++Builtin.zeroCells z.cells (N - (l0+(l+1)))) e)}) (cs:=(us++ns).toArray++Builtin.zeroCells z.cells (N - (l0+(l+1)))) hs7 hf7 (by show w.heap.size < (w.heap.push _).size;simp) (by show(w.heap.push _)[w.heap.size]? =some _;simp)
        (by
         rw [eT hi]
         simp only [Array.size_append,List.size_toArray,List.length_append,hul,k2]
         have:(Builtin.zeroCells z.cells (N - (l0+(l+1)))).size=(N - (l0+(l+1)))*i.size:=by simp [Builtin.zeroCells,hzs]
         rw [this,←Nat.add_mul,←Nat.add_mul]
         congr 1;omega) ⟨hcap,by omega⟩ (by omega) (by show w.heap.size≤(w.heap.push _).size;simp) (fun b hb hne=>by show(w.heap.push _)[b]? =_;rw [Array.getElem?_push];simp [hne]) rfl rfl rfl (.inr (Nat.le_refl _))
       exact⟨_,_,_,_,hrun,hpc.trans hp,.opq (by simp)⟩
   · simp [X.fail] at h11
 · simp [X.fail] at h
theorem Ej (t tx ty:TypeId) (sv x:Value):jx P (jU P t tx sv x) (fun r m=>∃u y,Rel r sv u∧Rel r x y∧m=Builtin.append_ #[t,tx] ty #[u,y]):=by
 unfold jU
 split
 · exact Bv t tx ty _ x
 · exact BC t tx ty sv x
end
end
end Go.Sx
