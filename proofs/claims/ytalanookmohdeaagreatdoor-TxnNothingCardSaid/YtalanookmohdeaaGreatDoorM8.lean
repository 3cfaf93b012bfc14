/- TxnNothing: the symbolic executor. No condition. -/
import Derived.Test.YtalanookmohdeaaGreatDoorM7
namespace Go.Sx
variable {P:Program}
def mo (h:Heap):List Nat→Option Heap
 | []=>some []
 |n::ks=>match h.get n with
  |some x=>match mo h ks with
   |some g=>some ((n,x)::g)
   |none=>none
  |none=>none
theorem Db {h h2:Heap}:∀ {ks:List Nat},(∀n,n∈ks→h2.get n=h.get n)→mo h2 ks=mo h ks
 | [],_=>rfl
 |n::ks,e=>by
  simp only [mo]
  rw [e n List.mem_cons_self,Db (ks:=ks) fun m hm=>e m (List.mem_cons_of_mem _ hm)]
theorem zx {h:Heap}{n:Nat}{x:Chunk}:∀ {ks:List Nat}{g:Heap},mo h ks=some g→g.get n=some x→h.get n=some x∧n∈ks
 | [],g,e,hx=>by simp only [mo,Option.some.injEq] at e;subst e;simp [Heap.get] at hx
 |k::ks,g,e,hx=>by
  simp only [mo] at e
  cases e1:h.get k with
  |none=>simp [e1] at e
  |some y=>
   cases e2:mo h ks with
   |none=>simp [e1,e2] at e
   |some g'=>
    simp only [e1,e2,Option.some.injEq] at e
    subst e
    rw [aQ] at hx
    by_cases q:k=n
    · subst q;rw [if_pos rfl] at hx;cases hx;exact⟨e1,List.mem_cons_self⟩
    · rw [if_neg q] at hx
      obtain⟨a,b⟩:=zx e2 hx
      exact⟨a,List.mem_cons_of_mem _ b⟩
def qa (P:Program) (f:FuncId) (asZ:List Value) (aq:List Nat) (c1:Nat) (h1:Heap) (v:Value):X dI:=fun _ s=>match Nat.ble s.c c1 && fm aq s.c c1 h1 with
 |true=>match mo s.h aq with
  |some hk=>some (.val v, { s with c:=c1,h:=h1++s.h.cw aq,R:=aq++s.R,W:=(aq++aY h1)++s.W,V:= .p (ab P s.c hk c1 h1 (.call f asZ) (.val v))::s.V})
  |none=>none
 |false=>none
def ob (P:Program) (f:FuncId) (asZ:List Value):Option eA→X dI
 |some (.loop _ aq c1 h1 _ [v])=>qa P f asZ aq c1 h1 v
 |_=>X.fail
def aE (P:Program) (C:aP) (F:List Nat):aP:=fun t=>match t with
 | .call f asZ=>match cY f F with
  |true=>some (X.bind X.tick fun a=>ob P f asZ a)
  |false=>C (.call f asZ)
 |t=>C t
theorem uw {f:FuncId}{asZ:List Value}{aq:List Nat}{c1:Nat}{h1:Heap}{v:Value}{d:bj}{s s':St}{a:dI} (h:qa P f asZ aq c1 h1 v d s=some (a,s')):
  ∃hk,s.c≤c1∧fm aq s.c c1 h1=true∧mo s.h aq=some hk∧a= .val v∧
   s'= { s with c:=c1,h:=h1++s.h.cw aq,R:=aq++s.R,W:=(aq++aY h1)++s.W,V:= .p (ab P s.c hk c1 h1 (.call f asZ) (.val v))::s.V}:=by
 unfold qa at h
 cases hb:Nat.ble s.c c1 && fm aq s.c c1 h1 with
 |false=>simp [hb] at h
 |true=>
  simp only [hb] at h
  cases hk:mo s.h aq with
  |none=>simp [hk] at h
  |some g=>
   simp only [hk,Option.some.injEq,Prod.mk.injEq] at h
   simp only [Bool.and_eq_true] at hb
   exact⟨g,Nat.le_of_ble_eq_true hb.1,hb.2,rfl,h.1.symm,h.2.symm⟩
theorem sd {n:Nat}{h:Heap} (hn:n ∉ aY h):h.get n=none:=by
 cases e:h.get n with
 |none=>rfl
 |some x=>exact absurd (jD e) hn
theorem Local.qa (P:Program) (f:FuncId) (asZ:List Value) (aq:List Nat) (c1:Nat) (h1:Heap) (v:Value):Local (qa P f asZ aq c1 h1 v):=by
 intro d s a s' h
 obtain⟨hk,q1,q2,q3,rfl,rfl⟩:=uw h
 refine⟨q1,aq,aq++aY h1,[.p (ab P s.c hk c1 h1 (.call f asZ) (.val v))],rfl,rfl,rfl,fun n hn=> ?_,fun s2 hc hk2 hag=> ?_⟩
 · simp only [List.mem_append,not_or] at hn
   show(h1++s.h.cw aq).get n=s.h.get n
   rw [Heap.get_append,sd hn.2]
   simp only
   rw [Heap.dJ,if_neg hn.1]
 · have hsame:mo s2.h aq=some hk:=by rw [←q3];exact Db fun n hn=>hag n (.inl hn)
   refine⟨h1++s2.h.cw aq,?_,fun n hn=> ?_,fun n hn=> ?_⟩
   · have hb:(Nat.ble s2.c c1 && fm aq s2.c c1 h1)=true:=by rw [hc,Nat.ble_eq_true_of_le q1,q2];rfl
     simp only [Sx.qa,hb,hsame]
     rw [hc,hk2]
     rfl
   · show(h1++s2.h.cw aq).get n=(h1++s.h.cw aq).get n
     rw [Heap.get_append,Heap.get_append]
     cases e:h1.get n with
     |some x=>rfl
     |none=>
      simp only
      rw [Heap.dJ,Heap.dJ]
      by_cases q:n∈aq
      · rw [if_pos q,if_pos q]
      · rw [if_neg q,if_neg q]
        exact hag n (.inr hn)
   · simp only [List.mem_append,not_or] at hn
     show(h1++s2.h.cw aq).get n=s2.h.get n
     rw [Heap.get_append,sd hn.2]
     simp only
     rw [Heap.dJ,if_neg hn.1]
theorem Local.ob (P:Program) (f:FuncId) (asZ:List Value) (o:Option eA):Local (ob P f asZ o):=by
 unfold Sx.ob
 split
 · exact Local.qa _ _ _ _ _ _ _
 · exact Local.fail
def m3 (K:List Nat) (h1:Heap) (ow ow':Nat→Option Nat):Nat→Option Nat:=fun b=>
 let o:Option Nat:=match ow' b with
  |some m=>(match h1.get m with
   |some _=>some m
   |none=>none)
  |none=>none
 match ow b with
 |none=>o
 |some m=>if m∈K then o else some m
theorem fY {h1:Heap}{ow':Nat→Option Nat}{b n:Nat}:(match ow' b with|some m=>(match h1.get m with|some _=>some m|none=>none)|none=>none)=some n ↔ ow' b=some n∧h1.get n≠none:=by
 cases e:ow' b with
 |none=>simp
 |some m=>
  show(match h1.get m with|some _=>some m|none=>none)=some n ↔ some m=some n∧h1.get n≠none
  cases e2:h1.get m with
  |none=>
   constructor
   · intro h;cases h
   · rintro ⟨h,k⟩;cases h;exact absurd e2 k
  |some x=>
   constructor
   · intro h;cases h;exact⟨rfl,by rw [e2];simp⟩
   · exact fun h=>h.1
theorem aN.m3 {r r':Env}{ow ow':Nat→Option Nat}{w w':World}{h h1 hk:Heap}{c0 c1:Nat}{K:List Nat} (hs:Sat P r ow h w) (hf:bF r c0 c1)
  (hn:fm K c0 c1 h1=true)
  (hp:aN P r (Sx.part K ow) w (bb c0 hk) r' ow' w' (bb c1 h1)):aN P r ow w (bb c0 h) r' (Sx.m3 K h1 ow ow') w' (bb c1 (h1++h.cw K)):=by
 have hgone:∀b m,ow b=some m→m ∉ K→ow' b=none∧w'.heap[b]? =w.heap[b]? :=fun b m e hm=>
  hp.frame.aq b (hs.bound b m e) (by unfold Sx.part;rw [e];simp [hm])
 have hnone:∀b,ow b=none→Sx.part K ow b=none:=fun b e=>by unfold Sx.part;rw [e]
 refine⟨hp.le,⟨fun n c hn'=> ?_,fun b n e=> ?_,fun b n e=> ?_⟩,⟨hp.frame.os,hp.frame.tape,hp.frame.output,hp.frame.size,fun b hb' ho=> ?_⟩,hp.new,hp.mono,fun b n e=> ?_⟩
 · change (h1++h.cw K).get n=some c at hn'
   rw [Heap.get_append] at hn'
   cases e1:h1.get n with
   |some x=>
    simp only [e1,Option.some.injEq] at hn'
    subst hn'
    have hwh:=pD hn e1
    refine Chunk.cR (fun _ _=>rfl) (fun b=> ?_) (hp.sat.chunk n x e1)
    unfold Sx.m3
    simp only
    cases e2:ow b with
    |none=>
     simp only
     rw [fY]
     exact⟨fun h=>h.1,fun h=>⟨h,by rw [e1];simp⟩⟩
    |some m=>
     simp only
     by_cases hm:m∈K
     · rw [if_pos hm,fY]
       exact⟨fun h=>h.1,fun h=>⟨h,by rw [e1];simp⟩⟩
     · rw [if_neg hm,(hgone b m e2 hm).1]
       simp only [Option.some.injEq,reduceCtorEq,iff_false]
       intro e3
       subst e3
       rcases hwh with q|⟨q1,q2⟩
       · exact hm q
       · have:=hf m q1 q2
         rcases hs.known b m e2 with k|k
         · exact k this.1
         · exact k this.2
   |none=>
    simp only [e1] at hn'
    rw [Heap.dJ] at hn'
    by_cases hK:n∈K
    · rw [if_pos hK] at hn';cases hn'
    · rw [if_neg hK] at hn'
      refine Chunk.cR (w:=w) (ow:=ow) (fun b hb'=>(hgone b n hb' hK).2) (fun b=> ?_) (Chunk.dX hp.le (hs.chunk n c hn'))
      unfold Sx.m3
      simp only
      cases e2:ow b with
      |none=>
       simp only [reduceCtorEq,iff_false]
       rw [fY]
       exact fun h=>h.2 e1
      |some m=>
       simp only
       by_cases hm:m∈K
       · rw [if_pos hm,fY]
         refine⟨fun h=>absurd e1 h.2,fun e=>by cases e;exact absurd hm hK⟩
       · rw [if_neg hm]
 · unfold Sx.m3 at e
   simp only at e
   cases e2:ow b with
   |none=>rw [e2] at e;simp only at e;rw [fY] at e;exact hp.sat.bound b n e.1
   |some m=>
    rw [e2] at e
    simp only at e
    by_cases hm:m∈K
    · rw [if_pos hm,fY] at e;exact hp.sat.bound b n e.1
    · exact Nat.lt_of_lt_of_le (hs.bound b m e2) hp.frame.size
 · unfold Sx.m3 at e
   simp only at e
   cases e2:ow b with
   |none=>rw [e2] at e;simp only at e;rw [fY] at e;exact hp.sat.known b n e.1
   |some m=>
    rw [e2] at e
    simp only at e
    by_cases hm:m∈K
    · rw [if_pos hm,fY] at e;exact hp.sat.known b n e.1
    · rw [if_neg hm] at e
      simp only [Option.some.injEq] at e
      subst e
      exact hp.le.known (hs.known b m e2)
 · have:=hp.frame.aq b hb' (hnone b ho)
   refine⟨?_,this.2⟩
   unfold Sx.m3
   simp only
   rw [ho,this.1]
 · have key:ow' b=some n→(∃b',ow b'=some n)∨(c0≤n∧n < c1):=fun e=>by
    rcases hp.own b n e with⟨b',q⟩|q
    · exact .inl ⟨b',(j7.1 q).1⟩
    · exact .inr q
   unfold Sx.m3 at e
   simp only at e
   cases e2:ow b with
   |none=>rw [e2] at e;simp only at e;rw [fY] at e;exact key e.1
   |some m=>
    rw [e2] at e
    simp only at e
    by_cases hm:m∈K
    · rw [if_pos hm,fY] at e;exact key e.1
    · rw [if_neg hm] at e
      simp only [Option.some.injEq] at e
      subst e
      exact .inl ⟨b,e2⟩
theorem cC.aE {C:aP} (h:cC P C) (F:List Nat):cC P (aE P C F):=by
 have key:∀t x,Sx.aE P C F t=some x→C t=some x∨∃f asZ,t= .call f asZ∧x=X.bind X.tick fun a=>ob P f asZ a:=by
  intro t x e
  unfold Sx.aE at e
  split at e
  · rename_i f asZ
    cases hb:cY f F with
    |true=>simp only [hb,Option.some.injEq] at e;exact .inr ⟨_,_,rfl,e.symm⟩
    |false=>simp only [hb] at e;exact .inl e
  · exact .inl e
 refine⟨fun t x e=> ?_,fun t x e=> ?_⟩
 · rcases key t x e with q|⟨f,asZ,rfl,rfl⟩
   · exact h.loc t x q
   · exact Local.bind Local.tick fun a=>Local.ob _ _ _ a
 · rcases key t x e with q|⟨f,asZ,rfl,rfl⟩
   · exact h.snd t x q
   · intro d s res s' hx
     obtain⟨o,s1,h1,h2⟩:=bind_some hx
     obtain rfl:=kb h1
     unfold Sx.ob at h2
     split at h2
     · obtain⟨hk,q1,q2,q3,rfl,rfl⟩:=uw h2
       refine⟨fun hV=>nN hV,fun hV r ow w hs hf us hu=> ?_⟩
       have hdo:=nZ hV
       simp only [VC.ok] at hdo
       have hsk:Sat P r (part _ ow) hk w:=(hs.part _).less fun n x hx=>by
        obtain⟨a,b⟩:=zx q3 hx
        rw [Heap.p7,if_pos b];exact a
       refine Calls.mono (hdo.2 r (part _ ow) w hsk hf us hu) ?_
       intro e' w' ⟨r3,o3,u,p1,p3,p4⟩
       have q5:=aN.m3 hs hf q2 p3
       exact⟨r3,_,u,p1,⟨q5.le,q5.sat,q5.frame,q5.new,q5.mono,q5.own⟩,p4⟩
     · simp [X.fail] at h2
end Go.Sx
namespace Go.Proofs.YtalanookmohdeaaGreatDoor
open Go Go.Sx
def Ku (xs:List Value):Option (Bool×Value):=match xs with
 | [.string a,.string b]=>some (a.data.toList.length.ble 4294967295,.bool (nC a b))
 |_=>none
noncomputable def Ip:aP:=iZ eM 122 Ku
theorem aR:cC Tryz.prog Ip:=cC.iZ aA fun xs b v h hb=>by
 unfold Ku at h
 split at h
 · cases h
   exact F4 _ _ (by have:=Nat.le_of_ble_eq_true hb;omega)
 · cases h
end Go.Proofs.YtalanookmohdeaaGreatDoor
namespace Go.Sx
variable {P:Program}
theorem se {c0 c1 c hi:Nat}{h0 h1:Heap}{f:FuncId}{args:List Value}{v:Value} (h:ab P c0 h0 c1 h1 (.call f args) (.val v)) (hc:c0≤c) (hc1:c1≤hi)
  (a0:xW P c0 hi h0 h0) (a1:xW P c0 hi h1 h1) (aas:cL (cD 9 c0 hi) args=true) (av:cD 9 c0 hi v=true):ab P c h0 c h1 (.call f args) (.val v):=by
 refine⟨Nat.le_refl _,fun r ow w hs hf us hu=> ?_⟩
 have hs0:Sat P (r.cut c0 hi) (gx c0 hi ow) h0 w:=⟨fun n x e=>(a0 n x e).2.2 r ow w (hs.chunk n x e),fun b n e=>hs.bound b n (dM.1 e).1,fun b n e=>by
  obtain⟨q1,q2⟩:=dM.1 e
  simpa [Env.cut,q2] using hs.known b n q1⟩
 have hf0:bF (r.cut c0 hi) c0 c1:=fun n h1 h2=>by
  have:inside c0 hi n=true:=b8.2 ⟨h1,Nat.lt_of_lt_of_le h2 hc1⟩
  simp [Env.cut,this]
 have hu0:aw (r.cut c0 hi) args us.toList:=iv (eC 9) aas hu
 refine Calls.mono (h.2 _ _ w hs0 hf0 us hu0) fun e w' ⟨r1,ow1,u,he,hp,hv⟩=> ?_
 let r2:Env:=⟨fun n=>if inside c0 hi n then r.blk n else r1.blk n,fun n=>if inside c0 hi n then r.cap n else r1.cap n,fun n=>if inside c0 hi n then r.val n else r1.val n⟩
 let ow2:Nat→Option Nat:=fun b=>match ow b with
  |some n=>if inside c0 hi n then some n else gx c0 hi ow1 b
  |none=>gx c0 hi ow1 b
 have le1:r.Le r2:=⟨fun n b e=>by
   show(if _ then _ else _)=_
   cases q:inside c0 hi n with
   |true=>simp [e]
   |false=>simpa using hp.le.blk n b (by simp [Env.cut,q,e]),fun n b e=>by
   show(if _ then _ else _)=_
   cases q:inside c0 hi n with
   |true=>simp
   |false=>simpa [Env.cut] using hp.le.cap n b (by simp [Env.cut,q,e]),fun n b e=>by
   show(if _ then _ else _)=_
   cases q:inside c0 hi n with
   |true=>simp [e]
   |false=>simpa using hp.le.val n b (by simp [Env.cut,q,e])⟩
 have le2:(r1.cut c0 hi).Le r2:=⟨fun n b e=>by
   show(if _ then _ else _)=_
   cases q:inside c0 hi n with
   |true=>simp [Env.cut,q] at e
   |false=>simpa [Env.cut,q] using e,fun n b e=>by
   show(if _ then _ else _)=_
   cases q:inside c0 hi n with
   |true=>simp [Env.cut,q] at e
   |false=>simp [Env.cut],fun n b e=>by
   show(if _ then _ else _)=_
   cases q:inside c0 hi n with
   |true=>simp [Env.cut,q] at e
   |false=>simpa [Env.cut,q] using e⟩
 have hin:∀b n,ow b=some n→inside c0 hi n=true→gx c0 hi ow1 b=none:=fun b n e q=>by
  have:gx c0 hi ow b=none:=by unfold gx;simp [e,q]
  have:=(hp.frame.aq b (hs.bound b n e) this).1
  unfold gx
  rw [this]
 have how:∀b n,inside c0 hi n=false→(ow2 b=some n ↔ gx c0 hi ow1 b=some n):=fun b n q=>by
  show(match ow b with|some m=>_|none=>_)=_ ↔ _
  cases e:ow b with
  |none=>simp
  |some m=>
   simp only
   cases qm:inside c0 hi m with
   |false=>simp
   |true=>
    rw [hin b m e qm]
    simp only [if_true,Option.some.injEq,reduceCtorEq,iff_false]
    intro z;subst z;rw [qm] at q;cases q
 have hcut:∀b n,ow2 b=some n→(ow b=some n∧inside c0 hi n=true)∨gx c0 hi ow1 b=some n:=fun b n e=>by
  have e':(match ow b with|some n=>if inside c0 hi n then some n else gx c0 hi ow1 b|none=>gx c0 hi ow1 b)=some n:=e
  cases eo:ow b with
  |none=>rw [eo] at e';exact .inr e'
  |some m=>
   rw [eo] at e'
   simp only at e'
   split at e'
   · rename_i q;cases e';exact .inl ⟨rfl,q⟩
   · exact .inr e'
 refine⟨r2,ow2,u,he,⟨le1,⟨fun n x e=> ?_,fun b n e=> ?_,fun b n e=> ?_⟩,⟨hp.frame.os,hp.frame.tape,hp.frame.output,hp.frame.size,fun b hb ho=> ?_⟩,⟨fun n e=> .inl ?_,fun n e=> .inl ?_⟩,Nat.le_refl _,fun b n e=> .inl ?_⟩,?_⟩
 · obtain⟨q1,_,q3⟩:=a1 n x e
   exact Chunk.cR (fun _ _=>rfl) (fun b=>how b n q1) (Chunk.dX le2 (q3 r1 ow1 w' (hp.sat.chunk n x e)))
 · rcases hcut b n e with⟨q1,_⟩|q
   · exact Nat.lt_of_lt_of_le (hs.bound b n q1) hp.frame.size
   · exact hp.sat.bound b n (dM.1 q).1
 · rcases hcut b n e with⟨q1,_⟩|q
   · exact le1.known (hs.known b n q1)
   · obtain⟨q1,q2⟩:=dM.1 q
     have:=hp.sat.known b n q1
     show(if _ then _ else _)≠_∨(if _ then _ else _)≠_
     rw [q2];exact this
 · have h2:gx c0 hi ow b=none:=by unfold gx;rw [ho]
   have:=hp.frame.aq b hb h2
   refine⟨?_,this.2⟩
   show(match ow b with|some m=>_|none=>_)=_
   rw [ho]
   show gx c0 hi ow1 b=none
   unfold gx;rw [this.1]
 · have e':(if inside c0 hi n then r.blk n else r1.blk n)≠none:=e
   cases q:inside c0 hi n with
   |true=>rw [q] at e';exact e'
   |false=>
    rw [q] at e'
    rcases hp.new.1 n e' with z|z
    · simpa [Env.cut,q] using z
    · have z1:c0≤n:=z.1
      have z2:n < c1:=z.2
      rw [b8.2 ⟨z1,Nat.lt_of_lt_of_le z2 hc1⟩] at q;cases q
 · have e':(if inside c0 hi n then r.val n else r1.val n)≠none:=e
   cases q:inside c0 hi n with
   |true=>rw [q] at e';exact e'
   |false=>
    rw [q] at e'
    rcases hp.new.2 n e' with z|z
    · simpa [Env.cut,q] using z
    · have z1:c0≤n:=z.1
      have z2:n < c1:=z.2
      rw [b8.2 ⟨z1,Nat.lt_of_lt_of_le z2 hc1⟩] at q;cases q
 · rcases hcut b n e with⟨q1,_⟩|q
   · exact⟨b,q1⟩
   · obtain⟨q1,q2⟩:=dM.1 q
     rcases hp.own b n q1 with⟨b',z⟩|z
     · exact⟨b',(dM.1 z).1⟩
     · have z1:c0≤n:=z.1
       have z2:n < c1:=z.2
       rw [b8.2 ⟨z1,Nat.lt_of_lt_of_le z2 hc1⟩] at q2;cases q2
 · have:=eC 9 v av r1 u hv
   exact this.mono le2
def K0:Option (dI×St)→Option (Value×List VC)
 |some (.val v,s)=>some (v,s.V)
 |_=>none
theorem bo (hm:P.follows .mixedOrders=true) {C:aP} (hC:cC P C) {n:Nat}{f:FuncId}{args:List Value}{d:bj}{v:Value}{L:List VC}
  (e0:K0 (gn P C n (.call f args) d (bb 0 []))=some (v,L)) (hV:aW L) (ha:lJ (bare 9) args=true) (hv:bare 9 v=true):cQ P f args v:=by
 match e1:gn P C n (.call f args) d (bb 0 []),e0 with
 |some (.val v',s'),e0=>
  simp only [K0,Option.some.injEq,Prod.mk.injEq] at e0
  obtain⟨rfl,rfl⟩:=e0
  exact dp (gb hm hC e1 hV) ha hv
def Gw (ks:List Nat):Option (dI×St)→Option (dI×Nat×List (Option Chunk)×List VC)
 |some (a,s)=>some (a,s.c,ks.map s.h.get,s.V)
 |none=>none
theorem GA {c c1:Nat}{h0 h1 h2:Heap}{f:FuncId}{args:List Value}{v:Value} (h:ab P c h0 c1 h1 (.call f args) (.val v)) (hl:∀n x,h2.get n=some x→h1.get n=some x):ab P c h0 c1 h2 (.call f args) (.val v):=
 ⟨h.1,fun r ow w hs hf us hu=>Calls.mono (h.2 r ow w hs hf us hu) fun _ _ ⟨r',ow',u,he,hp,hv⟩=>⟨r',ow',u,he,⟨hp.le,hp.sat.less hl,hp.frame,hp.new,hp.mono,hp.own⟩,hv⟩⟩
theorem bh (hm:P.follows .mixedOrders=true) {C:aP} (hC:cC P C) {nn c c1:Nat}{h h1:Heap}{f:FuncId}{args:List Value}{v:Value}{d:bj}{L:List VC}
  (e0:Gw (aY h1) (gn P C nn (.call f args) d (bb c h))=some (.val v,c1,(aY h1).map h1.get,L)) (hV:aW L):ab P c h c1 h1 (.call f args) (.val v):=by
 match e1:gn P C nn (.call f args) d (bb c h),e0 with
 |some (a',s'),e0=>
  simp only [Gw,Option.some.injEq,Prod.mk.injEq] at e0
  obtain⟨rfl,rfl,h5,rfl⟩:=e0
  refine GA (gb hm hC e1 hV) fun n x hx=> ?_
  have hmem:=jD hx
  rw [List.map_inj_left.1 h5 n hmem];exact hx
end Go.Sx
namespace Go.Proofs.YtalanookmohdeaaGreatDoor
open Go Go.Sx
def cU (key:ByteArray):Bool:=bif (decide ((key.data.toList.length:Int) > 0)) then !(!decide ((key.data.toList.length:Int) < 17)) else false
def bf (kd:Int) (key val low high:ByteArray) (unb ins rds:Bool):Int:=
 bif decide (kd < 1) then 1 else bif decide (kd > 8) then 1
 else bif (bif kd==1 then ins==true else ins==(kd==8)) then 13
 else bif kd==3 then(bif rds then 15 else bif !cU key then 1 else bif decide ((val.data.toList.length:Int) > 16) then 1 else 0)
 else bif kd==4 then(bif rds then 15 else bif !cU key then 1 else 0)
 else bif kd==2 then(bif !cU key then 1 else 0)
 else bif kd==5 then(bif decide ((low.data.toList.length:Int) > 16) then 1 else bif decide ((high.data.toList.length:Int) > 16) then 1 else bif unb then(bif !cH high { data:= #[]} then 1 else 0) else bif !nC low high then 1 else 0)
 else 0
abbrev UD (kd lim:Int) (rd unb rev ins rds:Bool) (key val low high:ByteArray):List Value:= [.agg ⟨[iI kd,.bool rd,.string key,.string val,.string low,.string high,.bool unb,iI lim,.bool rev]⟩,.bool ins,.bool rds]
abbrev fN:=fun(kd lim:Int) (rd unb rev ins rds:Bool) (key val low high:ByteArray) h0=>cQ Tryz.prog 80 (UD kd lim rd unb rev ins rds key val low high) (iI h0)
section
set_option maxRecDepth 100000
set_option linter.unusedSectionVars false
variable {kd lim:Int}{rd unb rev ins rds:Bool}{key val low high:ByteArray}
variable (k0:(decide (kd < 1))=true)(k1:(decide (kd < 1))=false)(k2:(decide (kd > 8))=true)(k3:(decide (kd > 8))=false)(k4:(kd==1)=true)(k5:(ins==true)=true)(k6:(ins==true)=false)(k7:(kd==1)=false)(k8:(ins==(kd==8))=true)(k9:(ins==(kd==8))=false)(k10:(decide ((key.data.toList.length:Int) > 0))=false)(k11:(decide ((key.data.toList.length:Int) > 0))=true)(k12:(kd==3)=false)(k13:(kd==4)=false)(k14:(kd==2)=false)(k15:(kd==5)=false)(k16:(kd==3)=true)(k17:(kd==4)=true)(k18:(rds)=false)(k19:(rds)=true)(k20:(kd==2)=true)(k21:(!decide ((key.data.toList.length:Int) < 17))=false)(k22:(decide ((val.data.toList.length:Int) > 16))=false)(k23:(decide ((val.data.toList.length:Int) > 16))=true)(k24:(!decide ((key.data.toList.length:Int) < 17))=true)(k25:(kd==5)=true)(k26:(decide ((low.data.toList.length:Int) > 16))=true)(k27:(decide ((low.data.toList.length:Int) > 16))=false)(k28:(decide ((high.data.toList.length:Int) > 16))=true)(k29:(decide ((high.data.toList.length:Int) > 16))=false)(k30:(unb)=true)(k31:(!cH high { data:= #[]})=true)(k32:(!cH high { data:= #[]})=false)(k33:(unb)=false)(k34:(low.data.toList.length.ble 4294967295)=true)(k35:(!nC low high)=true)(k36:(!nC low high)=false)
include k0 in
theorem zf:fN kd lim rd unb rev ins rds key val low high 1:=by
 exact bo (n:=600) (d:=aT [1,2,3,4] []) mixed aR (by kernel_rfl) (ax k0 vN) rfl rfl
include k1 k2 in
theorem Ai:fN kd lim rd unb rev ins rds key val low high 1:=by
 exact bo (n:=600) (d:=aT [6] (aF [1,2,4,5] [])) mixed aR (by kernel_rfl) (vB k2 (ax k1 vN)) rfl rfl
include k1 k3 k4 k5 in
theorem zP:fN kd lim rd unb rev ins rds key val low high 13:=by
 exact bo (n:=600) (d:=aT [8,9,10,11,12] (aF [1,2,4,5,6] [])) mixed aR (by kernel_rfl) (vB k5 (ax k4 (vB k3 (ax k1 vN)))) rfl rfl
include k1 k3 k4 k6 k11 k12 k13 k14 k15 in
theorem yA:fN kd lim rd unb rev ins rds key val low high 0:=by
 exact bo (n:=600) (d:=aT [8,9,10,11,14,15,16,17] (aF [1,2,4,5,6,12,19,20,21,22] [])) mixed aR (by kernel_rfl) (vB k15 (vB k14 (vB k13 (vB k12 (ax k11 (vB k6 (ax k4 (vB k3 (ax k1 vN))))))))) rfl rfl
include k1 k3 k4 k6 k10 k12 k13 k14 k15 in
theorem zY:fN kd lim rd unb rev ins rds key val low high 0:=by
 exact bo (n:=600) (d:=aT [8,9,10,11] (aF [1,2,4,5,6,12,14,15,16,17,19,20,21,22] [])) mixed aR (by kernel_rfl) (vB k15 (vB k14 (vB k13 (vB k12 (ax k10 (vB k6 (ax k4 (vB k3 (ax k1 vN))))))))) rfl rfl
include k1 k3 k7 k8 in
theorem zR:fN kd lim rd unb rev ins rds key val low high 13:=by
 exact bo (n:=600) (d:=aT [13] (aF [1,2,4,5,6,8,9,11,12] [])) mixed aR (by kernel_rfl) (vB k8 (ax k7 (vB k3 (ax k1 vN)))) rfl rfl
include k1 k3 k7 k9 k11 k16 k19 in
theorem yp:fN kd lim rd unb rev ins rds key val low high 15:=by
 exact bo (n:=600) (d:=aT [15,16,17,18,20,21,22] (aF [1,2,4,5,6,8,9,11,12,13] [])) mixed aR (by kernel_rfl) (vB k19 (cZ k16 (ax k11 (vB k9 (ax k7 (vB k3 (ax k1 vN))))))) rfl rfl
include k1 k3 k7 k9 k11 k16 k18 k24 in
theorem zt:fN kd lim rd unb rev ins rds key val low high 1:=by
 exact bo (n:=600) (d:=aT [15,16,17,18,20,21,23,24,25,26,27,28] (aF [1,2,4,5,6,8,9,11,12,13,22] [])) mixed aR (by kernel_rfl) (kB k24 (vB k18 (cZ k16 (ax k11 (vB k9 (ax k7 (vB k3 (ax k1 vN)))))))) rfl rfl
include k1 k3 k7 k9 k11 k16 k18 k21 k23 in
theorem zn:fN kd lim rd unb rev ins rds key val low high 1:=by
 exact bo (n:=600) (d:=aT [15,16,17,18,20,21,28,29,31,32,34,36] (aF [1,2,4,5,6,8,9,11,12,13,22,23,24,26,27,33,35] [])) mixed aR (by kernel_rfl) (vB k23 (vB k21 (vB k16 (vB k21 (ax k16 (ax k21 (vB k18 (cZ k16 (ax k11 (vB k9 (ax k7 (vB k3 (ax k1 vN))))))))))))) rfl rfl
include k1 k3 k7 k9 k11 k16 k18 k21 k22 in
theorem yX:fN kd lim rd unb rev ins rds key val low high 0:=by
 exact bo (n:=600) (d:=aT [15,16,17,18,20,21,28,29,31,32,34] (aF [1,2,4,5,6,8,9,11,12,13,22,23,24,26,27,33,35,36] [])) mixed aR (by kernel_rfl) (vB k22 (vB k21 (vB k16 (vB k21 (ax k16 (ax k21 (vB k18 (cZ k16 (ax k11 (vB k9 (ax k7 (vB k3 (ax k1 vN))))))))))))) rfl rfl
include k1 k3 k7 k9 k11 k12 k17 k19 in
theorem xm:fN kd lim rd unb rev ins rds key val low high 15:=by
 exact bo (n:=600) (d:=aT [15,16,17,18,21,22] (aF [1,2,4,5,6,8,9,11,12,13,20] [])) mixed aR (by kernel_rfl) (vB k19 (vB k17 (vB k12 (ax k11 (vB k9 (ax k7 (vB k3 (ax k1 vN)))))))) rfl rfl
include k1 k3 k7 k9 k11 k12 k17 k18 k24 in
theorem xz:fN kd lim rd unb rev ins rds key val low high 1:=by
 exact bo (n:=600) (d:=aT [15,16,17,18,21,23,24,25,26,27,28] (aF [1,2,4,5,6,8,9,11,12,13,20,22] [])) mixed aR (by kernel_rfl) (kB k24 (vB k18 (vB k17 (vB k12 (ax k11 (vB k9 (ax k7 (vB k3 (ax k1 vN))))))))) rfl rfl
include k1 k3 k7 k9 k11 k12 k17 k18 k21 in
theorem xL:fN kd lim rd unb rev ins rds key val low high 0:=by
 exact bo (n:=600) (d:=aT [15,16,17,18,21] (aF [1,2,4,5,6,8,9,11,12,13,20,22,23,24,26,27,28,29,30,31,32,33,34] [])) mixed aR (by kernel_rfl) (vB k21 (vB k12 (vB k21 (ax k12 (ax k21 (vB k18 (vB k17 (vB k12 (ax k11 (vB k9 (ax k7 (vB k3 (ax k1 vN))))))))))))) rfl rfl
include k1 k3 k7 k9 k11 k12 k13 k20 k24 in
theorem xK:fN kd lim rd unb rev ins rds key val low high 1:=by
 exact bo (n:=600) (d:=aT [15,16,17,18,22,23] (aF [1,2,4,5,6,8,9,11,12,13,20,21] [])) mixed aR (by kernel_rfl) (vB k24 (vB k20 (vB k13 (vB k12 (ax k11 (vB k9 (ax k7 (vB k3 (ax k1 vN))))))))) rfl rfl
include k1 k3 k7 k9 k11 k12 k13 k20 k21 in
theorem xJ:fN kd lim rd unb rev ins rds key val low high 0:=by
 exact bo (n:=600) (d:=aT [15,16,17,18,22] (aF [1,2,4,5,6,8,9,11,12,13,20,21,23] [])) mixed aR (by kernel_rfl) (vB k21 (vB k20 (vB k13 (vB k12 (ax k11 (vB k9 (ax k7 (vB k3 (ax k1 vN))))))))) rfl rfl
include k1 k3 k7 k9 k11 k12 k13 k14 k25 k26 in
theorem xC:fN kd lim rd unb rev ins rds key val low high 1:=by
 exact bo (n:=600) (d:=aT [15,16,17,18,23,27,28,29,30] (aF [1,2,4,5,6,8,9,11,12,13,20,21,22] [])) mixed aR (by kernel_rfl) (ax k26 (vB k25 (vB k14 (vB k13 (vB k12 (ax k11 (vB k9 (ax k7 (vB k3 (ax k1 vN)))))))))) rfl rfl
include k1 k3 k7 k9 k11 k12 k13 k14 k25 k27 k28 in
theorem xQ:fN kd lim rd unb rev ins rds key val low high 1:=by
 exact bo (n:=600) (d:=aT [15,16,17,18,23,31] (aF [1,2,4,5,6,8,9,11,12,13,20,21,22,27,28,29,30] [])) mixed aR (by kernel_rfl) (vB k28 (ax k27 (vB k25 (vB k14 (vB k13 (vB k12 (ax k11 (vB k9 (ax k7 (vB k3 (ax k1 vN))))))))))) rfl rfl
include k1 k3 k7 k9 k11 k12 k13 k14 k25 k27 k29 k30 k31 in
theorem xA:fN kd lim rd unb rev ins rds key val low high 1:=by
 exact bo (n:=600) (d:=aT [15,16,17,18,23,32,33] (aF [1,2,4,5,6,8,9,11,12,13,20,21,22,27,28,29,30,31] [])) mixed aR (by kernel_rfl) (vB k31 (vB k30 (vB k29 (ax k27 (vB k25 (vB k14 (vB k13 (vB k12 (ax k11 (vB k9 (ax k7 (vB k3 (ax k1 vN))))))))))))) rfl rfl
include k1 k3 k7 k9 k11 k12 k13 k14 k25 k27 k29 k30 k32 in
theorem xM:fN kd lim rd unb rev ins rds key val low high 0:=by
 exact bo (n:=600) (d:=aT [15,16,17,18,23,32] (aF [1,2,4,5,6,8,9,11,12,13,20,21,22,27,28,29,30,31,33] [])) mixed aR (by kernel_rfl) (vB k32 (vB k30 (vB k29 (ax k27 (vB k25 (vB k14 (vB k13 (vB k12 (ax k11 (vB k9 (ax k7 (vB k3 (ax k1 vN))))))))))))) rfl rfl
include k1 k3 k7 k9 k11 k12 k13 k14 k25 k27 k29 k33 k34 k35 in
theorem xE:fN kd lim rd unb rev ins rds key val low high 1:=by
 exact bo (n:=600) (d:=aT [15,16,17,18,23,33,34] (aF [1,2,4,5,6,8,9,11,12,13,20,21,22,27,28,29,30,31,32] [])) mixed aR (by kernel_rfl) (vB k35 (vC k34 (vB k33 (vB k29 (ax k27 (vB k25 (vB k14 (vB k13 (vB k12 (ax k11 (vB k9 (ax k7 (vB k3 (ax k1 vN)))))))))))))) rfl rfl
include k1 k3 k7 k9 k11 k12 k13 k14 k25 k27 k29 k33 k34 k36 in
theorem xB:fN kd lim rd unb rev ins rds key val low high 0:=by
 exact bo (n:=600) (d:=aT [15,16,17,18,23,33] (aF [1,2,4,5,6,8,9,11,12,13,20,21,22,27,28,29,30,31,32,34] [])) mixed aR (by kernel_rfl) (vB k36 (vC k34 (vB k33 (vB k29 (ax k27 (vB k25 (vB k14 (vB k13 (vB k12 (ax k11 (vB k9 (ax k7 (vB k3 (ax k1 vN)))))))))))))) rfl rfl
include k1 k3 k7 k9 k11 k12 k13 k14 k15 in
theorem xN:fN kd lim rd unb rev ins rds key val low high 0:=by
 exact bo (n:=600) (d:=aT [15,16,17,18] (aF [1,2,4,5,6,8,9,11,12,13,20,21,22,23] [])) mixed aR (by kernel_rfl) (vB k15 (vB k14 (vB k13 (vB k12 (ax k11 (vB k9 (ax k7 (vB k3 (ax k1 vN))))))))) rfl rfl
include k1 k3 k7 k9 k10 k16 k19 in
theorem xu:fN kd lim rd unb rev ins rds key val low high 15:=by
 exact bo (n:=600) (d:=aT [20,21,22] (aF [1,2,4,5,6,8,9,11,12,13,15,16,17,18] [])) mixed aR (by kernel_rfl) (vB k19 (cZ k16 (ax k10 (vB k9 (ax k7 (vB k3 (ax k1 vN))))))) rfl rfl
include k1 k3 k7 k9 k10 k16 k18 in
theorem xw:fN kd lim rd unb rev ins rds key val low high 1:=by
 exact bo (n:=600) (d:=aT [20,21] (aF [1,2,4,5,6,8,9,11,12,13,15,16,17,18,22] [])) mixed aR (by kernel_rfl) (vB k18 (cZ k16 (ax k10 (vB k9 (ax k7 (vB k3 (ax k1 vN))))))) rfl rfl
include k1 k3 k7 k9 k10 k12 k17 k19 in
theorem xI:fN kd lim rd unb rev ins rds key val low high 15:=by
 exact bo (n:=600) (d:=aT [21,22] (aF [1,2,4,5,6,8,9,11,12,13,15,16,17,18,20] [])) mixed aR (by kernel_rfl) (vB k19 (vB k17 (vB k12 (ax k10 (vB k9 (ax k7 (vB k3 (ax k1 vN)))))))) rfl rfl
include k1 k3 k7 k9 k10 k12 k17 k18 in
theorem xq:fN kd lim rd unb rev ins rds key val low high 1:=by
 exact bo (n:=600) (d:=aT [21] (aF [1,2,4,5,6,8,9,11,12,13,15,16,17,18,20,22] [])) mixed aR (by kernel_rfl) (vB k18 (vB k17 (vB k12 (ax k10 (vB k9 (ax k7 (vB k3 (ax k1 vN)))))))) rfl rfl
include k1 k3 k7 k9 k10 k12 k13 k20 in
theorem xH:fN kd lim rd unb rev ins rds key val low high 1:=by
 exact bo (n:=600) (d:=aT [22] (aF [1,2,4,5,6,8,9,11,12,13,15,16,17,18,20,21] [])) mixed aR (by kernel_rfl) (vB k20 (vB k13 (vB k12 (ax k10 (vB k9 (ax k7 (vB k3 (ax k1 vN)))))))) rfl rfl
include k1 k3 k7 k9 k10 k12 k13 k14 k25 k26 in
theorem xx:fN kd lim rd unb rev ins rds key val low high 1:=by
 exact bo (n:=600) (d:=aT [23,27,28,29,30] (aF [1,2,4,5,6,8,9,11,12,13,15,16,17,18,20,21,22] [])) mixed aR (by kernel_rfl) (ax k26 (vB k25 (vB k14 (vB k13 (vB k12 (ax k10 (vB k9 (ax k7 (vB k3 (ax k1 vN)))))))))) rfl rfl
include k1 k3 k7 k9 k10 k12 k13 k14 k25 k27 k28 in
theorem xO:fN kd lim rd unb rev ins rds key val low high 1:=by
 exact bo (n:=600) (d:=aT [23,31] (aF [1,2,4,5,6,8,9,11,12,13,15,16,17,18,20,21,22,27,28,29,30] [])) mixed aR (by kernel_rfl) (vB k28 (ax k27 (vB k25 (vB k14 (vB k13 (vB k12 (ax k10 (vB k9 (ax k7 (vB k3 (ax k1 vN))))))))))) rfl rfl
include k1 k3 k7 k9 k10 k12 k13 k14 k25 k27 k29 k30 k31 in
theorem xR:fN kd lim rd unb rev ins rds key val low high 1:=by
 exact bo (n:=600) (d:=aT [23,32,33] (aF [1,2,4,5,6,8,9,11,12,13,15,16,17,18,20,21,22,27,28,29,30,31] [])) mixed aR (by kernel_rfl) (vB k31 (vB k30 (vB k29 (ax k27 (vB k25 (vB k14 (vB k13 (vB k12 (ax k10 (vB k9 (ax k7 (vB k3 (ax k1 vN))))))))))))) rfl rfl
include k1 k3 k7 k9 k10 k12 k13 k14 k25 k27 k29 k30 k32 in
theorem xP:fN kd lim rd unb rev ins rds key val low high 0:=by
 exact bo (n:=600) (d:=aT [23,32] (aF [1,2,4,5,6,8,9,11,12,13,15,16,17,18,20,21,22,27,28,29,30,31,33] [])) mixed aR (by kernel_rfl) (vB k32 (vB k30 (vB k29 (ax k27 (vB k25 (vB k14 (vB k13 (vB k12 (ax k10 (vB k9 (ax k7 (vB k3 (ax k1 vN))))))))))))) rfl rfl
include k1 k3 k7 k9 k10 k12 k13 k14 k25 k27 k29 k33 k34 k35 in
theorem xr:fN kd lim rd unb rev ins rds key val low high 1:=by
 exact bo (n:=600) (d:=aT [23,33,34] (aF [1,2,4,5,6,8,9,11,12,13,15,16,17,18,20,21,22,27,28,29,30,31,32] [])) mixed aR (by kernel_rfl) (vB k35 (vC k34 (vB k33 (vB k29 (ax k27 (vB k25 (vB k14 (vB k13 (vB k12 (ax k10 (vB k9 (ax k7 (vB k3 (ax k1 vN)))))))))))))) rfl rfl
include k1 k3 k7 k9 k10 k12 k13 k14 k25 k27 k29 k33 k34 k36 in
theorem xG:fN kd lim rd unb rev ins rds key val low high 0:=by
 exact bo (n:=600) (d:=aT [23,33] (aF [1,2,4,5,6,8,9,11,12,13,15,16,17,18,20,21,22,27,28,29,30,31,32,34] [])) mixed aR (by kernel_rfl) (vB k36 (vC k34 (vB k33 (vB k29 (ax k27 (vB k25 (vB k14 (vB k13 (vB k12 (ax k10 (vB k9 (ax k7 (vB k3 (ax k1 vN)))))))))))))) rfl rfl
include k1 k3 k7 k9 k10 k12 k13 k14 k15 in
theorem xn:fN kd lim rd unb rev ins rds key val low high 0:=by
 exact bo (n:=600) (d:=aF [1,2,4,5,6,8,9,11,12,13,15,16,17,18,20,21,22,23] []) mixed aR (by kernel_rfl) (vB k15 (vB k14 (vB k13 (vB k12 (ax k10 (vB k9 (ax k7 (vB k3 (ax k1 vN))))))))) rfl rfl
theorem F1 (kd:Int) (rd:Bool) (key val low high:ByteArray) (unb:Bool) (lim:Int) (rev ins rds:Bool) (hlow:low.data.toList.length≤4294967295):cQ Tryz.prog 80 [.agg ⟨[.int .i64 kd,.bool rd,.string key,.string val,.string low,.string high,.bool unb,.int .i64 lim,.bool rev]⟩,.bool ins,.bool rds] (.int .i64 (bf kd key val low high unb ins rds)):=by
 have hlow:(low.data.toList.length.ble 4294967295)=true:=Nat.ble_eq_true_of_le hlow
 cases q0:(decide (kd < 1)) with
 |false=>
  cases q1:(decide (kd > 8)) with
  |false=>
   cases q2:(kd==1) with
   |false=>
    cases q3:(ins==(kd==8)) with
    |false=>
     cases q4:(decide ((key.data.toList.length:Int) > 0)) with
     |false=>
      cases q5:(kd==3) with
      |false=>
       cases q6:(kd==4) with
       |false=>
        cases q7:(kd==2) with
        |false=>
         cases q8:(kd==5) with
         |false=>
          rw [show bf kd key val low high unb ins rds=0 from by simp only [bf,cU,q0,q1,q2,q3,q4,q5,q6,q7,q8,cond_true,cond_false,Bool.not_true,Bool.not_false]];exact xn q0 q1 q2 q3 q4 q5 q6 q7 q8
         |true=>
          cases q9:(decide ((low.data.toList.length:Int) > 16)) with
          |false=>
           cases q10:(decide ((high.data.toList.length:Int) > 16)) with
           |false=>
            cases unb with
            |false=>
             have q12:(low.data.toList.length.ble 4294967295)=true:=hlow
             cases q13:(!nC low high) with
             |false=>
              rw [show bf kd key val low high false ins rds=0 from by simp only [bf,cU,q0,q1,q2,q3,q4,q5,q6,q7,q8,q9,q10,q12,q13,cond_true,cond_false,Bool.not_true,Bool.not_false]];exact xG q0 q1 q2 q3 q4 q5 q6 q7 q8 q9 q10 rfl q12 q13
             |true=>
              rw [show bf kd key val low high false ins rds=1 from by simp only [bf,cU,q0,q1,q2,q3,q4,q5,q6,q7,q8,q9,q10,q12,q13,cond_true,cond_false,Bool.not_true,Bool.not_false]];exact xr q0 q1 q2 q3 q4 q5 q6 q7 q8 q9 q10 rfl q12 q13
            |true=>
             cases q12:(!cH high { data:= #[]}) with
             |false=>
              rw [show bf kd key val low high true ins rds=0 from by simp only [bf,cU,q0,q1,q2,q3,q4,q5,q6,q7,q8,q9,q10,q12,cond_true,cond_false,Bool.not_true,Bool.not_false]];exact xP q0 q1 q2 q3 q4 q5 q6 q7 q8 q9 q10 rfl q12
             |true=>
              rw [show bf kd key val low high true ins rds=1 from by simp only [bf,cU,q0,q1,q2,q3,q4,q5,q6,q7,q8,q9,q10,q12,cond_true,cond_false,Bool.not_true,Bool.not_false]];exact xR q0 q1 q2 q3 q4 q5 q6 q7 q8 q9 q10 rfl q12
           |true=>
            rw [show bf kd key val low high unb ins rds=1 from by simp only [bf,cU,q0,q1,q2,q3,q4,q5,q6,q7,q8,q9,q10,cond_true,cond_false,Bool.not_true,Bool.not_false]];exact xO q0 q1 q2 q3 q4 q5 q6 q7 q8 q9 q10
          |true=>
           rw [show bf kd key val low high unb ins rds=1 from by simp only [bf,cU,q0,q1,q2,q3,q4,q5,q6,q7,q8,q9,cond_true,cond_false,Bool.not_true,Bool.not_false]];exact xx q0 q1 q2 q3 q4 q5 q6 q7 q8 q9
        |true=>
         rw [show bf kd key val low high unb ins rds=1 from by simp only [bf,cU,q0,q1,q2,q3,q4,q5,q6,q7,cond_true,cond_false,Bool.not_true,Bool.not_false]];exact xH q0 q1 q2 q3 q4 q5 q6 q7
       |true=>
        cases rds with
        |false=>
         rw [show bf kd key val low high unb ins false=1 from by simp only [bf,cU,q0,q1,q2,q3,q4,q5,q6,cond_true,cond_false,Bool.not_true,Bool.not_false]];exact xq q0 q1 q2 q3 q4 q5 q6 rfl
        |true=>
         rw [show bf kd key val low high unb ins true=15 from by simp only [bf,cU,q0,q1,q2,q3,q4,q5,q6,cond_true,cond_false,Bool.not_true,Bool.not_false]];exact xI q0 q1 q2 q3 q4 q5 q6 rfl
      |true=>
       cases rds with
       |false=>
        rw [show bf kd key val low high unb ins false=1 from by simp only [bf,cU,q0,q1,q2,q3,q4,q5,cond_true,cond_false,Bool.not_true,Bool.not_false]];exact xw q0 q1 q2 q3 q4 q5 rfl
       |true=>
        rw [show bf kd key val low high unb ins true=15 from by simp only [bf,cU,q0,q1,q2,q3,q4,q5,cond_true,cond_false,Bool.not_true,Bool.not_false]];exact xu q0 q1 q2 q3 q4 q5 rfl
     |true=>
      cases q5:(kd==3) with
      |false=>
       cases q6:(kd==4) with
       |false=>
        cases q7:(kd==2) with
        |false=>
         cases q8:(kd==5) with
         |false=>
          rw [show bf kd key val low high unb ins rds=0 from by simp only [bf,cU,q0,q1,q2,q3,q4,q5,q6,q7,q8,cond_true,cond_false,Bool.not_true,Bool.not_false]];exact xN q0 q1 q2 q3 q4 q5 q6 q7 q8
         |true=>
          cases q9:(decide ((low.data.toList.length:Int) > 16)) with
          |false=>
           cases q10:(decide ((high.data.toList.length:Int) > 16)) with
           |false=>
            cases unb with
            |false=>
             have q12:(low.data.toList.length.ble 4294967295)=true:=hlow
             cases q13:(!nC low high) with
             |false=>
              rw [show bf kd key val low high false ins rds=0 from by simp only [bf,cU,q0,q1,q2,q3,q4,q5,q6,q7,q8,q9,q10,q12,q13,cond_true,cond_false,Bool.not_true,Bool.not_false]];exact xB q0 q1 q2 q3 q4 q5 q6 q7 q8 q9 q10 rfl q12 q13
             |true=>
              rw [show bf kd key val low high false ins rds=1 from by simp only [bf,cU,q0,q1,q2,q3,q4,q5,q6,q7,q8,q9,q10,q12,q13,cond_true,cond_false,Bool.not_true,Bool.not_false]];exact xE q0 q1 q2 q3 q4 q5 q6 q7 q8 q9 q10 rfl q12 q13
            |true=>
             cases q12:(!cH high { data:= #[]}) with
             |false=>
              rw [show bf kd key val low high true ins rds=0 from by simp only [bf,cU,q0,q1,q2,q3,q4,q5,q6,q7,q8,q9,q10,q12,cond_true,cond_false,Bool.not_true,Bool.not_false]];exact xM q0 q1 q2 q3 q4 q5 q6 q7 q8 q9 q10 rfl q12
             |true=>
              rw [show bf kd key val low high true ins rds=1 from by simp only [bf,cU,q0,q1,q2,q3,q4,q5,q6,q7,q8,q9,q10,q12,cond_true,cond_false,Bool.not_true,Bool.not_false]];exact xA q0 q1 q2 q3 q4 q5 q6 q7 q8 q9 q10 rfl q12
           |true=>
            rw [show bf kd key val low high unb ins rds=1 from by simp only [bf,cU,q0,q1,q2,q3,q4,q5,q6,q7,q8,q9,q10,cond_true,cond_false,Bool.not_true,Bool.not_false]];exact xQ q0 q1 q2 q3 q4 q5 q6 q7 q8 q9 q10
          |true=>
           rw [show bf kd key val low high unb ins rds=1 from by simp only [bf,cU,q0,q1,q2,q3,q4,q5,q6,q7,q8,q9,cond_true,cond_false,Bool.not_true,Bool.not_false]];exact xC q0 q1 q2 q3 q4 q5 q6 q7 q8 q9
        |true=>
         cases q8:(!decide ((key.data.toList.length:Int) < 17)) with
         |false=>
          rw [show bf kd key val low high unb ins rds=0 from by simp only [bf,cU,q0,q1,q2,q3,q4,q5,q6,q7,q8,cond_true,cond_false,Bool.not_true,Bool.not_false]];exact xJ q0 q1 q2 q3 q4 q5 q6 q7 q8
         |true=>
          rw [show bf kd key val low high unb ins rds=1 from by simp only [bf,cU,q0,q1,q2,q3,q4,q5,q6,q7,q8,cond_true,cond_false,Bool.not_true,Bool.not_false]];exact xK q0 q1 q2 q3 q4 q5 q6 q7 q8
       |true=>
        cases rds with
        |false=>
         cases q8:(!decide ((key.data.toList.length:Int) < 17)) with
         |false=>
          rw [show bf kd key val low high unb ins false=0 from by simp only [bf,cU,q0,q1,q2,q3,q4,q5,q6,q8,cond_true,cond_false,Bool.not_true,Bool.not_false]];exact xL q0 q1 q2 q3 q4 q5 q6 rfl q8
         |true=>
          rw [show bf kd key val low high unb ins false=1 from by simp only [bf,cU,q0,q1,q2,q3,q4,q5,q6,q8,cond_true,cond_false,Bool.not_true,Bool.not_false]];exact xz q0 q1 q2 q3 q4 q5 q6 rfl q8
        |true=>
         rw [show bf kd key val low high unb ins true=15 from by simp only [bf,cU,q0,q1,q2,q3,q4,q5,q6,cond_true,cond_false,Bool.not_true,Bool.not_false]];exact xm q0 q1 q2 q3 q4 q5 q6 rfl
      |true=>
       cases rds with
       |false=>
        cases q7:(!decide ((key.data.toList.length:Int) < 17)) with
        |false=>
         cases q8:(decide ((val.data.toList.length:Int) > 16)) with
         |false=>
          rw [show bf kd key val low high unb ins false=0 from by simp only [bf,cU,q0,q1,q2,q3,q4,q5,q7,q8,cond_true,cond_false,Bool.not_true,Bool.not_false]];exact yX q0 q1 q2 q3 q4 q5 rfl q7 q8
         |true=>
          rw [show bf kd key val low high unb ins false=1 from by simp only [bf,cU,q0,q1,q2,q3,q4,q5,q7,q8,cond_true,cond_false,Bool.not_true,Bool.not_false]];exact zn q0 q1 q2 q3 q4 q5 rfl q7 q8
        |true=>
         rw [show bf kd key val low high unb ins false=1 from by simp only [bf,cU,q0,q1,q2,q3,q4,q5,q7,cond_true,cond_false,Bool.not_true,Bool.not_false]];exact zt q0 q1 q2 q3 q4 q5 rfl q7
       |true=>
        rw [show bf kd key val low high unb ins true=15 from by simp only [bf,cU,q0,q1,q2,q3,q4,q5,cond_true,cond_false,Bool.not_true,Bool.not_false]];exact yp q0 q1 q2 q3 q4 q5 rfl
    |true=>
     rw [show bf kd key val low high unb ins rds=13 from by simp only [bf,cU,q0,q1,q2,q3,cond_true,cond_false,Bool.not_true,Bool.not_false]];exact zR q0 q1 q2 q3
   |true=>
    cases q3:(ins==true) with
    |false=>
     cases q4:(decide ((key.data.toList.length:Int) > 0)) with
     |false=>
      have q5:(kd==3)=false:=(by simp only [decide_eq_true_eq,decide_eq_false_iff_not,beq_iff_eq,beq_eq_false_iff_ne,bne_iff_ne,bne_eq_false_iff_eq,ne_eq] at *;omega)
      have q6:(kd==4)=false:=(by simp only [decide_eq_true_eq,decide_eq_false_iff_not,beq_iff_eq,beq_eq_false_iff_ne,bne_iff_ne,bne_eq_false_iff_eq,ne_eq] at *;omega)
      have q7:(kd==2)=false:=(by simp only [decide_eq_true_eq,decide_eq_false_iff_not,beq_iff_eq,beq_eq_false_iff_ne,bne_iff_ne,bne_eq_false_iff_eq,ne_eq] at *;omega)
      have q8:(kd==5)=false:=(by simp only [decide_eq_true_eq,decide_eq_false_iff_not,beq_iff_eq,beq_eq_false_iff_ne,bne_iff_ne,bne_eq_false_iff_eq,ne_eq] at *;omega)
      rw [show bf kd key val low high unb ins rds=0 from by simp only [bf,cU,q0,q1,q2,q3,q4,q5,q6,q7,q8,cond_true,cond_false,Bool.not_true,Bool.not_false]];exact zY q0 q1 q2 q3 q4 q5 q6 q7 q8
     |true=>
      have q5:(kd==3)=false:=(by simp only [decide_eq_true_eq,decide_eq_false_iff_not,beq_iff_eq,beq_eq_false_iff_ne,bne_iff_ne,bne_eq_false_iff_eq,ne_eq] at *;omega)
      have q6:(kd==4)=false:=(by simp only [decide_eq_true_eq,decide_eq_false_iff_not,beq_iff_eq,beq_eq_false_iff_ne,bne_iff_ne,bne_eq_false_iff_eq,ne_eq] at *;omega)
      have q7:(kd==2)=false:=(by simp only [decide_eq_true_eq,decide_eq_false_iff_not,beq_iff_eq,beq_eq_false_iff_ne,bne_iff_ne,bne_eq_false_iff_eq,ne_eq] at *;omega)
      have q8:(kd==5)=false:=(by simp only [decide_eq_true_eq,decide_eq_false_iff_not,beq_iff_eq,beq_eq_false_iff_ne,bne_iff_ne,bne_eq_false_iff_eq,ne_eq] at *;omega)
      rw [show bf kd key val low high unb ins rds=0 from by simp only [bf,cU,q0,q1,q2,q3,q4,q5,q6,q7,q8,cond_true,cond_false,Bool.not_true,Bool.not_false]];exact yA q0 q1 q2 q3 q4 q5 q6 q7 q8
    |true=>
     rw [show bf kd key val low high unb ins rds=13 from by simp only [bf,cU,q0,q1,q2,q3,cond_true,cond_false,Bool.not_true,Bool.not_false]];exact zP q0 q1 q2 q3
  |true=>
   rw [show bf kd key val low high unb ins rds=1 from by simp only [bf,cU,q0,q1,cond_true,cond_false,Bool.not_true,Bool.not_false]];exact Ai q0 q1
 |true=>
  rw [show bf kd key val low high unb ins rds=1 from by simp only [bf,cU,q0,cond_true,cond_false,Bool.not_true,Bool.not_false]];exact zf q0
def Kr (xs:List Value):Option (Bool×Value):=match xs with
 | [.agg ⟨[.int .i64 kd,.bool rd,.string key,.string val,.string low,.string high,.bool unb,.int .i64 lim,.bool rev]⟩,.bool ins,.bool rds]=>some (low.data.toList.length.ble 4294967295,.int .i64 (bf kd key val low high unb ins rds))
 |_=>none
noncomputable def cz:aP:=iZ Ip 80 Kr
theorem ar:cC Tryz.prog cz:=cC.iZ aR fun xs b v h hb=>by
 unfold Kr at h
 split at h
 · cases h
   exact F1 _ _ _ _ _ _ _ _ _ _ _ (Nat.le_of_ble_eq_true hb)
 · cases h
end
end Go.Proofs.YtalanookmohdeaaGreatDoor
