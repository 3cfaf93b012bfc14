/- TxnNothing: the symbolic executor. No condition. -/
import Derived.Test.YtalanookmohdeaaGreatDoorProg
import Derived.WalkKit
import Derived.LaidEql
import Derived.Stop.Asserts
import Derived.RowKitTokens
import Derived.Test.YtalanookmohdeaaGreatDoorM5
namespace Go.Sx
variable {P:Program}
structure Conv (P:Program) {I:Type} (cm cm':Nat) (H:Heap) (T:List Value) (H':I→Heap) (T':I→List Value):Prop where
 conv:∀(r:Env) (ow:Nat→Option Nat) (w:World),Sat P r ow H w→bF r cm cm'→∃i r' ow',r.Le r'∧Sat P r' ow' (H' i) w∧fI r r' cm cm'∧
  (∀b n,ow' b=some n→(∃b',ow b'=some n)∨(cm≤n∧n < cm'))∧(∀b,ow b=none→ow' b=none)∧(∀us,aw r T us→aw r' (T' i) us)
theorem iT {r r':Env}{cm c2 c3 c1:Nat} (hfr:bF r cm c1) (hn:fI r r' cm c2) (h1:cm≤c2) (h3:c3≤c1):bF r' c2 c3:=fun n h2 h4=>by
 have hn0:=hfr n (by omega) (by omega)
 constructor
 · cases e:r'.blk n with
   |none=>rfl
   |some x=>
    rcases hn.1 n (by rw [e];simp) with q|q
    · exact absurd hn0.1 q
    · omega
 · cases e:r'.val n with
   |none=>rfl
   |some x=>
    rcases hn.2 n (by rw [e];simp) with q|q
    · exact absurd hn0.2 q
    · omega
theorem tL {I:Type}{c0 cm cm' c1:Nat}{h0 H h1:Heap}{H':I→Heap}{code:Code}{T:List Value}{T':I→List Value}{e:bU}{Tf:List Value} (hc:cm≤cm') (hc1:cm'≤c1)
  (hv:Conv P cm cm' H T H' T') (hm:∀i,Mid P c0 h0 cm' (H' i) c1 h1 code (T' i) e Tf):Mid P c0 h0 cm H c1 h1 code T e Tf:=by
 intro r0 ow0 w0 r ow w hf hpo hfr a ha hd
 obtain⟨i,r',ow',hle,hsat,hnew,hown,hkeep,hT⟩:=hv.conv r ow w hpo.sat (hfr.sub (Nat.le_refl _) hc1)
 have hq:aN P r ow w (bb cm H) r' ow' w (bb cm' (H' i)):=⟨hle,hsat,⟨rfl,rfl,rfl,Nat.le_refl _,fun b _ ho=>⟨hkeep b ho,rfl⟩⟩,hnew,hc,hown⟩
 refine hm i r0 ow0 w0 r' ow' w hf (hpo.trans hq) (fun n h1 h2=> ?_) a (hT _ ha) hd
 have hn:=hfr n (by omega) h2
 constructor
 · cases e:r'.blk n with
   |none=>rfl
   |some x=>
    rcases hnew.1 n (by rw [e];simp) with q|q
    · exact absurd hn.1 q
    · omega
 · cases e:r'.val n with
   |none=>rfl
   |some x=>
    rcases hnew.2 n (by rw [e];simp) with q|q
    · exact absurd hn.2 q
    · omega
theorem az.refl:∀x:Chunk,az x x
 | .cells l _=> .cells (aj.refl l)
 | .map es=> .map rfl (aj.refl _) (aj.refl _)
 | .sem _=> .sem
 | .args _ _=> .args
 | .froz _ _=> .froz
 | .bag _ _=> .bag (Nat.le_refl _)
 | .iter _ _=> .iter
def gW (P:Program) (b:Nat) (F:Env→Heap→Prop):aG where
 holds w S:=∃(r:Env) (ow:Nat→Option Nat) (h:Heap),F r h∧r.blk 0=some b∧Sat P r ow h w∧∀b,ow b≠none→S b
 up:=fun hS ⟨r,ow,h,h1,h2,h3,h4⟩=>⟨r,ow,h,h1,h2,h3,fun b hb=>hS b (h4 b hb)⟩
 loc:=fun hw ⟨r,ow,h,h1,h2,h3,h4⟩=>⟨r,ow,h,h1,h2,⟨fun n c hc=>Chunk.cR (fun b hb=>hw b (h4 b (by rw [hb];simp))) (fun _=>Iff.rfl) (h3.chunk n c hc),fun b n hb=>by
  have hS:=hw b (h4 b (by rw [hb];simp))
  have hlt:=h3.bound b n hb
  rw [Array.getElem?_eq_getElem hlt] at hS
  exact(Array.getElem?_eq_some_iff.1 hS).1,h3.known⟩,h4⟩
def aG.emp:aG where
 holds _ _:=True
 up:=fun _ h=>h
 loc:=fun _ h=>h
def aG.sep (x y:aG):aG where
 holds w S:=∃S1 S2:Nat→Prop,(∀b,S1 b→S b)∧(∀b,S2 b→S b)∧(∀b,S1 b→S2 b→False)∧x.holds w S1∧y.holds w S2
 up:=fun hS ⟨S1,S2,h1,h2,h3,h4,h5⟩=>⟨S1,S2,fun b hb=>hS b (h1 b hb),fun b hb=>hS b (h2 b hb),h3,h4,h5⟩
 loc:=fun hw ⟨S1,S2,h1,h2,h3,h4,h5⟩=>⟨S1,S2,h1,h2,h3,x.loc (fun b hb=>hw b (h1 b hb)) h4,y.loc (fun b hb=>hw b (h2 b hb)) h5⟩
def ad:List aG→aG
 | []=>aG.emp
 |x::l=>x.sep (ad l)
theorem oD {w:World}:∀ {l:List aG}{k:Nat}{S:Nat→Prop} (hk:k < l.length),(ad l).holds w S→(l[k].sep (ad (l.eraseIdx k))).holds w S
 |x::l,0,S,_,h=>h
 |x::l,k+1,S,hk,⟨S1,S2,h1,h2,h3,h4,h5⟩=>by
  obtain⟨U1,U2,g1,g2,g3,g4,g5⟩:=oD (k:=k) (by simpa using hk) h5
  refine⟨U1,fun b=>S1 b∨U2 b,fun b hb=>h2 b (g1 b hb),fun b hb=>hb.elim (h1 b) fun q=>h2 b (g2 b q),fun b p q=>q.elim (fun q=>h3 b q (g1 b p)) (g3 b p),g4,?_⟩
  exact⟨S1,U2,fun b hb=> .inl hb,fun b hb=> .inr hb,fun b p q=>h3 b p (g2 b q),h4,g5⟩
theorem qu {w:World}{x:aG}:∀ {l:List aG}{k:Nat}{S:Nat→Prop} (_:k < l.length),(x.sep (ad (l.eraseIdx k))).holds w S→(ad (l.set k x)).holds w S
 |y::l,0,S,_,h=>h
 |y::l,k+1,S,hk,⟨S1,S2,h1,h2,h3,h4,h5⟩=>by
  obtain⟨U1,U2,g1,g2,g3,g4,g5⟩:=h5
  refine⟨U1,fun b=>S1 b∨U2 b,fun b hb=>h2 b (g1 b hb),fun b hb=>hb.elim (h1 b) fun q=>h2 b (g2 b q),fun b p q=>q.elim (fun q=>h3 b q (g1 b p)) (g3 b p),g4,?_⟩
  exact qu (by simpa using hk) ⟨S1,U2,fun b hb=> .inl hb,fun b hb=> .inr hb,fun b p q=>h3 b p (g2 b q),h4,g5⟩
def ui (cm K:Nat) (i:Nat):Option Nat:=if i < K then some (cm+i) else none
def aB (cm K:Nat) (h:Heap):Heap:=h.map fun p=>(cm+p.1,p.2.bC (ui cm K))
theorem uQ {cm K n:Nat}{x:Chunk}:∀ {h:Heap},(aB cm K h).get n=some x→∃i y,n=cm+i∧h.get i=some y∧x=y.bC (ui cm K)
 | [],e=>by cases e
 |(m,y)::h,e=>by
  by_cases q:cm+m=n
  · simp [aB,Heap.get,cj,q] at e
    refine⟨m,y,q.symm,?_,e.symm⟩
    simp [Heap.get,cj]
  · have e':(aB cm K h).get n=some x:=by simpa [aB,Heap.get,cj,q] using e
    obtain⟨i,z,h1,h2,h3⟩:=uQ (h:=h) e'
    refine⟨i,z,h1,?_,h3⟩
    have:m≠i:=fun p=>q (by omega)
    simp [Heap.get,cj,this,h2]
theorem Gq {r:Env}{ow:Nat→Option Nat}{H:Heap}{w:World}{n b cm K:Nat}{F:Env→Heap→Prop}{y:aG} (hs:Sat P r ow H w) (hn:H.get n=some (.sem ((gW P b F).sep y))) (hnc:n < cm)
  (hb:a8 cm H=true) (hf:bF r cm (cm+K)) (hK:∀r h,F r h→∀i x,h.get i=some x→i < K):
  ∃h r0 r' ow',F r0 h∧(∀i v,i < K→r0.val i=some v→r'.val (cm+i)=some v)∧r.Le r'∧(0 < K→r'.blk cm=some b)∧Sat P r' ow' (H.put n (.sem y)++aB cm K h) w∧fI r r' cm (cm+K)∧
   (∀b n,ow' b=some n→(∃b',ow b'=some n)∨(cm≤n∧n < cm+K))∧(∀b,ow b=none→ow' b=none):=by
 classical
 obtain⟨S1,S2,h1,h2,h3,⟨r0,ow0,h,g1,g2,g3,g4⟩,h5⟩:=hs.chunk n _ hn
 let r':Env:=⟨fun m=>if cm≤m∧m < cm+K then r0.blk (m - cm) else r.blk m,fun m=>if cm≤m∧m < cm+K then r0.cap (m - cm) else r.cap m,fun m=>if cm≤m∧m < cm+K then r0.val (m - cm) else r.val m⟩
 let ow':Nat→Option Nat:=fun x=>match ow x with
  |some m=>if m=n then(match ow0 x with
   |some i=>if i < K then some (cm+i) else none
   |none=>if S2 x then some n else none) else some m
  |none=>none
 have hle:r.Le r':=⟨fun m x e=>by
   show(if _ then _ else _)=_
   by_cases q:cm≤m∧m < cm+K
   · rw [(hf m q.1 q.2).1] at e;cases e
   · rw [if_neg q];exact e,fun m x e=>by
   show(if _ then _ else _)=_
   by_cases q:cm≤m∧m < cm+K
   · rw [(hf m q.1 q.2).1] at e;cases e
   · rw [if_neg q],fun m x e=>by
   show(if _ then _ else _)=_
   by_cases q:cm≤m∧m < cm+K
   · rw [(hf m q.1 q.2).2] at e;cases e
   · rw [if_neg q];exact e⟩
 have hup:∀i m,ui cm K i=some m→r'.blk m=r0.blk i∧r'.cap m=r0.cap i∧r'.val m=r0.val i:=fun i m e=>by
  unfold ui at e
  split at e
  · rename_i q
    cases e
    have q2:cm≤cm+i∧cm+i < cm+K:=⟨by omega,by omega⟩
    refine⟨?_,?_,?_⟩ <;> (show(if _ then _ else _)=_;rw [if_pos q2,Nat.add_sub_cancel_left])
  · cases e
 have hmem:∀x i,ow0 x=some i→ow x=some n:=fun x i e=>h1 x (g4 x (by rw [e];simp))
 have hlow:∀x m,m≠n→m < cm→(ow' x=some m ↔ ow x=some m):=fun x m hm hmc=>by
  show(match ow x with|some m'=>_|none=>_)=some m ↔ _
  cases e:ow x with
  |none=>simp
  |some m'=>
   simp only
   by_cases q:m'=n
   · subst q
     rw [if_pos rfl]
     constructor
     · intro z
       cases e0:ow0 x with
       |some i=>
        rw [e0] at z
        simp only at z
        split at z
        · cases z;omega
        · cases z
       |none=>
        rw [e0] at z
        simp only at z
        split at z
        · cases z;exact absurd rfl hm
        · cases z
     · intro z;cases z;exact absurd rfl hm
   · rw [if_neg q]
 refine⟨h,r0,r',ow',g1,fun i v hi hv=> ?_,hle,fun hK0=> ?_,⟨fun m c hc=> ?_,fun x m hx=> ?_,fun x m hx=> ?_⟩,⟨fun m e=> ?_,fun m e=> ?_⟩,fun x m hx=> ?_,fun x hx=> ?_⟩
 · rw [(hup i (cm+i) (by unfold ui;rw [if_pos hi])).2.2];exact hv
 · show(if _ then _ else _)=_
   rw [if_pos ⟨Nat.le_refl _,by omega⟩,Nat.sub_self];exact g2
 · rw [Heap.get_append] at hc
   cases e:(H.put n (.sem y)).get m with
   |some z=>
    rw [e] at hc
    simp only [Option.some.injEq] at hc
    subst hc
    rw [Heap.cG] at e
    split at e
    · rename_i q;rw [q];cases e
      refine y.up (fun x hx=> ?_) h5
      have hx2:=h2 x hx
      show(match ow x with|some m'=>_|none=>_)=some n
      rw [show ow x=some n from hx2]
      simp only [if_true]
      cases e0:ow0 x with
      |some i=>exact absurd hx (fun q=>h3 x (g4 x (by rw [e0];simp)) q)
      |none=>simp only;rw [if_pos hx]
    · rename_i q
      have hm:m < cm:=gf hb e
      exact Chunk.cR (fun _ _=>rfl) (fun x=>hlow x m (fun p=>q (by first|exact p|exact p.symm)) hm) (Chunk.dX hle (hs.chunk m _ e))
   |none=>
    rw [e] at hc
    simp only at hc
    obtain⟨i,z,rfl,hz,rfl⟩:=uQ hc
    have hi:=hK r0 h g1 i z hz
    have hu:ui cm K i=some (cm+i):=by unfold ui;rw [if_pos hi]
    refine oi hup (fun x hx=> ?_) hu (az.refl _) (g3.chunk i z hz)
    show(match ow x with|some m'=>_|none=>_)=_
    rw [hmem x i hx]
    simp only [if_true,hx]
    rw [if_pos hi]
 · cases e:ow x with
   |none=>have:ow' x=none:=by show(match ow x with|some m'=>_|none=>_)=none;rw [e]
          rw [this] at hx;cases hx
   |some m'=>exact hs.bound x m' e
 · cases e:ow x with
   |none=>have:ow' x=none:=by show(match ow x with|some m'=>_|none=>_)=none;rw [e]
          rw [this] at hx;cases hx
   |some m'=>
    have hx':(match ow x with|some m'=>if m'=n then(match ow0 x with|some i=>if i < K then some (cm+i) else none|none=>if S2 x then some n else none) else some m'|none=>none)=some m:=hx
    rw [e] at hx'
    simp only at hx'
    split at hx'
    · rename_i q;subst q
      cases e0:ow0 x with
      |some i=>
       rw [e0] at hx'
       simp only at hx'
       split at hx'
       · rename_i hi
         cases hx'
         have hu:ui cm K i=some (cm+i):=by unfold ui;rw [if_pos hi]
         obtain⟨q1,_,q3⟩:=hup i _ hu
         rw [q1,q3];exact g3.known x i e0
       · cases hx'
      |none=>
       rw [e0] at hx'
       simp only at hx'
       split at hx'
       · cases hx';exact hle.known (hs.known x _ e)
       · cases hx'
    · cases hx';exact hle.known (hs.known x _ e)
 · have e':(if cm≤m∧m < cm+K then r0.blk (m - cm) else r.blk m)≠none:=e
   by_cases q:cm≤m∧m < cm+K
   · exact .inr q
   · rw [if_neg q] at e';exact .inl e'
 · have e':(if cm≤m∧m < cm+K then r0.val (m - cm) else r.val m)≠none:=e
   by_cases q:cm≤m∧m < cm+K
   · exact .inr q
   · rw [if_neg q] at e';exact .inl e'
 · cases e:ow x with
   |none=>have:ow' x=none:=by show(match ow x with|some m'=>_|none=>_)=none;rw [e]
          rw [this] at hx;cases hx
   |some m'=>
    have hx':(match ow x with|some m'=>if m'=n then(match ow0 x with|some i=>if i < K then some (cm+i) else none|none=>if S2 x then some n else none) else some m'|none=>none)=some m:=hx
    rw [e] at hx'
    simp only at hx'
    split at hx'
    · rename_i q;subst q
      cases e0:ow0 x with
      |some i=>
       rw [e0] at hx'
       simp only at hx'
       split at hx'
       · cases hx';exact .inr ⟨by omega,by omega⟩
       · cases hx'
      |none=>
       rw [e0] at hx'
       simp only at hx'
       split at hx'
       · cases hx';exact .inl ⟨x,e⟩
       · cases hx'
    · cases hx';exact .inl ⟨x,e⟩
 · show(match ow x with|some m'=>_|none=>_)=none
   rw [hx]
end Go.Sx
namespace Go.Sx
theorem vN : aW [] := af
theorem vB {x y : Bool} (h : x = y) {L : List VC} (k : aW L) : aW (.b (x == y) :: L) := ag (ez h) k
theorem cZ {x y : Bool} (h : x = y) {L : List VC} (k : aW L) : aW (.b (x == y) :: .b (x == y) :: L) := vB h (vB h k)
theorem aX {x y : Bool} (h : x = y) {L : List VC} (k : aW L) : aW (.b (x == y) :: .b (x == y) :: .b (x == y) :: L) := vB h (vB h (vB h k))
theorem ax {x y : Bool} (h : x = y) {L : List VC} (k : aW L) : aW (.b (x == y) :: .b (x == y) :: .b (x == y) :: .b (x == y) :: L) := vB h (vB h (vB h (vB h k)))
theorem a7 {x y : Bool} (h : x = y) {L : List VC} (k : aW L) : aW (.b (x == y) :: .b (x == y) :: .b (x == y) :: .b (x == y) :: .b (x == y) :: L) := vB h (vB h (vB h (vB h (vB h k))))
theorem kB {x y : Bool} (h : x = y) {L : List VC} (k : aW L) : aW (.b (x == y) :: .b (x == y) :: .b (x == y) :: .b (x == y) :: .b (x == y) :: .b (x == y) :: L) := vB h (vB h (vB h (vB h (vB h (vB h k)))))
theorem kE {x y : Bool} (h : x = y) {L : List VC} (k : aW L) : aW (.b (x == y) :: .b (x == y) :: .b (x == y) :: .b (x == y) :: .b (x == y) :: .b (x == y) :: .b (x == y) :: L) := vB h (vB h (vB h (vB h (vB h (vB h (vB h k))))))
theorem mg {x y : Bool} (h : x = y) {L : List VC} (k : aW L) : aW (.b (x == y) :: .b (x == y) :: .b (x == y) :: .b (x == y) :: .b (x == y) :: .b (x == y) :: .b (x == y) :: .b (x == y) :: L) := vB h (vB h (vB h (vB h (vB h (vB h (vB h (vB h k)))))))
theorem KO {x y : Bool} (h : x = y) {L : List VC} (k : aW L) : aW (.b (x == y) :: .b (x == y) :: .b (x == y) :: .b (x == y) :: .b (x == y) :: .b (x == y) :: .b (x == y) :: .b (x == y) :: .b (x == y) :: L) := vB h (vB h (vB h (vB h (vB h (vB h (vB h (vB h (vB h k))))))))
theorem vC {x : Bool} (h : x = true) {L : List VC} (k : aW L) : aW (.b x :: L) := ag h k
theorem vP {x : Prop} (h : x) {L : List VC} (k : aW L) : aW (.p x :: L) := ag h k
def aT : List Nat → bj → bj
  | [], d => d
  | n :: l, d => (n, .br true) :: aT l d
def aF : List Nat → bj → bj
  | [], d => d
  | n :: l, d => (n, .br false) :: aF l d
abbrev pT (n : Nat) : Value := .pointer (some ⟨n, 0, none⟩)
abbrev pK (b k : Nat) : Value := .pointer (some ⟨b, 0, some k⟩)
abbrev sL (n l : Nat) : Value := .slice (some ⟨n, 0, none⟩) l 0
abbrev sN : Value := .slice none 0 0
abbrev cN : Value := .chan none
abbrev cS (n : Nat) : Value := .chan (some n)
abbrev iI (n : Int) : Value := .int .i64 n
end Go.Sx
namespace Go.Proofs.YtalanookmohdeaaGreatDoor
open Go Go.Sx
theorem mixed:Tryz.prog.follows .mixedOrders=true:=by kernel_rfl
noncomputable def bA (f:Nat):Code:=match Tryz.prog.funcs[f]? with
 |some fn=>(match fn.body with
  |some c=>c
  |none=> .skip)
 |none=> .skip
def bD:List Nat→Code→Code
 | [],c=>c
 |k::p,c=>match c with
  | .seq a b=>(match k with
   |0=>bD p a
   |_=>bD p b)
  | .cond _ a b=>(match k with
   |0=>bD p a
   |_=>bD p b)
  | .block _ a=>bD p a
  | .loop a=>bD p a
  | .scope a=>bD p a
  |c=>c
theorem wrap64 {n:Int} (h0:0≤n) (h1:n < 9223372036854775808):IntKind.i64.wrap n=n:=by
 have h2:n % (2 ^ 64:Int)=n:=by omega
 show(if(true && decide (n % (2 ^ 64:Int)≥(2 ^ 63:Int)))=true then n % (2 ^ 64:Int) - (2 ^ 64:Int) else n % (2 ^ 64:Int))=n
 rw [h2,if_neg]
 simp only [Bool.true_and,decide_eq_true_eq]
 omega
theorem vL {l:List UInt8}{j:Nat} (h:j < l.length):l.drop j=l.getD j 0::l.drop (j+1):=by
 rw [List.drop_eq_getElem_cons h]
 simp [List.getD,h]
theorem fG {P:Program}{c0 c1:Nat}{h0 h1:Sx.Heap}{code:Code}{T Tf:List Value}{e:Sx.bU} (hc:c0≤c1) (m:Sx.Mid P c0 h0 c0 h0 c1 h1 code T e Tf):Sx.ab P c0 h0 c1 h1 (.inLoop code T) (.out e Tf):=
 ⟨hc,fun r ow w hs hf a ha hd=>m r ow w r ow w hf (Sx.aN.calm hs (Sx.Calm.refl _)) hf a ha hd⟩
section
open Go Go.Sx
noncomputable def mN:Code:=bD [1,1,0,1,0,0] (bA 100)
noncomputable def Dg (a b:ByteArray) (m:Int) (j:Nat):List Value:=ay 24 0 [(0,.string a),(1,.string b),(5,.int .i64 j),(10,.int .i64 m),(11,.int .i64 j)]
def dH:List UInt8→List UInt8→Nat
 |x::xs,y::ys=>if x=y then dH xs ys+1 else 0
 |_,_=>0
def dr (a b:ByteArray):Int:= .ofNat (dH a.data.toList b.data.toList)
set_option maxRecDepth 100000 in
theorem Um {a b:ByteArray}{m:Int}{j:Nat} (h0:(decide ((j:Int) < m))=true) (h1:(decide (0≤(j:Int)∧(j:Int) < (a.data.toList.length:Int)))=true) (h2:(decide (0≤(j:Int)∧(j:Int) < (b.data.toList.length:Int)))=true) (h3:((((a.data.toList.getD ((j:Int)).toNat 0).toNat:Nat):Int) !=(((b.data.toList.getD ((j:Int)).toNat 0).toNat:Nat):Int))=false):Sx.bX Tryz.prog 0 0 0 [] mN (Dg a b m j) [] (ay 24 0 [(0,.string a),(1,.string b),(5,iI (IntKind.i64.wrap ((j:Int)+1))),(10,iI m),(11,iI (IntKind.i64.wrap ((j:Int)+1)))]):=
 bc mixed bk.holds [] [] (d:=aT [0,1,2] (aF [3] [])) (n:=600) (c2:=0) (L':= []) (by kernel_rfl) rfl rfl (af)
  (vB h3 (vC h2 (vC h1 (vB h0 vN))))
set_option maxRecDepth 100000 in
theorem TK {a b:ByteArray}{m:Int}{j:Nat} (h0:(decide ((j:Int) < m))=true) (h1:(decide (0≤(j:Int)∧(j:Int) < (a.data.toList.length:Int)))=true) (h2:(decide (0≤(j:Int)∧(j:Int) < (b.data.toList.length:Int)))=true) (h3:((((a.data.toList.getD ((j:Int)).toNat 0).toNat:Nat):Int) !=(((b.data.toList.getD ((j:Int)).toNat 0).toNat:Nat):Int))=true):Sx.Ends Tryz.prog 0 0 0 [] mN (Dg a b m j) (.exit 0) [] (ay 24 0 [(5,iI (j:Int))]):=
 bL mixed bk.holds [] [] (d:=aT [0,1,2,3] []) (n:=600) (c2:=0) (L':= []) (by kernel_rfl) rfl rfl (af)
  (vB h3 (vC h2 (vC h1 (vB h0 vN))))
set_option maxRecDepth 100000 in
theorem Uv {a b:ByteArray}{m:Int}{j:Nat} (h0:(decide ((j:Int) < m))=false):Sx.Ends Tryz.prog 0 0 0 [] mN (Dg a b m j) (.exit 0) [] (ay 24 0 [(5,iI (j:Int))]):=
 bL mixed bk.holds [] [] (d:=aF [0] []) (n:=600) (c2:=0) (L':= []) (by kernel_rfl) rfl rfl (af)
  (vB h0 vN)
theorem wb:∀(x y:List UInt8),dH x y≤x.length∧dH x y≤y.length
 | [],y=>by simp [dH]
 |_::_,[]=>by simp [dH]
 |x::xs,y::ys=>by
  have h:=wb xs ys
  simp only [dH,List.length_cons]
  split <;> omega
theorem Ji {x y:List UInt8}{j:Nat} (h1:j < x.length) (h2:j < y.length):dH (x.drop j) (y.drop j)=if x.getD j 0=y.getD j 0 then dH (x.drop (j+1)) (y.drop (j+1))+1 else 0:=by
 rw [List.drop_eq_getElem_cons h1,List.drop_eq_getElem_cons h2]
 simp [dH,List.getD,h1,h2]
theorem J5 (a b:ByteArray) (hb:(a.data.toList.length:Int) < 4294967296):ab Tryz.prog 0 [] 0 [] (.inLoop mN (Dg a b (if(b.data.toList.length:Int) < (a.data.toList.length:Int) then(b.data.toList.length:Int) else(a.data.toList.length:Int)) 0)) (.out (.exit 0) (ay 24 0 [(5,.int .i64 (dr a b))])):=by
 obtain⟨m,hm⟩:∃m:Int,m=if(b.data.toList.length:Int) < (a.data.toList.length:Int) then(b.data.toList.length:Int) else(a.data.toList.length:Int):=⟨_,rfl⟩
 rw [←hm]
 have hm1:m≤(a.data.toList.length:Int):=by subst hm;split <;> omega
 have hm2:m≤(b.data.toList.length:Int):=by subst hm;split <;> omega
 have hm3:m=(a.data.toList.length:Int)∨m=(b.data.toList.length:Int):=by subst hm;split <;> omega
 have key:∀k j:Nat,((j+k:Nat):Int)=m→Mid Tryz.prog 0 [] 0 [] 0 [] mN (Dg a b m j) (.exit 0) (ay 24 0 [(5,.int .i64 (((j+dH (a.data.toList.drop j) (b.data.toList.drop j):Nat)):Int))]):=by
  intro k
  induction k with
  |zero=>
   intro j hj
   have e:dH (a.data.toList.drop j) (b.data.toList.drop j)=0:=by
    have h:=wb (a.data.toList.drop j) (b.data.toList.drop j)
    simp only [List.length_drop] at h
    omega
   rw [e]
   exact(Uv (decide_eq_false (by omega))).dt (by simp) (Nat.le_refl _)
  |succ k ih=>
   intro j hj
   have j1:j < a.data.toList.length:=by omega
   have j2:j < b.data.toList.length:=by omega
   have e:=Ji (x:=a.data.toList) (y:=b.data.toList) j1 j2
   by_cases hx:a.data.toList.getD j 0=b.data.toList.getD j 0
   · rw [if_pos hx] at e
     have g:=Um (a:=a) (b:=b) (m:=m) (j:=j) (decide_eq_true (by omega)) (decide_eq_true (by omega)) (decide_eq_true (by omega)) (by rw [Int.toNat_natCast,hx];simp)
     rw [wrap64 (by omega) (by omega)] at g
     have q:=ih (j+1) (by omega)
     rw [e,show j+(dH (a.data.toList.drop (j+1)) (b.data.toList.drop (j+1))+1)=j+1+dH (a.data.toList.drop (j+1)) (b.data.toList.drop (j+1)) by omega]
     exact g.dt (Nat.le_refl _) (Nat.le_refl _) q
   · rw [if_neg hx] at e
     rw [e]
     refine(TK (decide_eq_true (by omega)) (decide_eq_true (by omega)) (decide_eq_true (by omega)) ?_).dt (by simp) (Nat.le_refl _)
     rw [Int.toNat_natCast]
     have:(a.data.toList.getD j 0).toNat≠(b.data.toList.getD j 0).toNat:=fun q=>hx (UInt8.toNat_inj.1 q)
     rw [bne_iff_ne]
     exact fun q=>this (Int.ofNat_inj.1 q)
 have q:=key m.toNat 0 (by omega)
 simp only [List.drop_zero,Nat.zero_add] at q
 exact fG (Nat.le_refl _) q
set_option maxRecDepth 100000 in
theorem FI (a b:ByteArray) (hb:(a.data.toList.length:Int) < 4294967296):cQ Tryz.prog 100 [.string a,.string b] (iI (dr a b)):=by
 obtain⟨c1,h1,hd,_⟩:=fJ (n:=600) (t:= .call 100 [.string a,.string b]) (d:= [(0,.loop [0,1,5,10,11] [] 0 [] (.exit 0) (ay 24 0 [(5,iI (dr a b))]))]) (c:=0) (h:= []) (v:=iI (dr a b)) (x:=none) mixed bk.holds (by kernel_rfl)
  (vP (show ab Tryz.prog 0 [] 0 [] (.inLoop mN (Dg a b (if(b.data.toList.length:Int) < (a.data.toList.length:Int) then(b.data.toList.length:Int) else(a.data.toList.length:Int)) 0)) (.out (.exit 0) (ay 24 0 [(5,iI (dr a b))])) from J5 a b hb) vN)
 exact dp hd rfl rfl
noncomputable def Ue:aP:=rq Gm 100 dr
theorem ku:cC Tryz.prog Ue:=cC.rq bk.holds FI
set_option maxRecDepth 100000 in
theorem OC {a b:ByteArray} (h0:(a.data.toList.length.ble 4294967295)=true) (h1:(dr a b==(a.data.toList.length:Int))=true) (h2:(dr a b==(b.data.toList.length:Int))=true):cQ Tryz.prog 70 [.string a,.string b] (iI 0):=by
 obtain⟨c1,h1,hd,_⟩:=fJ (n:=600) (t:= .call 70 [.string a,.string b]) (d:=aT [0,1,2,3,4,5,6] []) (c:=0) (h:= []) (v:=iI 0) (x:=none) mixed ku (by kernel_rfl)
  (vB h2 (a7 h1 (vC h0 vN)))
 exact dp hd rfl rfl
set_option maxRecDepth 100000 in
theorem PA {a b:ByteArray} (h0:(a.data.toList.length.ble 4294967295)=true) (h1:(dr a b==(a.data.toList.length:Int))=true) (h2:(dr a b==(b.data.toList.length:Int))=false):cQ Tryz.prog 70 [.string a,.string b] (iI (-1)):=by
 obtain⟨c1,h1,hd,_⟩:=fJ (n:=600) (t:= .call 70 [.string a,.string b]) (d:=aT [0,1,2,3,4,5,7] (aF [6] [])) (c:=0) (h:= []) (v:=iI (-1)) (x:=none) mixed ku (by kernel_rfl)
  (vB h1 (vB h2 (a7 h1 (vC h0 vN))))
 exact dp hd rfl rfl
set_option maxRecDepth 100000 in
theorem O5 {a b:ByteArray} (h0:(a.data.toList.length.ble 4294967295)=true) (h1:(dr a b==(a.data.toList.length:Int))=false) (h2:(dr a b==(b.data.toList.length:Int))=true):cQ Tryz.prog 70 [.string a,.string b] (iI 1):=by
 obtain⟨c1,h1,hd,_⟩:=fJ (n:=600) (t:= .call 70 [.string a,.string b]) (d:=aT [0,8] (aF [1,2,3,4,5,7] [])) (c:=0) (h:= []) (v:=iI 1) (x:=none) mixed ku (by kernel_rfl)
  (vB h2 (kB h1 (vC h0 vN)))
 exact dp hd rfl rfl
set_option maxRecDepth 100000 in
theorem Oq {a b:ByteArray} (h0:(a.data.toList.length.ble 4294967295)=true) (h1:(dr a b==(a.data.toList.length:Int))=false) (h2:(dr a b==(b.data.toList.length:Int))=false) (h3:(decide (0≤dr a b∧dr a b < (a.data.toList.length:Int)))=true) (h4:(decide (0≤dr a b∧dr a b < (b.data.toList.length:Int)))=true) (h5:(decide ((((a.data.toList.getD (dr a b).toNat 0).toNat:Nat):Int) < (((b.data.toList.getD (dr a b).toNat 0).toNat:Nat):Int)))=true):cQ Tryz.prog 70 [.string a,.string b] (iI (-1)):=by
 obtain⟨c1,h1,hd,_⟩:=fJ (n:=600) (t:= .call 70 [.string a,.string b]) (d:=aT [0,9,10,11] (aF [1,2,3,4,5,7,8] [])) (c:=0) (h:= []) (v:=iI (-1)) (x:=none) mixed ku (by kernel_rfl)
  (vB h5 (vC h4 (vC h3 (vB h2 (kB h1 (vC h0 vN))))))
 exact dp hd rfl rfl
set_option maxRecDepth 100000 in
theorem P2 {a b:ByteArray} (h0:(a.data.toList.length.ble 4294967295)=true) (h1:(dr a b==(a.data.toList.length:Int))=false) (h2:(dr a b==(b.data.toList.length:Int))=false) (h3:(decide (0≤dr a b∧dr a b < (a.data.toList.length:Int)))=true) (h4:(decide (0≤dr a b∧dr a b < (b.data.toList.length:Int)))=true) (h5:(decide ((((a.data.toList.getD (dr a b).toNat 0).toNat:Nat):Int) < (((b.data.toList.getD (dr a b).toNat 0).toNat:Nat):Int)))=false):cQ Tryz.prog 70 [.string a,.string b] (iI 1):=by
 obtain⟨c1,h1,hd,_⟩:=fJ (n:=600) (t:= .call 70 [.string a,.string b]) (d:=aT [0,9,10] (aF [1,2,3,4,5,7,8,11] [])) (c:=0) (h:= []) (v:=iI 1) (x:=none) mixed ku (by kernel_rfl)
  (vB h5 (vC h4 (vC h3 (vB h2 (kB h1 (vC h0 vN))))))
 exact dp hd rfl rfl
def de (a b:ByteArray):Int:=match decide (dr a b=(a.data.toList.length:Int)),decide (dr a b=(b.data.toList.length:Int)) with
 |true,true=>0
 |true,false=> -1
 |false,true=>1
 |false,false=>match decide (((((a.data.toList.getD (dr a b).toNat 0).toNat:Nat):Int)) < (((b.data.toList.getD (dr a b).toNat 0).toNat:Nat):Int)) with
  |true=> -1
  |false=>1
theorem Gt (a b:ByteArray) (hb:(a.data.toList.length:Int) < 4294967296):cQ Tryz.prog 70 [.string a,.string b] (.int .i64 (de a b)):=by
 have hl:=wb a.data.toList b.data.toList
 have h0:0≤dr a b:=Int.natCast_nonneg _
 have h1:dr a b≤(a.data.toList.length:Int):=Int.ofNat_le.2 hl.1
 have h2:dr a b≤(b.data.toList.length:Int):=Int.ofNat_le.2 hl.2
 by_cases e1:dr a b=(a.data.toList.length:Int) <;> by_cases e2:dr a b=(b.data.toList.length:Int)
 · rw [show de a b=0 by simp only [de,decide_eq_true e1,decide_eq_true e2]]
   exact OC (Nat.ble_eq_true_of_le (by omega)) (beq_iff_eq.2 e1) (beq_iff_eq.2 e2)
 · rw [show de a b= -1 by simp only [de,decide_eq_true e1,decide_eq_false e2]]
   exact PA (Nat.ble_eq_true_of_le (by omega)) (beq_iff_eq.2 e1) (beq_eq_false_iff_ne.2 e2)
 · rw [show de a b=1 by simp only [de,decide_eq_false e1,decide_eq_true e2]]
   exact O5 (Nat.ble_eq_true_of_le (by omega)) (beq_eq_false_iff_ne.2 e1) (beq_iff_eq.2 e2)
 · by_cases e3:((((a.data.toList.getD (dr a b).toNat 0).toNat:Nat):Int)) < (((b.data.toList.getD (dr a b).toNat 0).toNat:Nat):Int)
   · rw [show de a b= -1 by simp only [de,decide_eq_false e1,decide_eq_false e2,decide_eq_true e3]]
     exact Oq (Nat.ble_eq_true_of_le (by omega)) (beq_eq_false_iff_ne.2 e1) (beq_eq_false_iff_ne.2 e2) (decide_eq_true ⟨h0,by omega⟩) (decide_eq_true ⟨h0,by omega⟩) (decide_eq_true e3)
   · rw [show de a b=1 by simp only [de,decide_eq_false e1,decide_eq_false e2,decide_eq_false e3]]
     exact P2 (Nat.ble_eq_true_of_le (by omega)) (beq_eq_false_iff_ne.2 e1) (beq_eq_false_iff_ne.2 e2) (decide_eq_true ⟨h0,by omega⟩) (decide_eq_true ⟨h0,by omega⟩) (decide_eq_false e3)
noncomputable def KF:aP:=rq Gm 70 de
theorem BU:cC Tryz.prog KF:=cC.rq bk.holds Gt
end
section
open Go Go.RowKit Go.Extern.Stop Go.Stop Go.Extern
theorem Is.typeOf (v:Value) (w:World):(Extern.ReflectliteType.typeOf #[.iface 72 v]).run Tryz.prog w= .ok (.iface 288 (.agg #[.pointer (some ⟨1,72,none⟩)])) w:=by kernel_rfl
def Is.row:Array Value→Sem Value:=Extern.ReflectliteType.method fun t=>do
 Extern.Rtype.noPackHeld "Comparable" t
 pure (.bool (←typeInfo t).comparable)
theorem Is.comparable (w:World):(Is.row #[.agg #[.pointer (some ⟨1,72,none⟩)]]).run Tryz.prog w= .ok (.bool true) w:=by kernel_rfl
theorem Is.eq (a b:Int) (w:World):(binOp .eql 40 (.iface 72 (.int .i64 a)) (.iface 72 (.int .i64 b))).run Tryz.prog w= .ok (.bool (decide (a=b))) w:=by kernel_rfl
theorem Is.method (v:Value) (w:World):(Go.method 525 288 v "Comparable").run Tryz.prog w= .ok (331,v) w:=by kernel_rfl
theorem Is.zi (v:Value) (xT:TypeId) (w:World):(Instr.typeAssert (.iface 72 v) xT 309 true).run Tryz.prog w= .ok (.tuple #[.nilIface,.bool false]) w:=run_typeAssert_lacksB Tryz.underlying309 (by kernel_rfl) (by kernel_rfl) v xT w
theorem Is.nv (v:Value) (xT:TypeId) (w:World):(Instr.typeAssert (.iface 72 v) xT 296 true).run Tryz.prog w= .ok (.tuple #[.nilIface,.bool false]) w:=run_typeAssert_lacksB Tryz.underlying296 (by kernel_rfl) (by kernel_rfl) v xT w
theorem Is.ma (v:Value) (xT:TypeId) (w:World):(Instr.typeAssert (.iface 72 v) xT 297 true).run Tryz.prog w= .ok (.tuple #[.nilIface,.bool false]) w:=run_typeAssert_lacksB Tryz.underlying297 (by kernel_rfl) (by kernel_rfl) v xT w
set_option maxRecDepth 100000 in
set_option maxHeartbeats 1000000 in
theorem M7 (a:Int) (w:World):
  Calls Tryz.prog 146 #[.iface 72 (.int .i64 a),.iface 72 (.int .i64 a)] w fun e w'=>e= .returned (.bool true)∧w'=w:=by
 have h26:= @run_callFunc_extern Tryz.prog 168 _ Extern.ReflectliteType.typeOf Tryz.func168 (by kernel_rfl) (by kernel_rfl) (by kernel_rfl) (by kernel_rfl)
 have h392:= @run_callFunc_extern Tryz.prog 331 _ Is.row Tryz.func331 (by kernel_rfl) (by kernel_rfl) (by kernel_rfl) (by kernel_rfl)
 have tT:=Is.typeOf
 have cT:=Is.comparable
 have mR:=Is.method
 have heq:=Is.eq a a
 simp only [eq_self,decide_true] at heq
 go_enter Tryz.func146,Tryz.ntmps146
 go_wp2
 refine wp_loop_rounds 1 ?_
 rw [rounds_succ]
 go_wp2
 go_ret
 exact⟨rfl,rfl⟩
set_option maxRecDepth 100000 in
set_option maxHeartbeats 1000000 in
theorem Iz (a b:Int) (h:a≠b) (w:World):
  Calls Tryz.prog 146 #[.iface 72 (.int .i64 a),.iface 72 (.int .i64 b)] w fun e w'=>e= .returned (.bool false)∧w'=w:=by
 have h26:= @run_callFunc_extern Tryz.prog 168 _ Extern.ReflectliteType.typeOf Tryz.func168 (by kernel_rfl) (by kernel_rfl) (by kernel_rfl) (by kernel_rfl)
 have h392:= @run_callFunc_extern Tryz.prog 331 _ Is.row Tryz.func331 (by kernel_rfl) (by kernel_rfl) (by kernel_rfl) (by kernel_rfl)
 have tT:=Is.typeOf
 have cT:=Is.comparable
 have mR:=Is.method
 have nI:=Is.zi
 have nU:=Is.nv
 have nV:=Is.ma
 have heq:=Is.eq a b
 simp only [decide_eq_false h] at heq
 go_enter Tryz.func146,Tryz.ntmps146
 go_wp2
 refine wp_loop_rounds 1 ?_
 rw [rounds_succ]
 go_wp2
 go_ret
 exact⟨rfl,rfl⟩
theorem Jr (a b:Int):Sx.cQ Tryz.prog 146 [.iface 72 (.int .i64 a),.iface 72 (.int .i64 b)] (.bool (decide (a=b))):=by
 intro r us w hu
 have hus:us= #[.iface 72 (.int .i64 a),.iface 72 (.int .i64 b)]:=by
  have:=Sx.lC (Sx.j5 9) (l:= [.iface 72 (.int .i64 a),.iface 72 (.int .i64 b)]) rfl hu
  obtain⟨us⟩:=us
  simp only at this
  rw [this]
 subst hus
 by_cases h:a=b
 · subst h
   exact Calls.mono (M7 a w) fun e w' ⟨he,hw⟩=>⟨_,he,by simp only [decide_true];exact(.bool _),by subst hw;exact Sx.Old.refl _⟩
 · exact Calls.mono (Iz a b h w) fun e w' ⟨he,hw⟩=>⟨_,he,by simp only [decide_eq_false h];exact(.bool _),by subst hw;exact Sx.Old.refl _⟩
end
section
open Go Go.RowKit Go.Extern.Stop Go.Stop Go.Extern
theorem Is.KP (v:Value) (a:Int) (w:World):(binOp .eql 40 (.iface 201 v) (.iface 72 (.int .i64 a))).run Tryz.prog w= .ok (.bool false) w:=by kernel_rfl
theorem Is.x3 (v:Value) (xT:TypeId) (w:World):(Instr.typeAssert (.iface 201 v) xT 309 true).run Tryz.prog w= .ok (.tuple #[.nilIface,.bool false]) w:=run_typeAssert_lacksB Tryz.underlying309 (by kernel_rfl) (by kernel_rfl) v xT w
theorem Is.zQ (v:Value) (xT:TypeId) (w:World):(Instr.typeAssert (.iface 201 v) xT 296 true).run Tryz.prog w= .ok (.tuple #[.iface 201 v,.bool true]) w:=run_typeAssert_hasB Tryz.underlying296 (by kernel_rfl) v xT w
theorem Is.sg (b o:Nat) (w:World):(Go.method 525 201 (.pointer (some ⟨b,o,none⟩)) "Unwrap").run Tryz.prog w= .ok (325,.pointer (some ⟨b,o,none⟩)) w:=by kernel_rfl
set_option maxRecDepth 100000 in
set_option maxHeartbeats 2000000 in
theorem xD (b0 o0:Nat) (a b:Int) (h:b=a) (w:World) (hc0:w.cell? ⟨b0,o0+2,none⟩=some (.iface 72 (.int .i64 b))):
  Calls Tryz.prog 146 #[.iface 201 (.pointer (some ⟨b0,o0,none⟩)),.iface 72 (.int .i64 a)] w fun e w'=>e= .returned (.bool true)∧w'=w:=by
 have h105:= @run_callFunc_extern Tryz.prog 168 _ Extern.ReflectliteType.typeOf Tryz.func168 (by kernel_rfl) (by kernel_rfl) (by kernel_rfl) (by kernel_rfl)
 have h308:= @run_callFunc_extern Tryz.prog 331 _ Is.row Tryz.func331 (by kernel_rfl) (by kernel_rfl) (by kernel_rfl) (by kernel_rfl)
 have tT:=Is.typeOf
 have cT:=Is.comparable
 have mR:=Is.method
 have nI:=Is.zi
 have nU:=Is.nv
 have nV:=Is.ma
 have eF:=Is.KP
 have nIF:=Is.x3
 have hF:=Is.zQ
 have mU:=Is.sg
 have heq:=Is.eq b a
 simp only [decide_eq_true h] at heq
 clear h
 go_enter Tryz.func146,Tryz.ntmps146
 go_wp2
 refine wp_loop_rounds 2 ?_
 rw [rounds_succ]
 go_wp2
 rw [rounds_succ]
 go_wp2
 go_ret
 exact⟨rfl,rfl⟩
set_option maxRecDepth 100000 in
set_option maxHeartbeats 2000000 in
theorem wc (b0 o0:Nat) (a b:Int) (h:b≠a) (w:World) (hc0:w.cell? ⟨b0,o0+2,none⟩=some (.iface 72 (.int .i64 b))):
  Calls Tryz.prog 146 #[.iface 201 (.pointer (some ⟨b0,o0,none⟩)),.iface 72 (.int .i64 a)] w fun e w'=>e= .returned (.bool false)∧w'=w:=by
 have h105:= @run_callFunc_extern Tryz.prog 168 _ Extern.ReflectliteType.typeOf Tryz.func168 (by kernel_rfl) (by kernel_rfl) (by kernel_rfl) (by kernel_rfl)
 have h308:= @run_callFunc_extern Tryz.prog 331 _ Is.row Tryz.func331 (by kernel_rfl) (by kernel_rfl) (by kernel_rfl) (by kernel_rfl)
 have tT:=Is.typeOf
 have cT:=Is.comparable
 have mR:=Is.method
 have nI:=Is.zi
 have nU:=Is.nv
 have nV:=Is.ma
 have eF:=Is.KP
 have nIF:=Is.x3
 have hF:=Is.zQ
 have mU:=Is.sg
 have heq:=Is.eq b a
 simp only [decide_eq_false h] at heq
 clear h
 go_enter Tryz.func146,Tryz.ntmps146
 go_wp2
 refine wp_loop_rounds 2 ?_
 rw [rounds_succ]
 go_wp2
 rw [rounds_succ]
 go_wp2
 go_ret
 exact⟨rfl,rfl⟩
set_option maxRecDepth 100000 in
set_option maxHeartbeats 2000000 in
theorem xy (b0 o0:Nat) (b1 o1:Nat) (a b:Int) (h:b=a) (w:World) (hc0:w.cell? ⟨b0,o0+2,none⟩=some (.iface 201 (.pointer (some ⟨b1,o1,none⟩)))) (hc1:w.cell? ⟨b1,o1+2,none⟩=some (.iface 72 (.int .i64 b))):
  Calls Tryz.prog 146 #[.iface 201 (.pointer (some ⟨b0,o0,none⟩)),.iface 72 (.int .i64 a)] w fun e w'=>e= .returned (.bool true)∧w'=w:=by
 have h105:= @run_callFunc_extern Tryz.prog 168 _ Extern.ReflectliteType.typeOf Tryz.func168 (by kernel_rfl) (by kernel_rfl) (by kernel_rfl) (by kernel_rfl)
 have h308:= @run_callFunc_extern Tryz.prog 331 _ Is.row Tryz.func331 (by kernel_rfl) (by kernel_rfl) (by kernel_rfl) (by kernel_rfl)
 have tT:=Is.typeOf
 have cT:=Is.comparable
 have mR:=Is.method
 have nI:=Is.zi
 have nU:=Is.nv
 have nV:=Is.ma
 have eF:=Is.KP
 have nIF:=Is.x3
 have hF:=Is.zQ
 have mU:=Is.sg
 have heq:=Is.eq b a
 simp only [decide_eq_true h] at heq
 clear h
 go_enter Tryz.func146,Tryz.ntmps146
 go_wp2
 refine wp_loop_rounds 3 ?_
 rw [rounds_succ]
 go_wp2
 rw [rounds_succ]
 go_wp2
 rw [rounds_succ]
 go_wp2
 go_ret
 exact⟨rfl,rfl⟩
set_option maxRecDepth 100000 in
set_option maxHeartbeats 2000000 in
theorem vO (b0 o0:Nat) (b1 o1:Nat) (a b:Int) (h:b≠a) (w:World) (hc0:w.cell? ⟨b0,o0+2,none⟩=some (.iface 201 (.pointer (some ⟨b1,o1,none⟩)))) (hc1:w.cell? ⟨b1,o1+2,none⟩=some (.iface 72 (.int .i64 b))):
  Calls Tryz.prog 146 #[.iface 201 (.pointer (some ⟨b0,o0,none⟩)),.iface 72 (.int .i64 a)] w fun e w'=>e= .returned (.bool false)∧w'=w:=by
 have h105:= @run_callFunc_extern Tryz.prog 168 _ Extern.ReflectliteType.typeOf Tryz.func168 (by kernel_rfl) (by kernel_rfl) (by kernel_rfl) (by kernel_rfl)
 have h308:= @run_callFunc_extern Tryz.prog 331 _ Is.row Tryz.func331 (by kernel_rfl) (by kernel_rfl) (by kernel_rfl) (by kernel_rfl)
 have tT:=Is.typeOf
 have cT:=Is.comparable
 have mR:=Is.method
 have nI:=Is.zi
 have nU:=Is.nv
 have nV:=Is.ma
 have eF:=Is.KP
 have nIF:=Is.x3
 have hF:=Is.zQ
 have mU:=Is.sg
 have heq:=Is.eq b a
 simp only [decide_eq_false h] at heq
 clear h
 go_enter Tryz.func146,Tryz.ntmps146
 go_wp2
 refine wp_loop_rounds 3 ?_
 rw [rounds_succ]
 go_wp2
 rw [rounds_succ]
 go_wp2
 rw [rounds_succ]
 go_wp2
 go_ret
 exact⟨rfl,rfl⟩
end
section
open Go Go.Sx
def J3:List Value→Option (Bool×Value)
 | [.iface 72 (.int .i64 a),.iface 72 (.int .i64 b)]=>some (true,.bool (decide (a=b)))
 |_=>none
theorem Nw {xs:List Value}{b:Bool}{v:Value} (h:J3 xs=some (b,v)):cQ Tryz.prog 146 xs v:=by
 unfold J3 at h
 split at h
 · cases h;exact Jr _ _
 · cases h
noncomputable def JL:aP:=iZ KF 146 J3
theorem ve:cC Tryz.prog JL:=BU.iZ fun _ _ _ h _=>Nw h
def nq (n off:Nat):X Value:=X.bind (bO n (off+2) 1) fun vs=>match vs with
 | [v]=>X.pure v
 |_=>X.fail
def CP (n off:Nat) (a:Int):X dI:=X.bind (nq n off) fun v=>match v with
 | .iface t (.int .i64 b)=>X.bind (bP (Nat.beq t 72)) fun _=>X.pure (.val (.bool (decide (b=a))))
 | .iface t (.pointer (some ⟨m,o,none⟩))=>X.bind (bP (Nat.beq t 201)) fun _=>X.bind (nq m o) fun u=>match u with
  | .iface t' (.int .i64 b)=>X.bind (bP (Nat.beq t' 72)) fun _=>X.pure (.val (.bool (decide (b=a))))
  |_=>X.fail
 |_=>X.fail
theorem qS (n off:Nat):Local (nq n off):=by
 unfold nq
 refine Local.bind (Local.bO _ _ _) fun _=> ?_
 split
 · exact Local.pure _
 · exact Local.fail
theorem FC (n off:Nat) (a:Int):Local (CP n off a):=by
 unfold CP
 refine Local.bind (qS _ _) fun v=> ?_
 split
 · exact Local.bind (Local.bP _) fun _=>Local.pure _
 · refine Local.bind (Local.bP _) fun _=>Local.bind (qS _ _) fun u=> ?_
   split
   · exact Local.bind (Local.bP _) fun _=>Local.pure _
   · exact Local.fail
 · exact Local.fail
theorem sb {n off:Nat}{v:Value}{d:bj}{s s':St} (h:nq n off d s=some (v,s')):
  Sx.Calm s s'∧(aW s'.V→∀(P:Program) (r:Env) (ow:Nat→Option Nat) (w:World) (b:Nat),Sat P r ow s.h w→r.blk n=some b→∃u,w.cell? ⟨b,off+2,none⟩=some u∧Rel r v u):=by
 unfold nq at h
 obtain⟨vs,s1,h1,h2⟩:=bind_some h
 obtain⟨cm,l,t,hg,hv⟩:=gK h1
 split at h2
 · rename_i v0
   obtain⟨rfl,rfl⟩:=au h2
   refine⟨cm,fun hV P r ow w b hs hb=> ?_⟩
   obtain⟨e1,_⟩:=hv hV
   obtain⟨b',c,q1,q2,q3,q4,q5,q6⟩:=hs.chunk n _ hg
   obtain rfl:b'=b:=by rw [hb] at q1;exact(Option.some.inj q1).symm
   have e2:l[off+2]? =some v0:=by
    have:=congrArg (·[0]?) e1
    simp only [List.getElem?_cons_zero,List.getElem?_take,List.getElem?_drop] at this
    simpa using this.symm
   obtain⟨u,e3,e4⟩:=q4.get _ _ e2
   refine⟨u,?_,e4⟩
   rw [cell_of q3,←Array.getElem?_toList]
   rw [List.getElem?_take] at e3
   split at e3
   · exact e3
   · cases e3
 · simp [X.fail] at h2
theorem ME (n off:Nat) (a:Int):gF Tryz.prog (CP n off a) (.call 146 [.iface 201 (.pointer (some ⟨n,off,none⟩)),.iface 72 (.int .i64 a)]):=by
 intro d s res s' h
 unfold CP at h
 obtain⟨v,s1,h1,h2⟩:=bind_some h
 obtain⟨cm,hv⟩:=sb h1
 have args:∀(r:Env) (us:Array Value),aw r [.iface 201 (.pointer (some ⟨n,off,none⟩)),.iface 72 (.int .i64 a)] us.toList→∃b,r.blk n=some b∧us= #[.iface 201 (.pointer (some ⟨b,off,none⟩)),.iface 72 (.int .i64 a)]:=by
  intro r us hu
  obtain⟨us⟩:=us
  cases hu with|cons x1 t1=>cases t1 with|cons x2 t2=>cases t2 with|nil=>
  cases x1 with|iface y1=>cases y1 with|ptr hb=>
  cases x2 with|iface y2=>cases y2 with|int=>
  exact⟨_,hb,rfl⟩
 split at h2
 · rename_i t b
   obtain⟨_,s2,h3,h4⟩:=bind_some h2
   obtain⟨e1,rfl⟩:=b7 h3
   obtain⟨rfl,rfl⟩:=au h4
   obtain rfl:=Nat.eq_of_beq_eq_true e1
   refine⟨cm.V,fun hV r ow w hs hf us hu=> ?_⟩
   obtain⟨b0,hb,rfl⟩:=args r us hu
   obtain⟨u,hc,hr⟩:=hv hV _ r ow w b0 hs hb
   cases hr with|iface hr=>cases hr with|int=>
   by_cases e:b=a
   · exact Calls.mono (xD b0 off a b e w hc) fun e' w' ⟨q1,q2⟩=>⟨r,ow,_,q1,by subst q2;exact aN.calm hs cm,by rw [decide_eq_true e];exact .bool _⟩
   · exact Calls.mono (wc b0 off a b e w hc) fun e' w' ⟨q1,q2⟩=>⟨r,ow,_,q1,by subst q2;exact aN.calm hs cm,by rw [decide_eq_false e];exact .bool _⟩
 · rename_i t m o
   obtain⟨_,s2,h3,h4⟩:=bind_some h2
   obtain⟨e1,rfl⟩:=b7 h3
   obtain rfl:=Nat.eq_of_beq_eq_true e1
   obtain⟨u0,s3,h5,h6⟩:=bind_some h4
   obtain⟨cm2,hv2⟩:=sb h5
   split at h6
   · rename_i t b
     obtain⟨_,s4,h7,h8⟩:=bind_some h6
     obtain⟨e2,rfl⟩:=b7 h7
     obtain⟨rfl,rfl⟩:=au h8
     obtain rfl:=Nat.eq_of_beq_eq_true e2
     refine⟨fun hV=>cm.V (cm2.V hV),fun hV r ow w hs hf us hu=> ?_⟩
     obtain⟨b0,hb,rfl⟩:=args r us hu
     obtain⟨u,hc,hr⟩:=hv (cm2.V hV) _ r ow w b0 hs hb
     cases hr with|iface hr=>cases hr with|ptr hb1=>
     obtain⟨u2,hc2,hr2⟩:=hv2 hV _ r ow w _ (by rw [cm.h];exact hs) hb1
     cases hr2 with|iface hr2=>cases hr2 with|int=>
     by_cases e:b=a
     · exact Calls.mono (xy b0 off _ o a b e w hc hc2) fun e' w' ⟨q1,q2⟩=>⟨r,ow,_,q1,by subst q2;exact aN.calm hs (cm.trans cm2),by rw [decide_eq_true e];exact .bool _⟩
     · exact Calls.mono (vO b0 off _ o a b e w hc hc2) fun e' w' ⟨q1,q2⟩=>⟨r,ow,_,q1,by subst q2;exact aN.calm hs (cm.trans cm2),by rw [decide_eq_false e];exact .bool _⟩
   · simp [X.fail] at h6
 · simp [X.fail] at h2
noncomputable def Ec:aP:=fun t=>match JL t with
 |some x=>some x
 |none=>match t with
  | .call f [.iface t (.pointer (some ⟨n,off,none⟩)),.iface t' (.int .i64 a)]=>(match Nat.beq f 146 && (Nat.beq t 201 && Nat.beq t' 72) with
   |true=>some (CP n off a)
   |false=>none)
  |_=>none
theorem wz {t:Task}{x:X dI} (h:Ec t=some x):JL t=some x∨∃n off a,t= .call 146 [.iface 201 (.pointer (some ⟨n,off,none⟩)),.iface 72 (.int .i64 a)]∧x=CP n off a:=by
 unfold Ec at h
 split at h
 · rename_i y hy
   cases h;exact .inl hy
 · split at h
   · rename_i f t n off t' a _
     split at h
     · rename_i e
       simp only [Bool.and_eq_true] at e
       obtain⟨e1,e2,e3⟩:=e
       obtain rfl:=Nat.eq_of_beq_eq_true e1
       obtain rfl:=Nat.eq_of_beq_eq_true e2
       obtain rfl:=Nat.eq_of_beq_eq_true e3
       cases h
       exact .inr ⟨n,off,a,rfl,rfl⟩
     · cases h
   · cases h
theorem ae:cC Tryz.prog Ec:=by
 refine⟨fun t x h=> ?_,fun t x h=> ?_⟩
 · rcases wz h with q|⟨n,off,a,rfl,rfl⟩
   · exact ve.loc t x q
   · exact FC n off a
 · rcases wz h with q|⟨n,off,a,rfl,rfl⟩
   · exact ve.snd t x q
   · exact ME n off a
end
section
open Go.Sx
abbrev Wt:=ByteArray×ByteArray×Bool
def ah:List Wt→List Value
 | []=> []
 |w::ws=> .string w.1:: .string w.2.1:: .bool w.2.2::ah ws
def bp (ws:List Wt) (i:Nat):Wt:=ws.getD i default
abbrev Rt:=ByteArray×ByteArray
def aa:List Rt→List Value
 | []=> []
 |w::ws=> .string w.1:: .string w.2::aa ws
def rat (ws:List Rt) (i:Nat):Rt:=ws.getD i default
theorem fy:∀ws:List Wt,(ah ws).length=3*ws.length
 | []=>rfl
 |_::ws=>by simp only [ah,List.length_cons,fy ws];omega
theorem py:∀(ws:List Wt) (i:Nat),(ah ws).drop (3*i)=ah (ws.drop i)
 |ws,0=>by simp
 | [],i+1=>by simp [ah]
 |w::ws,i+1=>by
  rw [show 3*(i+1)=3*i+3 by omega,ah,List.drop_succ_cons,List.drop_succ_cons,List.drop_succ_cons,py ws i,List.drop_succ_cons]
theorem EZ {ws:List Wt}{o i:Nat} (ho:o=3*i) (h:i < ws.length):((ah ws).drop o).take 3= [.string (bp ws i).1,.string (bp ws i).2.1,.bool (bp ws i).2.2]∧ [Value.string (bp ws i).1,.string (bp ws i).2.1,.bool (bp ws i).2.2].length=3:=by
 subst ho
 rw [py,List.drop_eq_getElem_cons h]
 have:bp ws i=ws[i]:=by simp [bp,List.getD_eq_getElem?_getD,List.getElem?_eq_getElem h]
 rw [this]
 exact⟨rfl,rfl⟩
def fa (ws:List Wt):Prop:=∀w∈ws,w.1.data.toList.length≤16
theorem oT {ws:List Wt} (h:fa ws) (i:Nat):(bp ws i).1.data.toList.length≤16:=by
 by_cases q:i < ws.length
 · have:bp ws i=ws[i]:=by simp [bp,List.getD_eq_getElem?_getD,List.getElem?_eq_getElem q]
   rw [this];exact h _ (List.getElem_mem q)
 · have:bp ws i=default:=by simp [bp,List.getD_eq_getElem?_getD,List.getElem?_eq_none (by omega:ws.length≤i)]
   rw [this];show 0≤16;omega
theorem bm {ws:List Wt}{nm:Nat→Option Nat}:aj (ah ws) ((ah ws).map (ao nm 9)):=by
 have:(ah ws).map (ao nm 9)=ah ws:=by
  induction ws with
  |nil=>rfl
  |cons w ws ih=>simp only [ah,List.map_cons,ih];rfl
 rw [this];exact aj.refl _
noncomputable def Du:Code:=bD [1,1,1,0,0,0] (bA 68)
def iK (ws:List Wt):Heap:= [(0,.cells (ah ws) 112)]
noncomputable def rY (ws:List Wt) (key:ByteArray) (i j:Int):List Value:=ay 49 0 [(0,.slice (some ⟨0,0,none⟩) ws.length 0),(1,.string key),(2,.func (.func 69) ⟨[]⟩ ⟨[]⟩),(6,.int .i64 0),(7,.bool false),(8,.int .i64 ws.length),(9,.int .i64 i),(10,.int .i64 j)]
section
set_option maxRecDepth 100000
set_option linter.unusedSectionVars false
variable {ws:List Wt}{key:ByteArray}{i j:Int}
variable (k0:(decide (i < j))=true)(k1:(decide ((0:Int)≤IntKind.i64.wrap ((IntKind.u64.wrap (IntKind.i64.wrap (i+j))).fdiv (2:Int))∧IntKind.i64.wrap ((IntKind.u64.wrap (IntKind.i64.wrap (i+j))).fdiv (2:Int)) < (ws.length:Int)))=true)(k2:((bp ws ((0+(IntKind.i64.wrap ((IntKind.u64.wrap (IntKind.i64.wrap (i+j))).fdiv (2:Int))).toNat*3) / 3)).fst.data.toList.length.ble 4294967295)=true)(k3:(decide (de (bp ws ((0+(IntKind.i64.wrap ((IntKind.u64.wrap (IntKind.i64.wrap (i+j))).fdiv (2:Int))).toNat*3) / 3)).fst key < 0))=true)(k4:(decide (de (bp ws ((0+(IntKind.i64.wrap ((IntKind.u64.wrap (IntKind.i64.wrap (i+j))).fdiv (2:Int))).toNat*3) / 3)).fst key < 0))=false)(k5:List.take 3 (List.drop (0+(IntKind.i64.wrap ((IntKind.u64.wrap (IntKind.i64.wrap (i+j))).fdiv (2:Int))).toNat*3) (ah ws))= [Value.string (bp ws ((0+(IntKind.i64.wrap ((IntKind.u64.wrap (IntKind.i64.wrap (i+j))).fdiv (2:Int))).toNat*3) / 3)).fst,Value.string (bp ws ((0+(IntKind.i64.wrap ((IntKind.u64.wrap (IntKind.i64.wrap (i+j))).fdiv (2:Int))).toNat*3) / 3)).snd.fst,Value.bool (bp ws ((0+(IntKind.i64.wrap ((IntKind.u64.wrap (IntKind.i64.wrap (i+j))).fdiv (2:Int))).toNat*3) / 3)).snd.snd]∧ [Value.string (bp ws ((0+(IntKind.i64.wrap ((IntKind.u64.wrap (IntKind.i64.wrap (i+j))).fdiv (2:Int))).toNat*3) / 3)).fst,Value.string (bp ws ((0+(IntKind.i64.wrap ((IntKind.u64.wrap (IntKind.i64.wrap (i+j))).fdiv (2:Int))).toNat*3) / 3)).snd.fst,Value.bool (bp ws ((0+(IntKind.i64.wrap ((IntKind.u64.wrap (IntKind.i64.wrap (i+j))).fdiv (2:Int))).toNat*3) / 3)).snd.snd].length=3)(k6:(decide (i < j))=false)
include k0 k1 k2 k3 k5 in
theorem RK:Sx.bX Tryz.prog 1 1 2 (iK ws) Du (rY ws key i j) (iK ws) (ay 49 0 [(0,sL 0 ws.length),(1,.string key),(2,.func (.func 69) ⟨[]⟩ ⟨[]⟩),(6,iI 0),(7,.bool false),(8,iI ws.length),(9,iI (IntKind.i64.wrap (IntKind.i64.wrap ((IntKind.u64.wrap (IntKind.i64.wrap (i+j))).fdiv (2:Int))+1))),(10,iI (j))]):=
 bc mixed ae [] [(0,true)] (d:=aT [0,1,4,5] [(2,.cell (.tuple ⟨[Value.string (bp ws ((0+(IntKind.i64.wrap ((IntKind.u64.wrap (IntKind.i64.wrap (i+j))).fdiv (2:Int))).toNat*3) / 3)).fst,Value.string (bp ws ((0+(IntKind.i64.wrap ((IntKind.u64.wrap (IntKind.i64.wrap (i+j))).fdiv (2:Int))).toNat*3) / 3)).snd.fst,Value.bool (bp ws ((0+(IntKind.i64.wrap ((IntKind.u64.wrap (IntKind.i64.wrap (i+j))).fdiv (2:Int))).toNat*3) / 3)).snd.snd]⟩))]) (n:=600) (c2:=2) (L':= [.p (aj (ah ws) ((ah ws).map (ao (nameOf [] 1 2) 9)))]) (by kernel_rfl) rfl rfl (ag bm af) (vB k3 (vC k2 (vP k5 (vC k1 (vB k0 vN)))))
include k0 k1 k2 k4 k5 in
theorem SZ:Sx.bX Tryz.prog 1 1 2 (iK ws) Du (rY ws key i j) (iK ws) (ay 49 0 [(0,sL 0 ws.length),(1,.string key),(2,.func (.func 69) ⟨[]⟩ ⟨[]⟩),(6,iI 0),(7,.bool false),(8,iI ws.length),(9,iI (i)),(10,iI (IntKind.i64.wrap ((IntKind.u64.wrap (IntKind.i64.wrap (i+j))).fdiv (2:Int))))]):=
 bc mixed ae [] [(0,true)] (d:=aT [0,1,4] (aF [5] [(2,.cell (.tuple ⟨[Value.string (bp ws ((0+(IntKind.i64.wrap ((IntKind.u64.wrap (IntKind.i64.wrap (i+j))).fdiv (2:Int))).toNat*3) / 3)).fst,Value.string (bp ws ((0+(IntKind.i64.wrap ((IntKind.u64.wrap (IntKind.i64.wrap (i+j))).fdiv (2:Int))).toNat*3) / 3)).snd.fst,Value.bool (bp ws ((0+(IntKind.i64.wrap ((IntKind.u64.wrap (IntKind.i64.wrap (i+j))).fdiv (2:Int))).toNat*3) / 3)).snd.snd]⟩))])) (n:=600) (c2:=2) (L':= [.p (aj (ah ws) ((ah ws).map (ao (nameOf [] 1 2) 9)))]) (by kernel_rfl) rfl rfl (ag bm af) (vB k4 (vC k2 (vP k5 (vC k1 (vB k0 vN)))))
include k6 in
theorem NP:Sx.Ends Tryz.prog 1 1 2 (iK ws) Du (rY ws key i j) (.exit 0) (iK ws) (ay 49 0 [(0,sL 0 ws.length),(1,.string key),(2,.func (.func 69) ⟨[]⟩ ⟨[]⟩),(6,iI 0),(7,.bool false),(8,iI ws.length),(9,iI (i)),(10,iI (j))]):=
 bL mixed ae [] [(0,true)] (d:=aF [0] []) (n:=600) (c2:=1) (L':= [.p (aj (ah ws) ((ah ws).map (ao (nameOf [] 1 2) 9)))]) (by kernel_rfl) rfl rfl (ag bm af) (vB k6 vN)
theorem half {i j:Int} (h0:0≤i) (h1:i≤j) (h2:j < 1000000000):IntKind.i64.wrap ((IntKind.u64.wrap (IntKind.i64.wrap (i+j))).fdiv (2:Int))=(i+j) / 2:=by
 have e1:IntKind.i64.wrap (i+j)=i+j:=wrap64 (by omega) (by omega)
 have e2:IntKind.u64.wrap (i+j)=i+j:=by simp [IntKind.wrap,IntKind.signed,IntKind.bits];omega
 rw [e1,e2,Int.fdiv_eq_ediv_of_nonneg _ (by omega)]
 exact wrap64 (by omega) (by omega)
theorem PU {ws:List Wt}{key:ByteArray}{h0:Heap} (hs:fa ws) (hl:ws.length < 1000000):∀(r:Nat) (i j:Nat),j - i≤r→i≤j→j≤ws.length→
  ∃p:Nat,p≤ws.length∧Mid Tryz.prog 1 h0 1 (iK ws) 2 (iK ws) Du (rY ws key i j) (.exit 0) (rY ws key p p):=by
 intro r
 induction r with
 |zero=>
  intro i j hr hij hj
  obtain rfl:i=j:=by omega
  exact⟨i,hj,(NP (decide_eq_false (by omega))).dt (by simp) (by decide)⟩
 |succ r ih=>
  intro i j hr hij hj
  by_cases q:i=j
  · subst q;exact⟨i,hj,(NP (decide_eq_false (by omega))).dt (by simp) (by decide)⟩
  · have hh:=half (i:=i) (j:=j) (by omega) (by omega) (by omega)
    have hm:((i:Int)+j) / 2=(((i+j) / 2:Nat):Int):=by omega
    have hlt:(i+j) / 2 < ws.length:=by omega
    have e0:(decide ((i:Int) < j))=true:=decide_eq_true (by omega)
    have e1:decide ((0:Int)≤IntKind.i64.wrap ((IntKind.u64.wrap (IntKind.i64.wrap ((i:Int)+j))).fdiv (2:Int))∧IntKind.i64.wrap ((IntKind.u64.wrap (IntKind.i64.wrap ((i:Int)+j))).fdiv (2:Int)) < (ws.length:Int))=true:=by
     rw [hh,hm];exact decide_eq_true (by omega)
    have ho:0+(IntKind.i64.wrap ((IntKind.u64.wrap (IntKind.i64.wrap ((i:Int)+j))).fdiv (2:Int))).toNat*3=3*((i+j) / 2):=by rw [hh,hm,Int.toNat_natCast];omega
    have hrd:=EZ ho hlt
    have hd:(0+(IntKind.i64.wrap ((IntKind.u64.wrap (IntKind.i64.wrap ((i:Int)+j))).fdiv (2:Int))).toNat*3) / 3=(i+j) / 2:=by rw [ho];omega
    rw [←hd] at hrd
    have hb:(bp ws ((0+(IntKind.i64.wrap ((IntKind.u64.wrap (IntKind.i64.wrap ((i:Int)+j))).fdiv (2:Int))).toNat*3) / 3)).1.data.toList.length.ble 4294967295=true:=Nat.ble_eq_true_of_le (by have:=oT hs ((0+(IntKind.i64.wrap ((IntKind.u64.wrap (IntKind.i64.wrap ((i:Int)+j))).fdiv (2:Int))).toNat*3) / 3);omega)
    cases e3:decide (de (bp ws ((0+(IntKind.i64.wrap ((IntKind.u64.wrap (IntKind.i64.wrap ((i:Int)+j))).fdiv (2:Int))).toNat*3) / 3)).1 key < 0) with
    |true=>
     have g:=RK (ws:=ws) (key:=key) e0 e1 hb e3 hrd
     obtain⟨p,hp,m⟩:=ih ((i+j) / 2+1) j (by omega) (by omega) hj
     refine⟨p,hp,g.dt (by decide) (by decide) ?_⟩
     have:IntKind.i64.wrap (IntKind.i64.wrap ((IntKind.u64.wrap (IntKind.i64.wrap ((i:Int)+j))).fdiv (2:Int))+1)=(((i+j) / 2+1:Nat):Int):=by rw [hh,hm,wrap64 (by omega) (by omega)];omega
     rw [this];exact m
    |false=>
     have g:=SZ (ws:=ws) (key:=key) e0 e1 hb e3 hrd
     obtain⟨p,hp,m⟩:=ih i ((i+j) / 2) (by omega) (by omega) (by omega)
     refine⟨p,hp,g.dt (by decide) (by decide) ?_⟩
     rw [hh,hm];exact m
end
end
section
open Go.Sx
theorem cd:∀ws:List Rt,(aa ws).length=2*ws.length
 | []=>rfl
 |_::ws=>by simp only [aa,List.length_cons,cd ws];omega
theorem lK:∀(ws:List Rt) (i:Nat),(aa ws).drop (2*i)=aa (ws.drop i)
 |ws,0=>by simp
 | [],i+1=>by simp [aa]
 |w::ws,i+1=>by
  rw [show 2*(i+1)=2*i+2 by omega,aa,List.drop_succ_cons,List.drop_succ_cons,lK ws i,List.drop_succ_cons]
theorem tg:∀(ws:List Rt) (i:Nat),(aa ws).take (2*i)=aa (ws.take i)
 |ws,0=>by simp [aa]
 | [],i+1=>by simp [aa]
 |w::ws,i+1=>by
  rw [show 2*(i+1)=2*i+2 by omega,aa,List.take_succ_cons,List.take_succ_cons,tg ws i,List.take_succ_cons,aa]
theorem vg {ws:List Rt}{i:Nat} (h:i < ws.length):rat ws i=ws[i]:=by simp [rat,List.getD_eq_getElem?_getD,List.getElem?_eq_getElem h]
theorem K9 {ws:List Rt}{o i:Nat} (ho:o=2*i) (h:i < ws.length):((aa ws).drop o).take 1= [.string (rat ws i).1]∧ [Value.string (rat ws i).1].length=1:=by
 subst ho
 rw [lK,List.drop_eq_getElem_cons h,vg h]
 exact⟨rfl,rfl⟩
theorem Re {ws:List Rt}{o i:Nat} (ho:o=2*i) (h:i < ws.length):((aa ws).drop o).take 2= [.string (rat ws i).1,.string (rat ws i).2]∧ [Value.string (rat ws i).1,.string (rat ws i).2].length=2:=by
 subst ho
 rw [lK,List.drop_eq_getElem_cons h,vg h]
 exact⟨rfl,rfl⟩
theorem Q6 {ws:List Rt}{o i n sz:Nat} (ho:o=2*i) (hz:sz=n*2) (h:i+n≤ws.length):((aa ws).drop o).take sz=aa ((ws.drop i).take n)∧(aa ((ws.drop i).take n)).length=sz:=by
 subst ho;subst hz
 rw [lK,Nat.mul_comm,tg,cd,List.length_take,List.length_drop]
 exact⟨rfl,by omega⟩
def dC (ws:List Rt):Prop:=∀w∈ws,w.1.data.toList.length≤16
theorem wg {ws:List Rt} (h:dC ws) (i:Nat):(rat ws i).1.data.toList.length≤16:=by
 by_cases q:i < ws.length
 · rw [vg q];exact h _ (List.getElem_mem q)
 · have:rat ws i=default:=by simp [rat,List.getD_eq_getElem?_getD,List.getElem?_eq_none (by omega:ws.length≤i)]
   rw [this];show 0≤16;omega
theorem aV {ws:List Rt}{nm:Nat→Option Nat}:aj (aa ws) ((aa ws).map (ao nm 9)):=by
 have:(aa ws).map (ao nm 9)=aa ws:=by
  induction ws with
  |nil=>rfl
  |cons w ws ih=>simp only [aa,List.map_cons,ih];rfl
 rw [this];exact aj.refl _
noncomputable def GD:Code:=bD [1,1,0,0,0] (bA 120)
def db (rs:List Rt):Heap:= [(0,.cells (aa rs) 64)]
noncomputable def w8 (rs:List Rt) (key:ByteArray) (i:Int):List Value:=ay 23 0 [(0,.slice (some ⟨0,0,none⟩) rs.length 0),(1,.string key),(4,.int .i64 0),(5,.int .i64 i)]
section
set_option maxRecDepth 100000
set_option linter.unusedSectionVars false
variable {i p:Nat}{rs:List Rt}{key:ByteArray}
variable (k0:(decide ((i:Int) < (rs.length:Int)))=true)(k1:(decide (0≤(i:Int)∧(i:Int) < (rs.length:Int)))=true)(k2:((rat rs ((0+i*2+0) / 2)).fst.data.toList.length.ble 4294967295)=true)(k3:(decide (de (rat rs ((0+i*2+0) / 2)).fst key < 0))=true)(k4:(decide (de (rat rs ((0+i*2+0) / 2)).fst key < 0))=false)(k5:List.take 1 (List.drop (0+i*2+0) (aa rs))= [Value.string (rat rs ((0+i*2+0) / 2)).fst]∧ [Value.string (rat rs ((0+i*2+0) / 2)).fst].length=1)(k6:(decide ((i:Int) < (rs.length:Int)))=false)(k7:ab Tryz.prog 1 (db rs) 1 (db rs) (.inLoop GD (w8 rs key 0)) (.out (.exit 0) (w8 rs key p)))(k8:dC rs)(k9:rs.length < 1000000)
include k0 k1 k2 k3 k5 in
theorem T5:Sx.bX Tryz.prog 1 1 1 (db rs) GD (w8 rs key i) (db rs) (ay 23 0 [(0,sL 0 rs.length),(1,.string key),(4,iI 0),(5,iI (IntKind.i64.wrap ((i:Int)+1)))]):=
 bc mixed ae [] [(0,true)] (d:=aT [0,1,2,3,4,5,7,8,9,10,11,12] [(6,.cell (.tuple ⟨[Value.string (rat rs ((0+i*2+0) / 2)).fst]⟩))]) (n:=600) (c2:=1) (L':= [.p (aj (aa rs) ((aa rs).map (ao (nameOf [] 1 1) 9)))]) (by kernel_rfl) rfl rfl (ag aV af) (vB k3 (cZ k0 (vC k2 (cZ k0 (vP k5 (cZ k0 (vC k1 (aX k0 vN))))))))
include k0 k1 k2 k4 k5 in
theorem S0:Sx.Ends Tryz.prog 1 1 1 (db rs) GD (w8 rs key i) (.exit 0) (db rs) (ay 23 0 [(0,sL 0 rs.length),(1,.string key),(4,iI 0),(5,iI ((i:Int)))]):=
 bL mixed ae [] [(0,true)] (d:=aT [0,1,2,3,4,5,7,8,9,10,11] (aF [12] [(6,.cell (.tuple ⟨[Value.string (rat rs ((0+i*2+0) / 2)).fst]⟩))])) (n:=600) (c2:=1) (L':= [.p (aj (aa rs) ((aa rs).map (ao (nameOf [] 1 1) 9)))]) (by kernel_rfl) rfl rfl (ag aV af) (vB k4 (cZ k0 (vC k2 (cZ k0 (vP k5 (cZ k0 (vC k1 (aX k0 vN))))))))
include k6 in
theorem QA:Sx.Ends Tryz.prog 1 1 1 (db rs) GD (w8 rs key i) (.exit 0) (db rs) (ay 23 0 [(0,sL 0 rs.length),(1,.string key),(4,iI 0),(5,iI ((i:Int)))]):=
 bL mixed ae [] [(0,true)] (d:=aF [0,1,2,3,4,5,6,7,8] []) (n:=600) (c2:=1) (L':= [.p (aj (aa rs) ((aa rs).map (ao (nameOf [] 1 1) 9)))]) (by kernel_rfl) rfl rfl (ag aV af) (KO k6 vN)
include k7 in
theorem TL:ab Tryz.prog 1 (db rs) 1 (db rs) (.call 120 [sL 0 rs.length,.string key]) (.val (iI ((p:Int)))):=
 bZ mixed ae [] [(0,true)] (d:= [(0,.loop [0,1,4,5] [0] 1 (db rs) (.exit 0) (w8 rs key p))]) (n:=600) (c2:=1) (L':= [.p (aj (aa rs) ((aa rs).map (ao (nameOf [] 1 1) 9)))]) (by kernel_rfl) rfl rfl (ag aV af) (vP k7 vN)
theorem Ql {rs:List Rt}{key:ByteArray}{h0:Heap} (hs:dC rs) (hl:rs.length < 1000000):∀(r i:Nat),i+r=rs.length→
  ∃p,p≤rs.length∧Mid Tryz.prog 1 h0 1 (db rs) 1 (db rs) GD (w8 rs key i) (.exit 0) (w8 rs key p):=by
 intro r
 induction r with
 |zero=>
  intro i hi
  exact⟨i,by omega,(QA (decide_eq_false (by omega))).dt (by simp) (by decide)⟩
 |succ r ih=>
  intro i hi
  have q:i < rs.length:=by omega
  have ho:0+i*2+0=2*i:=by omega
  have hrd:=K9 ho q
  have hd3:(0+i*2+0) / 2=i:=by omega
  have hb:(rat rs i).1.data.toList.length.ble 4294967295=true:=Nat.ble_eq_true_of_le (by have:=wg hs i;omega)
  cases e3:decide (de (rat rs i).1 key < 0) with
  |true=>
   have g:=T5 (rs:=rs) (key:=key) (i:=i) (decide_eq_true (by omega)) (decide_eq_true (by omega)) (by rw [hd3];exact hb) (by rw [hd3];exact e3) (by rw [hd3];exact hrd)
   rw [wrap64 (by omega) (by omega)] at g
   obtain⟨p,hp,m⟩:=ih (i+1) (by omega)
   exact⟨p,hp,g.dt (by decide) (by decide) m⟩
  |false=>
   have g:=S0 (rs:=rs) (key:=key) (i:=i) (decide_eq_true (by omega)) (decide_eq_true (by omega)) (by rw [hd3];exact hb) (by rw [hd3];exact e3) (by rw [hd3];exact hrd)
   exact⟨i,by omega,g.dt (by simp) (by decide)⟩
include k8 k9 in
theorem Dv:∃p:Nat,p≤rs.length∧ab Tryz.prog 1 (db rs) 1 (db rs) (.call 120 [sL 0 rs.length,.string key]) (.val (iI p)):=by
 obtain⟨p,hp,m⟩:=Ql (key:=key) (h0:=db rs) k8 k9 rs.length 0 (by omega)
 exact⟨p,hp,TL (fG (by decide) m)⟩
end
end
end Go.Proofs.YtalanookmohdeaaGreatDoor
