/- TxnNothing: the walk. No condition. -/
import Derived.Test.YtalanookmohdeaaGreatDoorRows
import Derived.WalkKit
import Derived.ProofKit
import Derived.OpenShut
import Derived.ShutString
import Derived.ChangeOld
import Derived.Below
import Derived.Deep.Slices
import Derived.SizedLaws
import Derived.Test.YtalanookmohdeaaGreatDoorM23
import Derived.Test.YtalanookmohdeaaGreatDoorM22
import Derived.Test.YtalanookmohdeaaGreatDoorM17
namespace Go.Proofs.YtalanookmohdeaaGreatDoor
open Go Go.Sx
def gp (s:Nat):List Value:= .int .i64 1:: .bool true::kI 1 true (.slice (some ⟨48,0,none⟩) 0 0) (.slice (some ⟨49,0,none⟩) 0 0)++eN gr s
theorem ud {z:List Value}{v:Value}:∀ {n:Nat},v∈eN z n→v∈z
 |0,h=>by cases h
 |n+1,h=>by
  rcases List.mem_append.1 (show v∈z++eN z n from h) with h|h
  · exact h
  · exact ud h
theorem sh {f:Value→Value}:∀ {l:List Value},(∀v,v∈l→f v=v)→aj l (l.map f)
 | [],_=> .nil
 |v::l,h=> .same (h v List.mem_cons_self).symm (sh fun x hx=>h x (List.mem_cons_of_mem _ hx))
theorem lD {nm:Nat→Option Nat} (h17:nm 48=some 48) (h18:nm 49=some 49) (s:Nat):aj (gp s) ((gp s).map (ao nm 9)):=by
 refine sh fun v hv=> ?_
 rcases List.mem_append.1 (show v∈(.int .i64 1:: .bool true::kI 1 true (.slice (some ⟨48,0,none⟩) 0 0) (.slice (some ⟨49,0,none⟩) 0 0))++eN gr s from hv) with h|h
 · simp only [kI,List.mem_cons,List.not_mem_nil,or_false] at h
   rcases h with rfl|rfl|rfl|rfl|rfl|rfl|rfl|rfl|rfl|rfl|rfl|rfl|rfl|rfl|rfl|rfl|rfl <;> first|rfl|simp only [ao,h17,h18]
 · have:=ud h
   simp only [gr,kI,List.mem_cons,List.not_mem_nil,or_false] at this
   rcases this with rfl|rfl|rfl|rfl|rfl|rfl|rfl|rfl|rfl|rfl|rfl|rfl|rfl|rfl|rfl|rfl|rfl <;> rfl
theorem fV {nm:Nat→Option Nat} (q:Nat):aj (da q) ((da q).map (ao nm 9)):=by
 refine sh fun v hv=> ?_
 rcases List.mem_append.1 (show v∈(.bool true:: .int .i64 1:: .int .i64 1:: [])++eN i5 q from hv) with h|h
 · simp only [List.mem_cons,List.not_mem_nil,or_false] at h
   rcases h with rfl|rfl|rfl <;> rfl
 · have:=ud h
   simp only [i5,List.mem_cons,List.not_mem_nil,or_false] at this
   rcases this with rfl|rfl|rfl <;> rfl
noncomputable def lv:Code:=bD [1,1,1,0,1,0,0] (bA 27)
noncomputable def CU (out:Value) (s:Nat) (i:Int):List Value:=ay 30 0 [(3,out),(11,.slice (some ⟨37,0,none⟩) (s+1) 0),(12,.int .i64 (.ofNat (s+1))),(13,.int .i64 i)]
noncomputable def nA (s:Nat):Heap:= [(37,.cells (gp s) 145)]
noncomputable def pg:Code:=bD [1,1,1,0,1,0,0] (bA 51)
noncomputable def qT (out:Value) (q:Nat) (i:Int):List Value:=ay 26 0 [(3,out),(11,.slice (some ⟨39,0,none⟩) (q+1) 0),(12,.int .i64 (.ofNat (q+1))),(13,.int .i64 i)]
noncomputable def gw (q:Nat):Heap:= [(39,.cells (da q) 197)]
theorem vV {zl:List Value}:∀ {n i:Nat},i < n→((eN zl n).drop (i*zl.length)).take zl.length=zl
 |0,_,h=>by omega
 |n+1,0,_=>by
  show((zl++eN zl n).drop (0*zl.length)).take zl.length=zl
  rw [Nat.zero_mul,List.drop_zero,List.take_left]
 |n+1,i+1,h=>by
  show((zl++eN zl n).drop ((i+1)*zl.length)).take zl.length=zl
  rw [show(i+1)*zl.length=zl.length+i*zl.length by rw [Nat.succ_mul,Nat.add_comm],←List.drop_drop,List.drop_left]
  exact vV (by omega)
theorem LZ {s i:Nat} (h:i < s):((gp s).drop (0+(i+1)*17)).take 17=gr∧gr.length=17:=by
 refine⟨?_,rfl⟩
 show(((.int .i64 1:: .bool true::kI 1 true (.slice (some ⟨48,0,none⟩) 0 0) (.slice (some ⟨49,0,none⟩) 0 0))++eN gr s).drop (0+(i+1)*17)).take 17=gr
 rw [show 0+(i+1)*17=(.int .i64 1:: .bool true::kI 1 true (.slice (some ⟨48,0,none⟩) 0 0) (.slice (some ⟨49,0,none⟩) 0 0)).length+i*17 by simp [kI];omega,←List.drop_drop,List.drop_left]
 exact vV (zl:=gr) h
theorem C3 {q i:Nat} (h:i < q):((da q).drop (0+(i+1)*3)).take 3=i5∧i5.length=3:=by
 refine⟨?_,rfl⟩
 show((([.bool true,.int .i64 1,.int .i64 1]:List Value)++eN i5 q).drop (0+(i+1)*3)).take 3=i5
 rw [show 0+(i+1)*3=([.bool true,.int .i64 1,.int .i64 1]:List Value).length+i*3 by simp;omega,←List.drop_drop,List.drop_left]
 exact vV (zl:=i5) h
section
set_option maxRecDepth 100000
set_option linter.unusedSectionVars false
variable {s i q:Nat}
variable (k0:(Decidable.decide (0 < Int.ofNat (s+1)))=true)(k1:(Decidable.decide ((0:Int)≤0∧0 < ((s+1:Nat):Int)))=true)(k2:(Decidable.decide (Int.ofNat (i+1) < Int.ofNat (s+1)))=true)(k3:(Decidable.decide (0≤Int.ofNat (i+1)∧Int.ofNat (i+1) < ((s+1:Nat):Int)))=true)(k4:((gp s).drop (0+(i+1)*17)).take 17=gr∧gr.length=17)(k5:(Decidable.decide (Int.ofNat (s+1) < Int.ofNat (s+1)))=false)(k6:s < 100000)(k7:(Decidable.decide (0 < Int.ofNat (q+1)))=true)(k8:(Decidable.decide ((0:Int)≤0∧0 < ((q+1:Nat):Int)))=true)(k9:(Decidable.decide (Int.ofNat (i+1) < Int.ofNat (q+1)))=true)(k10:(Decidable.decide (0≤Int.ofNat (i+1)∧Int.ofNat (i+1) < ((q+1:Nat):Int)))=true)(k11:((da q).drop (0+(i+1)*3)).take 3=i5∧i5.length=3)(k12:(Decidable.decide (Int.ofNat (q+1) < Int.ofNat (q+1)))=false)(k13:q < 100000)
include k0 k1 in
theorem SU:Sx.bX Tryz.prog 1328 1329 1338 (nA s) lv (CU (.slice none 0 0) s 0) (nA s) (ay 30 0 [(3,.slice (some ⟨1328,0,none⟩) 1 0),(11,.slice (some ⟨37,0,none⟩) (s+1) 0),(12,.int .i64 (.ofNat (s+1))),(13,.int .i64 (1))]):=
 bc mixed bl [(1328,1331)] [(37,true)] (d:=aT [0,1] []) (n:=600) (c2:=1332) (L':= [.p (aj (gp s) ((gp s).map (ao (nameOf [(1328,1331)] 1328 1338) 9)))]) (by kernel_rfl) rfl rfl (ag (lD (nm:=nameOf [(1328,1331)] 1328 1338) rfl rfl s) af)
  (vC k1 (vB k0 vN))
include k2 k3 k4 in
theorem Te:Sx.bX Tryz.prog 1328 1329 1338 (nA s) lv (CU (.slice (some ⟨1328,0,none⟩) 1 0) s (.ofNat (i+1))) (nA s) (ay 30 0 [(3,.slice (some ⟨1328,0,none⟩) 1 0),(11,.slice (some ⟨37,0,none⟩) (s+1) 0),(12,.int .i64 (.ofNat (s+1))),(13,.int .i64 (IntKind.i64.wrap (.ofNat (i+1)+1)))]):=
 bc mixed bl [(1328,1328)] [(37,true)] (d:=aT [0,1] [(2,.cell (.tuple ⟨gr⟩))]) (n:=600) (c2:=1330) (L':= [.p (aj (gp s) ((gp s).map (ao (nameOf [(1328,1328)] 1328 1338) 9)))]) (by kernel_rfl) rfl rfl (ag (lD (nm:=nameOf [(1328,1328)] 1328 1338) rfl rfl s) af)
  (vP k4 (vC k3 (vB k2 vN)))
include k5 in
theorem Ry:Sx.Ends Tryz.prog 1328 1329 1338 (nA s) lv (CU (.slice (some ⟨1328,0,none⟩) 1 0) s (.ofNat (s+1))) (.exit 0) (nA s) (ay 30 0 [(3,.slice (some ⟨1328,0,none⟩) 1 0)]):=
 bL mixed bl [(1328,1328)] [(37,true)] (d:=aF [0] []) (n:=600) (c2:=1329) (L':= [.p (aj (gp s) ((gp s).map (ao (nameOf [(1328,1328)] 1328 1338) 9)))]) (by kernel_rfl) rfl rfl (ag (lD (nm:=nameOf [(1328,1328)] 1328 1338) rfl rfl s) af)
  (vB k5 vN)
include k6 in
theorem JE:ab Tryz.prog 1328 (nA s) 1338 (nA s) (.inLoop lv (CU (.slice none 0 0) s 0)) (.out (.exit 0) (ay 30 0 [(3,.slice (some ⟨1328,0,none⟩) 1 0)])):=by
 have rest:∀k i:Nat,i+k=s→Mid Tryz.prog 1328 (nA s) 1329 (nA s) 1338 (nA s) lv (CU (.slice (some ⟨1328,0,none⟩) 1 0) s (.ofNat (i+1))) (.exit 0) (ay 30 0 [(3,.slice (some ⟨1328,0,none⟩) 1 0)]):=by
  intro k
  induction k with
  |zero=>
   intro i hi
   obtain rfl:i=s:=by omega
   exact(Ry (decide_eq_false (by omega))).dt (by simp) (by decide)
  |succ k ih=>
   intro i hi
   have g:=Te (s:=s) (i:=i) (decide_eq_true (by simp only [Int.ofNat_eq_natCast];omega)) (decide_eq_true (by simp only [Int.ofNat_eq_natCast];omega)) (LZ (by omega))
   rw [oX (by simp only [Int.ofNat_eq_natCast];omega) (by simp only [Int.ofNat_eq_natCast];omega)] at g
   exact g.dt (by decide) (by decide) (ih (i+1) (by omega))
 have g:=SU (s:=s) (decide_eq_true (by simp only [Int.ofNat_eq_natCast];omega)) (decide_eq_true (by omega))
 refine gX (ρ:= []) (cm:=1329) rfl (by decide) (by decide) (nR (len:=30) (h':=nA s) [(37,true)] (l:= [(3,.slice none 0 0),(11,.slice (some ⟨37,0,none⟩) (s+1) 0),(12,.int .i64 (.ofNat (s+1))),(13,.int .i64 0)]) (by kernel_rfl) (vP (show aj (gp s) ((gp s).map (ao (nameOf [] 1328 1338) 9)) from lD (nm:=nameOf [] 1328 1338) rfl rfl s) vN)) ?_
 exact g.dt (by decide) (by decide) (rest s 0 (by omega))
include k7 k8 in
theorem QK:Sx.bX Tryz.prog 1228 1229 1238 (gw q) pg (qT (.slice none 0 0) q 0) (gw q) (ay 26 0 [(3,.slice (some ⟨1228,0,none⟩) 1 0),(11,.slice (some ⟨39,0,none⟩) (q+1) 0),(12,.int .i64 (.ofNat (q+1))),(13,.int .i64 (1))]):=
 bc mixed bl [(1228,1231)] [(39,true)] (d:=aT [0,1] []) (n:=600) (c2:=1232) (L':= [.p (aj (da q) ((da q).map (ao (nameOf [(1228,1231)] 1228 1238) 9)))]) (by kernel_rfl) rfl rfl (ag (fV (nm:=nameOf [(1228,1231)] 1228 1238) q) af)
  (vC k8 (vB k7 vN))
include k9 k10 k11 in
theorem RI:Sx.bX Tryz.prog 1228 1229 1238 (gw q) pg (qT (.slice (some ⟨1228,0,none⟩) 1 0) q (.ofNat (i+1))) (gw q) (ay 26 0 [(3,.slice (some ⟨1228,0,none⟩) 1 0),(11,.slice (some ⟨39,0,none⟩) (q+1) 0),(12,.int .i64 (.ofNat (q+1))),(13,.int .i64 (IntKind.i64.wrap (.ofNat (i+1)+1)))]):=
 bc mixed bl [(1228,1228)] [(39,true)] (d:=aT [0,1] [(2,.cell (.tuple ⟨i5⟩))]) (n:=600) (c2:=1230) (L':= [.p (aj (da q) ((da q).map (ao (nameOf [(1228,1228)] 1228 1238) 9)))]) (by kernel_rfl) rfl rfl (ag (fV (nm:=nameOf [(1228,1228)] 1228 1238) q) af)
  (vP k11 (vC k10 (vB k9 vN)))
include k12 in
theorem RQ:Sx.Ends Tryz.prog 1228 1229 1238 (gw q) pg (qT (.slice (some ⟨1228,0,none⟩) 1 0) q (.ofNat (q+1))) (.exit 0) (gw q) (ay 26 0 [(3,.slice (some ⟨1228,0,none⟩) 1 0)]):=
 bL mixed bl [(1228,1228)] [(39,true)] (d:=aF [0] []) (n:=600) (c2:=1229) (L':= [.p (aj (da q) ((da q).map (ao (nameOf [(1228,1228)] 1228 1238) 9)))]) (by kernel_rfl) rfl rfl (ag (fV (nm:=nameOf [(1228,1228)] 1228 1238) q) af)
  (vB k12 vN)
include k13 in
theorem Hq:ab Tryz.prog 1228 (gw q) 1238 (gw q) (.inLoop pg (qT (.slice none 0 0) q 0)) (.out (.exit 0) (ay 26 0 [(3,.slice (some ⟨1228,0,none⟩) 1 0)])):=by
 have rest:∀k i:Nat,i+k=q→Mid Tryz.prog 1228 (gw q) 1229 (gw q) 1238 (gw q) pg (qT (.slice (some ⟨1228,0,none⟩) 1 0) q (.ofNat (i+1))) (.exit 0) (ay 26 0 [(3,.slice (some ⟨1228,0,none⟩) 1 0)]):=by
  intro k
  induction k with
  |zero=>
   intro i hi
   obtain rfl:i=q:=by omega
   exact(RQ (decide_eq_false (by omega))).dt (by simp) (by decide)
  |succ k ih=>
   intro i hi
   have g:=RI (q:=q) (i:=i) (decide_eq_true (by simp only [Int.ofNat_eq_natCast];omega)) (decide_eq_true (by simp only [Int.ofNat_eq_natCast];omega)) (C3 (by omega))
   rw [oX (by simp only [Int.ofNat_eq_natCast];omega) (by simp only [Int.ofNat_eq_natCast];omega)] at g
   exact g.dt (by decide) (by decide) (ih (i+1) (by omega))
 have g:=QK (q:=q) (decide_eq_true (by simp only [Int.ofNat_eq_natCast];omega)) (decide_eq_true (by omega))
 refine gX (ρ:= []) (cm:=1229) rfl (by decide) (by decide) (nR (len:=26) (h':=gw q) [(39,true)] (l:= [(3,.slice none 0 0),(11,.slice (some ⟨39,0,none⟩) (q+1) 0),(12,.int .i64 (.ofNat (q+1))),(13,.int .i64 0)]) (by kernel_rfl) (vP (show aj (da q) ((da q).map (ao (nameOf [] 1228 1238) 9)) from fV (nm:=nameOf [] 1228 1238) q) vN)) ?_
 exact g.dt (by decide) (by decide) (rest q 0 (by omega))
include k7 k8 in
theorem Ti:Sx.bX Tryz.prog 1276 1277 1288 (gw q) pg (qT (.slice none 0 0) q 0) (gw q) (ay 26 0 [(3,.slice (some ⟨1276,0,none⟩) 1 0),(11,.slice (some ⟨39,0,none⟩) (q+1) 0),(12,.int .i64 (.ofNat (q+1))),(13,.int .i64 (1))]):=
 bc mixed bl [(1276,1279)] [(39,true)] (d:=aT [0,1] []) (n:=600) (c2:=1280) (L':= [.p (aj (da q) ((da q).map (ao (nameOf [(1276,1279)] 1276 1288) 9)))]) (by kernel_rfl) rfl rfl (ag (fV (nm:=nameOf [(1276,1279)] 1276 1288) q) af)
  (vC k8 (vB k7 vN))
include k9 k10 k11 in
theorem RZ:Sx.bX Tryz.prog 1276 1277 1288 (gw q) pg (qT (.slice (some ⟨1276,0,none⟩) 1 0) q (.ofNat (i+1))) (gw q) (ay 26 0 [(3,.slice (some ⟨1276,0,none⟩) 1 0),(11,.slice (some ⟨39,0,none⟩) (q+1) 0),(12,.int .i64 (.ofNat (q+1))),(13,.int .i64 (IntKind.i64.wrap (.ofNat (i+1)+1)))]):=
 bc mixed bl [(1276,1276)] [(39,true)] (d:=aT [0,1] [(2,.cell (.tuple ⟨i5⟩))]) (n:=600) (c2:=1278) (L':= [.p (aj (da q) ((da q).map (ao (nameOf [(1276,1276)] 1276 1288) 9)))]) (by kernel_rfl) rfl rfl (ag (fV (nm:=nameOf [(1276,1276)] 1276 1288) q) af)
  (vP k11 (vC k10 (vB k9 vN)))
include k12 in
theorem Rm:Sx.Ends Tryz.prog 1276 1277 1288 (gw q) pg (qT (.slice (some ⟨1276,0,none⟩) 1 0) q (.ofNat (q+1))) (.exit 0) (gw q) (ay 26 0 [(3,.slice (some ⟨1276,0,none⟩) 1 0)]):=
 bL mixed bl [(1276,1276)] [(39,true)] (d:=aF [0] []) (n:=600) (c2:=1277) (L':= [.p (aj (da q) ((da q).map (ao (nameOf [(1276,1276)] 1276 1288) 9)))]) (by kernel_rfl) rfl rfl (ag (fV (nm:=nameOf [(1276,1276)] 1276 1288) q) af)
  (vB k12 vN)
include k13 in
theorem Kh:ab Tryz.prog 1276 (gw q) 1288 (gw q) (.inLoop pg (qT (.slice none 0 0) q 0)) (.out (.exit 0) (ay 26 0 [(3,.slice (some ⟨1276,0,none⟩) 1 0)])):=by
 have rest:∀k i:Nat,i+k=q→Mid Tryz.prog 1276 (gw q) 1277 (gw q) 1288 (gw q) pg (qT (.slice (some ⟨1276,0,none⟩) 1 0) q (.ofNat (i+1))) (.exit 0) (ay 26 0 [(3,.slice (some ⟨1276,0,none⟩) 1 0)]):=by
  intro k
  induction k with
  |zero=>
   intro i hi
   obtain rfl:i=q:=by omega
   exact(Rm (decide_eq_false (by omega))).dt (by simp) (by decide)
  |succ k ih=>
   intro i hi
   have g:=RZ (q:=q) (i:=i) (decide_eq_true (by simp only [Int.ofNat_eq_natCast];omega)) (decide_eq_true (by simp only [Int.ofNat_eq_natCast];omega)) (C3 (by omega))
   rw [oX (by simp only [Int.ofNat_eq_natCast];omega) (by simp only [Int.ofNat_eq_natCast];omega)] at g
   exact g.dt (by decide) (by decide) (ih (i+1) (by omega))
 have g:=Ti (q:=q) (decide_eq_true (by simp only [Int.ofNat_eq_natCast];omega)) (decide_eq_true (by omega))
 refine gX (ρ:= []) (cm:=1277) rfl (by decide) (by decide) (nR (len:=26) (h':=gw q) [(39,true)] (l:= [(3,.slice none 0 0),(11,.slice (some ⟨39,0,none⟩) (q+1) 0),(12,.int .i64 (.ofNat (q+1))),(13,.int .i64 0)]) (by kernel_rfl) (vP (show aj (da q) ((da q).map (ao (nameOf [] 1276 1288) 9)) from fV (nm:=nameOf [] 1276 1288) q) vN)) ?_
 exact g.dt (by decide) (by decide) (rest q 0 (by omega))
end
section
open Go Go.Sx
noncomputable def r3:Code:=bD [1,1,0] (bA 3)
noncomputable def r4:Code:=bD [1,1,1,0,0] (bA 3)
noncomputable def gj:Array Oper:=opsOf (bD [1,1,1,1,0] (bA 3))
noncomputable def GL:Code:=bD [1,1,1,1,1,0] (bA 3)
noncomputable def Ha:Code:=bD [1,1,1,1,1,1,0] (bA 3)
noncomputable def GB:Code:=bD [1,1,1,1,1,1,1] (bA 3)
theorem QC:bA 3= .seq TI (.seq j8 (.seq r3 (.seq (.seq r4 (.block 0 (.loop pk))) (.seq (.region 17 gj false) (.seq GL (.seq Ha GB)))))):=by kernel_rfl
theorem Nu:gj.toList=gj.toList.take 1++mP gj.toList 1::gj.toList.drop 2:=by kernel_rfl
theorem GX:(mP gj.toList 1).guard=none:=by kernel_rfl
theorem Nh:(mP gj.toList 1).dst=some 59:=by kernel_rfl
def O2 (p:Lm) (σ:eQ):Heap:= [(37,.cells (gp p.s) 145),(38,.cells [.slice (some ⟨37,0,none⟩) (p.s+1) 0,.int .i64 p.g] 143),(39,.cells (da p.q) 197),(40,.cells [.slice (some ⟨39,0,none⟩) (p.q+1) 0] 195),(41,.map (mp σ.il)),
 (42,.cells [.int .i64 σ.now,.int .i64 p.g,.int .i64 p.c,.map (some 41)] 219),(43,.cells [.int .i64 σ.count,.int .i64 (.ofNat (p.s+1)),.int .i64 (.ofNat (p.q+1)),.int .i64 p.c,.int .i64 p.d,.int .i64 p.e,.int .i64 p.g,.pointer (some ⟨38,0,none⟩),.pointer (some ⟨40,0,none⟩),.pointer (some ⟨42,0,none⟩)] 93),
 (48,.cells [] 64),(49,.cells [] 129),(53,.map []),(54,.map (mp σ.ml)),(55,.cells [.int .i64 p.c,.int .i64 p.g,.int .i64 0,.int .i64 0,.map (some 53),.map (some 54),.int .i64 σ.holder] 86)]
def hN (W:World) (p:Lm) (σ:eQ):Heap:= [(0,.args W.heap.size W),(59,.cells [.pointer (some ⟨43,0,none⟩),.pointer (some ⟨55,0,none⟩),.chan none,.chan none,.chan none,.chan none,.chan none,.chan none] 51)]++O2 p σ
section
variable {W:World}{p:Lm}{ba oa M ca:Nat}{ac:Nat→List Ac}{u:Tu}{a b c d e g:Int}
set_option maxRecDepth 100000
theorem T7:ab Tryz.prog 3 (kD W a b c d e g (.slice (some ⟨ba,oa,some 0⟩) M ca) (fx u)) 4 [(0,.args W.heap.size W),(1,.cells (mB a b c d e g ba oa M ca u) 27),(3,qV a b c d e g (.slice none 0 0) u)] (.code r3 eS) (.out .normal (ay 111 0 [(1,.pointer (some ⟨1,0,none⟩)),(3,.pointer (some ⟨3,0,none⟩))])):=by
 obtain⟨tp,tn,tc⟩:=u
 cases tp with
 |none=>exact bW mixed bl (C:=pw) (nn:=600) (d:= []) (h1:= [(0,.args W.heap.size W),(1,.cells (mB a b c d e g ba oa M ca ⟨none,tn,tc⟩) 27),(3,qV a b c d e g (.slice none 0 0) ⟨none,tn,tc⟩)]) (l:= [(1,.pointer (some ⟨1,0,none⟩)),(3,.pointer (some ⟨3,0,none⟩))]) (by kernel_rfl) af
 |some x=>exact bW mixed bl (C:=pw) (nn:=600) (d:= []) (L:= []) (h1:= [(0,.args W.heap.size W),(1,.cells (mB a b c d e g ba oa M ca ⟨some x,tn,tc⟩) 27),(3,qV a b c d e g (.slice none 0 0) ⟨some x,tn,tc⟩)]) (l:= [(1,.pointer (some ⟨1,0,none⟩)),(3,.pointer (some ⟨3,0,none⟩))]) (by kernel_rfl) vN
theorem TW:ab Tryz.prog 4 [(0,.args W.heap.size W),(1,.cells (mB a b c d e g ba oa M ca u) 27),(3,qV a b c d e g (.slice none 0 0) u)] 4 [(0,.args W.heap.size W),(1,.cells (mB a b c d e g ba oa M ca u) 27),(3,qV a b c d e g (.slice none 0 0) u)] (.code r4 (ay 111 0 [(1,.pointer (some ⟨1,0,none⟩)),(3,.pointer (some ⟨3,0,none⟩))])) (.out .normal (ay 111 0 (oL ba oa M ca 0))):=
 fj mixed bl (C:=pw) (n:=600) (d:= []) (l:=oL ba oa M ca 0) (by kernel_rfl) vN
theorem LX (hM:M≤8) (A:Src W ba oa M ac):dh Tryz.prog 4 [(0,.args W.heap.size W),(1,.cells (mB a b c d e g ba oa M ca u) 27),(3,qV a b c d e g (.slice none 0 0) u)] 30 (fun f: {f:QS // f.Ok ac M}=>f.1.heap W a b c d e g ba oa M ca u) (.seq r4 (.block 0 (.loop pk))) (ay 111 0 [(1,.pointer (some ⟨1,0,none⟩)),(3,.pointer (some ⟨3,0,none⟩))]) .normal (fun _=>ay 111 0 (oL ba oa M ca M)):=by
 refine eE TW (kC (by decide) (je (J:=World) (cm':=6) (by decide) (by decide) (EE (m:=4) (H':=fun w=>i6 W a b c d e g ba oa M ca u 4 5 [] w []) (by decide) (by decide) fun w k x hx=> ?_) fun w=> ?_))
 · have hm:=get_mem hx
   simp only [i6,List.mem_cons,List.not_mem_nil,or_false,Prod.mk.injEq] at hm
   rcases hm with⟨rfl,rfl⟩|⟨rfl,rfl⟩|⟨rfl,rfl⟩|⟨rfl,rfl⟩
   · exact .inr rfl
   · exact .inr rfl
   · exact .inr rfl
   · exact .inl ⟨rfl,rfl⟩
 · exact LD hM A M 0 ⟨[],[],w⟩ (by omega) (Nat.zero_le _) ⟨rfl,fun j x h=>by simp at h,fun j x i y h=>by simp at h⟩
def nz (x:Nat×Nat×List Ac):Nat×Nat×List Ac:=match x.2.2 with
 | []=>(0,0,[])
 |_::_=>x
theorem vZ (x:Nat×Nat×List Ac):(nz x).2.2=x.2.2:=by
 unfold nz
 split
 · rename_i h;exact h.symm
 · rfl
theorem LA {x:Nat×Nat×List Ac}{r r':Env}{v:Value} (h:Rel r (dw x) v):∃AA,((nz x).2.2≠ []→AA=some ⟨(nz x).1,0,some 27⟩)∧Rel r' (.slice AA (nz x).2.2.length (nz x).2.1) v:=by
 obtain⟨B,lc,l⟩:=x
 cases l with
 |nil=>exact⟨none,fun h=>absurd rfl h,vr r r' v h⟩
 |cons a l=>
  refine⟨_,fun _=>rfl,?_⟩
  have h':Rel r (.slice (some ⟨B,0,some 1⟩) (l.length+1) lc) v:=h
  cases h' with|litSlice q1 q2=>exact .litSlice q1 q2
def EI (W:World) (M:Nat) (f:QS) (i:Nat×Nat×World):cF:=⟨W,i.2.2,W.heap.size,i.1::f.S,i.1,M,i.2.1,List.replicate M (0,0),f.al.map nz⟩
theorem PC (hM:M≤8) (hW:0 < W.heap.size) (hg:nY W) (hlo:∀j,j < M→∀a∈ac j,a.lo.data.toList.length≤4294967295) (h100:∀j,j < M→(ac j).length≤100) {f:QS} (hf:f.Ok ac M) {i:Nat×Nat×World} (hi:wJ f.S f.w (f.al.map dw) M i.1 i.2.1 i.2.2):(EI W M f i).Ok:=by
 have hget:∀ {j:Nat} {x},(f.al.map nz)[j]? =some x→∃y,f.al[j]? =some y∧nz y=x∧j < M:=fun {j x} h=>by
  rw [List.getElem?_map] at h
  cases hy:f.al[j]? with
  |none=>rw [hy] at h;cases h
  |some y=>
   rw [hy] at h
   have:=(List.getElem?_eq_some_iff.1 hy).1
   exact⟨y,rfl,Option.some.inj h,by rw [←hf.len];exact this⟩
 refine⟨by show(f.al.map nz).length=M;rw [List.length_map];exact hf.len,by show(List.replicate M (0,0)).length=M;simp,hM,fun j x hx=> ?_,fun j x k y hx hy=> ?_,fun j x k y hx hy=> ?_,fun j x hx=> ?_,hW,hg⟩
 · obtain⟨y,hy,rfl,hj⟩:=hget hx
   have hv:(f.al.map dw)[j]? =some (dw y):=by rw [List.getElem?_map,hy];rfl
   obtain⟨v,c1,r,c2⟩:=hi.cell j _ hv
   obtain⟨AA,d1,_⟩:=LA (r':=r) c2
   refine⟨if(nz y).2.2= [] then none else some ⟨(nz y).1,0,some 27⟩,fun h=>by rw [if_neg h],List.mem_cons_self,fun k z hz=> ?_⟩
   cases k with
   |succ k=>simp at hz
   |zero=>
    simp at hz;subst hz
    refine⟨v,by show World.cell? i.2.2 ⟨i.1,0+j*1+0,none⟩=_;rw [show 0+j*1+0=j by omega];exact c1,fun r'=> ?_⟩
    obtain⟨B,lc,l⟩:=y
    cases l with
    |nil=>exact vr r r' v c2
    |cons a l=>
     have h':Rel r (.slice (some ⟨B,0,some 1⟩) (l.length+1) lc) v:=c2
     cases h' with|litSlice q1 q2=>exact .litSlice q1 q2
 · obtain⟨x0,hx0,rfl,hj⟩:=hget hx
   rw [vZ] at hy
   have:=hi.aq (hf.cells j x0 k y hx0 hy)
   cases h2:x0.2.2 with
   |nil=>rw [h2] at hy;simp at hy
   |cons a l=>
    have e:nz x0=x0:=by unfold nz;rw [h2]
    rw [e];exact this
 · obtain⟨x0,hx0,rfl,hj⟩:=hget hx
   rw [vZ,hf.acts j x0 hx0,List.getElem?_map] at hy
   cases ha:(ac j)[k]? with
   |none=>rw [ha] at hy;cases hy
   |some a0=>
    rw [ha] at hy
    cases Option.some.inj hy
    refine⟨?_,hlo j hj a0 (List.mem_of_getElem? ha)⟩
    show(if a0.kd=6 then 7 else a0.kd)≠6
    split <;> omega
 · obtain⟨x0,hx0,rfl,hj⟩:=hget hx
   rw [vZ,hf.acts j x0 hx0,List.length_map]
   exact h100 j hj
def qH (W:World) (p:Lm) (M:Nat) (u:Tu) (S:List Nat) (i:Nat×Nat×World):Heap:= [(0,.args W.heap.size W),(3,.cells (dj p i.1 M i.2.1 u) 27),(31,.froz (i.1::S) i.2.2)]
theorem Hw {i:Nat×Nat×World}{nm:Nat→Option Nat}: [Value.agg ⟨dj p i.1 M i.2.1 u⟩].map (ao nm 9)= [Value.agg ⟨dj p i.1 M i.2.1 u⟩]:=by
 obtain⟨tp,tn,tc⟩:=u
 cases tp <;> rfl
theorem Qx {C:cF}{σ:eQ} (hB:C.B=W.heap.size) (hw:C.w0=W):∀n y,(hN W p σ).get n=some y→∃s t,fwd [0,31,5002,5003] 32 1200 s=some n∧(hS C p σ).get s=some t∧az (t.bC (fwd [0,31,5002,5003] 32 1200)) y:=by
 refine pP (by rfl) fun q hq=> ?_
 unfold hN at hq
 rcases List.mem_append.1 hq with hq|hq
 · simp only [List.mem_cons,List.not_mem_nil,or_false] at hq
   rcases hq with rfl|rfl
   · exact⟨(0,.args C.B C.w0),by simp [hS],rfl,by rw [hB,hw];exact .args⟩
   · exact⟨(31,.cells [.pointer (some ⟨15,0,none⟩),.pointer (some ⟨27,0,none⟩),.chan none,.chan none,.chan none,.chan none,.chan none,.chan none] 51),by simp [hS],rfl,az.refl _⟩
 · simp only [O2,List.mem_cons,List.not_mem_nil,or_false] at hq
   have aq:∀ {r:Nat×Chunk},r∈dy p σ→r∈hS C p σ:=fun h=>List.mem_append_right _ h
   rcases hq with rfl|rfl|rfl|rfl|rfl|rfl|rfl|rfl|rfl|rfl|rfl|rfl
   · refine⟨(9,.cells (fD p.s) 145),aq (by simp [dy]),rfl,?_⟩
     have:(fD p.s).map (ao (fwd [0,31,5002,5003] 32 1200) 9)=gp p.s:=by
      show((_:List Value)++eN gr p.s).map _=_
      rw [List.map_append,lp rfl]
      rfl
     show az (.cells ((fD p.s).map _) 145) _
     rw [this];exact az.refl _
   · exact⟨(10,.cells [.slice (some ⟨9,0,none⟩) (p.s+1) 0,.int .i64 p.g] 143),aq (by simp [dy]),rfl,az.refl _⟩
   · exact⟨(11,.cells (da p.q) 197),aq (by simp [dy]),rfl,m5 _ _⟩
   · exact⟨(12,.cells [.slice (some ⟨11,0,none⟩) (p.q+1) 0] 195),aq (by simp [dy]),rfl,az.refl _⟩
   · exact⟨(13,.map (mp σ.il)),aq (by simp [dy]),rfl,iq _ _⟩
   · exact⟨(14,.cells [.int .i64 σ.now,.int .i64 p.g,.int .i64 p.c,.map (some 13)] 219),aq (by simp [dy]),rfl,az.refl _⟩
   · exact⟨(15,.cells [.int .i64 σ.count,.int .i64 (.ofNat (p.s+1)),.int .i64 (.ofNat (p.q+1)),.int .i64 p.c,.int .i64 p.d,.int .i64 p.e,.int .i64 p.g,.pointer (some ⟨10,0,none⟩),.pointer (some ⟨12,0,none⟩),.pointer (some ⟨14,0,none⟩)] 93),aq (by simp [dy]),rfl,az.refl _⟩
   · exact⟨(20,.cells [] 64),aq (by simp [dy]),rfl,az.refl _⟩
   · exact⟨(21,.cells [] 129),aq (by simp [dy]),rfl,az.refl _⟩
   · exact⟨(25,.map []),aq (by simp [dy]),rfl,az.refl _⟩
   · exact⟨(26,.map (mp σ.ml)),aq (by simp [dy]),rfl,iq _ _⟩
   · exact⟨(27,.cells [.int .i64 p.c,.int .i64 p.g,.int .i64 0,.int .i64 0,.map (some 25),.map (some 26),.int .i64 σ.holder] 86),aq (by simp [dy]),rfl,az.refl _⟩
structure uh (W:World) (p:Lm) (M:Nat) (ac:Nat→List Ac) (u:Tu):Prop where
 m1:1≤M
 m8:M≤8
 w:0 < W.heap.size
 gl:nY W
 lo:∀j,j < M→∀a∈ac j,a.lo.data.toList.length≤4294967295
 thr:(M:Int)≤p.c
 g1:1≤p.g
 top:p.g < 9223372036854775808
 v:aW (gV p.s p.q p.c p.d p.e p.g)
 tn:u.tn < 4000000000
 tp:u.tp=none→u.tn=0
 tu:∀x,u.tp=some x→∀i,i < u.tn→∃v:Nat,v < 256∧aZ W.heap.size W x.1 (x.2+i*1) [.int .u8 (v:Nat)]
theorem ML (hp:uh W p M ac u) (h100:∀j,j < M→(ac j).length≤100) {f:QS} (hf:f.Ok ac M) {i:Nat×Nat×World} (hi:wJ f.S f.w (f.al.map dw) M i.1 i.2.1 i.2.2):oW Tryz.prog 32 (qH W p M u f.S i) 1228 (hN W p) 6 [.agg ⟨dj p i.1 M i.2.1 u⟩] (.tuple ⟨[.pointer (some ⟨59,0,none⟩),.bool true]⟩):=by
 have hok:=PC hp.m8 hp.w hp.gl hp.lo h100 hf hi
 have hc:=Lh (C:=EI W M f i) (p:=p) (u:=u) hok hp.m1 hp.thr hp.g1 hp.top hp.v hp.tn hp.tp hp.tu
 refine It (l:= [0,31,5002,5003]) (c:=32) (k1:=1200) hc rfl (by decide) (by decide) ?_ ?_ ?_ ?_
 · intro k x hx
   have hm:=get_mem hx
   simp only [NW,List.mem_cons,List.not_mem_nil,or_false,Prod.mk.injEq] at hm
   rcases hm with⟨rfl,rfl⟩|⟨rfl,rfl⟩
   · exact⟨0,.args W.heap.size W,rfl,rfl,.args⟩
   · exact⟨31,.froz (i.1::f.S) i.2.2,rfl,rfl,.froz⟩
 · intro r r2 us hb h
   have:=cV (b9 hb 9) h
   rw [Hw] at this;exact this
 · intro j n x hx
   obtain⟨s,t,h1,h2,h3⟩:=Qx (C:=EI W M f i) rfl rfl n x hx
   exact .inl ⟨s,t,h2,h1,h3⟩
 · intro r r2 v hb h
   exact b9 hb 9 _ _ h
abbrev K7 (p:Lm) (M:Nat) (u:Tu) (ba oa ca:Nat) (i:Nat×Nat×World):List (Nat×Value):=oL ba oa M ca M++ [(58,.agg ⟨dj p i.1 M i.2.1 u⟩)]
abbrev Dd:List (Nat×Value):= [(9,.pointer (some ⟨59,0,none⟩)),(10,.bool true)]
theorem Uw {S:List Nat}{i:Nat×Nat×World}:l4 (ee Tryz.prog (gn Tryz.prog pw 600) gj.toList (gj.toList.take 1) (ay 111 0 (oL ba oa M ca M)) [] (bb 32 (qH W p M u S i)))=some (ay 111 0 (K7 p M u ba oa ca i),32,qH W p M u S i,[]):=by kernel_rfl
theorem TN {H:Heap}{i:Nat×Nat×World}:sq (c9 Tryz.prog (ay 111 0 (K7 p M u ba oa ca i)) (mP gj.toList 1) [] (bb 32 H))=some (6,[.agg ⟨dj p i.1 M i.2.1 u⟩],32,H,[]):=by kernel_rfl
abbrev OJ (p:Lm) (M:Nat) (u:Tu) (ba oa ca:Nat) (i:Nat×Nat×World):List (Nat×Value):=K7 p M u ba oa ca i++ [(59,.tuple ⟨[.pointer (some ⟨59,0,none⟩),.bool true]⟩),(57,.tuple ⟨[.pointer (some ⟨59,0,none⟩),.bool true]⟩),(60,.pointer (some ⟨59,0,none⟩)),(61,.bool true),(9,.pointer (some ⟨59,0,none⟩)),(10,.bool true)]
theorem Ud {H:Heap}{i:Nat×Nat×World}:l4 (ee Tryz.prog (gn Tryz.prog pw 600) gj.toList (gj.toList.drop 2) (jj (ay 111 0 (K7 p M u ba oa ca i)) (some 59) (.tuple ⟨[.pointer (some ⟨59,0,none⟩),.bool true]⟩)) [] (bb 1228 H))=some (ay 111 0 (OJ p M u ba oa ca i),1228,H,[]):=by kernel_rfl
theorem J7 {i:Nat×Nat×World} (k:Nat):eL Dd k=eL (OJ p M u ba oa ca i) k∨eL Dd k= .chan none:=by
 by_cases h9:k=9
 · subst h9;exact .inl rfl
 by_cases h10:k=10
 · subst h10;exact .inl rfl
 · right
   simp only [Dd,eL,cj,Ne.symm h9,Ne.symm h10,decide_false]
theorem Nk (hp:uh W p M ac u) {f:QS} (hf:f.Ok ac M) {T:List Value}:Conv Tryz.prog (I:=Ee f.S f.w (f.al.map dw) M) 30 32 (f.heap W (.ofNat (p.s+1)) (.ofNat (p.q+1)) p.c p.d p.e p.g ba oa M ca u) T (fun i=>qH W p M u f.S i.1) (fun _=>T):=by
 have hlen:(f.al.map dw).length=M:=by rw [List.length_map];exact hf.len
 have hm:=hp.m1
 unfold QS.heap
 generalize f.al.map dw=R at hlen ⊢
 cases R with
 |nil=>simp at hlen;omega
 |cons v R=>
  have hR:R.length+1=M:=hlen
  subst hR
  refine wm (z:=4) (z2:=31) (m:=5) (nT:=3) (p:=6) (K:=1) (H':=fun i=>qH W p (R.length+1) u f.S i) (by decide) (by decide) rfl rfl rfl rfl (by decide) (by decide) (by decide) (by decide) fun i x y hy=> ?_
  have hm:=get_mem hy
  simp only [qH,List.mem_cons,List.not_mem_nil,or_false,Prod.mk.injEq] at hm
  rcases hm with⟨rfl,rfl⟩|⟨rfl,rfl⟩|⟨rfl,rfl⟩
  · exact .inr (.inr ⟨by decide,by decide,by decide,rfl⟩)
  · exact .inr (.inl ⟨rfl,rfl⟩)
  · exact .inl ⟨rfl,rfl⟩
theorem MB (hp:uh W p M ac u) (A:Src W ba oa M ac) {k:Code}{c3:Nat}{e:bU}{T3:List Value} (h3:1228≤c3) (hrest:∀σ,ab Tryz.prog 1228 (hN W p σ) c3 (aC W) (.code k (ay 111 0 Dd)) (.out e T3)):ab Tryz.prog 3 (kD W (.ofNat (p.s+1)) (.ofNat (p.q+1)) p.c p.d p.e p.g (.slice (some ⟨ba,oa,some 0⟩) M ca) (fx u)) c3 (aC W) (.code (.seq r3 (.seq (.seq r4 (.block 0 (.loop pk))) (.seq (.region 17 gj false) k))) eS) (.out e T3):=by
 have h:dh Tryz.prog (I:=eQ) 3 (kD W (.ofNat (p.s+1)) (.ofNat (p.q+1)) p.c p.d p.e p.g (.slice (some ⟨ba,oa,some 0⟩) M ca) (fx u)) c3 (fun _=>aC W) (.seq r3 (.seq (.seq r4 (.block 0 (.loop pk))) (.seq (.region 17 gj false) k))) eS e (fun _=>T3):=by
  refine eE T7 (va (LX hp.m8 A) (by omega) fun f=>uY (c1:=32) (by decide) (by omega) (Nk hp f.2) fun i=> ?_)
  refine lM (c1:=1228) (h1:=hN W p) (T1:=fun _=>ay 111 0 (OJ p M u ba oa ca i.1)) (uK mixed bl (C:=pw) (n:=600) Nu GX Uw TN (ML hp A.len f.2 i.2) (fun σ=> ?_) (Nat.le_refl _)) h3 fun σ=>yC (hrest σ) fun r us h=>qG h fun i _=>J7 i
  rw [Nh];exact Ud
 exact h.one (fun _ _ _ q=>q) fun _=>rfl
end
end
section
open Go Go.Sx
theorem FA {c0 c1 c2:Nat}{h0 h1:Heap}{k:Code}{T T1:List Value}{e:bU} (h:ab Tryz.prog c0 h0 c1 h1 (.code k T) (.out e T1)) (hc:c1≤c2):ab Tryz.prog c0 h0 c2 h1 (.code k T) (.out e T1):=
 ⟨Nat.le_trans h.1 hc,fun r ow w hs hf a ha hd=>wp_mono (h.2 r ow w hs (hf.sub (Nat.le_refl _) hc) a ha hd) fun _ _ _ ⟨hex,hd',r',ow',hp,ha'⟩=>⟨hex,hd',r',ow',hp.upto hc,ha'⟩⟩
section
variable {W:World}{p:Lm}{σ:eQ}
set_option maxRecDepth 100000
theorem Ta:ab Tryz.prog 1228 (hN W p σ) 1228 (hN W p σ) (.code GL (ay 111 0 Dd)) (.out .normal (ay 111 0 [(9,.pointer (some ⟨59,0,none⟩))])):=
 bW mixed bl (C:=pw) (nn:=600) (d:= []) (by kernel_rfl) vN
theorem RU (hq:p.q < 100000) (h0:(Decidable.decide ((0:Int)≤0∧0 < ((p.q+1:Nat):Int)))=true) (h1:(Decidable.decide (0≤IntKind.i64.wrap (1 - 1)∧IntKind.i64.wrap (1 - 1) < ((p.s+1:Nat):Int)))=true):ab Tryz.prog 1228 (hN W p σ) 1314 (hN W p σ) (.code Ha (ay 111 0 [(9,.pointer (some ⟨59,0,none⟩))])) (.out .normal (ay 111 0 [(9,.pointer (some ⟨59,0,none⟩)),(11,.slice none 0 0),(12,.nilIface)])):=
 bW mixed bl (C:=pw) (nn:=600) (d:=aT [23,66,252,295] [(6,.loop [3,11,12,13] [39] 1238 (gw p.q) (.exit 0) (ay 26 0 [(3,.slice (some ⟨1228,0,none⟩) 1 0)])),(233,.loop [3,11,12,13] [39] 1288 (gw p.q) (.exit 0) (ay 26 0 [(3,.slice (some ⟨1276,0,none⟩) 1 0)]))])
 (by kernel_rfl)
  (vC h1 (vC h0 (vP (show ab Tryz.prog 1276 (gw p.q) 1288 (gw p.q) (.inLoop pg (qT (.slice none 0 0) p.q 0)) (.out (.exit 0) (ay 26 0 [(3,.slice (some ⟨1276,0,none⟩) 1 0)])) from Kh hq) (vC h1 (vC h0 (vP (show ab Tryz.prog 1228 (gw p.q) 1238 (gw p.q) (.inLoop pg (qT (.slice none 0 0) p.q 0)) (.out (.exit 0) (ay 26 0 [(3,.slice (some ⟨1228,0,none⟩) 1 0)])) from Hq hq) vN))))))
theorem QO (hs:p.s < 100000):ab Tryz.prog 1328 (hN W p σ) 1338 (aC W) (.code GB (ay 111 0 [(9,.pointer (some ⟨59,0,none⟩)),(11,.slice none 0 0),(12,.nilIface)])) (.out .ret (ay 111 0 [(2,.bool true)])):=
 bW mixed bl (C:=pw) (nn:=600) (d:= [(37,.loop [3,11,12,13] [37] 1338 (nA p.s) (.exit 0) (ay 30 0 [(3,.slice (some ⟨1328,0,none⟩) 1 0)]))]) (by kernel_rfl)
  (vP (show ab Tryz.prog 1328 (nA p.s) 1338 (nA p.s) (.inLoop lv (CU (.slice none 0 0) p.s 0)) (.out (.exit 0) (ay 30 0 [(3,.slice (some ⟨1328,0,none⟩) 1 0)])) from JE hs) vN)
theorem PG (hs:p.s < 100000) (hq:p.q < 100000):ab Tryz.prog 1228 (hN W p σ) 1338 (aC W) (.code (.seq GL (.seq Ha GB)) (ay 111 0 Dd)) (.out .ret (ay 111 0 [(2,.bool true)])):=
 nw Ta (nw (FA (RU hq (decide_eq_true (by omega)) (decide_eq_true (by rw [show IntKind.i64.wrap (1 - 1)=0 from rfl];omega))) (by decide)) (QO hs))
end
end
section
open Go Go.Sx
def Good (W:World) (s:Value) (N:Nat):Prop:=(s= .slice none 0 0∧N=0)∨∃blk off cap,s= .slice (some ⟨blk,off,some 0⟩) N cap∧∀i,i < N→i≤40→∃a:Ac,aZ W.heap.size W blk (off+i*9) a.cells∧a.lo.data.toList.length≤100
theorem DM {W:World}{n:Int}{ba oa M ca j:Nat}{s:Value}{N:Nat} (h:ki W s N):
  (ab Tryz.prog 3 (aC W) 3 (aC W) (.inLoop fi (uu n ba oa M ca j s 0)) (.out (.exit 2) (De n ba oa M ca j))∧Good W s N)∨
  ab Tryz.prog 3 (aC W) 3 (aC W) (.inLoop fi (uu n ba oa M ca j s 0)) (.out .ret (ay 105 0 [(2,.bool false)])):=by
 cases h with
 |nil=>exact .inl ⟨ig (Nat.le_refl _) (CS.dt (by simp) (Nat.le_refl _)),.inl ⟨rfl,rfl⟩⟩
 | @some blk off N cap A=>
  let G:Nat→Prop:=fun i=>∃a:Ac,aZ W.heap.size W blk (off+i*9) a.cells∧a.lo.data.toList.length≤100
  have key:∀k i:Nat,i+k=N→(∀i',i' < i→i'≤40→G i')→(Mid Tryz.prog 3 (aC W) 3 (aC W) 3 (aC W) fi (uu n ba oa M ca j (.slice (some ⟨blk,off,some 0⟩) N cap) i) (.exit 2) (De n ba oa M ca j)∧∀i',i' < N→i'≤40→G i')∨
    Mid Tryz.prog 3 (aC W) 3 (aC W) 3 (aC W) fi (uu n ba oa M ca j (.slice (some ⟨blk,off,some 0⟩) N cap) i) .ret (ay 105 0 [(2,.bool false)]):=by
   intro k
   induction k with
   |zero=>
    intro i hi hG
    exact .inl ⟨(Nr (decide_eq_false (by omega))).dt (by simp) (Nat.le_refl _),fun i' h1 h2=>hG i' (by omega) h2⟩
   |succ k ih=>
    intro i hi hG
    have a0:Decidable.decide ((i:Int) < (N:Int))=true:=decide_eq_true (by omega)
    have a2:Decidable.decide (0≤(i:Int)∧(i:Int) < (N:Int))=true:=decide_eq_true (by omega)
    by_cases a1:(i:Int)≤40
    · obtain⟨kind,reads,key,value,low,high,unb,limit,rev,hc⟩:=A i (by omega)
      by_cases t1:(key.data.toList.length:Int) > 100
      · exact .inr ((Qu a0 (decide_eq_true a1) a2 (decide_eq_true t1) hc).dt (by simp) (Nat.le_refl _))
      by_cases t2:(value.data.toList.length:Int) > 100
      · exact .inr ((PT a0 (decide_eq_true a1) a2 (decide_eq_false t1) (decide_eq_true t2) hc).dt (by simp) (Nat.le_refl _))
      by_cases t3:(low.data.toList.length:Int) > 100
      · exact .inr ((P7 a0 (decide_eq_true a1) a2 (decide_eq_false t1) (decide_eq_false t2) (decide_eq_true t3) hc).dt (by simp) (Nat.le_refl _))
      by_cases t4:(high.data.toList.length:Int) > 100
      · exact .inr ((Qf a0 (decide_eq_true a1) a2 (decide_eq_false t1) (decide_eq_false t2) (decide_eq_false t3) (decide_eq_true t4) hc).dt (by simp) (Nat.le_refl _))
      have g:=Ps (n:=n) (ba:=ba) (oa:=oa) (M:=M) (ca:=ca) (j:=j) (cap:=cap) a0 (decide_eq_true a1) a2 (decide_eq_false t1) (decide_eq_false t2) (decide_eq_false t3) (decide_eq_false t4) hc
      rw [oX (by omega) (by omega)] at g
      rcases ih (i+1) (by omega) (fun i' h1 h2=>by
       by_cases e:i'=i
       · subst e;exact⟨⟨kind,reads,key,value,low,high,unb,limit,rev⟩,hc,by show low.data.toList.length≤100;omega⟩
       · exact hG i' (by omega) h2) with⟨q,q2⟩|q
      · exact .inl ⟨g.dt (Nat.le_refl _) (Nat.le_refl _) q,q2⟩
      · exact .inr (g.dt (Nat.le_refl _) (Nat.le_refl _) q)
    · exact .inl ⟨(LO a0 (decide_eq_false a1)).dt (by simp) (Nat.le_refl _),fun i' h1 h2=>hG i' (by omega) h2⟩
  rcases key N 0 (by omega) (fun i' h=>absurd h (Nat.not_lt_zero _)) with⟨q,q2⟩|q
  · exact .inl ⟨ig (Nat.le_refl _) q,.inr ⟨blk,off,cap,rfl,q2⟩⟩
  · exact .inr (ig (Nat.le_refl _) q)
def qk (Nv:Nat→Nat):Nat→Nat→Nat
 |_,0=>0
 |j,k+1=>Nv j+qk Nv (j+1) k
theorem yF {Nv:Nat→Nat}:∀(k j i:Nat),j≤i→i < j+k→Nv i≤qk Nv j k
 |0,_,_,_,_=>by omega
 |k+1,j,i,h1,h2=>by
  show _≤Nv j+qk Nv (j+1) k
  by_cases e:i=j
  · subst e;omega
  · have:=yF (Nv:=Nv) k (j+1) i (by omega) (by omega);omega
structure Told (W:World) (ba oa M:Nat) (sv:Nat→Value) (Nv:Nat→Nat):Prop where
 cell:∀j,j < M→aZ W.heap.size W ba (oa+j*1) [sv j]
 list:∀j,j < M→ki W (sv j) (Nv j)
 few:∀j,j < M→Nv j≤1400000000000
theorem Fh {W:World}{ba oa M ca:Nat}{sv:Nat→Value}{Nv:Nat→Nat} (hM:(M:Int) < 9223372036854775808) (A:Told W ba oa M sv Nv):
  (∃n,(M≤8→n=(qk Nv 0 M:Int))∧(∀j,j < M→Good W (sv j) (Nv j))∧ab Tryz.prog 3 (aC W) 3 (aC W) (.inLoop fo (oA 0 ba oa M ca 0)) (.out (.exit 0) (ay 105 0 [(1,.pointer (some ⟨2,0,none⟩)),(3,.int .i64 n)])))∨
  ab Tryz.prog 3 (aC W) 3 (aC W) (.inLoop fo (oA 0 ba oa M ca 0)) (.out .ret (ay 105 0 [(2,.bool false)])):=by
 have key:∀(k j:Nat) (n:Int),j+k=M→(M≤8→0≤n∧n≤(j:Int)*1400000000000)→(∃n',(M≤8→n'=n+(qk Nv j k:Int))∧(∀i,j≤i→i < M→Good W (sv i) (Nv i))∧Mid Tryz.prog 3 (aC W) 3 (aC W) 3 (aC W) fo (oA n ba oa M ca j) (.exit 0) (ay 105 0 [(1,.pointer (some ⟨2,0,none⟩)),(3,.int .i64 n')]))∨
   Mid Tryz.prog 3 (aC W) 3 (aC W) 3 (aC W) fo (oA n ba oa M ca j) .ret (ay 105 0 [(2,.bool false)]):=by
  intro k
  induction k with
  |zero=>
   intro j n hj hn
   exact .inl ⟨n,fun _=>by simp [qk],fun i h1 h2=>by omega,(JK (decide_eq_false (by omega))).dt (by simp) (Nat.le_refl _)⟩
  |succ k ih=>
   intro j n hj hn
   have a0:Decidable.decide ((j:Int) < (M:Int))=true:=decide_eq_true (by omega)
   have a1:Decidable.decide (0≤(j:Int)∧(j:Int) < (M:Int))=true:=decide_eq_true (by omega)
   have hc:=A.cell j (by omega)
   have hs:=A.list j (by omega)
   have hN:=A.few j (by omega)
   have rest:∀m:Int,(M≤8→m=n+(Nv j:Int))→Good W (sv j) (Nv j)→Sx.bX Tryz.prog 3 3 3 (aC W) fo (oA n ba oa M ca j) (aC W) (oA m ba oa M ca ((j+1:Nat):Int))→
     (∃n',(M≤8→n'=n+(qk Nv j (k+1):Int))∧(∀i,j≤i→i < M→Good W (sv i) (Nv i))∧Mid Tryz.prog 3 (aC W) 3 (aC W) 3 (aC W) fo (oA n ba oa M ca j) (.exit 0) (ay 105 0 [(1,.pointer (some ⟨2,0,none⟩)),(3,.int .i64 n')]))∨
      Mid Tryz.prog 3 (aC W) 3 (aC W) 3 (aC W) fo (oA n ba oa M ca j) .ret (ay 105 0 [(2,.bool false)]):=fun m hm hg g=>by
    rcases ih (j+1) m (by omega) (fun h8=>by have:=hn h8;have:=hm h8;omega) with⟨n',q1,q2,q⟩|q
    · refine .inl ⟨n',fun h8=> ?_,fun i h1 h2=> ?_,g.dt (Nat.le_refl _) (Nat.le_refl _) q⟩
      · rw [q1 h8,hm h8]
        show _=n+((Nv j+qk Nv (j+1) k:Nat):Int)
        omega
      · by_cases e:i=j
        · subst e;exact hg
        · exact q2 i (by omega) h2
    · exact .inr (g.dt (Nat.le_refl _) (Nat.le_refl _) q)
   cases h1:sv j with
   |slice pt len cap=>
    rw [h1] at hc hs
    generalize hN0:Nv j=N at hs
    cases hs with
    |nil=>
     have l2:=ig (Nat.le_refl 3) ((CS (W:=W) (n:=IntKind.i64.wrap (n+0)) (ba:=ba) (oa:=oa) (M:=M) (ca:=ca) (j:=j)).dt (h0:=aC W) (by simp) (Nat.le_refl _))
     have g:=P1 (blk:=0) (off:=0) (N:=0) (cap:=0) a0 a1 hc l2
     rw [oX (n:=(j:Int)+1) (by omega) (by omega)] at g
     exact rest _ (fun h8=>by have:=hn h8;rw [oX (by omega) (by omega)];omega) (.inl ⟨h1,hN0⟩) g
    | @some blk off N cap hA=>
     rcases DM (n:=IntKind.i64.wrap (n+(len:Int))) (ba:=ba) (oa:=oa) (M:=M) (ca:=ca) (j:=j) (ki.some (cap:=cap) hA) with⟨l,hg⟩|l
     · have g:=Pd a0 a1 hc l
       rw [oX (n:=(j:Int)+1) (by omega) (by omega)] at g
       exact rest _ (fun h8=>by have:=hn h8;rw [oX (by omega) (by omega)];omega) (by rw [h1,hN0];exact hg) g
     · exact .inr ((PQ a0 a1 hc l).dt (by simp) (Nat.le_refl _))
   |_=>rw [h1] at hs;cases hs
 rcases key M 0 0 (by omega) (fun _=>by omega) with⟨n,q1,q2,q⟩|q
 · exact .inl ⟨n,fun h8=>by rw [q1 h8];omega,fun j hj=>q2 j (Nat.zero_le _) hj,ig (Nat.le_refl _) q⟩
 · exact .inr (ig (Nat.le_refl _) q)
end
section
open Go Go.Sx
def sw (W:World) (a b c d e g:Int) (acts turns:Value):Prop:=∃c1 h1,ab Tryz.prog 1 (aC W) c1 h1 (.call 3 [.agg ⟨Et a b c d e g acts turns⟩]) (.val (.bool true))∧h1.get 0=some (.args W.heap.size W)
theorem yu {W:World}{a b c d e g:Int}{acts turns:Value}{c1:Nat}
  (h:ab Tryz.prog 2 (kD W a b c d e g acts turns) c1 (aC W) (.code (.seq j8 (.seq r3 (.seq (.seq r4 (.block 0 (.loop pk))) (.seq (.region 17 gj false) (.seq GL (.seq Ha GB)))))) eS) (.out .ret (ay 111 0 [(2,.bool true)]))):sw W a b c d e g acts turns:=by
 obtain⟨body,hbd⟩:∃body,Tryz.f3.body=some body:=⟨_,rfl⟩
 have e:body=bA 3:=by
  unfold bA
  rw [Tryz.func3]
  simp only [hbd]
 refine⟨c1,aC W,FG (T2:=ay 111 0 [(2,.bool true)]) (t:=2) (fn:=Tryz.f3) (body:=body) Tryz.func3 hbd rfl ?_ rfl,rfl⟩
 rw [e,QC]
 exact nw SG h
theorem jW {W:World}{a b c d e g:Int}{acts turns:Value} (h:ab Tryz.prog 2 (kD W a b c d e g acts turns) 3 (aC W) (.code j8 eS) (.out .ret (ay 111 0 [(2,.bool true)]))):sw W a b c d e g acts turns:=
 yu (rT (by simp) h)
theorem Jg {W:World} (a b c d e g:Int) {pt:Option Addr}{Tn ct:Nat}:sw W a b c d e g (.slice none 0 0) (.slice pt Tn ct):=by
 cases h0:aM a b c d e g with
 |false=>exact jW (Ft h0)
 |true=>
  have h5:=of_decide_eq_true h0
  by_cases h1:a≤300
  · by_cases h2:b≤60
    · by_cases h3:c≤8
      · by_cases h4:(Tn:Int)≤3000
        · exact jW (NJ h0 (decide_eq_true h1) (decide_eq_true h2) (decide_eq_true h3) (decide_eq_true (by omega)) (by rw [decide_eq_true h4];rfl))
        · exact jW (Qn h0 (decide_eq_true h1) (decide_eq_true h2) (decide_eq_true h3) (decide_eq_true (by omega)) (by rw [decide_eq_false h4];rfl))
      · exact jW (Pj h0 (decide_eq_true h1) (decide_eq_true h2) (decide_eq_false h3))
    · exact jW (Pu h0 (decide_eq_true h1) (decide_eq_false h2))
  · exact jW (NY h0 (decide_eq_false h1))
theorem CB {α:Type}{P:Nat→α→Prop}:∀N:Nat,(∀i,i < N→∃a,P i a)→∃l:List α,l.length=N∧∀i a,l[i]? =some a→P i a
 |0,_=>⟨[],rfl,fun i a h=>by simp at h⟩
 |N+1,h=>by
  obtain⟨l,h1,h2⟩:=CB N fun i hi=>h i (by omega)
  obtain⟨a,ha⟩:=h N (by omega)
  refine⟨l++ [a],by simp [h1],fun i x hx=> ?_⟩
  by_cases hi:i < l.length
  · rw [List.getElem?_append_left hi] at hx;exact h2 i x hx
  · have he:i=N:=by have:=(List.getElem?_eq_some_iff.1 hx).1;simp at this;omega
    subst he
    rw [List.getElem?_append_right (by omega),h1,Nat.sub_self] at hx
    cases hx;exact ha
theorem G6 {α:Type} [Inhabited α] {P:Nat→α→Prop}{M:Nat} (h:∀j,j < M→∃a,P j a):∃f:Nat→α,∀j,j < M→P j (f j):=by
 classical
 refine⟨fun j=>if q:j < M then Classical.choose (h j q) else default,fun j hj=> ?_⟩
 simp only [hj,dif_pos]
 exact Classical.choose_spec (h j hj)
def E2 (W:World) (s:Value) (l:List Ac):Prop:=(∀a∈l,a.lo.data.toList.length≤100)∧l.length≤40∧((s= .slice none 0 0∧l= [])∨∃b off cap,s= .slice (some ⟨b,off,some 0⟩) l.length cap∧∀i a,l[i]? =some a→aZ W.heap.size W b (off+i*9) a.cells)
theorem G7 {W:World}{s:Value}{N:Nat} (h:Good W s N) (hN:N≤40):∃l,E2 W s l:=by
 rcases h with⟨rfl,rfl⟩|⟨b,off,cap,rfl,h⟩
 · refine⟨[],?_⟩
   unfold E2
   exact⟨fun a h=>(by cases h),by decide,.inl ⟨rfl,rfl⟩⟩
 · obtain⟨l,h1,h2⟩:=CB N fun i hi=>h i hi (by omega)
   refine⟨l,fun a ha=> ?_,by omega,.inr ⟨b,off,cap,by rw [h1],fun i a hi=>(h2 i a hi).1⟩⟩
   obtain⟨i,hi,e⟩:=List.getElem_of_mem ha
   exact(h2 i a (by rw [List.getElem?_eq_getElem hi,e])).2
theorem FZ {W:World} (a b c d e g:Int) {ba oa M ca:Nat}{sv:Nat→Value}{Nv:Nat→Nat}{u:Tu} (hM:(M:Int) < 9223372036854775808) (A:Told W ba oa M sv Nv) (hg:nY W) (htp:u.tp=none→u.tn=0)
  (htu:∀x,u.tp=some x→∀i,i < u.tn→∃v:Nat,v < 256∧aZ W.heap.size W x.1 (x.2+i*1) [.int .u8 (v:Nat)]):sw W a b c d e g (.slice (some ⟨ba,oa,some 0⟩) M ca) (fx u):=by
 obtain⟨pt,Tn,ct,hu,hTn⟩:∃pt Tn ct,fx u= .slice pt Tn ct∧Tn=u.tn:=by
  obtain⟨tp,tn,tc⟩:=u
  cases tp with
  |none=>exact⟨none,0,0,rfl,(htp rfl).symm⟩
  |some x=>exact⟨_,tn,tc,rfl,rfl⟩
 have out:ab Tryz.prog 2 (kD W a b c d e g (.slice (some ⟨ba,oa,some 0⟩) M ca) (.slice pt Tn ct)) 3 (aC W) (.code j8 eS) (.out .ret (ay 111 0 [(2,.bool true)]))→sw W a b c d e g (.slice (some ⟨ba,oa,some 0⟩) M ca) (fx u):=fun h=>by rw [hu];exact jW h
 rcases Fh (ca:=ca) hM A with⟨n,hn,hgood,hl⟩|hl
 · cases h0:aM a b c d e g with
   |false=>exact out (Fx h0 hl)
   |true=>
    have h5:=of_decide_eq_true h0
    by_cases h1:a≤300
    · have h1':=decide_eq_true h1
      by_cases h2:b≤60
      · have h2':=decide_eq_true h2
        by_cases h3:c≤8
        · have h3':=decide_eq_true h3
          by_cases h4:(M:Int)≤c
          · have h4':=decide_eq_true h4
            by_cases h6:n≤40
            · have h6':=decide_eq_true h6
              by_cases h7:(Tn:Int)≤3000
              · have h7':(!Decidable.decide ((Tn:Int)≤3000))=false:=by rw [decide_eq_true h7];rfl
                by_cases h8:(M:Int)=0
                · exact out (IV h0 h1' h2' h3' h4' h6' h7' (beq_iff_eq.2 h8) hl)
                · obtain⟨s,rfl⟩:∃s:Nat,a= .ofNat (s+1):=⟨(a - 1).toNat,by simp only [Int.ofNat_eq_natCast];omega⟩
                  obtain⟨q,rfl⟩:∃q:Nat,b= .ofNat (q+1):=⟨(b - 1).toNat,by simp only [Int.ofNat_eq_natCast];omega⟩
                  have hM8:M≤8:=by omega
                  have hsum:qk Nv 0 M≤40:=by have:=hn hM8;omega
                  obtain⟨ac,hac⟩:=G6 (α:=List Ac) (P:=fun j l=>E2 W (sv j) l) (M:=M) fun j hj=>G7 (hgood j hj) (Nat.le_trans (yF M 0 j (Nat.zero_le _) (by omega)) hsum)
                  have hsrc:Src W ba oa M ac:=⟨fun j hj=>⟨sv j,A.cell j hj,(hac j hj).2.2⟩,fun j hj=>Nat.le_trans (hac j hj).2.1 (by decide)⟩
                  have f1:¬(Int.ofNat (s+1) > 4096):=by omega
                  have f4:Int.ofNat (s+1)=Int.ofNat (s+1)∧0≤Int.ofNat (s+1)∧(208:Int)*Int.ofNat (s+1)≤281474976710656∧Int.ofNat (s+1)≤9223372036854775807:=⟨rfl,by omega,by omega,by omega⟩
                  have f5:¬(Int.ofNat (q+1) > 256):=by omega
                  have f6:Int.ofNat (q+1)=Int.ofNat (q+1)∧0≤Int.ofNat (q+1)∧(24:Int)*Int.ofNat (q+1)≤281474976710656∧Int.ofNat (q+1)≤9223372036854775807:=⟨rfl,by omega,by omega,by omega⟩
                  have hv:aW (gV s q c d e g):=Mb (by rw [h0];rfl) (decide_eq_false f1) (decide_eq_false (by omega)) (decide_eq_false (by omega)) (decide_eq_true f4) (decide_eq_false f5) (decide_eq_true f6) (decide_eq_false (by omega)) (decide_eq_false (by omega)) (decide_eq_true (by omega)) (decide_eq_true (by omega)) (beq_eq_false_iff_ne.2 (by omega)) (decide_eq_true (by omega)) (decide_eq_true (by omega))
                  have hp:uh W ⟨s,q,c,d,e,g⟩ M ac u:=⟨by omega,hM8,Nat.lt_of_le_of_lt (Nat.zero_le _) (A.cell 0 (by omega)).1,hg,fun j hj a ha=>Nat.le_trans ((hac j hj).1 a ha) (by decide),h4,by show 1≤g;omega,by show g < _;omega,hv,by omega,htp,htu⟩
                  have hs:s < 100000:=by simp only [Int.ofNat_eq_natCast] at h1;omega
                  have hq:q < 100000:=by simp only [Int.ofNat_eq_natCast] at h2;omega
                  have hrest:=MB (p:=⟨s,q,c,d,e,g⟩) (ca:=ca) hp hsrc (k:= .seq GL (.seq Ha GB)) (c3:=1338) (by decide) fun σ=>PG (p:=⟨s,q,c,d,e,g⟩) hs hq
                  have hok:=OD (pt:=pt) (ct:=ct) h0 h1' h2' h3' h4' h6' h7' (beq_eq_false_iff_ne.2 h8) hl
                  unfold rH at hok;rw [←hu] at hok
                  exact yu (nw hok hrest)
              · exact out (Si h0 h1' h2' h3' h4' h6' (by rw [decide_eq_false h7];rfl) hl)
            · exact out (Sd h0 h1' h2' h3' h4' (decide_eq_false h6) hl)
          · exact out (SI h0 h1' h2' h3' (decide_eq_false h4) hl)
        · exact out (RR h0 h1' h2' (decide_eq_false h3) hl)
      · exact out (QW h0 h1' (decide_eq_false h2) hl)
    · exact out (SJ h0 (decide_eq_false h1) hl)
 · exact out (Lo (n:=0) hl)
end
section
open Go Go.ChangeShapes Go.WideShapes Go.ChangeAt Go.RowKit
open Go.Sx (aC aZ lit sJ kr ql)
theorem Old.below {w w':World} (h:Sx.Old w w'):Below w.heap.size w w':=⟨h.os,h.tape,h.output,h.size,h.aq⟩
theorem sR {H:Type}{P:Program}{e:TypeId}{d:DataW H}{n:Nat}:∀ {l:List (DataW H)},d∈l→n∈d.weights P e→n∈DataW.weightsAll P e l
 | [],h,_=>by cases h
 |x::r,h,hn=>by
  simp only [DataW.weightsAll,List.mem_append]
  rcases List.mem_cons.1 h with q|q
  · subst q;exact .inl hn
  · exact .inr (sR q hn)
theorem zD {w:World}{a:Addr}{v:Value} (h:w.cell? a=some v):a.spot=none:=by
 unfold World.cell? at h
 split at h
 · split at h
   · cases h
   · rename_i q;simpa using q
 · cases h
theorem mu {w:World}{a:Addr}{v:Value} (h:w.cell? a=some v):a.block < w.heap.size:=by
 unfold World.cell? at h
 cases e:w.heap[a.block]? with
 |none=>simp [e] at h
 |some o=>exact(Array.getElem?_eq_some_iff.1 e).1
section
variable {H:Type}{enc:TypeId×Value→H}{P:Program}{w:World}{base:Nat}{spare:Nat→Bool}{held:Bool}
theorem dD {fs:Array Field}{cs:List Value}{xs:List (DataW H×List MemPlace)}{n:Nat} (hf:∀(i:Nat) (f:Field),fs[i]? =some f→DataW.trod enc P w base spare held n f.type ((cs.drop f.offset).take (P.cellsOf f.type))=xs[i]?)
  (hlen:xs.length=fs.size) {i:Nat} {f:Field} (hi:fs[i]? =some f):∃y,xs[i]? =some y∧DataW.trod enc P w base spare held n f.type ((cs.drop f.offset).take (P.cellsOf f.type))=some y:=by
 have hlt:i < xs.length:=by rw [hlen];exact(Array.getElem?_eq_some_iff.1 hi).1
 exact⟨xs[i],by simp,by rw [hf i f hi];simp⟩
theorem Gj {t ti:TypeId}{n0 g0 q0 n1 g1 q1 n2 g2 q2 n3 g3 q3 n4 g4 q4 n5 g5 q5:String}{e0 e1 e2 e3 e4 e5:Bool}{o0 o1 o2 o3 o4 o5:Nat}
  (hs:P.underlying t=some (.struct #[⟨n0,ti,0,e0,g0,q0,o0⟩,⟨n1,ti,1,e1,g1,q1,o1⟩,⟨n2,ti,2,e2,g2,q2,o2⟩,⟨n3,ti,3,e3,g3,q3,o3⟩,⟨n4,ti,4,e4,g4,q4,o4⟩,⟨n5,ti,5,e5,g5,q5,o5⟩])) (hi:P.underlying ti=some (.int .i64)) (h6:P.cellsOf t=6) (h1:P.cellsOf ti=1)
  {n:Nat} {cs:List Value} {x:DataW H×List MemPlace} (h:DataW.trod enc P w base spare held n t cs=some x):
  ∃a b c d e g:Int,cs= [.int .i64 a,.int .i64 b,.int .i64 c,.int .i64 d,.int .i64 e,.int .i64 g]:=by
 obtain⟨xs,n,_,_,hl,hlen,hx⟩:=DataW.trod_struct hs h
 rw [h6] at hl
 match cs,hl with
 | [c0,c1,c2,c3,c4,c5],_=>
  obtain⟨y0,_,z0⟩:=dD hx hlen (i:=0) (f:=⟨n0,ti,0,e0,g0,q0,o0⟩) rfl
  obtain⟨y1,_,z1⟩:=dD hx hlen (i:=1) (f:=⟨n1,ti,1,e1,g1,q1,o1⟩) rfl
  obtain⟨y2,_,z2⟩:=dD hx hlen (i:=2) (f:=⟨n2,ti,2,e2,g2,q2,o2⟩) rfl
  obtain⟨y3,_,z3⟩:=dD hx hlen (i:=3) (f:=⟨n3,ti,3,e3,g3,q3,o3⟩) rfl
  obtain⟨y4,_,z4⟩:=dD hx hlen (i:=4) (f:=⟨n4,ti,4,e4,g4,q4,o4⟩) rfl
  obtain⟨y5,_,z5⟩:=dD hx hlen (i:=5) (f:=⟨n5,ti,5,e5,g5,q5,o5⟩) rfl
  obtain⟨a,xz0,_⟩:=DataW.trod_int hi z0
  obtain⟨b,xz1,_⟩:=DataW.trod_int hi z1
  obtain⟨c,xz2,_⟩:=DataW.trod_int hi z2
  obtain⟨d,xz3,_⟩:=DataW.trod_int hi z3
  obtain⟨e,xz4,_⟩:=DataW.trod_int hi z4
  obtain⟨g,xz5,_⟩:=DataW.trod_int hi z5
  simp [h1] at xz0 xz1 xz2 xz3 xz4 xz5
  subst xz0 xz1 xz2 xz3 xz4 xz5
  exact⟨a,b,c,d,e,g,rfl⟩
theorem Il {ta tp ti tb ts:TypeId}{n0 g0 q0 n1 g1 q1 n2 g2 q2 n3 g3 q3 n4 g4 q4 n5 g5 q5 n6 g6 q6 n7 g7 q7 n8 g8 q8 n9 g9 q9:String}{e0 e1 e2 e3 e4 e5 e6 e7 e8 e9:Bool}{o0 o1 o2 o3 o4 o5 o6 o7 o8 o9:Nat}
  (hs:P.underlying ta=some (.struct #[⟨n0,ti,0,e0,g0,q0,o0⟩,⟨n1,tb,1,e1,g1,q1,o1⟩,⟨n2,ts,2,e2,g2,q2,o2⟩,⟨n3,ts,3,e3,g3,q3,o3⟩,⟨n4,tp,4,e4,g4,q4,o4⟩,⟨n5,ti,7,e5,g5,q5,o5⟩,⟨n6,tb,8,e6,g6,q6,o6⟩]))
  (hp:P.underlying tp=some (.struct #[⟨n7,ts,0,e7,g7,q7,o7⟩,⟨n8,ts,1,e8,g8,q8,o8⟩,⟨n9,tb,2,e9,g9,q9,o9⟩])) (hi:P.underlying ti=some (.int .i64)) (hb:P.underlying tb=some .bool) (hS:P.underlying ts=some .string)
  (h9:P.cellsOf ta=9) (h1:P.cellsOf ti=1) (h2:P.cellsOf tb=1) (h3:P.cellsOf ts=1) (h4:P.cellsOf tp=3)
  {n:Nat} {cs:List Value} {x:DataW H×List MemPlace} (h:DataW.trod enc P w base spare held n ta cs=some x):
  ∃(kind:Int) (reads:Bool) (key value low high:ByteArray) (unb:Bool) (limit:Int) (rev:Bool),cs=act kind reads key value low high unb limit rev:=by
 obtain⟨xs,m1,_,_,hl,hlen,hx⟩:=DataW.trod_struct hs h
 rw [h9] at hl
 match cs,hl with
 | [c0,c1,c2,c3,c4,c5,c6,c7,c8],_=>
  obtain⟨y0,_,z0⟩:=dD hx hlen (i:=0) (f:=⟨n0,ti,0,e0,g0,q0,o0⟩) rfl
  obtain⟨y1,_,z1⟩:=dD hx hlen (i:=1) (f:=⟨n1,tb,1,e1,g1,q1,o1⟩) rfl
  obtain⟨y2,_,z2⟩:=dD hx hlen (i:=2) (f:=⟨n2,ts,2,e2,g2,q2,o2⟩) rfl
  obtain⟨y3,_,z3⟩:=dD hx hlen (i:=3) (f:=⟨n3,ts,3,e3,g3,q3,o3⟩) rfl
  obtain⟨y4,_,z4⟩:=dD hx hlen (i:=4) (f:=⟨n4,tp,4,e4,g4,q4,o4⟩) rfl
  obtain⟨y5,_,z5⟩:=dD hx hlen (i:=5) (f:=⟨n5,ti,7,e5,g5,q5,o5⟩) rfl
  obtain⟨y6,_,z6⟩:=dD hx hlen (i:=6) (f:=⟨n6,tb,8,e6,g6,q6,o6⟩) rfl
  obtain⟨kind,xz0,_⟩:=DataW.trod_int hi z0
  obtain⟨reads,xz1,_⟩:=DataW.trod_bool hb z1
  obtain⟨key,xz2,_⟩:=DataW.trod_string hS z2
  obtain⟨value,xz3,_⟩:=DataW.trod_string hS z3
  obtain⟨limit,xz5,_⟩:=DataW.trod_int hi z5
  obtain⟨rev,xz6,_⟩:=DataW.trod_bool hb z6
  obtain⟨zs,m2,_,_,_,zlen,hz⟩:=DataW.trod_struct hp z4
  obtain⟨u0,_,f0⟩:=dD hz zlen (i:=0) (f:=⟨n7,ts,0,e7,g7,q7,o7⟩) rfl
  obtain⟨u1,_,f1⟩:=dD hz zlen (i:=1) (f:=⟨n8,ts,1,e8,g8,q8,o8⟩) rfl
  obtain⟨u2,_,f2⟩:=dD hz zlen (i:=2) (f:=⟨n9,tb,2,e9,g9,q9,o9⟩) rfl
  obtain⟨low,xf0,_⟩:=DataW.trod_string hS f0
  obtain⟨high,xf1,_⟩:=DataW.trod_string hS f1
  obtain⟨unb,xf2,_⟩:=DataW.trod_bool hb f2
  simp [h1,h2,h3,h4] at xz0 xz1 xz2 xz3 xz5 xz6 xf0 xf1 xf2
  subst xz0 xz1 xz2 xz3 xz5 xz6 xf0 xf1 xf2
  exact⟨kind,reads,key,value,low,high,unb,limit,rev,rfl⟩
theorem nJ {a:Addr}{len:Nat}{k:Nat} (hk:0 < k) (h:0 < len→∃cs',w.cells? base (a.add (0*k)) k=some cs'):a.spot=none∨len=0:=by
 rcases Nat.eq_zero_or_pos len with e|e
 · exact .inr e
 · left
   obtain⟨cs',h1⟩:=h e
   obtain⟨_,h2,h3⟩:=World.cells?_some h1
   have h4:=h3 0 hk
   rw [List.getElem?_eq_getElem (by omega)] at h4
   have:((a.add (0*k)).add 0)=a:=by simp [Addr.add]
   rw [this] at h4
   exact zD h4
theorem zk {a:Addr} (h:a.spot=none) (i j:Nat):(a.add i).add j=⟨a.block,a.off+i+j,none⟩:=by
 obtain⟨b,off,sp⟩:=a
 simp only at h
 subst h
 unfold Addr.add
 split <;> split <;> simp_all
theorem GY {tl ta tp ti tb ts:TypeId}{n0 g0 q0 n1 g1 q1 n2 g2 q2 n3 g3 q3 n4 g4 q4 n5 g5 q5 n6 g6 q6 n7 g7 q7 n8 g8 q8 n9 g9 q9:String}{e0 e1 e2 e3 e4 e5 e6 e7 e8 e9:Bool}{o0 o1 o2 o3 o4 o5 o6 o7 o8 o9:Nat}
  (hl:P.underlying tl=some (.slice ta)) (hs:P.underlying ta=some (.struct #[⟨n0,ti,0,e0,g0,q0,o0⟩,⟨n1,tb,1,e1,g1,q1,o1⟩,⟨n2,ts,2,e2,g2,q2,o2⟩,⟨n3,ts,3,e3,g3,q3,o3⟩,⟨n4,tp,4,e4,g4,q4,o4⟩,⟨n5,ti,7,e5,g5,q5,o5⟩,⟨n6,tb,8,e6,g6,q6,o6⟩]))
  (hp:P.underlying tp=some (.struct #[⟨n7,ts,0,e7,g7,q7,o7⟩,⟨n8,ts,1,e8,g8,q8,o8⟩,⟨n9,tb,2,e9,g9,q9,o9⟩])) (hi:P.underlying ti=some (.int .i64)) (hb:P.underlying tb=some .bool) (hS:P.underlying ts=some .string)
  (h9:P.cellsOf ta=9) (h1:P.cellsOf ti=1) (h2:P.cellsOf tb=1) (h3:P.cellsOf ts=1) (h4:P.cellsOf tp=3)
  (hby:P.bytesOf ta=104) {n:Nat} {cs:List Value} {x:DataW H×List MemPlace} (h:DataW.trod enc P w base spare held n tl cs=some x) (hB:∀k∈x.1.weights P tl,k≤reachBytes):
  ∃v N,cs= [v]∧sJ v∧N≤1400000000000∧ki w (lit v) N:=by
 rcases Deep.open_slice hl h with⟨e,_⟩|⟨a,len,cap,m,n,D,Pl,e,_,hlc,_,hm,hx,hel⟩
 · exact⟨_,0,e,trivial,Nat.zero_le _,.nil⟩
 · have him:∀i,i < len→i < m:=fun i hi'=>by rw [hm];split <;> omega
   rw [h9] at hel
   have hsp:a.spot=none∨len=0:=nJ (k:=9) (by decide) fun hp0=>by
    obtain⟨cs',k1,_⟩:=hel 0 (him 0 hp0)
    exact⟨cs',k1⟩
   refine⟨_,len,e,⟨hsp,hlc⟩,?_,?_⟩
   · subst hx
     have:=hB ((((List.range len).map D).length+((List.range (m - len)).map fun j=>D (len+j)).length)*P.bytesOf ta) (by simp only [DataW.weights,hl];exact List.mem_cons_self)
     rw [hby] at this
     simp only [List.length_map,List.length_range,reachBytes] at this
     omega
   · refine ki.some (blk:=a.block) (off:=a.off) fun i hi'=> ?_
     have hsp':a.spot=none:=hsp.resolve_right (by omega)
     obtain⟨cs',k1,k2⟩:=hel i (him i hi')
     obtain⟨kind,reads,key,value,low,high,unb,limit,rev,rfl⟩:=Il hs hp hi hb hS h9 h1 h2 h3 h4 k2
     refine⟨kind,reads,key,value,low,high,unb,limit,rev,?_⟩
     obtain⟨_,_,hc⟩:=World.cells?_some k1
     have hall:∀(j:Nat) (v:Value),(act kind reads key value low high unb limit rev)[j]? =some v→sJ v∧w.cell? ⟨a.block,a.off+i*9+j,none⟩=some v:=fun j v hj=>by
      have hlt:j < 9:=(List.getElem?_eq_some_iff.1 hj).1
      have:=hc j hlt
      rw [zk hsp',hj] at this
      refine⟨?_,this⟩
      match j,hlt,hj with
      |0,_,hj|1,_,hj|2,_,hj|3,_,hj|4,_,hj|5,_,hj|6,_,hj|7,_,hj|8,_,hj=>cases hj;trivial
     exact kr (mu (hall 0 _ rfl).2) hall
end
def Ew (W:World) (ba oa j:Nat) (x:Value×Nat):Prop:=x.2≤1400000000000∧aZ W.heap.size W ba (oa+j*1) [x.1]∧ki W x.1 x.2
theorem D6 {H:Type}{enc:TypeId×Value→H}{w:World}{base:Nat}{spare:Nat→Bool}{held:Bool}{n:Nat}{cs:List Value}{x:DataW H×List MemPlace}
  (h:DataW.trod enc Tryz.prog w base spare held n 24 cs=some x) (hB:∀k∈x.1.weights Tryz.prog 24,k≤reachBytes):
  cs= [.slice none 0 0]∨∃a M cap,cs= [.slice (some a) M cap]∧(a.spot=none∨M=0)∧M≤cap∧(M:Int) < 9223372036854775808∧∀j,j < M→∃x,Ew w a.block a.off j x:=by
 rcases Deep.open_slice Tryz.underlying24 h with⟨e,_⟩|⟨a,len,cap,m,n,D,Pl,e,_,hlc,hcap,hm,hx,hel⟩
 · exact .inl e
 · have him:∀i,i < len→i < m:=fun i hi'=>by rw [hm];split <;> omega
   have h1:Tryz.prog.cellsOf 30=1:=by kernel_rfl
   rw [h1] at hel
   have hsp:a.spot=none∨len=0:=nJ (k:=1) (by decide) fun hp0=>by
    obtain⟨cs',k1,_⟩:=hel 0 (him 0 hp0)
    exact⟨cs',k1⟩
   subst hx
   refine .inr ⟨a,len,cap,e,hsp,hlc,?_,fun j hj=> ?_⟩
   · have hc:cap≤9223372036854775807:=hcap
     omega
   · have hsp':a.spot=none:=hsp.resolve_right (by omega)
     obtain⟨cs',k1,k2⟩:=hel j (him j hj)
     have hD:∀k∈(D j).weights Tryz.prog 30,k≤reachBytes:=fun k hk=>hB k (by
      simp only [DataW.weights,Tryz.underlying24]
      exact List.mem_cons_of_mem _ (List.mem_append_left _ (sR (List.mem_map.2 ⟨j,List.mem_range.2 hj,rfl⟩) hk)))
     obtain⟨v,N,rfl,hv,hN,hA⟩:=GY Tryz.underlying30 Tryz.underlying34 Tryz.underlying32 Tryz.underlying3 Tryz.underlying4 Tryz.underlying9 (by kernel_rfl) (by kernel_rfl) (by kernel_rfl) (by kernel_rfl) (by kernel_rfl) (by kernel_rfl) k2 hD
     refine⟨(lit v,N),hN,?_,hA⟩
     obtain⟨_,_,hc⟩:=World.cells?_some k1
     have h0:=hc 0 (by decide)
     rw [zk hsp'] at h0
     exact kr (vs:= [v]) (mu (a:=⟨a.block,a.off+j*1+0,none⟩) h0) fun i u hi=>by
      match i,hi with
      |0,hi=>cases hi;exact⟨hv,h0⟩
      |i+1,hi=>simp at hi
theorem Eh {H:Type}{enc:TypeId×Value→H}{w:World}{base:Nat}{spare:Nat→Bool}{held:Bool}{n:Nat}{cs:List Value}{x:DataW H×List MemPlace}
  (h:DataW.trod enc Tryz.prog w base spare held n 25 cs=some x):
  cs= [.slice none 0 0]∨∃a M cap,cs= [.slice (some a) M cap]∧(a.spot=none∨M=0)∧M≤cap∧∀i,i < M→∃v:Nat,v < 256∧aZ w.heap.size w a.block (a.off+i*1) [.int .u8 (v:Nat)]:=by
 rcases Deep.open_slice Tryz.underlying25 h with⟨e,_⟩|⟨a,len,cap,m,n,D,Pl,e,_,hlc,hcap,hm,hx,hel⟩
 · exact .inl e
 · have him:∀i,i < len→i < m:=fun i hi'=>by rw [hm];split <;> omega
   have h1:Tryz.prog.cellsOf 5=1:=by kernel_rfl
   rw [h1] at hel
   have hsp:a.spot=none∨len=0:=nJ (k:=1) (by decide) fun hp0=>by
    obtain⟨cs',k1,_⟩:=hel 0 (him 0 hp0)
    exact⟨cs',k1⟩
   refine .inr ⟨a,len,cap,e,hsp,hlc,fun j hj=> ?_⟩
   have hsp':a.spot=none:=hsp.resolve_right (by omega)
   obtain⟨cs',k1,k2⟩:=hel j (him j hj)
   obtain⟨v,rfl,_,hwf⟩:=DataW.trod_int Tryz.underlying5 k2
   obtain⟨_,_,hc⟩:=World.cells?_some k1
   have h0:=hc 0 (by decide)
   rw [zk hsp'] at h0
   have hv:0≤v∧v < 256:=by
    have h1:(decide (IntKind.u8.min≤v) && decide (v≤IntKind.u8.max))=true:=hwf
    rw [Bool.and_eq_true,decide_eq_true_eq,decide_eq_true_eq,show IntKind.u8.min=0 from rfl,show IntKind.u8.max=255 from rfl] at h1
    omega
   obtain⟨v,rfl⟩:=Int.eq_ofNat_of_zero_le hv.1
   refine⟨v,by omega,?_⟩
   exact kr (vs:= [.int .u8 (v:Nat)]) (mu (a:=⟨a.block,a.off+j*1+0,none⟩) h0) fun i u hi=>by
    match i,hi with
    |0,hi=>cases hi;exact⟨trivial,h0⟩
    |i+1,hi=>simp at hi
set_option maxRecDepth 100000 in
theorem F7 {H:Type}{enc:TypeId×Value→H}{w:World}{base:Nat}{spare:Nat→Bool}{held:Bool}{r:Reach}{b0:Nat}{v:Value}{d:DataW H}{p:List MemPlace} (hv:Value.okWide Tryz.prog w r b0 27 v) (h:DataW.Trod enc Tryz.prog w base spare held 27 v d p) (hB:∀k∈d.weights Tryz.prog 27,k≤reachBytes):
  ∃(a b c d e g:Int) (x y:Value),v= .agg #[.int .i64 a,.int .i64 b,.int .i64 c,.int .i64 d,.int .i64 e,.int .i64 g,x,y]∧
   (x= .slice none 0 0∨∃a M cap,x= .slice (some a) M cap∧(a.spot=none∨M=0)∧M≤cap∧(M:Int) < 9223372036854775808∧∀j,j < M→∃x,Ew w a.block a.off j x)∧
   (y= .slice none 0 0∨∃a M cap,y= .slice (some a) M cap∧(a.spot=none∨M=0)∧M≤cap∧∀i,i < M→∃v:Nat,v < 256∧aZ w.heap.size w a.block (a.off+i*1) [.int .u8 (v:Nat)]):=by
 obtain⟨cs,rfl,hsz⟩:=okWide_struct Tryz.underlying27 hv
 obtain⟨fuel,hf⟩:=h
 obtain⟨xs,n,_,hd,_,hlen,hx⟩:=DataW.trod_struct Tryz.underlying27 hf
 rw [show Tryz.prog.cellsOf 27=8 by kernel_rfl] at hsz
 have c23:Tryz.prog.cellsOf 23=6:=by kernel_rfl
 have c24:Tryz.prog.cellsOf 24=1:=by kernel_rfl
 have c25:Tryz.prog.cellsOf 25=1:=by kernel_rfl
 obtain⟨l⟩:=cs
 match l,hsz with
 | [c0,c1,c2,c3,c4,c5,c6,c7],_=>
  obtain⟨y0,_,z0⟩:=dD hx hlen (i:=0) (f:=⟨ "Limits",23,0,false, "", "",0⟩) rfl
  obtain⟨y1,m1,z1⟩:=dD hx hlen (i:=1) (f:=⟨ "Acts",24,6,false, "", "",48⟩) rfl
  obtain⟨y2,_,z2⟩:=dD hx hlen (i:=2) (f:=⟨ "Turns",25,7,false, "", "",72⟩) rfl
  simp only [c23,c24,c25] at z0 z1 z2
  obtain⟨a,b,c,d',e,g,q⟩:=Gj Tryz.underlying23 Tryz.underlying3 c23 (by kernel_rfl) z0
  simp [Value.cells] at q
  obtain⟨rfl,rfl,rfl,rfl,rfl,rfl⟩:=q
  have hb1:∀k∈y1.1.weights Tryz.prog 24,k≤reachBytes:=fun k hk=>hB k (by
   simp only [Prod.mk.injEq] at hd
   obtain⟨rfl,_⟩:=hd
   simp only [DataW.weights,Tryz.underlying27]
   exact DataW.weights_mem_each (j:=1) rfl (by rw [List.getElem?_map,m1];rfl) k hk)
  have k1:=D6 z1 hb1
  simp [Value.cells] at k1
  refine⟨a,b,c,d',e,g,c6,c7,rfl,?_,?_⟩
  · rcases k1 with k1|⟨a',M,cap,k1,k2,k3,k4,k5⟩
    · exact .inl k1
    · exact .inr ⟨a',M,cap,k1,k2,k3,k4,fun j hj=>by simpa using k5 j hj⟩
  · have k2:=Eh z2
    simp [Value.cells] at k2
    rcases k2 with k2|⟨a',M,cap,k2,k3,k4,k5⟩
    · exact .inl k2
    · exact .inr ⟨a',M,cap,k2,k3,k4,fun i hi=>by simpa using k5 i hi⟩
end
end Go.Proofs.YtalanookmohdeaaGreatDoor
