/- TxnNothing: the walk. No condition. -/
import Derived.Test.YtalanookmohdeaaGreatDoorM20
import Derived.Test.YtalanookmohdeaaGreatDoorM19
namespace Go.Proofs.YtalanookmohdeaaGreatDoor
open Go Go.Sx
structure Tu where
 tp:Option (Nat×Nat)
 tn:Nat
 tc:Nat
def fx (u:Tu):Value:=match u.tp with
 |none=> .slice none 0 0
 |some x=> .slice (some ⟨x.1,x.2,some 0⟩) u.tn u.tc
def ff (C:cF) (u:Tu):List Value:= [.chan none,.chan none,.chan none,.chan none,.chan none,.chan none,.slice (some ⟨C.QB,0,some 1⟩) C.nc C.qc,fx u]
def gP (C:cF) (p:Lm) (u:Tu) (pn x z b:Nat) (nx:List Nat) (at_:List Int) (tf:Tf) (ck:Int) (n:Nat) (Y Z:aG) (σ:eQ):Heap:=
 ([(0,.args C.B C.w0),(1,.froz C.S C.w1),(pn,.cells (ff C u) 27),(91,.sem Y),(31,sX C.nc (tf.val x) ck),(29,.cells (di nx) 3),(30,.cells (ints at_) 3),(90,.cells (cP C.cl) 58),(z,.sem Z),(b,.bag 188 n)]++tf.ch x)++dy p σ
def gZ (C:cF) (p:Lm) (u:Tu) (pn x z:Nat) (nx:List Nat) (at_:List Int) (tf:Tf) (ck:Int) (Y Z:aG) (σ:eQ):Heap:=
 ([(0,.args C.B C.w0),(1,.froz C.S C.w1),(pn,.cells (ff C u) 27),(91,.sem Y),(31,sX C.nc (tf.val x) ck),(29,.cells (di nx) 3),(30,.cells (ints at_) 3),(90,.cells (cP C.cl) 58),(z,.sem Z)]++tf.ch x)++dy p σ
noncomputable def uR:Code:=bD [1,1,0,1,0,0] (bA 6)
noncomputable def oZ:Code:=bD [1,0,1,0,0,1,1,0,0,1,1,0,0] (bA 22)
abbrev tA (C:cF) (k n3:Nat):List Value:=ay 59 0 [(0,pT 31),(3,pT 600),(5,iI (k:Nat)),(6,iI ((n3:Nat))),(11,iI (C.nc:Nat)),(12,iI (k:Nat))]
abbrev xl (b kk:Nat):Nat×eA:=(2,.cell (.tuple ⟨[Value.pointer (some { block:=b,off:=0,spot:=some kk})]⟩))
abbrev Kz:List Nat:= [0,1,91,31,29,30,90,605,9,10,11,12,13,14,15,20,21,25,26,27]
abbrev Fy (nj:Nat):Nat×eA:=(13,.cell (.tuple ⟨[Value.int IntKind.i64 (Int.ofNat nj)]⟩))
abbrev Kj (u:Tu) (i:Nat) (x10:Value):List Value:=ay 30 0 [(1,pT 4),(4,pT 31),(10,x10),(11,iI (u.tn:Nat)),(12,iI ((i:Nat)))]
noncomputable abbrev w7:aP:=aE Tryz.prog cz [40,21]
abbrev Qa (u:Tu) (TB to i:Nat):List Value:=ay 30 0 [(1,pT 4),(4,pT 31),(10,.slice (some ⟨TB,to,some 0⟩) u.tn u.tc),(11,iI (u.tn:Nat)),(12,iI ((i:Nat)))]
noncomputable abbrev GQ:aP:=aE Tryz.prog cz [21]
abbrev OT (Y:aG):Nat×eA:=(3,.loop [] [91] 606 [(91,.sem Y)] .normal [.bool false])
abbrev NQ (Y:aG):Nat×eA:=(3,.loop [] [91] 606 [(91,.sem Y)] .normal [.bool true])
abbrev yy (la lc:Nat) (AA:Option Addr):Nat×eA:=(21,.cell (.tuple ⟨[Value.slice AA la lc]⟩))
section
set_option maxRecDepth 100000
set_option linter.unusedSectionVars false
variable {C:cF}{p:Lm}{u:Tu}{TB to n n2 i nt2 nt b kk k n3 la lc nj:Nat}{nx nx2:List Nat}{at_ at2:List Int}{ck ck2 tv:Int}{Y Y2 Z:aG}{σ σ2:eQ}{x10:Value}{l2 l:List Value}{AA:Option Addr}
variable (k0:(decide ((i:Int) < (u.tn:Int)))=true)(k1:(decide (0≤(i:Int)∧(i:Int) < (u.tn:Int)))=true)(k2:(!(C.nc:Int)==0)=true)(k3:aZ C.B C.w0 TB (to+i*1) ([Value.int IntKind.u8 tv])∧([Value.int IntKind.u8 tv]:List Value).length=1)(k4:ab Tryz.prog 103 (gO C p 101 102 nx at_ .nil ck n Y σ) 533 (gO C p 114 523 nx2 at2 .nil ck2 n2 Y2 σ2) (.call 21 [pT 31,.agg ⟨ff C u⟩,iI ((IntKind.i64.wrap tv).tmod C.nc)]) (.val (.tuple ⟨[]⟩)))(k5:(decide ((i:Int) < (u.tn:Int)))=false)(k6:ab Tryz.prog 103 (gO C p 101 102 nx at_ .nil ck n Y σ) 533 (gO C p 114 523 nx2 at2 (.row nt2 l2) ck2 n2 Y2 σ2) (.call 21 [pT 31,.agg ⟨ff C u⟩,iI ((IntKind.i64.wrap tv).tmod C.nc)]) (.val (.tuple ⟨[]⟩)))(k7:ab Tryz.prog 103 (gO C p 101 102 nx at_ (.row nt l) ck n Y σ) 533 (gO C p 114 523 nx2 at2 (.row nt2 l2) ck2 n2 Y2 σ2) (.call 21 [pT 31,.agg ⟨ff C u⟩,iI ((IntKind.i64.wrap tv).tmod C.nc)]) (.val (.tuple ⟨[]⟩)))(k8:(decide (0≤(k:Int)∧(k:Int) < (C.nc:Int)))=true)(k9:(decide (Int.ofNat nj < (la:Int)))=true)(k10:(decide ((n3:Int) > 60000))=false)(k11:(decide (Int.ofNat nj < (la:Int)))=false)(k12:List.take 1 (List.drop (0+k*1) (cP C.cl))= [Value.pointer (some { block:=b,off:=0,spot:=some kk})]∧ [Value.pointer (some { block:=b,off:=0,spot:=some kk})].length=1)(k13:List.take 1 (List.drop (0+k*1) (di nx))= [Value.int IntKind.i64 (Int.ofNat nj)]∧ [Value.int IntKind.i64 (Int.ofNat nj)].length=1)(k14:dz C.S C.w1 C.QB (0+k*1) ([Value.slice AA la lc])∧([Value.slice AA la lc]:List Value).length=1)(k15:ab Tryz.prog 606 [(91,.sem Y)] 606 [(91,.sem Y)] (.call 40 [pK b kk]) (.val (.bool false)))(k16:ab Tryz.prog 606 [(91,.sem Y)] 606 [(91,.sem Y)] (.call 40 [pK b kk]) (.val (.bool true)))(k17:ab Tryz.prog 606 (gO C p 604 605 nx at_ .nil ck n Y σ) 1036 (gO C p 617 1026 nx2 at2 .nil ck2 n2 Y2 σ2) (.call 21 [pT 31,.agg ⟨ff C u⟩,iI ((k:Nat))]) (.val (.tuple ⟨[]⟩)))(k18:ab Tryz.prog 605 [(91,.sem Y)] 605 [(91,.sem Y)] (.call 40 [pK b kk]) (.val (.bool false)))(k19:ab Tryz.prog 606 (gO C p 604 605 nx at_ .nil ck n Y σ) 1036 (gO C p 617 1026 nx2 at2 (.row nt2 l2) ck2 n2 Y2 σ2) (.call 21 [pT 31,.agg ⟨ff C u⟩,iI ((k:Nat))]) (.val (.tuple ⟨[]⟩)))(k20:ab Tryz.prog 606 (gO C p 604 605 nx at_ (.row nt l) ck n Y σ) 1036 (gO C p 617 1026 nx2 at2 (.row nt2 l2) ck2 n2 Y2 σ2) (.call 21 [pT 31,.agg ⟨ff C u⟩,iI ((k:Nat))]) (.val (.tuple ⟨[]⟩)))
include k0 k1 k2 k3 k4 in
theorem Qq:ab Tryz.prog 103 (gP C p u 4 101 100 102 nx at_ .nil ck n Y Z σ) 533 (gP C p u 4 114 100 523 nx2 at2 .nil ck2 n2 Y2 Z σ2) (.code uR (Qa u TB to i)) (.out .normal (ay 30 0 [(1,pT 4),(4,pT 31),(10,.slice (some ⟨TB,to,some 0⟩) u.tn u.tc),(11,iI (u.tn:Nat)),(12,iI (IntKind.i64.wrap ((i:Int)+1)))])):=
 bW mixed (ar.aE [21]) (C:=GQ) (nn:=600) (d:=aT [0,1,5] [(2,.cell (.tuple ⟨[Value.int IntKind.u8 tv]⟩)),(6,.loop [] [0,1,91,31,29,30,90,102,9,10,11,12,13,14,15,20,21,25,26,27] 533 (gO C p 114 523 nx2 at2 .nil ck2 n2 Y2 σ2) .normal [.tuple ⟨[]⟩])]) (e:= .normal) (by kernel_rfl) (vP k4 (vC k2 (vP k3 (vC k1 (vB k0 vN)))))
include k5 in
theorem Mu:ab Tryz.prog 102 (gZ C p u 4 101 100 nx at_ .nil ck Y Z σ) 102 (gZ C p u 4 101 100 nx at_ .nil ck Y Z σ) (.code uR (Kj u i x10)) (.out (.exit 0) (Kj u i x10)):=
 bW mixed (ar.aE [21]) (C:=GQ) (nn:=600) (d:=aF [0] []) (e:=(.exit 0)) (by kernel_rfl) (vB k5 vN)
include k0 k1 k2 k3 k6 in
theorem Ot:ab Tryz.prog 103 (gP C p u 4 101 100 102 nx at_ .nil ck n Y Z σ) 533 (gP C p u 4 114 100 523 nx2 at2 (.row nt2 l2) ck2 n2 Y2 Z σ2) (.code uR (Qa u TB to i)) (.out .normal (ay 30 0 [(1,pT 4),(4,pT 31),(10,.slice (some ⟨TB,to,some 0⟩) u.tn u.tc),(11,iI (u.tn:Nat)),(12,iI (IntKind.i64.wrap ((i:Int)+1)))])):=
 bW mixed (ar.aE [21]) (C:=GQ) (nn:=600) (d:=aT [0,1,5] [(2,.cell (.tuple ⟨[Value.int IntKind.u8 tv]⟩)),(6,.loop [] [0,1,91,31,29,30,90,102,9,10,11,12,13,14,15,20,21,25,26,27] 533 (gO C p 114 523 nx2 at2 (.row nt2 l2) ck2 n2 Y2 σ2) .normal [.tuple ⟨[]⟩])]) (e:= .normal) (by kernel_rfl) (vP k6 (vC k2 (vP k3 (vC k1 (vB k0 vN)))))
include k0 k1 k2 k3 k7 in
theorem OE:ab Tryz.prog 103 (gP C p u 4 101 100 102 nx at_ (.row nt l) ck n Y Z σ) 533 (gP C p u 4 114 100 523 nx2 at2 (.row nt2 l2) ck2 n2 Y2 Z σ2) (.code uR (Qa u TB to i)) (.out .normal (ay 30 0 [(1,pT 4),(4,pT 31),(10,.slice (some ⟨TB,to,some 0⟩) u.tn u.tc),(11,iI (u.tn:Nat)),(12,iI (IntKind.i64.wrap ((i:Int)+1)))])):=
 bW mixed (ar.aE [21]) (C:=GQ) (nn:=600) (d:=aT [0,1,5] [(2,.cell (.tuple ⟨[Value.int IntKind.u8 tv]⟩)),(6,.loop [] [0,1,91,31,29,30,90,102,101,9,10,11,12,13,14,15,20,21,25,26,27] 533 (gO C p 114 523 nx2 at2 (.row nt2 l2) ck2 n2 Y2 σ2) .normal [.tuple ⟨[]⟩])]) (e:= .normal) (by kernel_rfl) (vP k7 (vC k2 (vP k3 (vC k1 (vB k0 vN)))))
include k5 in
theorem Mg:ab Tryz.prog 102 (gZ C p u 4 101 100 nx at_ (.row nt l) ck Y Z σ) 102 (gZ C p u 4 101 100 nx at_ (.row nt l) ck Y Z σ) (.code uR (Kj u i x10)) (.out (.exit 0) (Kj u i x10)):=
 bW mixed (ar.aE [21]) (C:=GQ) (nn:=600) (d:=aF [0] []) (e:=(.exit 0)) (by kernel_rfl) (vB k5 vN)
include k8 k10 k12 k16 k17 in
theorem L9:ab Tryz.prog 606 (gP C p u 600 604 603 605 nx at_ .nil ck n Y Z σ) 1036 (gP C p u 600 617 603 1026 nx2 at2 .nil ck2 n2 Y2 Z σ2) (.code oZ (tA C k n3)) (.out .normal (ay 59 0 [(0,pT 31),(3,pT 600),(5,iI (k:Nat)),(6,iI (IntKind.i64.wrap ((n3:Int)+1))),(11,iI (C.nc:Nat)),(12,iI (k:Nat))])):=
 bW mixed (ar.aE [40,21]) (C:=w7) (nn:=600) (d:=aT [1,4,5,6,7,8,9,10,11,12,13,14,15,16,17,18] (aF [20,21,22,23,25] [(xl b kk),(NQ Y),(28,.loop [] Kz 1036 (gO C p 617 1026 nx2 at2 .nil ck2 n2 Y2 σ2) .normal [.tuple ⟨[]⟩])])) (e:= .normal) (by kernel_rfl) (vP k17 (a7 k10 (vB (show(true)=true from rfl) (vB (show(true)=true from rfl) (vB (show(true)=true from rfl) (vB (show(true)=true from rfl) (vB (show(true)=true from rfl) (vB (show(true)=true from rfl) (vB (show(true)=true from rfl) (vB (show(true)=true from rfl) (vB (show(true)=true from rfl) (vB (show(true)=true from rfl) (vB (show(true)=true from rfl) (vB (show(true)=true from rfl) (vB (show(true)=true from rfl) (vB (show(true)=true from rfl) (vB (show(true)=true from rfl) (vP k16 (vP k12 (vC k8 vN))))))))))))))))))))
include k8 k9 k10 k12 k13 k14 k15 k17 in
theorem Mi:ab Tryz.prog 606 (gP C p u 600 604 603 605 nx at_ .nil ck n Y Z σ) 1036 (gP C p u 600 617 603 1026 nx2 at2 .nil ck2 n2 Y2 Z σ2) (.code oZ (tA C k n3)) (.out .normal (ay 59 0 [(0,pT 31),(3,pT 600),(5,iI (k:Nat)),(6,iI (IntKind.i64.wrap ((n3:Int)+1))),(11,iI (C.nc:Nat)),(12,iI (k:Nat))])):=
 bW mixed (ar.aE [40,21]) (C:=w7) (nn:=600) (d:=aT [1,11,19,25] (aF [4,5,6,7,9,10,12,14,15,17,18,20,22,23,24,26,27,28,29,31] [(xl b kk),(OT Y),(Fy nj),(yy la lc AA),(34,.loop [] Kz 1036 (gO C p 617 1026 nx2 at2 .nil ck2 n2 Y2 σ2) .normal [.tuple ⟨[]⟩])])) (e:= .normal) (by kernel_rfl) (vP k17 (a7 k10 (vB k9 (vB (show(false)=false from rfl) (vB (show(false)=false from rfl) (vB (show(false)=false from rfl) (vP k14 (vB (show(false)=false from rfl) (vC k8 (vB (show(false)=false from rfl) (vB (show(false)=false from rfl) (vB (show(false)=false from rfl) (vB (show(false)=false from rfl) (vP k13 (vB (show(false)=false from rfl) (vC k8 (vB (show(false)=false from rfl) (vB (show(false)=false from rfl) (vB (show(false)=false from rfl) (vB (show(false)=false from rfl) (vB (show(false)=false from rfl) (vB (show(false)=false from rfl) (vP k15 (vP k12 (vC k8 vN)))))))))))))))))))))))))
include k8 k11 k12 k13 k14 k18 in
theorem LK:ab Tryz.prog 605 (gZ C p u 600 604 603 nx at_ .nil ck Y Z σ) 605 (gZ C p u 600 604 603 nx at_ .nil ck Y Z σ) (.code oZ (tA C k n3)) (.out (.exit 2) (tA C k n3)):=
 bW mixed (ar.aE [40,21]) (C:=w7) (nn:=600) (d:=aT [1,11,19] (aF [4,5,6,7,9,10,12,14,15,17,18,20,22,23,24,25] [(xl b kk),(3,.loop [] [91] 605 [(91,.sem Y)] .normal [.bool false]),(Fy nj),(yy la lc AA)])) (e:=(.exit 2)) (by kernel_rfl) (vB k11 (vB (show(false)=false from rfl) (vB (show(false)=false from rfl) (vB (show(false)=false from rfl) (vP k14 (vB (show(false)=false from rfl) (vC k8 (vB (show(false)=false from rfl) (vB (show(false)=false from rfl) (vB (show(false)=false from rfl) (vB (show(false)=false from rfl) (vP k13 (vB (show(false)=false from rfl) (vC k8 (vB (show(false)=false from rfl) (vB (show(false)=false from rfl) (vB (show(false)=false from rfl) (vB (show(false)=false from rfl) (vB (show(false)=false from rfl) (vB (show(false)=false from rfl) (vP k18 (vP k12 (vC k8 vN)))))))))))))))))))))))
include k8 k10 k12 k16 k19 in
theorem Lu:ab Tryz.prog 606 (gP C p u 600 604 603 605 nx at_ .nil ck n Y Z σ) 1036 (gP C p u 600 617 603 1026 nx2 at2 (.row nt2 l2) ck2 n2 Y2 Z σ2) (.code oZ (tA C k n3)) (.out .normal (ay 59 0 [(0,pT 31),(3,pT 600),(5,iI (k:Nat)),(6,iI (IntKind.i64.wrap ((n3:Int)+1))),(11,iI (C.nc:Nat)),(12,iI (k:Nat))])):=
 bW mixed (ar.aE [40,21]) (C:=w7) (nn:=600) (d:=aT [1,4,5,6,7,8,9,10,11,12,13,14,15,16,17,18] (aF [20,21,22,23,25] [(xl b kk),(NQ Y),(28,.loop [] Kz 1036 (gO C p 617 1026 nx2 at2 (.row nt2 l2) ck2 n2 Y2 σ2) .normal [.tuple ⟨[]⟩])])) (e:= .normal) (by kernel_rfl) (vP k19 (a7 k10 (vB (show(true)=true from rfl) (vB (show(true)=true from rfl) (vB (show(true)=true from rfl) (vB (show(true)=true from rfl) (vB (show(true)=true from rfl) (vB (show(true)=true from rfl) (vB (show(true)=true from rfl) (vB (show(true)=true from rfl) (vB (show(true)=true from rfl) (vB (show(true)=true from rfl) (vB (show(true)=true from rfl) (vB (show(true)=true from rfl) (vB (show(true)=true from rfl) (vB (show(true)=true from rfl) (vB (show(true)=true from rfl) (vP k16 (vP k12 (vC k8 vN))))))))))))))))))))
include k8 k9 k10 k12 k13 k14 k15 k19 in
theorem L6:ab Tryz.prog 606 (gP C p u 600 604 603 605 nx at_ .nil ck n Y Z σ) 1036 (gP C p u 600 617 603 1026 nx2 at2 (.row nt2 l2) ck2 n2 Y2 Z σ2) (.code oZ (tA C k n3)) (.out .normal (ay 59 0 [(0,pT 31),(3,pT 600),(5,iI (k:Nat)),(6,iI (IntKind.i64.wrap ((n3:Int)+1))),(11,iI (C.nc:Nat)),(12,iI (k:Nat))])):=
 bW mixed (ar.aE [40,21]) (C:=w7) (nn:=600) (d:=aT [1,11,19,25] (aF [4,5,6,7,9,10,12,14,15,17,18,20,22,23,24,26,27,28,29,31] [(xl b kk),(OT Y),(Fy nj),(yy la lc AA),(34,.loop [] Kz 1036 (gO C p 617 1026 nx2 at2 (.row nt2 l2) ck2 n2 Y2 σ2) .normal [.tuple ⟨[]⟩])])) (e:= .normal) (by kernel_rfl) (vP k19 (a7 k10 (vB k9 (vB (show(false)=false from rfl) (vB (show(false)=false from rfl) (vB (show(false)=false from rfl) (vP k14 (vB (show(false)=false from rfl) (vC k8 (vB (show(false)=false from rfl) (vB (show(false)=false from rfl) (vB (show(false)=false from rfl) (vB (show(false)=false from rfl) (vP k13 (vB (show(false)=false from rfl) (vC k8 (vB (show(false)=false from rfl) (vB (show(false)=false from rfl) (vB (show(false)=false from rfl) (vB (show(false)=false from rfl) (vB (show(false)=false from rfl) (vB (show(false)=false from rfl) (vP k15 (vP k12 (vC k8 vN)))))))))))))))))))))))))
include k8 k10 k12 k16 k20 in
theorem MY:ab Tryz.prog 606 (gP C p u 600 604 603 605 nx at_ (.row nt l) ck n Y Z σ) 1036 (gP C p u 600 617 603 1026 nx2 at2 (.row nt2 l2) ck2 n2 Y2 Z σ2) (.code oZ (tA C k n3)) (.out .normal (ay 59 0 [(0,pT 31),(3,pT 600),(5,iI (k:Nat)),(6,iI (IntKind.i64.wrap ((n3:Int)+1))),(11,iI (C.nc:Nat)),(12,iI (k:Nat))])):=
 bW mixed (ar.aE [40,21]) (C:=w7) (nn:=600) (d:=aT [1,4,5,6,7,8,9,10,11,12,13,14,15,16,17,18] (aF [20,21,22,23,25] [(xl b kk),(NQ Y),(28,.loop [] [0,1,91,31,29,30,90,605,604,9,10,11,12,13,14,15,20,21,25,26,27] 1036 (gO C p 617 1026 nx2 at2 (.row nt2 l2) ck2 n2 Y2 σ2) .normal [.tuple ⟨[]⟩])])) (e:= .normal) (by kernel_rfl) (vP k20 (a7 k10 (vB (show(true)=true from rfl) (vB (show(true)=true from rfl) (vB (show(true)=true from rfl) (vB (show(true)=true from rfl) (vB (show(true)=true from rfl) (vB (show(true)=true from rfl) (vB (show(true)=true from rfl) (vB (show(true)=true from rfl) (vB (show(true)=true from rfl) (vB (show(true)=true from rfl) (vB (show(true)=true from rfl) (vB (show(true)=true from rfl) (vB (show(true)=true from rfl) (vB (show(true)=true from rfl) (vB (show(true)=true from rfl) (vP k16 (vP k12 (vC k8 vN))))))))))))))))))))
include k8 k9 k10 k12 k13 k14 k15 k20 in
theorem MP:ab Tryz.prog 606 (gP C p u 600 604 603 605 nx at_ (.row nt l) ck n Y Z σ) 1036 (gP C p u 600 617 603 1026 nx2 at2 (.row nt2 l2) ck2 n2 Y2 Z σ2) (.code oZ (tA C k n3)) (.out .normal (ay 59 0 [(0,pT 31),(3,pT 600),(5,iI (k:Nat)),(6,iI (IntKind.i64.wrap ((n3:Int)+1))),(11,iI (C.nc:Nat)),(12,iI (k:Nat))])):=
 bW mixed (ar.aE [40,21]) (C:=w7) (nn:=600) (d:=aT [1,11,19,25] (aF [4,5,6,7,9,10,12,14,15,17,18,20,22,23,24,26,27,28,29,31] [(xl b kk),(OT Y),(Fy nj),(yy la lc AA),(34,.loop [] [0,1,91,31,29,30,90,605,604,9,10,11,12,13,14,15,20,21,25,26,27] 1036 (gO C p 617 1026 nx2 at2 (.row nt2 l2) ck2 n2 Y2 σ2) .normal [.tuple ⟨[]⟩])])) (e:= .normal) (by kernel_rfl) (vP k20 (a7 k10 (vB k9 (vB (show(false)=false from rfl) (vB (show(false)=false from rfl) (vB (show(false)=false from rfl) (vP k14 (vB (show(false)=false from rfl) (vC k8 (vB (show(false)=false from rfl) (vB (show(false)=false from rfl) (vB (show(false)=false from rfl) (vB (show(false)=false from rfl) (vP k13 (vB (show(false)=false from rfl) (vC k8 (vB (show(false)=false from rfl) (vB (show(false)=false from rfl) (vB (show(false)=false from rfl) (vB (show(false)=false from rfl) (vB (show(false)=false from rfl) (vB (show(false)=false from rfl) (vP k15 (vP k12 (vC k8 vN)))))))))))))))))))))))))
include k8 k11 k12 k13 k14 k18 in
theorem Ni:ab Tryz.prog 605 (gZ C p u 600 604 603 nx at_ (.row nt l) ck Y Z σ) 605 (gZ C p u 600 604 603 nx at_ (.row nt l) ck Y Z σ) (.code oZ (tA C k n3)) (.out (.exit 2) (tA C k n3)):=
 bW mixed (ar.aE [40,21]) (C:=w7) (nn:=600) (d:=aT [1,11,19] (aF [4,5,6,7,9,10,12,14,15,17,18,20,22,23,24,25] [(xl b kk),(3,.loop [] [91] 605 [(91,.sem Y)] .normal [.bool false]),(Fy nj),(yy la lc AA)])) (e:=(.exit 2)) (by kernel_rfl) (vB k11 (vB (show(false)=false from rfl) (vB (show(false)=false from rfl) (vB (show(false)=false from rfl) (vP k14 (vB (show(false)=false from rfl) (vC k8 (vB (show(false)=false from rfl) (vB (show(false)=false from rfl) (vB (show(false)=false from rfl) (vB (show(false)=false from rfl) (vP k13 (vB (show(false)=false from rfl) (vC k8 (vB (show(false)=false from rfl) (vB (show(false)=false from rfl) (vB (show(false)=false from rfl) (vB (show(false)=false from rfl) (vB (show(false)=false from rfl) (vB (show(false)=false from rfl) (vP k18 (vP k12 (vC k8 vN)))))))))))))))))))))))
end
section
open Go Go.Sx
theorem zM {n:Nat}{x:Chunk}{h:Heap} (hm:(n,x)∈h):n∈aY h:=by
 induction h with
 |nil=>cases hm
 |cons q h ih=>
  obtain⟨k,c⟩:=q
  show n∈k::aY h
  rcases List.mem_cons.1 hm with e|e
  · cases e;exact List.mem_cons_self
  · exact List.mem_cons_of_mem _ (ih e)
theorem get_of_mem:∀ {h:Heap}{n:Nat}{x:Chunk},cu (aY h)=true→(n,x)∈h→h.get n=some x
 | [],_,_,_,hm=>by cases hm
 |(k,c)::h,n,x,hk,hm=>by
  have hk':(!cY k (aY h) && cu (aY h))=true:=hk
  simp only [Bool.and_eq_true,Bool.not_eq_true'] at hk'
  rw [aQ]
  rcases List.mem_cons.1 hm with e|e
  · cases e;rw [if_pos rfl]
  · by_cases q:k=n
    · subst q
      have:=eZ.2 (zM e)
      rw [hk'.1] at this;cases this
    · rw [if_neg q];exact get_of_mem hk'.2 e
theorem jT (u:Tu) (nm:Nat→Option Nat):ao nm 9 (fx u)=fx u:=by
 unfold fx
 cases u.tp <;> rfl
theorem Gu {C:cF}{u:Tu} (nm:Nat→Option Nat):az (Chunk.bC nm (.cells (ff C u) 27)) (.cells (ff C u) 27):=
 .cells (.same rfl (.same rfl (.same rfl (.same rfl (.same rfl (.same rfl (.same rfl (.same (jT u nm).symm .nil))))))))
theorem pP {nm:Nat→Option Nat}{H H':Heap} (hk:cu (aY H)=true) (h:∀q∈H',∃r∈H,nm r.1=some q.1∧az (r.2.bC nm) q.2):∀n x',H'.get n=some x'→∃s x,nm s=some n∧H.get s=some x∧az (x.bC nm) x':=fun n x' hx=>by
 obtain⟨⟨s,x⟩,h1,h2,h3⟩:=h (n,x') (get_mem hx)
 exact⟨s,x,h2,get_of_mem hk h1,h3⟩
def P3 (nm:Nat→Option Nat):Prop:=∀n,n < 100→nm n=some n
theorem BB {nm:Nat→Option Nat} (h:∀n,n < 28→nm n=some n) (s:Nat):az (Chunk.bC nm (.cells (fD s) 145)) (.cells (fD s) 145):=by
 have:(fD s).map (ao nm 9)=fD s:=by
  show((_:List Value)++eN gr s).map _=_
  rw [List.map_append,lp rfl]
  simp [kI,ao,h 20 (by decide),h 21 (by decide),fD]
 show az (.cells ((fD s).map (ao nm 9)) 145) _
 rw [this];exact az.refl _
theorem rZ {nm:Nat→Option Nat} (h:∀n,n < 28→nm n=some n) {p:Lm}{σ:eQ}:∀q∈dy p σ,nm q.1=some q.1∧az (q.2.bC nm) q.2:=fun q hq=>by
 simp only [dy,List.mem_cons,List.not_mem_nil,or_false] at hq
 rcases hq with rfl|rfl|rfl|rfl|rfl|rfl|rfl|rfl|rfl|rfl|rfl|rfl
 · exact⟨h 9 (by decide),BB h _⟩
 · exact⟨h 10 (by decide),by simp [Chunk.bC,ao,h 9 (by decide)];exact az.refl _⟩
 · exact⟨h 11 (by decide),m5 _ _⟩
 · exact⟨h 12 (by decide),by simp [Chunk.bC,ao,h 11 (by decide)];exact az.refl _⟩
 · exact⟨h 13 (by decide),iq _ _⟩
 · exact⟨h 14 (by decide),by simp [Chunk.bC,ao,h 13 (by decide)];exact az.refl _⟩
 · exact⟨h 15 (by decide),by simp [Chunk.bC,ao,h 10 (by decide),h 12 (by decide),h 14 (by decide)];exact az.refl _⟩
 · exact⟨h 20 (by decide),az.refl _⟩
 · exact⟨h 21 (by decide),az.refl _⟩
 · exact⟨h 25 (by decide),iq _ []⟩
 · exact⟨h 26 (by decide),iq _ _⟩
 · exact⟨h 27 (by decide),by simp [Chunk.bC,ao,h 25 (by decide),h 26 (by decide)];exact az.refl _⟩
def fw (C:cF) (u:Tu) (pn x z:Nat) (nx:List Nat) (at_:List Int) (tf:Tf) (ck:Int) (Y Z:aG):Heap:= [(0,.args C.B C.w0),(1,.froz C.S C.w1),(pn,.cells (ff C u) 27),(91,.sem Y),(31,sX C.nc (tf.val x) ck),(29,.cells (di nx) 3),(30,.cells (ints at_) 3),(90,.cells (cP C.cl) 58),(z,.sem Z)]
theorem Dn {nm:Nat→Option Nat} (h:P3 nm) {p:Lm}{σ:eQ}:∀q∈dy p σ,nm q.1=some q.1∧az (q.2.bC nm) q.2:=rZ fun n hn=>h n (by omega)
section
variable {C:cF}{p:Lm}{u:Tu}{pn x x' z z':Nat}{nx:List Nat}{at_:List Int}{tf:Tf}{ck:Int}{Y Z:aG}{σ:eQ}
theorem zj {q:Nat×Chunk} (h:q∈tf.ch x):∃nt l,tf= .row nt l∧q=(x,.cells l 182):=by
 cases tf with
 |nil=>cases h
 |row nt l=>
  rcases List.mem_cons.1 h with e|e
  · exact⟨nt,l,rfl,e⟩
  · cases e
theorem uA {r:Nat×Chunk} (hr:r∈fw C u pn x z nx at_ tf ck Y Z∨r∈tf.ch x∨r∈dy p σ):r∈gZ C p u pn x z nx at_ tf ck Y Z σ:=by
 unfold gZ
 rcases hr with e|e|e
 · exact List.mem_append_left _ (List.mem_append_left _ e)
 · exact List.mem_append_left _ (List.mem_append_right _ e)
 · exact List.mem_append_right _ e
theorem nL {nm:Nat→Option Nat} (hk:cu (aY (gZ C p u pn x z nx at_ tf ck Y Z σ))=true) (h:P3 nm) (hpn:nm pn=some pn) (hx:nm x=some x') (hz:nm z=some z') (hr:∀nt l,tf= .row nt l→dG l):
  ∀n c,(gZ C p u pn x' z' nx at_ tf ck Y Z σ).get n=some c→∃s d,nm s=some n∧(gZ C p u pn x z nx at_ tf ck Y Z σ).get s=some d∧az (d.bC nm) c:=by
 refine pP hk fun q hq=> ?_
 have hin:∀r,(r∈fw C u pn x z nx at_ tf ck Y Z∨r∈tf.ch x∨r∈dy p σ)→r∈gZ C p u pn x z nx at_ tf ck Y Z σ:=fun r hr=>uA hr
 unfold gZ at hq
 rcases List.mem_append.1 hq with hq|hq
 · rcases List.mem_append.1 hq with hq|hq
   · simp only [List.mem_cons,List.not_mem_nil,or_false] at hq
     rcases hq with rfl|rfl|rfl|rfl|rfl|rfl|rfl|rfl|rfl
     · exact⟨(0,.args C.B C.w0),hin _ (.inl (by simp [fw])),h 0 (by decide),.args⟩
     · exact⟨(1,.froz C.S C.w1),hin _ (.inl (by simp [fw])),h 1 (by decide),.froz⟩
     · exact⟨(pn,.cells (ff C u) 27),hin _ (.inl (by simp [fw])),hpn,Gu _⟩
     · exact⟨(91,.sem Y),hin _ (.inl (by simp [fw])),h 91 (by decide),.sem⟩
     · refine⟨(31,sX C.nc (tf.val x) ck),hin _ (.inl (by simp [fw])),h 31 (by decide),?_⟩
       cases tf with
       |nil=>simp [sX,Chunk.bC,ao,Tf.val,h 15 (by decide),h 27 (by decide),h 90 (by decide),h 29 (by decide),h 30 (by decide)];exact az.refl _
       |row nt l=>simp [sX,Chunk.bC,ao,Tf.val,h 15 (by decide),h 27 (by decide),h 90 (by decide),h 29 (by decide),h 30 (by decide),hx];exact az.refl _
     · exact⟨(29,.cells (di nx) 3),hin _ (.inl (by simp [fw])),h 29 (by decide),bq (eK _) _⟩
     · exact⟨(30,.cells (ints at_) 3),hin _ (.inl (by simp [fw])),h 30 (by decide),bq (bQ _) _⟩
     · exact⟨(90,.cells (cP C.cl) 58),hin _ (.inl (by simp [fw])),h 90 (by decide),bq (bG _) _⟩
     · exact⟨(z,.sem Z),hin _ (.inl (by simp [fw])),hz,.sem⟩
   · obtain⟨nt,l,rfl,rfl⟩:=zj hq
     exact⟨(x,.cells l 182),hin _ (.inr (.inl (by simp [Tf.ch]))),hx,bq (hr nt l rfl) _⟩
 · exact⟨q,hin _ (.inr (.inr hq)),Dn h q hq⟩
end
def gS (C:cF) (p:Lm) (u:Tu) (pn x z:Nat) (s:RS):Heap:=gZ C p u pn x z s.nx s.at_ s.tf s.ck (ad (dN 0 C.cl s.ms)) (ad (gq s.vs)) s.σ
structure T6 (C:cF) (j:Nat) (s s':RS):Prop where
 nx:∃n,s'.nx=s.nx.set j n
 ms:∃m,s'.ms=s.ms.set j m
 less:∀x n m,C.acts[j]? =some x→s.nx[j]? =some n→s.ms[j]? =some m→∃n' m',s'.nx[j]? =some n'∧s'.ms[j]? =some m'∧m'.bN+30*(x.2.2.length - n')≤m.bN+30*(x.2.2.length - n)∧((m.bt=true∨n < x.2.2.length)→m'.bN+30*(x.2.2.length - n') < m.bN+30*(x.2.2.length - n))
theorem zV {vs:List (Value×Nat)}{j:Nat}{v:Value×Nat} (h:vs[j]? =some v):(gq vs)[j]? =some (ie Tryz.prog 188 v.1 v.2):=by simp [gq,h]
theorem zJ {vs:List (Value×Nat)}{j:Nat}{v:Value×Nat}:((gq vs).set j aG.emp).set j (ie Tryz.prog 188 v.1 v.2)=gq (vs.set j v):=by
 rw [List.set_set];simp [gq,List.map_set]
theorem open_map {l:List Value}{q a b:Nat} (h:dG l) {nm:Nat→Option Nat} (hn:nm a=some b):(l.set q (.chan (some a))).map (ao nm 9)=l.set q (.chan (some b)):=by
 rw [List.map_set,gd h];simp [ao,hn]
theorem HM {w:World}{S:Nat→Prop}{e:TypeId}:(ie Tryz.prog e (.slice none 0 0) 0).holds w S:=⟨none,0,0,rfl,Nat.le_refl _,.inl ⟨rfl,rfl,rfl⟩⟩
def N4:Option Nat→Nat
 |some t=>10*t+7
 |none=>0
theorem wW {I:Type}{C:cF}{p:Lm}{u:Tu}{pn y:Nat} (hy:(y=100∧pn=4)∨(y=603∧pn=600)) (hok:C.Ok) (hthr:(C.nc:Int)≤p.c) (top:p.g < 9223372036854775808) {s:RS} (hs:s.Ok C p.g) {j:Nat} (hj:j < C.nc) {h0:Heap}{c1:Nat} (hc1:y+434≤c1) {h1:I→Heap}{e:bU}{Tg:I→List Value}
  {code:Code} {T T2 T3:List Value} (hT:∀(nm:Nat→Option Nat) (r r2:Env) us,(∀n,n < y→nm n=some n)→(∀n m,nm n=some m→r2.blk m=r.blk n∧r2.cap m=r.cap n∧r2.val m=r.val n)→aw r T2 us→aw r2 T3 us)
  (hr:∀nx2 at2 tf tf2 ck2 n n2 Y Y2 Z σ2,(tf2.dm=tf.dm∨tf2.dm=true)→ab Tryz.prog (y+3) (gO C p (y+1) (y+2) s.nx s.at_ tf s.ck n Y s.σ) (y+433) (gO C p (y+14) (y+423) nx2 at2 tf2 ck2 n2 Y2 σ2) (.call 21 [.pointer (some ⟨31,0,none⟩),.agg ⟨ff C u⟩,.int .i64 (j:Nat)]) (.val (.tuple ⟨[]⟩))→Y=ad ((dN 0 C.cl s.ms))→
   ab Tryz.prog (y+3) (gP C p u pn (y+1) y (y+2) s.nx s.at_ tf s.ck n Y Z s.σ) (y+433) (gP C p u pn (y+14) y (y+423) nx2 at2 tf2 ck2 n2 Y2 Z σ2) (.code code T) (.out .normal T2))
  (hn:∀s',s'.Ok C p.g→T6 C j s s'→jb Tryz.prog y h0 (y+2) (gS C p u pn (y+1) y s') c1 h1 code T3 e Tg):jb Tryz.prog y h0 (y+2) (gS C p u pn (y+1) y s) c1 h1 code T e Tg:=by
 have hy1:y=100∨y=603:=hy.imp And.left And.left
 have hy0:100≤y:=by omega
 have hpn:pn < y∧pn≠0∧pn≠1:=by omega
 obtain⟨⟨AB,lc,acts⟩,hx⟩:=fA hok.n hj
 obtain⟨⟨b,kk⟩,hcl⟩:=fA hok.cl hj
 obtain⟨nj,hnx⟩:=fA hs.nx hj
 obtain⟨a1,hat⟩:=fA hs.at_ hj
 obtain⟨m,hms⟩:=fA hs.ms hj
 obtain⟨⟨v,n⟩,hvs⟩:=fA hs.vs hj
 have hc:=hs.cl j _ nj a1 m _ hx hnx hat hms hvs
 have hL:(dN 0 C.cl s.ms)[j]? =some (m.res (j:Nat) b):=by rw [tE hcl hms,Nat.zero_add]
 have hleft:=zT hx hnx
 have hcnt:=hs.fK
 have hct:=hs.count
 obtain⟨nj',a',nx',at',tf',n',L',m',σ',ck',T0,hd⟩:=J4 C (s:=p.s) (q:=p.q) (d:=p.d) (e:=p.e) (ck:=s.ck) hok hx hcl hc.le hnx hat hL hc.ip (hc.form hs.row 46) hc.wf hc.nle hc.act (by rw [Tf.vX];change acts.length - nj≤_ at hleft;omega) hthr hs.now top ⟨hct.1,by omega⟩ hs.nodup hc.own
 obtain⟨o,k,hcl2⟩:=Mp T0.fin
 have htf:(s.tf.put (gH a1) (.chan (some 46))= .nil∧s.tf.put (gH a1) (.chan (some (y+2)))= .nil)∨∃nt l l2,s.tf.put (gH a1) (.chan (some 46))= .row nt l∧s.tf.put (gH a1) (.chan (some (y+2)))= .row nt l2∧l2.map (ao (back (qW y)) 9)=l:=by
  cases e0:s.tf with
  |nil=>left;cases gH a1 <;> exact⟨rfl,rfl⟩
  |row nt l=>
   right
   have hrow:=(hs.row nt l e0).1
   cases gH a1 with
   |none=>exact⟨nt,l,l,rfl,rfl,gd hrow _⟩
   |some t=>exact⟨nt,_,_,rfl,rfl,open_map hrow (by rcases hy1 with rfl|rfl <;> rfl)⟩
 have htf':(tf'= .nil∧tf'.put o (.chan (some (y+423)))= .nil)∨∃nt l l2,tf'= .row nt l∧tf'.put o (.chan (some (y+423)))= .row nt l2∧l.map (ao (fwd (qW y) (y+3) 490) 9)=l2:=by
  cases e0:tf' with
  |nil=>left;exact⟨rfl,by cases o <;> rfl⟩
  |row nt l=>right;exact⟨nt,l,_,rfl,e0 ▸ hcl2.bC _ _ (by rcases hy1 with rfl|rfl <;> rfl) nt l e0,rfl⟩
 have hcall:=Gb (ys:= [.pointer (some ⟨31,0,none⟩),.agg ⟨ff C u⟩,.int .i64 (j:Nat)]) (MR hy1 htf htf' hd) fun r us h=>by
  cases h with|cons q1 h=>cases h with|cons q2 h=>exact .cons q1 (.cons (BJ (xs:=qF 1 C.QB C.nc C.qc) (ys:=ff C u) rfl (fun i a b ha hb=>by
   match i with
   |0|1|2|3|4|5|7=>left;exact(Option.some.inj ha).symm
   |6=>right;exact(Option.some.inj ha).symm.trans (Option.some.inj hb)
   |_+8=>simp [qF] at ha) q2) h)
 have hrow:(tf'.put o (.chan (some (y+423)))).dm=(s.tf.put (gH a1) (.chan (some (y+2)))).dm∨(tf'.put o (.chan (some (y+423)))).dm=true:=by
  have e1:∀(tf:Go.Proofs.YtalanookmohdeaaGreatDoor.Tf) o v,(tf.put o v).dm=tf.dm:=fun tf o v=>by cases tf <;> cases o <;> rfl
  rw [e1,e1]
  have:=T0.row
  rw [e1] at this
  exact this
 have hround:=hr nx' at' (s.tf.put (gH a1) (.chan (some (y+2)))) (tf'.put o (.chan (some (y+423)))) ck' n n' (ad (dN 0 C.cl s.ms)) (ad L') (ad ((gq s.vs).set j aG.emp)) σ' hrow hcall rfl
 have hnm:∀(x z:Nat) nx at_ tf ck Y Z σ,(x=y+1∧z=y)∨(x=y+14∧z=y+433)→cu (aY (gZ C p u pn x z nx at_ tf ck Y Z σ))=true:=fun x z nx at_ tf ck Y Z σ h=>by
  rcases hy with⟨rfl,rfl⟩|⟨rfl,rfl⟩ <;> rcases h with⟨rfl,rfl⟩|⟨rfl,rfl⟩ <;> cases tf <;> rfl
 have hnp:∀(x b:Nat) nx at_ tf ck n Y Z σ,(x=y+1∧b=y+2)∨(x=y+14∧b=y+423)→cu (aY (gP C p u pn x y b nx at_ tf ck n Y Z σ))=true:=fun x b nx at_ tf ck n Y Z σ h=>by
  rcases hy with⟨rfl,rfl⟩|⟨rfl,rfl⟩ <;> rcases h with⟨rfl,rfl⟩|⟨rfl,rfl⟩ <;> cases tf <;> rfl
 have hstoN:∀ {q:Nat×Chunk} {σ:eQ},q∈dy p σ→q.1 < 100:=fun {q σ} hq=>by
  simp only [dy,List.mem_cons,List.not_mem_nil,or_false] at hq
  rcases hq with rfl|rfl|rfl|rfl|rfl|rfl|rfl|rfl|rfl|rfl|rfl|rfl <;> exact Nat.le_of_ble_eq_true rfl
 have hput:∀(tf:Go.Proofs.YtalanookmohdeaaGreatDoor.Tf) o w x,(tf.put o w).val x=tf.val x:=fun tf o w x=>by cases tf <;> cases o <;> rfl
 have hgs:∀ {q:Nat×Chunk},(q∈fw C u pn (y+1) y s.nx s.at_ s.tf s.ck (ad (dN 0 C.cl s.ms)) (ad (gq s.vs))∨q∈s.tf.ch (y+1)∨q∈dy p s.σ)→(gS C p u pn (y+1) y s).get q.1=some q.2:=fun {q} h=>get_of_mem (hnm _ _ _ _ _ _ _ _ _ (.inl ⟨rfl,rfl⟩)) (uA h)
 refine je (J:=Unit) (cm':=y+3) (by omega) (by omega) (Gh (z:=y) (m:=y+2) (nT:=y+1) (p:=N4 (gH a1)) (j:=j) (nn:=n) (e:=188) (Ls:=gq s.vs) (v:=v)
  (H':=gP C p u pn (y+1) y (y+2) s.nx s.at_ (s.tf.put (gH a1) (.chan (some (y+2)))) s.ck n (ad (dN 0 C.cl s.ms)) (ad ((gq s.vs).set j aG.emp)) s.σ) (by omega) (by omega) (hgs (q:=(y,_)) (.inl (by simp [fw]))) (zV hvs) (by omega) ?_) fun _=> ?_
 · intro i c hi
   have hm:=get_mem hi
   have aq:∀ {i c},i≠y→i≠y+2→((i,c)∈fw C u pn (y+1) y s.nx s.at_ s.tf s.ck (ad (dN 0 C.cl s.ms)) (ad (gq s.vs))∨(i,c)∈s.tf.ch (y+1)∨(i,c)∈dy p s.σ)→i≠y∧i≠y+2∧(gS C p u pn (y+1) y s).get i=some c:=fun h1 h2 h3=>⟨h1,h2,hgs (q:=(_,_)) h3⟩
   unfold gP at hm
   rcases List.mem_append.1 hm with hm|hm
   · rcases List.mem_append.1 hm with hm|hm
     · simp only [List.mem_cons,List.not_mem_nil,or_false,Prod.mk.injEq] at hm
       rcases hm with⟨rfl,rfl⟩|⟨rfl,rfl⟩|⟨rfl,rfl⟩|⟨rfl,rfl⟩|⟨rfl,rfl⟩|⟨rfl,rfl⟩|⟨rfl,rfl⟩|⟨rfl,rfl⟩|⟨rfl,rfl⟩|⟨rfl,rfl⟩
       · exact .inr (.inr (.inr (aq (by omega) (by omega) (.inl (by simp [fw])))))
       · exact .inr (.inr (.inr (aq (by omega) (by omega) (.inl (by simp [fw])))))
       · exact .inr (.inr (.inr (aq (by omega) (by omega) (.inl (by simp [fw])))))
       · exact .inr (.inr (.inr (aq (by omega) (by omega) (.inl (by simp [fw])))))
       · rw [hput];exact .inr (.inr (.inr (aq (by omega) (by omega) (.inl (by simp [fw])))))
       · exact .inr (.inr (.inr (aq (by omega) (by omega) (.inl (by simp [fw])))))
       · exact .inr (.inr (.inr (aq (by omega) (by omega) (.inl (by simp [fw])))))
       · exact .inr (.inr (.inr (aq (by omega) (by omega) (.inl (by simp [fw])))))
       · exact .inl ⟨rfl,rfl⟩
       · exact .inr (.inl ⟨rfl,rfl⟩)
     · obtain⟨nt,l,e1,e2⟩:=zj hm
       cases e2
       cases e0:s.tf with
       |nil=>rw [e0] at e1;cases h9:gH a1 <;> rw [h9] at e1 <;> cases e1
       |row nt0 l0=>
        rw [e0] at e1
        cases h9:gH a1 with
        |none=>
         rw [h9] at e1
         cases e1
         exact .inr (.inr (.inr (aq (by omega) (by omega) (.inr (.inl (by rw [e0];simp [Go.Proofs.YtalanookmohdeaaGreatDoor.Tf.ch]))))))
        |some t=>
         rw [h9] at e1
         cases e1
         have ha1:a1=Int.ofNat t:=by
          cases a1 with
          |ofNat t0=>exact congrArg Int.ofNat (Option.some.inj h9)
          |negSucc _=>cases h9
         have hin:fQ m=true:=by
          cases hi2:fQ m with
          |true=>rfl
          |false=>have:=hc.out hi2;rw [ha1] at this;cases this
         obtain⟨t2,nt2,l2,q1,q2,q3⟩:=hc.inn hin
         rw [ha1] at q1
         cases Int.ofNat.inj q1
         rw [e0] at q2
         cases q2
         exact .inr (.inr (.inl ⟨rfl,by omega,by omega,_,_,hgs (q:=(y+1,.cells l0 182)) (.inr (.inl (by rw [e0];simp [Go.Proofs.YtalanookmohdeaaGreatDoor.Tf.ch]))),q3.seen,rfl⟩))
   · have:=hstoN hm
     change i < 100 at this
     exact .inr (.inr (.inr (aq (by omega) (by omega) (.inr (.inr hm)))))
 let Yv:Value→aG:=fun w=>if k then ie Tryz.prog 188 w n' else ie Tryz.prog 188 (.slice none 0 0) 0
 let wv:Value→Value×Nat:=fun w=>if k then(w,n') else(.slice none 0 0,0)
 have hYw:∀w,((gq s.vs).set j aG.emp).set j (Yv w)=gq (s.vs.set j (wv w)):=fun w=>by
  cases k with
  |true=>exact zJ (v:=(w,n'))
  |false=>exact zJ (v:=(.slice none 0 0,0))
 have hgp:∀ {q:Nat×Chunk},(q∈fw C u pn (y+14) y nx' at' tf' ck' (ad L') (ad ((gq s.vs).set j aG.emp))∨q=(y+423,.bag 188 n')∨q∈(tf'.put o (.chan (some (y+423)))).ch (y+14)∨q∈dy p σ')→(gP C p u pn (y+14) y (y+423) nx' at' (tf'.put o (.chan (some (y+423)))) ck' n' (ad L') (ad ((gq s.vs).set j aG.emp)) σ').get q.1=some q.2:=fun {q} h=>by
  refine get_of_mem (hnp _ _ _ _ _ _ _ _ _ _ (.inr ⟨rfl,rfl⟩)) ?_
  unfold gP
  rw [hput]
  rcases h with h|rfl|h|h
  · refine List.mem_append_left _ (List.mem_append_left _ ?_)
    simp only [fw,List.mem_cons,List.not_mem_nil,or_false] at h ⊢
    rcases h with h|h|h|h|h|h|h|h|h <;> simp [h]
  · exact List.mem_append_left _ (List.mem_append_left _ (by simp))
  · exact List.mem_append_left _ (List.mem_append_right _ h)
  · exact List.mem_append_right _ h
 refine p8 (J:= {w // lE w n'}) (ρ:=fun _=> [(y,y+433),(y+1,y+14)]) (cn:=y+2) (c2:=y+433) (c3:=y+434) (fun _=>by rcases hy1 with rfl|rfl <;> rfl) (by omega) (by omega) (by omega) hc1 hround
  (AQ (z:=y) (z2:=y+433) (m:=y+423) (nT:=y+14) (p:=N4 o) (j:=j) (nn:=n') (e:=188) (Ls:=(gq s.vs).set j aG.emp) (Y:=Yv) (H':=fun w=>gZ C p u pn (y+14) (y+433) nx' at' (tf'.put o (gy w)) ck' (ad L') (ad (gq (s.vs.set j (wv w)))) σ') (fun w w0 S hw=> ?_) (by omega) (by omega)
   (hgp (q:=(y,_)) (.inl (by simp [fw]))) (by rw [List.length_set];exact(List.getElem?_eq_some_iff.1 (zV hvs)).1) (hgp (q:=(y+423,_)) (.inr (.inl rfl))) (by omega) ?_) (fun w=>⟨?_,fun r r2 us hb hu=>hT _ r r2 us (fun q hq=> ?_) hb hu⟩)
  (fun w=>hn (s.next j nj' a' tf' o k ck' m' σ' w.1 n') (MT hok hs hx hnx hat hms hvs T0 hcl2 w.2 ck') ⟨⟨_,rfl⟩,⟨_,rfl⟩,fun x0 n0 m0 h1 h2 h3=> ?_⟩)
 · cases k with
   |true=>exact hw
   |false=>exact HM
 · intro w i c hi
   have hm:=get_mem hi
   have aq:∀ {i c},i≠y→i≠y+433→i≠y+423→((i,c)∈fw C u pn (y+14) y nx' at' tf' ck' (ad L') (ad ((gq s.vs).set j aG.emp))∨(i,c)=(y+423,.bag 188 n')∨(i,c)∈(tf'.put o (.chan (some (y+423)))).ch (y+14)∨(i,c)∈dy p σ')→i≠y∧i≠y+433∧i≠y+423∧(gP C p u pn (y+14) y (y+423) nx' at' (tf'.put o (.chan (some (y+423)))) ck' n' (ad L') (ad ((gq s.vs).set j aG.emp)) σ').get i=some c:=fun h1 h2 h3 h4=>⟨h1,h2,h3,hgp (q:=(_,_)) h4⟩
   unfold gZ at hm
   rcases List.mem_append.1 hm with hm|hm
   · rcases List.mem_append.1 hm with hm|hm
     · simp only [List.mem_cons,List.not_mem_nil,or_false,Prod.mk.injEq] at hm
       rcases hm with⟨rfl,rfl⟩|⟨rfl,rfl⟩|⟨rfl,rfl⟩|⟨rfl,rfl⟩|⟨rfl,rfl⟩|⟨rfl,rfl⟩|⟨rfl,rfl⟩|⟨rfl,rfl⟩|⟨rfl,rfl⟩
       · exact .inr (.inr (aq (by omega) (by omega) (by omega) (.inl (by simp [fw]))))
       · exact .inr (.inr (aq (by omega) (by omega) (by omega) (.inl (by simp [fw]))))
       · exact .inr (.inr (aq (by omega) (by omega) (by omega) (.inl (by simp [fw]))))
       · exact .inr (.inr (aq (by omega) (by omega) (by omega) (.inl (by simp [fw]))))
       · rw [hput];exact .inr (.inr (aq (by omega) (by omega) (by omega) (.inl (by simp [fw]))))
       · exact .inr (.inr (aq (by omega) (by omega) (by omega) (.inl (by simp [fw]))))
       · exact .inr (.inr (aq (by omega) (by omega) (by omega) (.inl (by simp [fw]))))
       · exact .inr (.inr (aq (by omega) (by omega) (by omega) (.inl (by simp [fw]))))
       · exact .inl ⟨rfl,by rw [hYw]⟩
     · obtain⟨nt,l,e1,e2⟩:=zj hm
       cases e2
       have hon:o=none∨∃t,o=some t:=by cases o <;> simp
       rcases hon with ho|⟨t,ho⟩
       · have e3:tf'= .row nt l:=by
          have e4:=e1
          rw [ho] at e4
          cases tf' <;> exact e4
         exact .inr (.inr (aq (by omega) (by omega) (by omega) (.inr (.inr (.inl (by rw [ho,e3];simp [Go.Proofs.YtalanookmohdeaaGreatDoor.Tf.put,Go.Proofs.YtalanookmohdeaaGreatDoor.Tf.ch]))))))
       · obtain⟨nt0,l0,g1,g2⟩:=hcl2.cell t ho
         have e4:=e1
         rw [ho,g1] at e4
         cases e4
         have hlt:=(List.getElem?_eq_some_iff.1 g2).1
         have hp:N4 o=10*t+7:=by rw [ho];rfl
         refine .inr (.inl ⟨rfl,by omega,by omega,by omega,l0.set (10*t+7) (.chan (some (y+423))),182,hgp (q:=(y+14,_)) (.inr (.inr (.inl (by rw [ho,g1];simp [Go.Proofs.YtalanookmohdeaaGreatDoor.Tf.put,Go.Proofs.YtalanookmohdeaaGreatDoor.Tf.ch])))),?_,?_⟩)
         · rw [hp,List.getElem?_set,if_pos rfl,if_pos hlt]
         · rw [hp,List.set_set]
   · have:=hstoN hm
     change i < 100 at this
     exact .inr (.inr (aq (by omega) (by omega) (by omega) (.inr (.inr (.inr hm)))))
 · have hnx':=T0.nx
   have hat':=T0.at_
   have hL':L'=dN 0 C.cl (s.ms.set j m'):=by
    rw [T0.L,←zy hcl,Nat.zero_add]
   have hnames:∀q,q < y→nameOf [(y,y+433),(y+1,y+14)] y c1 q=some q:=fun q hq=>by
    unfold nameOf
    have e1:Nat.beq (y+433) q=false:=by rw [cj];exact decide_eq_false (by omega)
    have e2:Nat.beq (y+14) q=false:=by rw [cj];exact decide_eq_false (by omega)
    have e3:inside y c1 q=false:=by
     cases h:inside y c1 q with
     |false=>rfl
     |true=>have:=b8.1 h;omega
    simp only [Names.rV,e1,e2,e3]
   show∀n0 x',(gZ C p u pn (y+1) y (s.nx.set j nj') (s.at_.set j a') (tf'.put o (gy w.1)) ck' (ad (dN 0 C.cl (s.ms.set j m'))) (ad (gq (s.vs.set j (wv w.1)))) σ').get n0=some x'→_
   rw [←hnx',←hat',←hL']
   refine nL (hnm _ _ _ _ _ _ _ _ _ (.inr ⟨rfl,rfl⟩)) (fun q hq=>hnames q (by omega)) (hnames pn hpn.1) ?_ ?_ fun nt l e0=>(hcl2.row _ (lL w.1) nt l e0).1
   · rcases hy1 with rfl|rfl <;> rfl
   · rcases hy1 with rfl|rfl <;> rfl
 · unfold nameOf
   have e1:Nat.beq (y+433) q=false:=by rw [cj];exact decide_eq_false (by omega)
   have e2:Nat.beq (y+14) q=false:=by rw [cj];exact decide_eq_false (by omega)
   have e3:inside y c1 q=false:=by
    cases h:inside y c1 q with
    |false=>rfl
    |true=>have:=b8.1 h;omega
   simp only [Names.rV,e1,e2,e3]
 · rw [hx] at h1;rw [hnx] at h2;rw [hms] at h3
   cases h1;cases h2;cases h3
   exact⟨nj',m',fb hnx,fb hms,T0.bN,T0.less⟩
end
section
open Go Go.Sx
section
variable {C:cF}{p:Lm}{u:Tu}{pn x z k n c nt:Nat}{nx:List Nat}{at_:List Int}{tf:Tf}{l:List Value}{ck:Int}{Y Z:aG}{σ:eQ}{H:Heap}
noncomputable def hI:Code:=bD [1,0,1,0,0] (bA 22)
abbrev hZ (C:cF) (k:Nat):List (Nat×Value):= [(0,.pointer (some ⟨31,0,none⟩)),(3,.pointer (some ⟨600,0,none⟩)),(11,.int .i64 (C.nc:Nat)),(12,.int .i64 (k:Nat))]
abbrev um (C:cF) (k:Nat) (n:Int):List (Nat×Value):= [(0,.pointer (some ⟨31,0,none⟩)),(3,.pointer (some ⟨600,0,none⟩)),(5,.int .i64 (k:Nat)),(6,.int .i64 n),(11,.int .i64 (C.nc:Nat)),(12,.int .i64 (k:Nat))]
set_option maxRecDepth 100000
theorem Pn:ab Tryz.prog c H c H (.code (bD [0] hI) (ay 59 0 (hZ C k))) (.out .normal (ay 59 0 (hZ C k++ [(13,.bool (decide ((k:Int) < (C.nc:Int))))]))):=
 fj mixed ar (C:=cz) (n:=600) (d:= []) (l:=hZ C k++ [(13,.bool (decide ((k:Int) < (C.nc:Int))))]) (by kernel_rfl) vN
theorem Ua (h:decide ((k:Int) < (C.nc:Int))=true):ab Tryz.prog c H c H (.code (bD [1,0] hI) (ay 59 0 (hZ C k++ [(13,.bool (decide ((k:Int) < (C.nc:Int))))]))) (.out .normal (ay 59 0 (hZ C k))):=
 fj mixed ar (C:=cz) (n:=600) (d:=aT [0] []) (l:=hZ C k) (by kernel_rfl) (vB h vN)
theorem SO (h:decide ((k:Int) < (C.nc:Int))=false):ab Tryz.prog c H c H (.code (bD [1,0] hI) (ay 59 0 (hZ C k++ [(13,.bool (decide ((k:Int) < (C.nc:Int))))]))) (.out (.exit 0) (ay 59 0 (hZ C k))):=
 fj mixed ar (C:=cz) (n:=600) (d:=aF [0] []) (l:=hZ C k) (by kernel_rfl) (vB h vN)
theorem Us:ab Tryz.prog c H c H (.code (bD [1,1,0,0,0] hI) (ay 59 0 (hZ C k))) (.out .normal (ay 59 0 (hZ C k++ [(5,.int .i64 (k:Nat))]))):=
 fj mixed ar (C:=cz) (n:=600) (d:= []) (l:=hZ C k++ [(5,.int .i64 (k:Nat))]) (by kernel_rfl) vN
theorem Ux:ab Tryz.prog c H c H (.code (bD [1,1,0,0,1,0] hI) (ay 59 0 (hZ C k++ [(5,.int .i64 (k:Nat))]))) (.out .normal (ay 59 0 (um C k 0))):=
 fj mixed ar (C:=cz) (n:=600) (d:= []) (l:=um C k 0) (by kernel_rfl) vN
theorem Uz:ab Tryz.prog c H c H (.code (bD [1,1,1] hI) (ay 59 0 (hZ C k))) (.out .normal (ay 59 0 [(0,.pointer (some ⟨31,0,none⟩)),(3,.pointer (some ⟨600,0,none⟩)),(11,.int .i64 (C.nc:Nat)),(12,.int .i64 (IntKind.i64.wrap ((k:Int)+1)))])):=
 fj mixed ar (C:=cz) (n:=600) (d:= []) (by kernel_rfl) vN
theorem RY:ab Tryz.prog 600 (gZ C p u 4 101 100 nx at_ .nil ck Y Z σ) 601 (gZ C p u 600 101 100 nx at_ .nil ck Y Z σ) (.code (bD [0] (bA 22)) (ay 59 0 [(0,.pointer (some ⟨31,0,none⟩)),(1,.agg ⟨ff C u⟩)])) (.out .normal (ay 59 0 [(0,.pointer (some ⟨31,0,none⟩)),(3,.pointer (some ⟨600,0,none⟩))])):=
 bW mixed ar (C:=cz) (nn:=600) (d:= []) (by kernel_rfl) vN
theorem Sj:ab Tryz.prog 600 (gZ C p u 4 101 100 nx at_ (.row nt l) ck Y Z σ) 601 (gZ C p u 600 101 100 nx at_ (.row nt l) ck Y Z σ) (.code (bD [0] (bA 22)) (ay 59 0 [(0,.pointer (some ⟨31,0,none⟩)),(1,.agg ⟨ff C u⟩)])) (.out .normal (ay 59 0 [(0,.pointer (some ⟨31,0,none⟩)),(3,.pointer (some ⟨600,0,none⟩))])):=
 bW mixed ar (C:=cz) (nn:=600) (d:= []) (by kernel_rfl) vN
theorem Uh:ab Tryz.prog 601 (gZ C p u 600 x z nx at_ tf ck Y Z σ) 601 (gZ C p u 600 x z nx at_ tf ck Y Z σ) (.code (bD [1,0,0] (bA 22)) (ay 59 0 [(0,.pointer (some ⟨31,0,none⟩)),(3,.pointer (some ⟨600,0,none⟩))])) (.out .normal (ay 59 0 (hZ C 0))):=
 fj mixed ar (C:=cz) (n:=600) (d:= []) (l:=hZ C 0) (by kernel_rfl) vN
theorem RL:ab Tryz.prog c (gZ C p u 600 602 601 nx at_ tf ck Y Z σ) c (gZ C p u 600 602 601 nx at_ tf ck Y Z σ) (.code (bD [1,1] (bA 22)) (ay 59 0 (hZ C k))) (.out .ret (ay 59 0 [(4,.bool true)])):=
 fj mixed ar (C:=cz) (n:=600) (d:= []) (by kernel_rfl) vN
end
end
end Go.Proofs.YtalanookmohdeaaGreatDoor
namespace Go.Sx
variable {P:Program}{I J:Type}
theorem w9 {f:Value→Value} (hf:f (.chan none)= .chan none):∀(l:List (Nat×Value)) (n:Nat),f (eL l n)=eL (l.map fun q=>(q.1,f q.2)) n
 | [],_=>hf
 |(k,v)::l,n=>by
  simp only [eL,List.map_cons]
  cases Nat.beq k n with
  |true=>rfl
  |false=>exact w9 hf l n
theorem CW {f:Value→Value} (hf:f (.chan none)= .chan none) {l:List (Nat×Value)}:∀n k,(ay n k l).map f=ay n k (l.map fun q=>(q.1,f q.2))
 |0,_=>rfl
 |n+1,k=>by show f _::_=_::_;rw [w9 hf,CW hf n (k+1)]
theorem gI {nm:Nat→Option Nat}{r r2:Env}{n:Nat}{l l2:List (Nat×Value)}{us:List Value} (hb:∀n m,nm n=some m→r2.blk m=r.blk n∧r2.cap m=r.cap n∧r2.val m=r.val n) (hl:(l.map fun q=>(q.1,ao nm 9 q.2))=l2) (h:aw r (ay n 0 l) us):aw r2 (ay n 0 l2) us:=by
 have:=cV (b9 hb 9) h
 rw [CW rfl,hl] at this;exact this
theorem B6 {c0 c1 id:Nat}{h0:Heap}{h1:I→Heap}{a:Code}{T:List Value}{e:bU}{T1:I→List Value} (he:e≠ .exit id) (ha:dh P c0 h0 c1 h1 a T e T1):dh P c0 h0 c1 h1 (.block id a) T e T1:=by
 refine⟨ha.1,fun r ow w hs hf x hx hd=> ?_⟩
 refine wp_block (wp_mono (ha.2 r ow w hs hf x hx hd) ?_)
 intro e' a' w' hq
 cases e' with
 |exit j=>
  obtain⟨i,hex,hq⟩:=hq
  cases e with
  |exit i2=>
   have hij:i2=j:=hex
   have hne:¬(j=id):=fun q=>he (by rw [hij,q])
   simp only [Exit.inBlock,if_neg hne]
   exact⟨i,hex,hq⟩
  |_=>simp only [cO] at hex
 |_=>exact hq
theorem kC {c0 c1 id:Nat}{h0:Heap}{h1:I→Heap}{code:Code}{T:List Value}{Tf:I→List Value} (hc:c0≤c1) (h:jb P c0 h0 c0 h0 c1 h1 code T (.exit id) Tf):dh P c0 h0 c1 h1 (.block id (.loop code)) T .normal Tf:=tN (El hc h)
theorem zF {c c' m:Nat}{H H':Heap}{T:List Value}{X:aG} (hX:∀w S,X.holds w S) (h1:c≤m) (h2:m < c') (hH:∀k x,H'.get k=some x→(k=m∧x= .sem X)∨H.get k=some x):Conv P (I:=Unit) c c' H T (fun _=>H') (fun _=>T):=by
 refine⟨fun r ow w hs hf=> ?_⟩
 have hm:=hf m h1 h2
 refine⟨(),r.one m .nilIface,ow,one_le hm,⟨fun k x hx=> ?_,hs.bound,fun b k hb=>(one_le hm).known (hs.known b k hb)⟩,m7 h1 h2,fun b k hb=> .inl ⟨b,hb⟩,fun _ h=>h,fun us h=>h.mono (one_le hm)⟩
 rcases hH k x hx with⟨rfl,rfl⟩|hk
 · exact hX w _
 · exact Chunk.dX (one_le hm) (hs.chunk k x hk)
theorem pM {w:World}{S:Nat→Prop}{e:TypeId}:∀n:Nat,(ad (List.replicate n (ie P e (.slice none 0 0) 0))).holds w S
 |0=>trivial
 |n+1=>⟨fun _=>False,S,fun _ h=>h.elim,fun _ h=>h,fun _ h _=>h.elim,⟨none,0,0,rfl,Nat.le_refl _,.inl ⟨rfl,rfl,rfl⟩⟩,pM n⟩
end Go.Sx
namespace Go.Sx
theorem qG {r:Env}{n:Nat}{l l2:List (Nat×Value)}{us:List Value} (h:aw r (ay n 0 l) us) (hl:∀i:Nat,i < n→eL l2 i=eL l i∨eL l2 i= .chan none):aw r (ay n 0 l2) us:=by
 have hlen:∀(l:List (Nat×Value)) n k,(ay n k l).length=n:=fun l n=>by
  induction n with
  |zero=>intro k;rfl
  |succ n ih=>intro k;show(ay n (k+1) l).length+1=_;rw [ih]
 have hget:∀(l:List (Nat×Value)) n k j,j < n→(ay n k l)[j]? =some (eL l (k+j)):=fun l n=>by
  induction n with
  |zero=>intro k j hj;omega
  |succ n ih=>
   intro k j hj
   cases j with
   |zero=>rfl
   |succ j=>
    show(ay n (k+1) l)[j]? =_
    rw [ih (k+1) j (by omega),show k+1+j=k+(j+1) by omega]
 refine ng n 0 us (by rw [←h.length,hlen]) fun j u hu=> ?_
 have hj:j < n:=by have:=(List.getElem?_eq_some_iff.1 hu).1;rw [←h.length,hlen] at this;exact this
 rw [Nat.zero_add]
 rcases hl j hj with e|e
 · rw [e]
   obtain⟨x,hx,hr⟩:=h.get' j u hu
   rw [hget l n 0 j hj,Nat.zero_add] at hx
   cases hx;exact hr
 · rw [e];exact .any
end Go.Sx
namespace Go.Proofs.YtalanookmohdeaaGreatDoor
open Go Go.Sx
theorem jC {a b c d y c1 q:Nat} (hb:y≤b) (hd:y≤d) (hq:q < y):nameOf [(a,b),(c,d)] y c1 q=some q:=by
 unfold nameOf
 have e1:Nat.beq b q=false:=by rw [cj];exact decide_eq_false (by omega)
 have e2:Nat.beq d q=false:=by rw [cj];exact decide_eq_false (by omega)
 have e3:inside y c1 q=false:=by
  cases h:inside y c1 q with
  |false=>rfl
  |true=>have:=b8.1 h;omega
 simp only [Names.rV,e1,e2,e3]
abbrev my (u:Tu) (i:Nat):List (Nat×Value):= [(1,.pointer (some ⟨4,0,none⟩)),(4,.pointer (some ⟨31,0,none⟩)),(10,fx u),(11,.int .i64 (u.tn:Nat)),(12,.int .i64 (i:Nat))]
theorem mX {C:cF}{p:Lm}{u:Tu}{pn x z:Nat}{nx:List Nat}{at_:List Int}{tf:Tf}{ck:Int}{Y Z:aG}{σ:eQ} (h:(pn,x,z)∈ [(4,101,100),(600,101,100),(600,602,601),(600,604,603),(600,101,601),(600,602,603)]):cu (aY (gZ C p u pn x z nx at_ tf ck Y Z σ))=true:=by
 simp only [List.mem_cons,List.not_mem_nil,or_false,Prod.mk.injEq] at h
 rcases h with⟨rfl,rfl,rfl⟩|⟨rfl,rfl,rfl⟩|⟨rfl,rfl,rfl⟩|⟨rfl,rfl,rfl⟩|⟨rfl,rfl,rfl⟩|⟨rfl,rfl,rfl⟩ <;> cases tf <;> rfl
section
variable {C:cF}{p:Lm}{u:Tu}{h0:Heap}
theorem MM (hok:C.Ok) (hthr:(C.nc:Int)≤p.c) (top:p.g < 9223372036854775808) (hnc:0 < C.nc) (htn:u.tn < 4000000000) (htp:u.tp=none→u.tn=0) (htu:∀x,u.tp=some x→∀i,i < u.tn→∃v:Nat,v < 256∧aZ C.B C.w0 x.1 (x.2+i*1) [.int .u8 (v:Nat)]):∀(r i:Nat) (s:RS),u.tn - i=r→i≤u.tn→s.Ok C p.g→
  jb Tryz.prog 100 h0 102 (gS C p u 4 101 100 s) 600 (fun s': {s // RS.Ok C p.g s}=>gS C p u 4 101 100 s'.1) uR (ay 30 0 (my u i)) (.exit 0) (fun _=>ay 30 0 (my u u.tn)):=by
 intro r
 induction r with
 |zero=>
  intro i s hr hi hs
  have:i=u.tn:=by omega
  subst this
  have hd:decide ((u.tn:Int) < (u.tn:Int))=false:=decide_eq_false (by omega)
  have hend:ab Tryz.prog 102 (gS C p u 4 101 100 s) 102 (gS C p u 4 101 100 s) (.code uR (ay 30 0 (my u u.tn))) (.out (.exit 0) (ay 30 0 (my u u.tn))):=by
   unfold gS
   cases s.tf with
   |nil=>exact Mu hd
   |row nt l=>exact Mg hd
  refine p9 (ρ:= [(100,100),(101,101)]) ⟨s,hs⟩ nofun rfl (by decide) (by decide) hend ⟨?_,fun r r2 us hb h=> ?_⟩
  · exact nL (mX (by simp)) (fun q hq=>jC (by decide) (by decide) hq) (jC (by decide) (by decide) (by decide)) rfl rfl fun nt l e=>(hs.row nt l e).1
  · refine gI hb ?_ h
    simp only [List.map_cons,List.map_nil,jT];rfl
 |succ r ih=>
  intro i s hr hi hs
  have hlt:i < u.tn:=by omega
  obtain⟨⟨TB,to⟩,htp2⟩:∃x,u.tp=some x:=by
   cases h9:u.tp with
   |none=>have:=htp h9;omega
   |some x=>exact⟨x,rfl⟩
  have htv:fx u= .slice (some ⟨TB,to,some 0⟩) u.tn u.tc:=by unfold fx;rw [htp2]
  obtain⟨v,hv,hcell⟩:=htu _ htp2 i hlt
  have hd0:decide ((i:Int) < (u.tn:Int))=true:=decide_eq_true (by omega)
  have hd1:decide ((0:Int)≤(i:Int)∧(i:Int) < (u.tn:Int))=true:=decide_eq_true ⟨by omega,by omega⟩
  have hd2:(!((C.nc:Int)==(0:Int)))=true:=by
   have:((C.nc:Int)==0)=false:=by simp;omega
   rw [this];rfl
  have hw:(IntKind.i64.wrap (v:Int)).tmod (C.nc:Int)=((v % C.nc:Nat):Int):=by rw [wrap64 (by omega) (by omega)];rfl
  refine wW (y:=100) (pn:=4) (.inl ⟨rfl,rfl⟩) hok hthr top hs (Nat.mod_lt v hnc) (by decide) (T2:=ay 30 0 [(1,.pointer (some ⟨4,0,none⟩)),(4,.pointer (some ⟨31,0,none⟩)),(10,fx u),(11,.int .i64 (u.tn:Nat)),(12,.int .i64 (IntKind.i64.wrap ((i:Int)+1)))]) (T3:=ay 30 0 (my u (i+1))) (fun nm r r2 us hlow hb h=> ?_) ?_ fun s' hs' _=>ih (i+1) s' (by omega) (by omega) hs'
  · refine gI hb ?_ h
    simp only [List.map_cons,List.map_nil,jT]
    simp only [ao,hlow 4 (by decide),hlow 31 (by decide)]
    rw [wrap64 (by omega) (by omega)];rfl
  · intro nx2 at2 tf tf2 ck2 n n2 Y Y2 Z σ2 hrow hcall _
    rw [←hw] at hcall
    unfold my
    rw [htv]
    cases tf with
    |nil=>cases tf2 with
     |nil=>exact Qq hd0 hd1 hd2 ⟨hcell,rfl⟩ hcall
     |row nt2 l2=>exact Ot hd0 hd1 hd2 ⟨hcell,rfl⟩ hcall
    |row nt l=>cases tf2 with
     |nil=>rcases hrow with e|e <;> cases e
     |row nt2 l2=>exact OE hd0 hd1 hd2 ⟨hcell,rfl⟩ hcall
def RS.qC (C:cF) (s:RS) (k:Nat):Nat:=match C.acts[k]?,s.nx[k]?,s.ms[k]? with
 |some x,some n,some m=>m.bN+30*(x.2.2.length - n)
 |_,_,_=>0
theorem CO {c j b kk:Nat}{L:List aG}{m:Cs} (hk:L[j]? =some (m.res (j:Nat) b)):ab Tryz.prog c [(91,.sem (ad L))] c [(91,.sem (ad L))] (.call 40 [.pointer (some ⟨b,0,some kk⟩)]) (.val (.bool m.bt)):=by
 let l:List Nat:= [5000,5001,5002,5003,5004,5005,5006,5007,5008,5009,5010,5011,5012,5013,5014,5015,5016,5017,5018,5019,5020,5021,5022,5023,5024,5025,5026,5027,5028,91]
 have h:=df (c:=30) (kk:=kk) hk (by decide)
 refine fp (l:=l) (k1:=30) (h0:= [(29,.sem (ad L))]) (h1:= [(29,.sem (ad L))]) h rfl (fun n _=>by show¬(c≤n∧n < c+0);omega) (Nat.le_refl _) (fun i x hx=> ?_) (fun r r2 us _ hr=> ?_) (fun n x hx=> ?_) fun r r2 u _ hr=> ?_
 · have hm:=get_mem hx
   simp only [List.mem_cons,List.not_mem_nil,or_false,Prod.mk.injEq] at hm
   obtain⟨rfl,rfl⟩:=hm
   exact⟨91,_,rfl,rfl,.sem⟩
 · cases hr with|cons h1 hr=>cases hr;cases h1;exact .cons .litPtr .nil
 · have hm:=get_mem hx
   simp only [List.mem_cons,List.not_mem_nil,or_false,Prod.mk.injEq] at hm
   obtain⟨rfl,rfl⟩:=hm
   exact .inl ⟨29,_,rfl,rfl,.sem⟩
 · cases hr;exact .bool _
theorem NH (hok:C.Ok) (hthr:(C.nc:Int)≤p.c) (top:p.g < 9223372036854775808) {k:Nat} (hk:k < C.nc):∀(r n3:Nat) (s:RS),s.qC C k=r→n3+r≤50000→s.Ok C p.g→
  jb Tryz.prog 603 h0 605 (gS C p u 600 604 603 s) 1100 (fun s': {s // RS.Ok C p.g s}=>gS C p u 600 604 603 s'.1) oZ (ay 59 0 (um C k (n3:Nat))) (.exit 2) (fun _=>ay 59 0 (hZ C k)):=by
 intro r
 induction r using Nat.strongRecOn with
 |ind r ih=>
  intro n3 s hr hn hs
  obtain⟨⟨AB,lc,acts⟩,hx⟩:=fA hok.n hk
  obtain⟨⟨b,kk⟩,hcl⟩:=fA hok.cl hk
  obtain⟨nj,hnx⟩:=fA hs.nx hk
  obtain⟨a1,hat⟩:=fA hs.at_ hk
  obtain⟨m,hms⟩:=fA hs.ms hk
  obtain⟨v,hvs⟩:=fA hs.vs hk
  have hc:=hs.cl k _ nj a1 m _ hx hnx hat hms hvs
  have hL:(dN 0 C.cl s.ms)[k]? =some (m.res (k:Nat) b):=by rw [tE hcl hms,Nat.zero_add]
  have hmeas:s.qC C k=m.bN+30*(acts.length - nj):=by unfold RS.qC;rw [hx,hnx,hms]
  obtain⟨AA,_,hq⟩:=hok.q k _ hx
  have hd0:decide ((0:Int)≤(k:Int)∧(k:Int) < (C.nc:Int))=true:=decide_eq_true ⟨by omega,by omega⟩
  have hd3:decide ((n3:Int) > (60000:Int))=false:=decide_eq_false (by omega)
  have r0:List.take 1 (List.drop (0+k*1) (cP C.cl))= [.pointer (some ⟨b,0,some kk⟩)]∧1=1:=oJ (by simp [cP,hcl])
  have r1:List.take 1 (List.drop (0+k*1) (di s.nx))= [.int .i64 (Int.ofNat nj)]∧1=1:=oJ (pE hnx)
  have hgo:(m.bt=true∨nj < acts.length)→jb Tryz.prog 603 h0 605 (gS C p u 600 604 603 s) 1100 (fun s': {s // RS.Ok C p.g s}=>gS C p u 600 604 603 s'.1) oZ (ay 59 0 (um C k (n3:Nat))) (.exit 2) (fun _=>ay 59 0 (hZ C k)):=fun hgo=>by
   refine wW (y:=603) (pn:=600) (.inr ⟨rfl,rfl⟩) hok hthr top hs hk (by decide) (T2:=ay 59 0 (um C k (IntKind.i64.wrap ((n3:Int)+1)))) (T3:=ay 59 0 (um C k ((n3+1:Nat):Int))) (fun nm r r2 us hlow hb h=> ?_) ?_ fun s' hs' hw=> ?_
   · refine gI hb ?_ h
     simp only [List.map_cons,List.map_nil,ao,hlow 600 (by decide),hlow 31 (by decide)]
     rw [wrap64 (by omega) (by omega)];rfl
   · intro nx2 at2 tf tf2 ck2 n n2 Y Y2 Z σ2 hrow hcall hY
     subst hY
     have hp:=CO (c:=606) (kk:=kk) hL
     cases hpe:m.bt with
     |true=>
      rw [hpe] at hp
      cases tf with
      |nil=>cases tf2 with
       |nil=>exact L9 hd0 hd3 r0 hp hcall
       |row nt2 l2=>exact Lu hd0 hd3 r0 hp hcall
      |row nt l=>cases tf2 with
       |nil=>rcases hrow with e|e <;> cases e
       |row nt2 l2=>exact MY hd0 hd3 r0 hp hcall
     |false=>
      rw [hpe] at hp
      have hlt:nj < acts.length:=hgo.resolve_left (by rw [hpe];decide)
      have hd2:decide (Int.ofNat nj < (acts.length:Int))=true:=decide_eq_true (by simp;omega)
      cases tf with
      |nil=>cases tf2 with
       |nil=>exact Mi hd0 hd2 hd3 r0 r1 ⟨hq,rfl⟩ hp hcall
       |row nt2 l2=>exact L6 hd0 hd2 hd3 r0 r1 ⟨hq,rfl⟩ hp hcall
      |row nt l=>cases tf2 with
       |nil=>rcases hrow with e|e <;> cases e
       |row nt2 l2=>exact MP hd0 hd2 hd3 r0 r1 ⟨hq,rfl⟩ hp hcall
   · obtain⟨n',m',q1,q2,_,q4⟩:=hw.less _ nj m hx hnx hms
     have hm':s'.qC C k=m'.bN+30*(acts.length - n'):=by unfold RS.qC;rw [hx,q1,q2]
     have:=q4 hgo
     exact ih (s'.qC C k) (by rw [hm',←hr,hmeas];exact this) (n3+1) s' rfl (by rw [hm'];rw [hmeas] at hr;change m'.bN+30*(acts.length - n') < m.bN+30*(acts.length - nj) at this;omega) hs'
  cases hpe:m.bt with
  |true=>exact hgo (.inl hpe)
  |false=>
   by_cases hlt:nj < acts.length
   · exact hgo (.inr hlt)
   · have hp:=CO (c:=605) (kk:=kk) hL
     rw [hpe] at hp
     have hd2:decide (Int.ofNat nj < (acts.length:Int))=false:=decide_eq_false (by simp;omega)
     have hend:ab Tryz.prog 605 (gS C p u 600 604 603 s) 605 (gS C p u 600 604 603 s) (.code oZ (ay 59 0 (um C k (n3:Nat)))) (.out (.exit 2) (ay 59 0 (um C k (n3:Nat)))):=by
      unfold gS
      cases s.tf with
      |nil=>exact LK hd0 hd2 r0 r1 ⟨hq,rfl⟩ hp
      |row nt l=>exact Ni hd0 hd2 r0 r1 ⟨hq,rfl⟩ hp
     refine p9 (ρ:= [(603,603),(604,604)]) ⟨s,hs⟩ nofun rfl (by decide) (by decide) hend ⟨?_,fun r r2 us hb h=> ?_⟩
     · exact nL (mX (by simp)) (fun q hq=>jC (by decide) (by decide) (by omega)) (jC (by decide) (by decide) (by decide)) rfl rfl fun nt l e=>(hs.row nt l e).1
     · refine gI (l:=hZ C k) hb rfl (qG h fun i _=> ?_)
       have hi:i=0∨i=3∨i=11∨i=12∨(0≠i∧3≠i∧11≠i∧12≠i):=by omega
       rcases hi with rfl|rfl|rfl|rfl|⟨e1,e2,e3,e4⟩
       · exact .inl rfl
       · exact .inl rfl
       · exact .inl rfl
       · exact .inl rfl
       · exact .inr (by simp [eL,cj,e1,e2,e3,e4])
end
end Go.Proofs.YtalanookmohdeaaGreatDoor
namespace Go.Sx
variable {P:Program}
structure wJ (S:List Nat) (w0:World) (L:List Value) (k b c:Nat) (w:World):Prop where
 le:k≤c
 old:∀x,x∈S→w.heap[x]? =w0.heap[x]?
 cell:∀(j:Nat) v,L[j]? =some v→∃u,w.cell? ⟨b,j,none⟩=some u∧∃r,Rel r v u
abbrev Ee (S:List Nat) (w0:World) (L:List Value) (k:Nat):= {i:Nat×Nat×World // wJ S w0 L k i.1 i.2.1 i.2.2}
theorem wm {cm cm' z z2 m nT p k K:Nat}{S:List Nat}{w0:World}{H:Heap}{T:List Value}{L l:List Value}{e t:TypeId}{H':Nat×Nat×World→Heap} (h1:cm≤z2) (h2:z2 < cm') (hz:H.get z=some (.froz S w0)) (hm:H.get m=some (.cells L e)) (hn:H.get nT=some (.cells l t)) (hp:l[p]? =some (.slice (some ⟨m,0,none⟩) k 0)) (hzm:z≠m) (hnz:nT≠z) (hnm:nT≠m) (hn2:nT≠z2)
  (hH:∀i x c,(H' i).get x=some c→(x=z2∧c= .froz (i.1::S) i.2.2)∨(x=nT∧c= .cells (l.set p (.slice (some ⟨i.1,0,some K⟩) k i.2.1)) t)∨(x≠z∧x≠z2∧x≠m∧H.get x=some c)):
  Conv P (I:=Ee S w0 L k) cm cm' H T (fun i=>H' i.1) (fun _=>T):=by
 refine⟨fun r ow w hs hf=> ?_⟩
 have hfr:=hf z2 h1 h2
 have hle:r.Le (r.one z2 .nilIface):=one_le hfr
 obtain⟨b,cs,c1,c2,c3,c4,c5,c6⟩:=hs.chunk m _ hm
 have hz0:=hs.chunk z _ hz
 obtain⟨bT,cT,t1,t2,t3,t4,t5,t6⟩:=hs.chunk nT _ hn
 obtain⟨u,d1,d2⟩:=t4.get p _ hp
 obtain⟨hkc,hu⟩:k≤r.cap m∧u= .slice (some ⟨b,0,none⟩) k (r.cap m):=by
  cases d2 with
  |slice hb ho hl h0 h2=>
   rw [c1] at hb;cases hb
   obtain⟨_,q2,q3⟩:=h0 rfl
   subst q2;subst q3
   exact⟨hl,rfl⟩
 subst hu
 let ow':Nat→Option Nat:=fun x=>if ow x=some m∨ow x=some z then some z2 else ow x
 have hFr:wJ S w0 L k b (r.cap m) w:=⟨hkc,fun x hx=>(hz0 x hx).2,fun j v hj=>by
  obtain⟨y,y1,y2⟩:=c4.get j v hj
  have hlt:j < L.length:=(List.getElem?_eq_some_iff.1 hj).1
  rw [List.getElem?_take,if_pos hlt] at y1
  exact⟨y,by rw [cell_of c3];simpa using y1,r,y2⟩⟩
 refine⟨⟨(b,r.cap m,w),hFr⟩,r.one z2 .nilIface,ow',hle,⟨fun x c hx=> ?_,fun x n hb=> ?_,fun x n hb=> ?_⟩,m7 h1 h2,fun x n hb=> ?_,fun x hb=> ?_,fun us h=>h.mono hle⟩
 · have hneT:∀x,ow x=some nT→¬(ow x=some m∨ow x=some z):=fun x hx=>by
    rw [hx];rintro (q|q) <;> cases q <;> first|exact hnm rfl|exact hnz rfl
   rcases hH _ x c hx with⟨rfl,rfl⟩|⟨rfl,rfl⟩|⟨q1,q2,q3,q4⟩
   · intro y hy
     refine⟨?_,rfl⟩
     show(if _ then _ else _)=_
     rcases List.mem_cons.1 hy with rfl|hy
     · rw [if_pos (.inl c2)]
     · rw [if_pos (.inr (hz0 y hy).1)]
   · refine⟨bT,cT,t1,?_,t3,?_,by rw [List.length_set];exact t5,t6⟩
     · show(if _ then _ else _)=_
       rw [if_neg (hneT bT t2)];exact t2
     · have:=(t4.mono hle).set (x:= .slice (some ⟨b,0,some K⟩) k (r.cap m)) (y:= .slice (some ⟨b,0,none⟩) k (r.cap m)) (.litSlice hkc (.inl rfl)) p
       rw [List.length_set]
       have e2:(cT.toList.take l.length).set p (.slice (some ⟨b,0,none⟩) k (r.cap m))=cT.toList.take l.length:=by
        apply List.ext_getElem?
        intro i
        rw [List.getElem?_set]
        split
        · rename_i q;subst q
          split
          · exact d1.symm
          · rename_i q;rw [List.getElem?_eq_none (by omega)] at d1;cases d1
        · rfl
       rw [e2] at this;exact this
   · refine Chunk.cR (w:=w) (ow:=ow) (fun _ _=>rfl) (fun y=> ?_) (Chunk.dX hle (hs.chunk x c q4))
     show(if ow y=some m∨ow y=some z then some z2 else ow y)=some x ↔ ow y=some x
     by_cases q:ow y=some m∨ow y=some z
     · rw [if_pos q]
       refine⟨fun e=>absurd (Option.some.inj e).symm q2,fun e=> ?_⟩
       rcases q with q|q <;> rw [q] at e <;> cases e
       · exact absurd rfl q3
       · exact absurd rfl q1
     · rw [if_neg q]
 · change (if ow x=some m∨ow x=some z then some z2 else ow x)=some n at hb
   by_cases q:ow x=some m∨ow x=some z
   · rcases q with q|q <;> exact hs.bound x _ q
   · rw [if_neg q] at hb;exact hs.bound x n hb
 · change (if ow x=some m∨ow x=some z then some z2 else ow x)=some n at hb
   by_cases q:ow x=some m∨ow x=some z
   · rw [if_pos q] at hb;cases hb
     exact .inr (by show(if z2=z2 then _ else _)≠_;rw [if_pos rfl];simp)
   · rw [if_neg q] at hb;exact hle.known (hs.known x n hb)
 · change (if ow x=some m∨ow x=some z then some z2 else ow x)=some n at hb
   by_cases q:ow x=some m∨ow x=some z
   · rw [if_pos q] at hb;cases hb;exact .inr ⟨h1,h2⟩
   · rw [if_neg q] at hb;exact .inl ⟨x,hb⟩
 · show(if _ then _ else _)=_
   rw [if_neg (by rw [hb];simp)];exact hb
theorem EE {c c' m:Nat}{H:Heap}{T:List Value}{H':World→Heap} (h1:c≤m) (h2:m < c') (hH:∀w k x,(H' w).get k=some x→(k=m∧x= .froz [] w)∨H.get k=some x):Conv P (I:=World) c c' H T H' (fun _=>T):=by
 refine⟨fun r ow w hs hf=> ?_⟩
 have hm:=hf m h1 h2
 refine⟨w,r.one m .nilIface,ow,one_le hm,⟨fun k x hx=> ?_,hs.bound,fun b k hb=>(one_le hm).known (hs.known b k hb)⟩,m7 h1 h2,fun b k hb=> .inl ⟨b,hb⟩,fun _ h=>h,fun us h=>h.mono (one_le hm)⟩
 rcases hH w k x hx with⟨rfl,rfl⟩|hk
 · exact fun y hy=>by cases hy
 · exact Chunk.dX (one_le hm) (hs.chunk k x hk)
def pW (v:Value):Prop:=∀r r2 u,Rel r v u→Rel r2 v u
theorem uI (k:IntKind) (n:Int):pW (.int k n):=fun _ _ _ h=>by cases h;exact .int _ _
theorem pC (b:Bool):pW (.bool b):=fun _ _ _ h=>by cases h;exact .bool _
theorem jF (s:ByteArray):pW (.string s):=fun _ _ _ h=>by cases h;exact .string _
theorem vr:pW (.slice none 0 0):=fun _ _ _ h=>by cases h;exact .sliceNil
theorem wJ.cells {S:List Nat}{w0:World}{L:List Value}{k b c:Nat}{w:World} (h:wJ S w0 L k b c w) {off:Nat}{vs:List Value} (hv:∀(j:Nat) v,vs[j]? =some v→L[off+j]? =some v∧pW v):dz (b::S) w b off vs:=
 ⟨List.mem_cons_self,fun j v hj=>by
  obtain⟨h1,h2⟩:=hv j v hj
  obtain⟨u,q1,r,q2⟩:=h.cell _ v h1
  exact⟨u,q1,fun r'=>h2 r r' u q2⟩⟩
theorem wJ.aq {S:List Nat}{w0:World}{L:List Value}{k b c:Nat}{w:World} (h:wJ S w0 L k b c w) {x off:Nat}{vs:List Value} (hc:dz S w0 x off vs):dz (b::S) w x off vs:=
 ⟨List.mem_cons_of_mem _ hc.1,fun j v hj=>by
  obtain⟨u,q1,q2⟩:=hc.2 j v hj
  refine⟨u,?_,q2⟩
  have:=h.old x hc.1
  rw [←q1];simp [World.cell?,this]⟩
end Go.Sx
