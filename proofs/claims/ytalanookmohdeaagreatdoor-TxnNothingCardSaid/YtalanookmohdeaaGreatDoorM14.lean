/- TxnNothing: the walk. No condition. -/
import Derived.Test.YtalanookmohdeaaGreatDoorM13
import Derived.Test.YtalanookmohdeaaGreatDoorM7
namespace Go.Proofs.YtalanookmohdeaaGreatDoor
open Go.Sx
theorem jq {os:List Rt}{r:Rt}{nm:Nat→Option Nat}:aj (aa (os++ [r])) ((aa os++ [Value.string r.1,Value.string r.2]).map (ao nm 9)):=by
 rw [show aa os++ [Value.string r.1,Value.string r.2]=aa (os++ [r]) from(aI os [r]).symm];exact aV
noncomputable def fu:Code:=bD [1,1,1,0,1,0,0] (bA 91)
def dx (rs:List Rt) (low high:ByteArray) (unb:Bool) (limit:Int) (o:Value) (m:Heap):Heap:= [(0,.cells (aa rs) 64),(1,.cells [.string low,.string high,.bool unb] 32),(2,.cells [.int .i64 limit] 3),(3,.cells [o] 38)]++m
noncomputable def dS (rs:List Rt) (rev:Bool) (i:Int):List Value:=ay 35 0 [(0,.slice (some ⟨0,0,none⟩) rs.length 0),(3,.bool rev),(8,.slice none 0 0),(9,.pointer (some ⟨3,0,none⟩)),(10,.func (.func 118) ⟨[]⟩ ⟨[.pointer (some ⟨1,0,none⟩),.pointer (some ⟨3,0,none⟩),.pointer (some ⟨2,0,none⟩)]⟩),(15,.int .i64 rs.length),(16,.int .i64 i)]
abbrev sQ (rs:List Rt) (rev:Bool) (i:Nat):List Value:=ay 35 0 [(0,sL 0 rs.length),(3,.bool rev),(8,sN),(9,pT 3),(10,.func (.func 118) ⟨[]⟩ ⟨[pT 1,pT 3,pT 2]⟩),(15,iI rs.length),(16,iI ((i:Int)))]
abbrev rf (rs:List Rt) (i:Nat):Nat×eA:=(3,.cell (.tuple ⟨[Value.string (rat rs ((0+i*2) / 2)).fst,Value.string (rat rs ((0+i*2) / 2)).snd]⟩))
abbrev j4 (os:List Rt):Heap:= [(4,.cells (aa os) 64)]
abbrev zH:List (Nat×Bool):= [(0,true),(1,false),(2,false),(3,false),(4,true)]
abbrev C8:List (Nat×Bool):= [(0,true),(1,false),(2,false),(3,false),(7,false)]
abbrev CD:List (Nat×Bool):= [(0,true),(1,false),(2,false),(3,false),(7,true)]
abbrev Af:List (Nat×Bool):= [(0,true),(1,false),(2,false),(3,false)]
abbrev CJ (os:List Rt):Nat×eA:=(14,.cell (.tuple ⟨aa os⟩))
abbrev N5 (rs:List Rt) (i:Nat):List Value:= [Value.string (rat rs ((0+i*2) / 2)).1,Value.string (rat rs ((0+i*2) / 2)).2]
abbrev Ct (os rs:List Rt) (i:Nat):List Value:=aa (os++ [rat rs ((0+i*2) / 2)])
section
set_option maxRecDepth 100000
set_option linter.unusedSectionVars false
variable {os rs:List Rt}{low high:ByteArray}{unb rev:Bool}{limit:Int}{i:Nat}
variable (k0:(decide ((i:Int) < (rs.length:Int)))=true)(k1:(rev)=true)(k2:(decide ((0:Int)≤IntKind.i64.wrap (IntKind.i64.wrap ((rs.length:Int) - 1) - (i:Int))∧IntKind.i64.wrap (IntKind.i64.wrap ((rs.length:Int) - 1) - (i:Int)) < (rs.length:Int)))=true)(k3:(low.data.toList.length.ble 4294967295 && (rat rs ((0+(IntKind.i64.wrap (IntKind.i64.wrap ((rs.length:Int) - 1) - (i:Int))).toNat*2) / 2)).fst.data.toList.length.ble 4294967295)=true)(k4:(qY low high unb (rat rs ((0+(IntKind.i64.wrap (IntKind.i64.wrap ((rs.length:Int) - 1) - (i:Int))).toNat*2) / 2)).fst)=true)(k5:(qY low high unb (rat rs ((0+(IntKind.i64.wrap (IntKind.i64.wrap ((rs.length:Int) - 1) - (i:Int))).toNat*2) / 2)).fst)=false)(k6:(rev)=false)(k7:(decide (0≤(i:Int)∧(i:Int) < (rs.length:Int)))=true)(k8:(low.data.toList.length.ble 4294967295 && (rat rs ((0+i*2) / 2)).fst.data.toList.length.ble 4294967295)=true)(k9:(qY low high unb (rat rs ((0+i*2) / 2)).fst)=true)(k10:(qY low high unb (rat rs ((0+i*2) / 2)).fst)=false)(k11:(decide ((i:Int) < (rs.length:Int)))=false)(k12:(bz (os.length+1) 32)=true)(k13:(decide (limit < 1))=false)(k14:(!decide ((0:Int) < limit))=false)(k15:(!decide ((0:Int) < limit))=true)(k16:(!decide ((1:Int) < limit))=false)(k17:(!decide ((1:Int) < limit))=true)(k18:(decide (limit < 1))=true)(k19:(!decide ((↑(os.length+1):Int) < limit))=true)(k20:(!decide ((↑(os.length+1):Int) < limit))=false)(k21:(!decide ((os.length:Int) < limit))=true)(k22:(!decide ((os.length:Int) < limit))=false)(k23:List.take 2 (List.drop (0+i*2) (aa rs))= [Value.string (rat rs ((0+i*2) / 2)).fst,Value.string (rat rs ((0+i*2) / 2)).snd]∧ [Value.string (rat rs ((0+i*2) / 2)).fst,Value.string (rat rs ((0+i*2) / 2)).snd].length=2)(k24:List.take 2 (List.drop (0+(IntKind.i64.wrap (IntKind.i64.wrap ((rs.length:Int) - 1) - (i:Int))).toNat*2) (aa rs))= [Value.string (rat rs ((0+(IntKind.i64.wrap (IntKind.i64.wrap ((rs.length:Int) - 1) - (i:Int))).toNat*2) / 2)).fst,Value.string (rat rs ((0+(IntKind.i64.wrap (IntKind.i64.wrap ((rs.length:Int) - 1) - (i:Int))).toNat*2) / 2)).snd]∧ [Value.string (rat rs ((0+(IntKind.i64.wrap (IntKind.i64.wrap ((rs.length:Int) - 1) - (i:Int))).toNat*2) / 2)).fst,Value.string (rat rs ((0+(IntKind.i64.wrap (IntKind.i64.wrap ((rs.length:Int) - 1) - (i:Int))).toNat*2) / 2)).snd].length=2)(k25:List.take (os.length*2) (List.drop 0 (aa os))=aa os∧(aa os).length=os.length*2)
include k0 k1 k2 k3 k4 k18 k24 in
theorem Sf {os:List Rt}:Sx.bX Tryz.prog 4 5 30 (dx rs low high unb limit sN []) fu (dS rs rev i) (dx rs low high unb limit (sL 4 1) [(4,.cells (aa [rat rs ((0+(IntKind.i64.wrap (IntKind.i64.wrap ((rs.length:Int) - 1) - (i:Int))).toNat*2) / 2)]) 64)]) (ay 35 0 [(0,sL 0 rs.length),(3,.bool rev),(8,sN),(9,pT 3),(10,.func (.func 118) ⟨[]⟩ ⟨[pT 1,pT 3,pT 2]⟩),(15,iI rs.length),(16,iI (IntKind.i64.wrap ((i:Int)+1)))]):=
 bc mixed aA [(4,7)] C8 (d:=aT [0,1,2,8,9,17,18,19,20,21] [(3,.cell (.tuple ⟨[Value.string (rat rs ((0+(IntKind.i64.wrap (IntKind.i64.wrap ((rs.length:Int) - 1) - (i:Int))).toNat*2) / 2)).fst,Value.string (rat rs ((0+(IntKind.i64.wrap (IntKind.i64.wrap ((rs.length:Int) - 1) - (i:Int))).toNat*2) / 2)).snd]⟩))]) (n:=600) (c2:=8) (L':= [.p (aj (aa rs) ((aa rs).map (ao (nameOf [(4,7)] 4 30) 9)))]) (by kernel_rfl) rfl rfl (ag aV af) (a7 k18 (vB k4 (vC k3 (vP k24 (vC k2 (vB k1 (vB k0 vN)))))))
include k0 k1 k2 k3 k4 k13 k17 k24 in
theorem SN {os:List Rt}:Sx.Ends Tryz.prog 4 5 30 (dx rs low high unb limit sN []) fu (dS rs rev i) (.exit 0) (dx rs low high unb limit (sL 4 1) [(4,.cells (aa [rat rs ((0+(IntKind.i64.wrap (IntKind.i64.wrap ((rs.length:Int) - 1) - (i:Int))).toNat*2) / 2)]) 64)]) (sQ rs rev i):=
 bL mixed aA [(4,7)] C8 (d:=aT [0,1,2,8,9,24] (aF [17,19,20,22,23] [(3,.cell (.tuple ⟨[Value.string (rat rs ((0+(IntKind.i64.wrap (IntKind.i64.wrap ((rs.length:Int) - 1) - (i:Int))).toNat*2) / 2)).fst,Value.string (rat rs ((0+(IntKind.i64.wrap (IntKind.i64.wrap ((rs.length:Int) - 1) - (i:Int))).toNat*2) / 2)).snd]⟩))])) (n:=600) (c2:=8) (L':= [.p (aj (aa rs) ((aa rs).map (ao (nameOf [(4,7)] 4 30) 9)))]) (by kernel_rfl) rfl rfl (ag aV af) (vB k17 (a7 k13 (vB k4 (vC k3 (vP k24 (vC k2 (vB k1 (vB k0 vN))))))))
include k0 k1 k2 k3 k4 k13 k16 k24 in
theorem QX {os:List Rt}:Sx.bX Tryz.prog 4 5 30 (dx rs low high unb limit sN []) fu (dS rs rev i) (dx rs low high unb limit (sL 4 1) [(4,.cells (aa [rat rs ((0+(IntKind.i64.wrap (IntKind.i64.wrap ((rs.length:Int) - 1) - (i:Int))).toNat*2) / 2)]) 64)]) (ay 35 0 [(0,sL 0 rs.length),(3,.bool rev),(8,sN),(9,pT 3),(10,.func (.func 118) ⟨[]⟩ ⟨[pT 1,pT 3,pT 2]⟩),(15,iI rs.length),(16,iI (IntKind.i64.wrap ((i:Int)+1)))]):=
 bc mixed aA [(4,7)] C8 (d:=aT [0,1,2,8,9] (aF [17,19,20,22,23,24] [(3,.cell (.tuple ⟨[Value.string (rat rs ((0+(IntKind.i64.wrap (IntKind.i64.wrap ((rs.length:Int) - 1) - (i:Int))).toNat*2) / 2)).fst,Value.string (rat rs ((0+(IntKind.i64.wrap (IntKind.i64.wrap ((rs.length:Int) - 1) - (i:Int))).toNat*2) / 2)).snd]⟩))])) (n:=600) (c2:=8) (L':= [.p (aj (aa rs) ((aa rs).map (ao (nameOf [(4,7)] 4 30) 9)))]) (by kernel_rfl) rfl rfl (ag aV af) (vB k16 (a7 k13 (vB k4 (vC k3 (vP k24 (vC k2 (vB k1 (vB k0 vN))))))))
include k0 k1 k2 k3 k5 k18 k24 in
theorem QJ {os:List Rt}:Sx.bX Tryz.prog 4 5 30 (dx rs low high unb limit sN []) fu (dS rs rev i) (dx rs low high unb limit sN []) (ay 35 0 [(0,sL 0 rs.length),(3,.bool rev),(8,sN),(9,pT 3),(10,.func (.func 118) ⟨[]⟩ ⟨[pT 1,pT 3,pT 2]⟩),(15,iI rs.length),(16,iI (IntKind.i64.wrap ((i:Int)+1)))]):=
 bc mixed aA [] Af (d:=aT [0,1,2,8,11,12,13,14,15] (aF [9] [(3,.cell (.tuple ⟨[Value.string (rat rs ((0+(IntKind.i64.wrap (IntKind.i64.wrap ((rs.length:Int) - 1) - (i:Int))).toNat*2) / 2)).fst,Value.string (rat rs ((0+(IntKind.i64.wrap (IntKind.i64.wrap ((rs.length:Int) - 1) - (i:Int))).toNat*2) / 2)).snd]⟩))])) (n:=600) (c2:=6) (L':= [.p (aj (aa rs) ((aa rs).map (ao (nameOf [] 4 30) 9)))]) (by kernel_rfl) rfl rfl (ag aV af) (a7 k18 (vB k5 (vC k3 (vP k24 (vC k2 (vB k1 (vB k0 vN)))))))
include k0 k1 k2 k3 k5 k13 k15 k24 in
theorem Sl {os:List Rt}:Sx.Ends Tryz.prog 4 5 30 (dx rs low high unb limit sN []) fu (dS rs rev i) (.exit 0) (dx rs low high unb limit sN []) (sQ rs rev i):=
 bL mixed aA [] Af (d:=aT [0,1,2,8,18] (aF [9,11,13,14,16,17] [(3,.cell (.tuple ⟨[Value.string (rat rs ((0+(IntKind.i64.wrap (IntKind.i64.wrap ((rs.length:Int) - 1) - (i:Int))).toNat*2) / 2)).fst,Value.string (rat rs ((0+(IntKind.i64.wrap (IntKind.i64.wrap ((rs.length:Int) - 1) - (i:Int))).toNat*2) / 2)).snd]⟩))])) (n:=600) (c2:=6) (L':= [.p (aj (aa rs) ((aa rs).map (ao (nameOf [] 4 30) 9)))]) (by kernel_rfl) rfl rfl (ag aV af) (vB k15 (a7 k13 (vB k5 (vC k3 (vP k24 (vC k2 (vB k1 (vB k0 vN))))))))
include k0 k1 k2 k3 k5 k13 k14 k24 in
theorem Rx {os:List Rt}:Sx.bX Tryz.prog 4 5 30 (dx rs low high unb limit sN []) fu (dS rs rev i) (dx rs low high unb limit sN []) (ay 35 0 [(0,sL 0 rs.length),(3,.bool rev),(8,sN),(9,pT 3),(10,.func (.func 118) ⟨[]⟩ ⟨[pT 1,pT 3,pT 2]⟩),(15,iI rs.length),(16,iI (IntKind.i64.wrap ((i:Int)+1)))]):=
 bc mixed aA [] Af (d:=aT [0,1,2,8] (aF [9,11,13,14,16,17,18] [(3,.cell (.tuple ⟨[Value.string (rat rs ((0+(IntKind.i64.wrap (IntKind.i64.wrap ((rs.length:Int) - 1) - (i:Int))).toNat*2) / 2)).fst,Value.string (rat rs ((0+(IntKind.i64.wrap (IntKind.i64.wrap ((rs.length:Int) - 1) - (i:Int))).toNat*2) / 2)).snd]⟩))])) (n:=600) (c2:=6) (L':= [.p (aj (aa rs) ((aa rs).map (ao (nameOf [] 4 30) 9)))]) (by kernel_rfl) rfl rfl (ag aV af) (vB k14 (a7 k13 (vB k5 (vC k3 (vP k24 (vC k2 (vB k1 (vB k0 vN))))))))
include k0 k6 k7 k8 k9 k18 k23 in
theorem QD {os:List Rt}:Sx.bX Tryz.prog 4 5 30 (dx rs low high unb limit sN []) fu (dS rs rev i) (dx rs low high unb limit (sL 4 1) [(4,.cells (aa [rat rs ((0+i*2) / 2)]) 64)]) (ay 35 0 [(0,sL 0 rs.length),(3,.bool rev),(8,sN),(9,pT 3),(10,.func (.func 118) ⟨[]⟩ ⟨[pT 1,pT 3,pT 2]⟩),(15,iI rs.length),(16,iI (IntKind.i64.wrap ((i:Int)+1)))]):=
 bc mixed aA [(4,7)] C8 (d:=aT [0,2,8,9,17,18,19,20,21] (aF [1] [(rf rs i)])) (n:=600) (c2:=8) (L':= [.p (aj (aa rs) ((aa rs).map (ao (nameOf [(4,7)] 4 30) 9)))]) (by kernel_rfl) rfl rfl (ag aV af) (a7 k18 (vB k9 (vC k8 (vP k23 (vC k7 (vB k6 (vB k0 vN)))))))
include k0 k6 k7 k8 k9 k13 k17 k23 in
theorem Tp {os:List Rt}:Sx.Ends Tryz.prog 4 5 30 (dx rs low high unb limit sN []) fu (dS rs rev i) (.exit 0) (dx rs low high unb limit (sL 4 1) [(4,.cells (aa [rat rs ((0+i*2) / 2)]) 64)]) (sQ rs rev i):=
 bL mixed aA [(4,7)] C8 (d:=aT [0,2,8,9,24] (aF [1,17,19,20,22,23] [(rf rs i)])) (n:=600) (c2:=8) (L':= [.p (aj (aa rs) ((aa rs).map (ao (nameOf [(4,7)] 4 30) 9)))]) (by kernel_rfl) rfl rfl (ag aV af) (vB k17 (a7 k13 (vB k9 (vC k8 (vP k23 (vC k7 (vB k6 (vB k0 vN))))))))
include k0 k6 k7 k8 k9 k13 k16 k23 in
theorem SB {os:List Rt}:Sx.bX Tryz.prog 4 5 30 (dx rs low high unb limit sN []) fu (dS rs rev i) (dx rs low high unb limit (sL 4 1) [(4,.cells (aa [rat rs ((0+i*2) / 2)]) 64)]) (ay 35 0 [(0,sL 0 rs.length),(3,.bool rev),(8,sN),(9,pT 3),(10,.func (.func 118) ⟨[]⟩ ⟨[pT 1,pT 3,pT 2]⟩),(15,iI rs.length),(16,iI (IntKind.i64.wrap ((i:Int)+1)))]):=
 bc mixed aA [(4,7)] C8 (d:=aT [0,2,8,9] (aF [1,17,19,20,22,23,24] [(rf rs i)])) (n:=600) (c2:=8) (L':= [.p (aj (aa rs) ((aa rs).map (ao (nameOf [(4,7)] 4 30) 9)))]) (by kernel_rfl) rfl rfl (ag aV af) (vB k16 (a7 k13 (vB k9 (vC k8 (vP k23 (vC k7 (vB k6 (vB k0 vN))))))))
include k0 k6 k7 k8 k10 k18 k23 in
theorem Tk {os:List Rt}:Sx.bX Tryz.prog 4 5 30 (dx rs low high unb limit sN []) fu (dS rs rev i) (dx rs low high unb limit sN []) (ay 35 0 [(0,sL 0 rs.length),(3,.bool rev),(8,sN),(9,pT 3),(10,.func (.func 118) ⟨[]⟩ ⟨[pT 1,pT 3,pT 2]⟩),(15,iI rs.length),(16,iI (IntKind.i64.wrap ((i:Int)+1)))]):=
 bc mixed aA [] Af (d:=aT [0,2,8,11,12,13,14,15] (aF [1,9] [(rf rs i)])) (n:=600) (c2:=6) (L':= [.p (aj (aa rs) ((aa rs).map (ao (nameOf [] 4 30) 9)))]) (by kernel_rfl) rfl rfl (ag aV af) (a7 k18 (vB k10 (vC k8 (vP k23 (vC k7 (vB k6 (vB k0 vN)))))))
include k0 k6 k7 k8 k10 k13 k15 k23 in
theorem PS {os:List Rt}:Sx.Ends Tryz.prog 4 5 30 (dx rs low high unb limit sN []) fu (dS rs rev i) (.exit 0) (dx rs low high unb limit sN []) (sQ rs rev i):=
 bL mixed aA [] Af (d:=aT [0,2,8,18] (aF [1,9,11,13,14,16,17] [(rf rs i)])) (n:=600) (c2:=6) (L':= [.p (aj (aa rs) ((aa rs).map (ao (nameOf [] 4 30) 9)))]) (by kernel_rfl) rfl rfl (ag aV af) (vB k15 (a7 k13 (vB k10 (vC k8 (vP k23 (vC k7 (vB k6 (vB k0 vN))))))))
include k0 k6 k7 k8 k10 k13 k14 k23 in
theorem Oj {os:List Rt}:Sx.bX Tryz.prog 4 5 30 (dx rs low high unb limit sN []) fu (dS rs rev i) (dx rs low high unb limit sN []) (ay 35 0 [(0,sL 0 rs.length),(3,.bool rev),(8,sN),(9,pT 3),(10,.func (.func 118) ⟨[]⟩ ⟨[pT 1,pT 3,pT 2]⟩),(15,iI rs.length),(16,iI (IntKind.i64.wrap ((i:Int)+1)))]):=
 bc mixed aA [] Af (d:=aT [0,2,8] (aF [1,9,11,13,14,16,17,18] [(rf rs i)])) (n:=600) (c2:=6) (L':= [.p (aj (aa rs) ((aa rs).map (ao (nameOf [] 4 30) 9)))]) (by kernel_rfl) rfl rfl (ag aV af) (vB k14 (a7 k13 (vB k10 (vC k8 (vP k23 (vC k7 (vB k6 (vB k0 vN))))))))
include k11 in
theorem O6 {os:List Rt}:Sx.Ends Tryz.prog 4 5 30 (dx rs low high unb limit sN []) fu (dS rs rev i) (.exit 0) (dx rs low high unb limit sN []) (sQ rs rev i):=
 bL mixed aA [] Af (d:=aF [0] []) (n:=600) (c2:=5) (L':= [.p (aj (aa rs) ((aa rs).map (ao (nameOf [] 4 30) 9)))]) (by kernel_rfl) rfl rfl (ag aV af) (vB k11 vN)
include k0 k1 k2 k3 k4 k12 k18 k24 k25 in
theorem R4:Sx.bX Tryz.prog 4 5 30 (dx rs low high unb limit (sL 4 os.length) (j4 os)) fu (dS rs rev i) (dx rs low high unb limit (sL 4 (os.length+1)) [(4,.cells (aa (os++ [rat rs ((0+(IntKind.i64.wrap (IntKind.i64.wrap ((rs.length:Int) - 1) - (i:Int))).toNat*2) / 2)])) 64)]) (ay 35 0 [(0,sL 0 rs.length),(3,.bool rev),(8,sN),(9,pT 3),(10,.func (.func 118) ⟨[]⟩ ⟨[pT 1,pT 3,pT 2]⟩),(15,iI rs.length),(16,iI (IntKind.i64.wrap ((i:Int)+1)))]):=
 bc mixed aA [(4,7)] CD (d:=aT [0,1,2,8,9,15,18,19,20,21,22] [(3,.cell (.tuple ⟨[Value.string (rat rs ((0+(IntKind.i64.wrap (IntKind.i64.wrap ((rs.length:Int) - 1) - (i:Int))).toNat*2) / 2)).fst,Value.string (rat rs ((0+(IntKind.i64.wrap (IntKind.i64.wrap ((rs.length:Int) - 1) - (i:Int))).toNat*2) / 2)).snd]⟩)),(CJ os)]) (n:=600) (c2:=8) (L':= [.p (aj (aa rs) ((aa rs).map (ao (nameOf [(4,7)] 4 30) 9))),.p (aj (aa (os++ [rat rs ((0+(IntKind.i64.wrap (IntKind.i64.wrap ((rs.length:Int) - 1) - (i:Int))).toNat*2) / 2)])) ((aa os++ [Value.string (rat rs ((0+(IntKind.i64.wrap (IntKind.i64.wrap ((rs.length:Int) - 1) - (i:Int))).toNat*2) / 2)).1,Value.string (rat rs ((0+(IntKind.i64.wrap (IntKind.i64.wrap ((rs.length:Int) - 1) - (i:Int))).toNat*2) / 2)).2]).map (ao (nameOf [(4,7)] 4 30) 9)))]) (by kernel_rfl) rfl rfl (ag aV (ag jq af)) (a7 k18 (vC k12 (vP k25 (vB k4 (vC k3 (vP k24 (vC k2 (vB k1 (vB k0 vN)))))))))
include k0 k1 k2 k3 k4 k12 k13 k19 k24 k25 in
theorem Rv:Sx.Ends Tryz.prog 4 5 30 (dx rs low high unb limit (sL 4 os.length) (j4 os)) fu (dS rs rev i) (.exit 0) (dx rs low high unb limit (sL 4 (os.length+1)) [(4,.cells (aa (os++ [rat rs ((0+(IntKind.i64.wrap (IntKind.i64.wrap ((rs.length:Int) - 1) - (i:Int))).toNat*2) / 2)])) 64)]) (sQ rs rev i):=
 bL mixed aA [(4,7)] CD (d:=aT [0,1,2,8,9,15,25] (aF [18,20,21,23,24] [(3,.cell (.tuple ⟨[Value.string (rat rs ((0+(IntKind.i64.wrap (IntKind.i64.wrap ((rs.length:Int) - 1) - (i:Int))).toNat*2) / 2)).fst,Value.string (rat rs ((0+(IntKind.i64.wrap (IntKind.i64.wrap ((rs.length:Int) - 1) - (i:Int))).toNat*2) / 2)).snd]⟩)),(CJ os)])) (n:=600) (c2:=8) (L':= [.p (aj (aa rs) ((aa rs).map (ao (nameOf [(4,7)] 4 30) 9))),.p (aj (aa (os++ [rat rs ((0+(IntKind.i64.wrap (IntKind.i64.wrap ((rs.length:Int) - 1) - (i:Int))).toNat*2) / 2)])) ((aa os++ [Value.string (rat rs ((0+(IntKind.i64.wrap (IntKind.i64.wrap ((rs.length:Int) - 1) - (i:Int))).toNat*2) / 2)).1,Value.string (rat rs ((0+(IntKind.i64.wrap (IntKind.i64.wrap ((rs.length:Int) - 1) - (i:Int))).toNat*2) / 2)).2]).map (ao (nameOf [(4,7)] 4 30) 9)))]) (by kernel_rfl) rfl rfl (ag aV (ag jq af)) (vB k19 (a7 k13 (vC k12 (vP k25 (vB k4 (vC k3 (vP k24 (vC k2 (vB k1 (vB k0 vN))))))))))
include k0 k1 k2 k3 k4 k12 k13 k20 k24 k25 in
theorem Qz:Sx.bX Tryz.prog 4 5 30 (dx rs low high unb limit (sL 4 os.length) (j4 os)) fu (dS rs rev i) (dx rs low high unb limit (sL 4 (os.length+1)) [(4,.cells (aa (os++ [rat rs ((0+(IntKind.i64.wrap (IntKind.i64.wrap ((rs.length:Int) - 1) - (i:Int))).toNat*2) / 2)])) 64)]) (ay 35 0 [(0,sL 0 rs.length),(3,.bool rev),(8,sN),(9,pT 3),(10,.func (.func 118) ⟨[]⟩ ⟨[pT 1,pT 3,pT 2]⟩),(15,iI rs.length),(16,iI (IntKind.i64.wrap ((i:Int)+1)))]):=
 bc mixed aA [(4,7)] CD (d:=aT [0,1,2,8,9,15] (aF [18,20,21,23,24,25] [(3,.cell (.tuple ⟨[Value.string (rat rs ((0+(IntKind.i64.wrap (IntKind.i64.wrap ((rs.length:Int) - 1) - (i:Int))).toNat*2) / 2)).fst,Value.string (rat rs ((0+(IntKind.i64.wrap (IntKind.i64.wrap ((rs.length:Int) - 1) - (i:Int))).toNat*2) / 2)).snd]⟩)),(CJ os)])) (n:=600) (c2:=8) (L':= [.p (aj (aa rs) ((aa rs).map (ao (nameOf [(4,7)] 4 30) 9))),.p (aj (aa (os++ [rat rs ((0+(IntKind.i64.wrap (IntKind.i64.wrap ((rs.length:Int) - 1) - (i:Int))).toNat*2) / 2)])) ((aa os++ [Value.string (rat rs ((0+(IntKind.i64.wrap (IntKind.i64.wrap ((rs.length:Int) - 1) - (i:Int))).toNat*2) / 2)).1,Value.string (rat rs ((0+(IntKind.i64.wrap (IntKind.i64.wrap ((rs.length:Int) - 1) - (i:Int))).toNat*2) / 2)).2]).map (ao (nameOf [(4,7)] 4 30) 9)))]) (by kernel_rfl) rfl rfl (ag aV (ag jq af)) (vB k20 (a7 k13 (vC k12 (vP k25 (vB k4 (vC k3 (vP k24 (vC k2 (vB k1 (vB k0 vN))))))))))
include k0 k1 k2 k3 k5 k18 k24 in
theorem Tr:Sx.bX Tryz.prog 4 5 30 (dx rs low high unb limit (sL 4 os.length) (j4 os)) fu (dS rs rev i) (dx rs low high unb limit (sL 4 os.length) (j4 os)) (ay 35 0 [(0,sL 0 rs.length),(3,.bool rev),(8,sN),(9,pT 3),(10,.func (.func 118) ⟨[]⟩ ⟨[pT 1,pT 3,pT 2]⟩),(15,iI rs.length),(16,iI (IntKind.i64.wrap ((i:Int)+1)))]):=
 bc mixed aA [(4,4)] zH (d:=aT [0,1,2,8,11,12,13,14,15] (aF [9] [(3,.cell (.tuple ⟨[Value.string (rat rs ((0+(IntKind.i64.wrap (IntKind.i64.wrap ((rs.length:Int) - 1) - (i:Int))).toNat*2) / 2)).fst,Value.string (rat rs ((0+(IntKind.i64.wrap (IntKind.i64.wrap ((rs.length:Int) - 1) - (i:Int))).toNat*2) / 2)).snd]⟩))])) (n:=600) (c2:=6) (L':= [.p (aj (aa rs) ((aa rs).map (ao (nameOf [(4,4)] 4 30) 9))),.p (aj (aa os) ((aa os).map (ao (nameOf [(4,4)] 4 30) 9)))]) (by kernel_rfl) rfl rfl (ag aV (ag aV af)) (a7 k18 (vB k5 (vC k3 (vP k24 (vC k2 (vB k1 (vB k0 vN)))))))
include k0 k1 k2 k3 k5 k13 k21 k24 in
theorem Q1:Sx.Ends Tryz.prog 4 5 30 (dx rs low high unb limit (sL 4 os.length) (j4 os)) fu (dS rs rev i) (.exit 0) (dx rs low high unb limit (sL 4 os.length) (j4 os)) (sQ rs rev i):=
 bL mixed aA [(4,4)] zH (d:=aT [0,1,2,8,18] (aF [9,11,13,14,16,17] [(3,.cell (.tuple ⟨[Value.string (rat rs ((0+(IntKind.i64.wrap (IntKind.i64.wrap ((rs.length:Int) - 1) - (i:Int))).toNat*2) / 2)).fst,Value.string (rat rs ((0+(IntKind.i64.wrap (IntKind.i64.wrap ((rs.length:Int) - 1) - (i:Int))).toNat*2) / 2)).snd]⟩))])) (n:=600) (c2:=6) (L':= [.p (aj (aa rs) ((aa rs).map (ao (nameOf [(4,4)] 4 30) 9))),.p (aj (aa os) ((aa os).map (ao (nameOf [(4,4)] 4 30) 9)))]) (by kernel_rfl) rfl rfl (ag aV (ag aV af)) (vB k21 (a7 k13 (vB k5 (vC k3 (vP k24 (vC k2 (vB k1 (vB k0 vN))))))))
include k0 k1 k2 k3 k5 k13 k22 k24 in
theorem Su:Sx.bX Tryz.prog 4 5 30 (dx rs low high unb limit (sL 4 os.length) (j4 os)) fu (dS rs rev i) (dx rs low high unb limit (sL 4 os.length) (j4 os)) (ay 35 0 [(0,sL 0 rs.length),(3,.bool rev),(8,sN),(9,pT 3),(10,.func (.func 118) ⟨[]⟩ ⟨[pT 1,pT 3,pT 2]⟩),(15,iI rs.length),(16,iI (IntKind.i64.wrap ((i:Int)+1)))]):=
 bc mixed aA [(4,4)] zH (d:=aT [0,1,2,8] (aF [9,11,13,14,16,17,18] [(3,.cell (.tuple ⟨[Value.string (rat rs ((0+(IntKind.i64.wrap (IntKind.i64.wrap ((rs.length:Int) - 1) - (i:Int))).toNat*2) / 2)).fst,Value.string (rat rs ((0+(IntKind.i64.wrap (IntKind.i64.wrap ((rs.length:Int) - 1) - (i:Int))).toNat*2) / 2)).snd]⟩))])) (n:=600) (c2:=6) (L':= [.p (aj (aa rs) ((aa rs).map (ao (nameOf [(4,4)] 4 30) 9))),.p (aj (aa os) ((aa os).map (ao (nameOf [(4,4)] 4 30) 9)))]) (by kernel_rfl) rfl rfl (ag aV (ag aV af)) (vB k22 (a7 k13 (vB k5 (vC k3 (vP k24 (vC k2 (vB k1 (vB k0 vN))))))))
include k0 k6 k7 k8 k9 k12 k18 k23 k25 in
theorem R3:Sx.bX Tryz.prog 4 5 30 (dx rs low high unb limit (sL 4 os.length) (j4 os)) fu (dS rs rev i) (dx rs low high unb limit (sL 4 (os.length+1)) [(4,.cells (Ct os rs i) 64)]) (ay 35 0 [(0,sL 0 rs.length),(3,.bool rev),(8,sN),(9,pT 3),(10,.func (.func 118) ⟨[]⟩ ⟨[pT 1,pT 3,pT 2]⟩),(15,iI rs.length),(16,iI (IntKind.i64.wrap ((i:Int)+1)))]):=
 bc mixed aA [(4,7)] CD (d:=aT [0,2,8,9,15,18,19,20,21,22] (aF [1] [(rf rs i),(CJ os)])) (n:=600) (c2:=8) (L':= [.p (aj (aa rs) ((aa rs).map (ao (nameOf [(4,7)] 4 30) 9))),.p (aj (Ct os rs i) ((aa os++(N5 rs i)).map (ao (nameOf [(4,7)] 4 30) 9)))]) (by kernel_rfl) rfl rfl (ag aV (ag jq af)) (a7 k18 (vC k12 (vP k25 (vB k9 (vC k8 (vP k23 (vC k7 (vB k6 (vB k0 vN)))))))))
include k0 k6 k7 k8 k9 k12 k13 k19 k23 k25 in
theorem QP:Sx.Ends Tryz.prog 4 5 30 (dx rs low high unb limit (sL 4 os.length) (j4 os)) fu (dS rs rev i) (.exit 0) (dx rs low high unb limit (sL 4 (os.length+1)) [(4,.cells (Ct os rs i) 64)]) (sQ rs rev i):=
 bL mixed aA [(4,7)] CD (d:=aT [0,2,8,9,15,25] (aF [1,18,20,21,23,24] [(rf rs i),(CJ os)])) (n:=600) (c2:=8) (L':= [.p (aj (aa rs) ((aa rs).map (ao (nameOf [(4,7)] 4 30) 9))),.p (aj (Ct os rs i) ((aa os++(N5 rs i)).map (ao (nameOf [(4,7)] 4 30) 9)))]) (by kernel_rfl) rfl rfl (ag aV (ag jq af)) (vB k19 (a7 k13 (vC k12 (vP k25 (vB k9 (vC k8 (vP k23 (vC k7 (vB k6 (vB k0 vN))))))))))
include k0 k6 k7 k8 k9 k12 k13 k20 k23 k25 in
theorem SE:Sx.bX Tryz.prog 4 5 30 (dx rs low high unb limit (sL 4 os.length) (j4 os)) fu (dS rs rev i) (dx rs low high unb limit (sL 4 (os.length+1)) [(4,.cells (Ct os rs i) 64)]) (ay 35 0 [(0,sL 0 rs.length),(3,.bool rev),(8,sN),(9,pT 3),(10,.func (.func 118) ⟨[]⟩ ⟨[pT 1,pT 3,pT 2]⟩),(15,iI rs.length),(16,iI (IntKind.i64.wrap ((i:Int)+1)))]):=
 bc mixed aA [(4,7)] CD (d:=aT [0,2,8,9,15] (aF [1,18,20,21,23,24,25] [(rf rs i),(CJ os)])) (n:=600) (c2:=8) (L':= [.p (aj (aa rs) ((aa rs).map (ao (nameOf [(4,7)] 4 30) 9))),.p (aj (Ct os rs i) ((aa os++(N5 rs i)).map (ao (nameOf [(4,7)] 4 30) 9)))]) (by kernel_rfl) rfl rfl (ag aV (ag jq af)) (vB k20 (a7 k13 (vC k12 (vP k25 (vB k9 (vC k8 (vP k23 (vC k7 (vB k6 (vB k0 vN))))))))))
include k0 k6 k7 k8 k10 k18 k23 in
theorem Sb:Sx.bX Tryz.prog 4 5 30 (dx rs low high unb limit (sL 4 os.length) (j4 os)) fu (dS rs rev i) (dx rs low high unb limit (sL 4 os.length) (j4 os)) (ay 35 0 [(0,sL 0 rs.length),(3,.bool rev),(8,sN),(9,pT 3),(10,.func (.func 118) ⟨[]⟩ ⟨[pT 1,pT 3,pT 2]⟩),(15,iI rs.length),(16,iI (IntKind.i64.wrap ((i:Int)+1)))]):=
 bc mixed aA [(4,4)] zH (d:=aT [0,2,8,11,12,13,14,15] (aF [1,9] [(rf rs i)])) (n:=600) (c2:=6) (L':= [.p (aj (aa rs) ((aa rs).map (ao (nameOf [(4,4)] 4 30) 9))),.p (aj (aa os) ((aa os).map (ao (nameOf [(4,4)] 4 30) 9)))]) (by kernel_rfl) rfl rfl (ag aV (ag aV af)) (a7 k18 (vB k10 (vC k8 (vP k23 (vC k7 (vB k6 (vB k0 vN)))))))
include k0 k6 k7 k8 k10 k13 k21 k23 in
theorem Ol:Sx.Ends Tryz.prog 4 5 30 (dx rs low high unb limit (sL 4 os.length) (j4 os)) fu (dS rs rev i) (.exit 0) (dx rs low high unb limit (sL 4 os.length) (j4 os)) (sQ rs rev i):=
 bL mixed aA [(4,4)] zH (d:=aT [0,2,8,18] (aF [1,9,11,13,14,16,17] [(rf rs i)])) (n:=600) (c2:=6) (L':= [.p (aj (aa rs) ((aa rs).map (ao (nameOf [(4,4)] 4 30) 9))),.p (aj (aa os) ((aa os).map (ao (nameOf [(4,4)] 4 30) 9)))]) (by kernel_rfl) rfl rfl (ag aV (ag aV af)) (vB k21 (a7 k13 (vB k10 (vC k8 (vP k23 (vC k7 (vB k6 (vB k0 vN))))))))
include k0 k6 k7 k8 k10 k13 k22 k23 in
theorem Pq:Sx.bX Tryz.prog 4 5 30 (dx rs low high unb limit (sL 4 os.length) (j4 os)) fu (dS rs rev i) (dx rs low high unb limit (sL 4 os.length) (j4 os)) (ay 35 0 [(0,sL 0 rs.length),(3,.bool rev),(8,sN),(9,pT 3),(10,.func (.func 118) ⟨[]⟩ ⟨[pT 1,pT 3,pT 2]⟩),(15,iI rs.length),(16,iI (IntKind.i64.wrap ((i:Int)+1)))]):=
 bc mixed aA [(4,4)] zH (d:=aT [0,2,8] (aF [1,9,11,13,14,16,17,18] [(rf rs i)])) (n:=600) (c2:=6) (L':= [.p (aj (aa rs) ((aa rs).map (ao (nameOf [(4,4)] 4 30) 9))),.p (aj (aa os) ((aa os).map (ao (nameOf [(4,4)] 4 30) 9)))]) (by kernel_rfl) rfl rfl (ag aV (ag aV af)) (vB k22 (a7 k13 (vB k10 (vC k8 (vP k23 (vC k7 (vB k6 (vB k0 vN))))))))
include k11 in
theorem N3:Sx.Ends Tryz.prog 4 5 30 (dx rs low high unb limit (sL 4 os.length) (j4 os)) fu (dS rs rev i) (.exit 0) (dx rs low high unb limit (sL 4 os.length) (j4 os)) (sQ rs rev i):=
 bL mixed aA [(4,4)] zH (d:=aF [0] []) (n:=600) (c2:=5) (L':= [.p (aj (aa rs) ((aa rs).map (ao (nameOf [(4,4)] 4 30) 9))),.p (aj (aa os) ((aa os).map (ao (nameOf [(4,4)] 4 30) 9)))]) (by kernel_rfl) rfl rfl (ag aV (ag aV af)) (vB k11 vN)
end
section
open Go.Sx
def ja (rs:List Rt) (low high:ByteArray) (unb:Bool) (limit:Int):Option (List Rt)→Heap
 |none=>dx rs low high unb limit (.slice none 0 0) []
 |some os=>dx rs low high unb limit (.slice (some ⟨4,0,none⟩) os.length 0) [(4,.cells (aa os) 64)]
def im (i:Nat):Option (List Rt)→Prop
 |none=>True
 |some os=>os≠ []∧os.length≤i∧dC os
theorem eI {rs:List Rt} (h:dC rs) {j:Nat} (hj:j < rs.length):dC [rat rs j]:=fun w hw=>by
 rw [List.mem_singleton] at hw;subst hw
 rw [vg hj];exact h _ (List.getElem_mem hj)
theorem JH {rs os:List Rt}{low high:ByteArray}{unb rev:Bool}{limit:Int}{i:Nat} (hs:dC rs) (hlow:low.data.toList.length.ble 4294967295=true) (hl:rs.length < 100000) (ho:im i none) (hi:i≤rs.length):
  (∃o',im (i+1) o'∧i < rs.length∧Sx.bX Tryz.prog 4 5 30 (ja rs low high unb limit none) fu (dS rs rev i) (ja rs low high unb limit o') (dS rs rev ((i+1:Nat):Int)))∨
  (∃o',im (i+1) o'∧Sx.Ends Tryz.prog 4 5 30 (ja rs low high unb limit none) fu (dS rs rev i) (.exit 0) (ja rs low high unb limit o') (dS rs rev i)):=by
 have hwi:IntKind.i64.wrap ((i:Int)+1)=((i+1:Nat):Int):=by rw [wrap64 (by omega) (by omega)];omega
 have hol:True:=trivial
 by_cases qi:i < rs.length
 · have hw1:IntKind.i64.wrap ((rs.length:Int) - 1)=(rs.length:Int) - 1:=wrap64 (by omega) (by omega)
   have hw2:IntKind.i64.wrap (IntKind.i64.wrap ((rs.length:Int) - 1) - (i:Int))=(rs.length:Int) - 1 - i:=by rw [hw1];exact wrap64 (by omega) (by omega)
   have q0:(decide ((↑i:Int) < (↑rs.length:Int)))=true:=decide_eq_true (by omega)
   cases q1:(rev) with
   |false=>
    have q2:(decide ((0:Int)≤(↑i:Int)∧(↑i:Int) < (↑rs.length:Int)))=true:=decide_eq_true (by omega)
    have q3:(low.data.toList.length.ble (4294967295:Nat) && (rat rs (((0:Nat)+i*(2:Nat)) / (2:Nat))).fst.data.toList.length.ble (4294967295:Nat))=true:=(by rw [Bool.and_eq_true];exact⟨hlow,EF hs _⟩)
    cases q4:(qY low high unb (rat rs (((0:Nat)+i*(2:Nat)) / (2:Nat))).fst) with
    |false=>
     cases q5:(decide (limit < (1:Int))) with
     |false=>
      cases q6:(!decide ((0:Int) < limit)) with
      |false=>
       exact .inl ⟨none,trivial,qi,by have:=Oj (rs:=rs) (os:=os) (low:=low) (high:=high) (unb:=unb) (rev:=false) (limit:=limit) (i:=i) q0 rfl q2 q3 q4 q5 q6 (by exact dg (by omega) (by omega));rw [hwi] at this;exact this⟩
      |true=>
       exact .inr ⟨none,trivial,by have:=PS (rs:=rs) (os:=os) (low:=low) (high:=high) (unb:=unb) (rev:=false) (limit:=limit) (i:=i) q0 rfl q2 q3 q4 q5 q6 (by exact dg (by omega) (by omega));exact this⟩
     |true=>
      exact .inl ⟨none,trivial,qi,by have:=Tk (rs:=rs) (os:=os) (low:=low) (high:=high) (unb:=unb) (rev:=false) (limit:=limit) (i:=i) q0 rfl q2 q3 q4 q5 (by exact dg (by omega) (by omega));rw [hwi] at this;exact this⟩
    |true=>
     cases q5:(decide (limit < (1:Int))) with
     |false=>
      cases q6:(!decide ((1:Int) < limit)) with
      |false=>
       exact .inl ⟨(some [rat rs (((0:Nat)+i*(2:Nat)) / (2:Nat))]),⟨by simp,by simp,eI hs (by omega)⟩,qi,by have:=SB (rs:=rs) (os:=os) (low:=low) (high:=high) (unb:=unb) (rev:=false) (limit:=limit) (i:=i) q0 rfl q2 q3 q4 q5 q6 (by exact dg (by omega) (by omega));rw [hwi] at this;exact this⟩
      |true=>
       exact .inr ⟨(some [rat rs (((0:Nat)+i*(2:Nat)) / (2:Nat))]),⟨by simp,by simp,eI hs (by omega)⟩,by have:=Tp (rs:=rs) (os:=os) (low:=low) (high:=high) (unb:=unb) (rev:=false) (limit:=limit) (i:=i) q0 rfl q2 q3 q4 q5 q6 (by exact dg (by omega) (by omega));exact this⟩
     |true=>
      exact .inl ⟨(some [rat rs (((0:Nat)+i*(2:Nat)) / (2:Nat))]),⟨by simp,by simp,eI hs (by omega)⟩,qi,by have:=QD (rs:=rs) (os:=os) (low:=low) (high:=high) (unb:=unb) (rev:=false) (limit:=limit) (i:=i) q0 rfl q2 q3 q4 q5 (by exact dg (by omega) (by omega));rw [hwi] at this;exact this⟩
   |true=>
    have q2:(decide ((0:Int)≤IntKind.i64.wrap (IntKind.i64.wrap ((↑rs.length:Int) - (1:Int)) - (↑i:Int))∧IntKind.i64.wrap (IntKind.i64.wrap ((↑rs.length:Int) - (1:Int)) - (↑i:Int)) < (↑rs.length:Int)))=true:=decide_eq_true (by omega)
    have q3:(low.data.toList.length.ble (4294967295:Nat) && (rat rs (((0:Nat)+(IntKind.i64.wrap (IntKind.i64.wrap ((↑rs.length:Int) - (1:Int)) - (↑i:Int))).toNat*(2:Nat)) / (2:Nat))).fst.data.toList.length.ble (4294967295:Nat))=true:=(by rw [Bool.and_eq_true];exact⟨hlow,EF hs _⟩)
    cases q4:(qY low high unb (rat rs (((0:Nat)+(IntKind.i64.wrap (IntKind.i64.wrap ((↑rs.length:Int) - (1:Int)) - (↑i:Int))).toNat*(2:Nat)) / (2:Nat))).fst) with
    |false=>
     cases q5:(decide (limit < (1:Int))) with
     |false=>
      cases q6:(!decide ((0:Int) < limit)) with
      |false=>
       exact .inl ⟨none,trivial,qi,by have:=Rx (rs:=rs) (os:=os) (low:=low) (high:=high) (unb:=unb) (rev:=true) (limit:=limit) (i:=i) q0 rfl q2 q3 q4 q5 q6 (by exact dg (by omega) (by omega));rw [hwi] at this;exact this⟩
      |true=>
       exact .inr ⟨none,trivial,by have:=Sl (rs:=rs) (os:=os) (low:=low) (high:=high) (unb:=unb) (rev:=true) (limit:=limit) (i:=i) q0 rfl q2 q3 q4 q5 q6 (by exact dg (by omega) (by omega));exact this⟩
     |true=>
      exact .inl ⟨none,trivial,qi,by have:=QJ (rs:=rs) (os:=os) (low:=low) (high:=high) (unb:=unb) (rev:=true) (limit:=limit) (i:=i) q0 rfl q2 q3 q4 q5 (by exact dg (by omega) (by omega));rw [hwi] at this;exact this⟩
    |true=>
     cases q5:(decide (limit < (1:Int))) with
     |false=>
      cases q6:(!decide ((1:Int) < limit)) with
      |false=>
       exact .inl ⟨(some [rat rs (((0:Nat)+(IntKind.i64.wrap (IntKind.i64.wrap ((↑rs.length:Int) - (1:Int)) - (↑i:Int))).toNat*(2:Nat)) / (2:Nat))]),⟨by simp,by simp,eI hs (by omega)⟩,qi,by have:=QX (rs:=rs) (os:=os) (low:=low) (high:=high) (unb:=unb) (rev:=true) (limit:=limit) (i:=i) q0 rfl q2 q3 q4 q5 q6 (by exact dg (by omega) (by omega));rw [hwi] at this;exact this⟩
      |true=>
       exact .inr ⟨(some [rat rs (((0:Nat)+(IntKind.i64.wrap (IntKind.i64.wrap ((↑rs.length:Int) - (1:Int)) - (↑i:Int))).toNat*(2:Nat)) / (2:Nat))]),⟨by simp,by simp,eI hs (by omega)⟩,by have:=SN (rs:=rs) (os:=os) (low:=low) (high:=high) (unb:=unb) (rev:=true) (limit:=limit) (i:=i) q0 rfl q2 q3 q4 q5 q6 (by exact dg (by omega) (by omega));exact this⟩
     |true=>
      exact .inl ⟨(some [rat rs (((0:Nat)+(IntKind.i64.wrap (IntKind.i64.wrap ((↑rs.length:Int) - (1:Int)) - (↑i:Int))).toNat*(2:Nat)) / (2:Nat))]),⟨by simp,by simp,eI hs (by omega)⟩,qi,by have:=Sf (rs:=rs) (os:=os) (low:=low) (high:=high) (unb:=unb) (rev:=true) (limit:=limit) (i:=i) q0 rfl q2 q3 q4 q5 (by exact dg (by omega) (by omega));rw [hwi] at this;exact this⟩
 · have q0:=(decide_eq_false (p:=(i:Int) < (rs.length:Int)) (by omega))
   exact .inr ⟨none,trivial,O6 (rs:=rs) (os:=os) (low:=low) (high:=high) (unb:=unb) (rev:=rev) (limit:=limit) (i:=i) q0⟩
theorem Ij {rs os:List Rt}{low high:ByteArray}{unb rev:Bool}{limit:Int}{i:Nat} (hs:dC rs) (hlow:low.data.toList.length.ble 4294967295=true) (hl:rs.length < 100000) (ho:im i (some os)) (hi:i≤rs.length):
  (∃o',im (i+1) o'∧i < rs.length∧Sx.bX Tryz.prog 4 5 30 (ja rs low high unb limit (some os)) fu (dS rs rev i) (ja rs low high unb limit o') (dS rs rev ((i+1:Nat):Int)))∨
  (∃o',im (i+1) o'∧Sx.Ends Tryz.prog 4 5 30 (ja rs low high unb limit (some os)) fu (dS rs rev i) (.exit 0) (ja rs low high unb limit o') (dS rs rev i)):=by
 have hwi:IntKind.i64.wrap ((i:Int)+1)=((i+1:Nat):Int):=by rw [wrap64 (by omega) (by omega)];omega
 have hol:=ho.2.1
 by_cases qi:i < rs.length
 · have hw1:IntKind.i64.wrap ((rs.length:Int) - 1)=(rs.length:Int) - 1:=wrap64 (by omega) (by omega)
   have hw2:IntKind.i64.wrap (IntKind.i64.wrap ((rs.length:Int) - 1) - (i:Int))=(rs.length:Int) - 1 - i:=by rw [hw1];exact wrap64 (by omega) (by omega)
   have q0:(decide ((↑i:Int) < (↑rs.length:Int)))=true:=decide_eq_true (by omega)
   cases q1:(rev) with
   |false=>
    have q2:(decide ((0:Int)≤(↑i:Int)∧(↑i:Int) < (↑rs.length:Int)))=true:=decide_eq_true (by omega)
    have q3:(low.data.toList.length.ble (4294967295:Nat) && (rat rs (((0:Nat)+i*(2:Nat)) / (2:Nat))).fst.data.toList.length.ble (4294967295:Nat))=true:=(by rw [Bool.and_eq_true];exact⟨hlow,EF hs _⟩)
    cases q4:(qY low high unb (rat rs (((0:Nat)+i*(2:Nat)) / (2:Nat))).fst) with
    |false=>
     cases q5:(decide (limit < (1:Int))) with
     |false=>
      cases q6:(!decide ((↑os.length:Int) < limit)) with
      |false=>
       exact .inl ⟨(some os),⟨ho.1,by have:=ho.2.1;omega,ho.2.2⟩,qi,by have:=Pq (rs:=rs) (os:=os) (low:=low) (high:=high) (unb:=unb) (rev:=false) (limit:=limit) (i:=i) q0 rfl q2 q3 q4 q5 q6 (by exact dg (by omega) (by omega));rw [hwi] at this;exact this⟩
      |true=>
       exact .inr ⟨(some os),⟨ho.1,by have:=ho.2.1;omega,ho.2.2⟩,by have:=Ol (rs:=rs) (os:=os) (low:=low) (high:=high) (unb:=unb) (rev:=false) (limit:=limit) (i:=i) q0 rfl q2 q3 q4 q5 q6 (by exact dg (by omega) (by omega));exact this⟩
     |true=>
      exact .inl ⟨(some os),⟨ho.1,by have:=ho.2.1;omega,ho.2.2⟩,qi,by have:=Sb (rs:=rs) (os:=os) (low:=low) (high:=high) (unb:=unb) (rev:=false) (limit:=limit) (i:=i) q0 rfl q2 q3 q4 q5 (by exact dg (by omega) (by omega));rw [hwi] at this;exact this⟩
    |true=>
     have q5:(bz (os.length+(1:Nat)) (32:Nat))=true:=dU (by omega)
     cases q6:(decide (limit < (1:Int))) with
     |false=>
      cases q7:(!decide ((↑(os.length+(1:Nat)):Int) < limit)) with
      |false=>
       exact .inl ⟨(some (os++ [rat rs (((0:Nat)+i*(2:Nat)) / (2:Nat))])),⟨by simp,by have:=ho.2.1;simp only [List.length_append,List.length_cons,List.length_nil];omega,bR ho.2.2 (eI hs (by omega))⟩,qi,by have:=SE (rs:=rs) (os:=os) (low:=low) (high:=high) (unb:=unb) (rev:=false) (limit:=limit) (i:=i) q0 rfl q2 q3 q4 q5 q6 q7 (by exact dg (by omega) (by omega)) (by exact ox (by simp only [cd,List.length_take,List.length_drop,List.length_append,List.length_cons,List.length_nil];omega));rw [hwi] at this;rw [show os.length+1=(os++ [rat rs (((0:Nat)+i*(2:Nat)) / (2:Nat))]).length by simp] at this;exact this⟩
      |true=>
       exact .inr ⟨(some (os++ [rat rs (((0:Nat)+i*(2:Nat)) / (2:Nat))])),⟨by simp,by have:=ho.2.1;simp only [List.length_append,List.length_cons,List.length_nil];omega,bR ho.2.2 (eI hs (by omega))⟩,by have:=QP (rs:=rs) (os:=os) (low:=low) (high:=high) (unb:=unb) (rev:=false) (limit:=limit) (i:=i) q0 rfl q2 q3 q4 q5 q6 q7 (by exact dg (by omega) (by omega)) (by exact ox (by simp only [cd,List.length_take,List.length_drop,List.length_append,List.length_cons,List.length_nil];omega));rw [show os.length+1=(os++ [rat rs (((0:Nat)+i*(2:Nat)) / (2:Nat))]).length by simp] at this;exact this⟩
     |true=>
      exact .inl ⟨(some (os++ [rat rs (((0:Nat)+i*(2:Nat)) / (2:Nat))])),⟨by simp,by have:=ho.2.1;simp only [List.length_append,List.length_cons,List.length_nil];omega,bR ho.2.2 (eI hs (by omega))⟩,qi,by have:=R3 (rs:=rs) (os:=os) (low:=low) (high:=high) (unb:=unb) (rev:=false) (limit:=limit) (i:=i) q0 rfl q2 q3 q4 q5 q6 (by exact dg (by omega) (by omega)) (by exact ox (by simp only [cd,List.length_take,List.length_drop,List.length_append,List.length_cons,List.length_nil];omega));rw [hwi] at this;rw [show os.length+1=(os++ [rat rs (((0:Nat)+i*(2:Nat)) / (2:Nat))]).length by simp] at this;exact this⟩
   |true=>
    have q2:(decide ((0:Int)≤IntKind.i64.wrap (IntKind.i64.wrap ((↑rs.length:Int) - (1:Int)) - (↑i:Int))∧IntKind.i64.wrap (IntKind.i64.wrap ((↑rs.length:Int) - (1:Int)) - (↑i:Int)) < (↑rs.length:Int)))=true:=decide_eq_true (by omega)
    have q3:(low.data.toList.length.ble (4294967295:Nat) && (rat rs (((0:Nat)+(IntKind.i64.wrap (IntKind.i64.wrap ((↑rs.length:Int) - (1:Int)) - (↑i:Int))).toNat*(2:Nat)) / (2:Nat))).fst.data.toList.length.ble (4294967295:Nat))=true:=(by rw [Bool.and_eq_true];exact⟨hlow,EF hs _⟩)
    cases q4:(qY low high unb (rat rs (((0:Nat)+(IntKind.i64.wrap (IntKind.i64.wrap ((↑rs.length:Int) - (1:Int)) - (↑i:Int))).toNat*(2:Nat)) / (2:Nat))).fst) with
    |false=>
     cases q5:(decide (limit < (1:Int))) with
     |false=>
      cases q6:(!decide ((↑os.length:Int) < limit)) with
      |false=>
       exact .inl ⟨(some os),⟨ho.1,by have:=ho.2.1;omega,ho.2.2⟩,qi,by have:=Su (rs:=rs) (os:=os) (low:=low) (high:=high) (unb:=unb) (rev:=true) (limit:=limit) (i:=i) q0 rfl q2 q3 q4 q5 q6 (by exact dg (by omega) (by omega));rw [hwi] at this;exact this⟩
      |true=>
       exact .inr ⟨(some os),⟨ho.1,by have:=ho.2.1;omega,ho.2.2⟩,by have:=Q1 (rs:=rs) (os:=os) (low:=low) (high:=high) (unb:=unb) (rev:=true) (limit:=limit) (i:=i) q0 rfl q2 q3 q4 q5 q6 (by exact dg (by omega) (by omega));exact this⟩
     |true=>
      exact .inl ⟨(some os),⟨ho.1,by have:=ho.2.1;omega,ho.2.2⟩,qi,by have:=Tr (rs:=rs) (os:=os) (low:=low) (high:=high) (unb:=unb) (rev:=true) (limit:=limit) (i:=i) q0 rfl q2 q3 q4 q5 (by exact dg (by omega) (by omega));rw [hwi] at this;exact this⟩
    |true=>
     have q5:(bz (os.length+(1:Nat)) (32:Nat))=true:=dU (by omega)
     cases q6:(decide (limit < (1:Int))) with
     |false=>
      cases q7:(!decide ((↑(os.length+(1:Nat)):Int) < limit)) with
      |false=>
       exact .inl ⟨(some (os++ [rat rs (((0:Nat)+(IntKind.i64.wrap (IntKind.i64.wrap ((↑rs.length:Int) - (1:Int)) - (↑i:Int))).toNat*(2:Nat)) / (2:Nat))])),⟨by simp,by have:=ho.2.1;simp only [List.length_append,List.length_cons,List.length_nil];omega,bR ho.2.2 (eI hs (by omega))⟩,qi,by have:=Qz (rs:=rs) (os:=os) (low:=low) (high:=high) (unb:=unb) (rev:=true) (limit:=limit) (i:=i) q0 rfl q2 q3 q4 q5 q6 q7 (by exact dg (by omega) (by omega)) (by exact ox (by simp only [cd,List.length_take,List.length_drop,List.length_append,List.length_cons,List.length_nil];omega));rw [hwi] at this;rw [show os.length+1=(os++ [rat rs (((0:Nat)+(IntKind.i64.wrap (IntKind.i64.wrap ((↑rs.length:Int) - (1:Int)) - (↑i:Int))).toNat*(2:Nat)) / (2:Nat))]).length by simp] at this;exact this⟩
      |true=>
       exact .inr ⟨(some (os++ [rat rs (((0:Nat)+(IntKind.i64.wrap (IntKind.i64.wrap ((↑rs.length:Int) - (1:Int)) - (↑i:Int))).toNat*(2:Nat)) / (2:Nat))])),⟨by simp,by have:=ho.2.1;simp only [List.length_append,List.length_cons,List.length_nil];omega,bR ho.2.2 (eI hs (by omega))⟩,by have:=Rv (rs:=rs) (os:=os) (low:=low) (high:=high) (unb:=unb) (rev:=true) (limit:=limit) (i:=i) q0 rfl q2 q3 q4 q5 q6 q7 (by exact dg (by omega) (by omega)) (by exact ox (by simp only [cd,List.length_take,List.length_drop,List.length_append,List.length_cons,List.length_nil];omega));rw [show os.length+1=(os++ [rat rs (((0:Nat)+(IntKind.i64.wrap (IntKind.i64.wrap ((↑rs.length:Int) - (1:Int)) - (↑i:Int))).toNat*(2:Nat)) / (2:Nat))]).length by simp] at this;exact this⟩
     |true=>
      exact .inl ⟨(some (os++ [rat rs (((0:Nat)+(IntKind.i64.wrap (IntKind.i64.wrap ((↑rs.length:Int) - (1:Int)) - (↑i:Int))).toNat*(2:Nat)) / (2:Nat))])),⟨by simp,by have:=ho.2.1;simp only [List.length_append,List.length_cons,List.length_nil];omega,bR ho.2.2 (eI hs (by omega))⟩,qi,by have:=R4 (rs:=rs) (os:=os) (low:=low) (high:=high) (unb:=unb) (rev:=true) (limit:=limit) (i:=i) q0 rfl q2 q3 q4 q5 q6 (by exact dg (by omega) (by omega)) (by exact ox (by simp only [cd,List.length_take,List.length_drop,List.length_append,List.length_cons,List.length_nil];omega));rw [hwi] at this;rw [show os.length+1=(os++ [rat rs (((0:Nat)+(IntKind.i64.wrap (IntKind.i64.wrap ((↑rs.length:Int) - (1:Int)) - (↑i:Int))).toNat*(2:Nat)) / (2:Nat))]).length by simp] at this;exact this⟩
 · have q0:=(decide_eq_false (p:=(i:Int) < (rs.length:Int)) (by omega))
   exact .inr ⟨(some os),⟨ho.1,by omega,ho.2.2⟩,N3 (rs:=rs) (os:=os) (low:=low) (high:=high) (unb:=unb) (rev:=rev) (limit:=limit) (i:=i) q0⟩
theorem Dm {rs:List Rt}{low high:ByteArray}{unb rev:Bool}{limit:Int}{i:Nat}{o:Option (List Rt)} (hs:dC rs) (hlow:low.data.toList.length.ble 4294967295=true) (hl:rs.length < 100000) (ho:im i o) (hi:i≤rs.length):
  (∃o',im (i+1) o'∧i < rs.length∧Sx.bX Tryz.prog 4 5 30 (ja rs low high unb limit o) fu (dS rs rev i) (ja rs low high unb limit o') (dS rs rev ((i+1:Nat):Int)))∨
  (∃o',im (i+1) o'∧Sx.Ends Tryz.prog 4 5 30 (ja rs low high unb limit o) fu (dS rs rev i) (.exit 0) (ja rs low high unb limit o') (dS rs rev i)):=by
 cases o with
 |none=>exact JH (os:= []) hs hlow hl ho hi
 |some os=>exact Ij hs hlow hl ho hi
theorem Po {rs:List Rt}{low high:ByteArray}{unb rev:Bool}{limit:Int}{h0:Heap} (hs:dC rs) (hlow:low.data.toList.length.ble 4294967295=true) (hl:rs.length < 100000):∀(r i:Nat) (o:Option (List Rt)),i+r=rs.length→im i o→
  ∃(o':Option (List Rt)) (j:Nat),j≤rs.length∧im (rs.length+1) o'∧Mid Tryz.prog 4 h0 5 (ja rs low high unb limit o) 30 (ja rs low high unb limit o') fu (dS rs rev i) (.exit 0) (dS rs rev j):=by
 have up:∀ {a b:Nat} {o:Option (List Rt)},a≤b→im a o→im b o:=fun {a b o} h k=>by
  cases o with
  |none=>trivial
  |some os=>exact⟨k.1,Nat.le_trans k.2.1 h,k.2.2⟩
 intro r
 induction r with
 |zero=>
  intro i o hi ho
  rcases Dm (low:=low) (high:=high) (unb:=unb) (rev:=rev) (limit:=limit) hs hlow hl ho (by omega) with⟨o',_,h,_⟩|⟨o',h1,g⟩
  · omega
  · exact⟨o',i,by omega,up (by omega) h1,g.dt (by simp) (by decide)⟩
 |succ r ih=>
  intro i o hi ho
  rcases Dm (low:=low) (high:=high) (unb:=unb) (rev:=rev) (limit:=limit) hs hlow hl ho (by omega) with⟨o',h1,h,g⟩|⟨o',h1,g⟩
  · obtain⟨o2,j,h2,h3,m⟩:=ih (i+1) o' (by omega) h1
    exact⟨o2,j,h2,h3,g.dt (by decide) (by decide) m⟩
  · exact⟨o',i,by omega,up (by omega) h1,g.dt (by simp) (by decide)⟩
end
section
open Go.Sx
theorem js {ws:List Wt}{o:Nat} (ho:o % 3=0) (h:o / 3 < ws.length):((ah ws).drop o).take 3= [.string (bp ws (o / 3)).1,.string (bp ws (o / 3)).2.1,.bool (bp ws (o / 3)).2.2]∧ [Value.string (bp ws (o / 3)).1,.string (bp ws (o / 3)).2.1,.bool (bp ws (o / 3)).2.2].length=3:=EZ (by omega) h
section
variable {f:FuncId}{k1:Nat}{os os':List Rt}{a v0 v:Value}
theorem DK (os:List Rt):∀i x,Heap.get (db os) i=some x→∃n y,back [3] n=some i∧Heap.get [(3,Chunk.cells (aa os) 64)] n=some y∧az (y.bC (back [3])) x:=fun i x h=>by
 unfold db at h
 rw [aQ] at h
 split at h
 · rename_i q;subst q;cases h
   exact⟨3,_,rfl,rfl,.cells aV⟩
 · simp [Heap.get] at h
theorem vG (ha:ao (back [3]) 9 a=a) {n:Nat}:∀(r r2:Env) (us:List Value),(∀n m,back [3] n=some m→r2.blk m=r.blk n∧r2.cap m=r.cap n∧r2.val m=r.val n)→aw r [.slice (some ⟨3,0,none⟩) n 0,a] us→aw r2 [.slice (some ⟨0,0,none⟩) n 0,a] us:=fun r r2 us hb h=>by
 have:=cV (b9 (r:=r) (r2:=r2) hb 9) h
 rw [show [Value.slice (some ⟨3,0,none⟩) n 0,a].map (ao (back [3]) 9)= [.slice (some ⟨0,0,none⟩) n 0,a] by simp only [List.map_cons,List.map_nil,ha];rfl] at this
 exact this
theorem Mo (ha:ao (back [3]) 9 a=a) (hv:ao (fwd [3] 5 k1) 9 v0=v) (h:ab Tryz.prog 1 (db os) k1 [] (.call f [.slice (some ⟨0,0,none⟩) os.length 0,a]) (.val v0)):ab Tryz.prog 5 [(3,.cells (aa os) 64)] (5+(k1 - 1)) [] (.call f [.slice (some ⟨3,0,none⟩) os.length 0,a]) (.val v):=
 fp (l:= [3]) (c:=5) h rfl (fun n hn=>by simp at hn;omega) (Nat.le_refl _) (DK os) (vG ha) (fun n x h=>by simp [Heap.get] at h) (fun r r2 u hb hr=>by rw [←hv];exact b9 hb 9 _ _ hr)
theorem Dp (hk:1 < k1) (ha:ao (back [3]) 9 a=a) (hv:ao (fwd [3] 5 k1) 9 v0=v) (h:ab Tryz.prog 1 (db os) k1 [(1,.cells (aa os') 64)] (.call f [.slice (some ⟨0,0,none⟩) os.length 0,a]) (.val v0)):ab Tryz.prog 5 [(3,.cells (aa os) 64)] (5+(k1 - 1)) [(5,.cells (aa os') 64)] (.call f [.slice (some ⟨3,0,none⟩) os.length 0,a]) (.val v):=
 fp (l:= [3]) (c:=5) h rfl (fun n hn=>by simp at hn;omega) (Nat.le_refl _) (DK os) (vG ha) (fun n x h=>by
  rw [aQ] at h
  split at h
  · rename_i q;subst q;cases h
    have hb1:Nat.blt 1 k1=true:=by rw [Nat.blt_eq];exact hk
    exact .inl ⟨1,_,rfl,(by simp [fwd,hb1,fP]),.cells aV⟩
  · simp [Heap.get] at h) (fun r r2 u hb hr=>by rw [←hv];exact b9 hb 9 _ _ hr)
theorem Nj (hk:0 < k1) (ha:ao (back [3]) 9 a=a) (hv:ao (fwd [3] 5 k1) 9 v0=v) (h:ab Tryz.prog 1 (db os) k1 (db os) (.call f [.slice (some ⟨0,0,none⟩) os.length 0,a]) (.val v0)):ab Tryz.prog 5 [(3,.cells (aa os) 64)] (5+(k1 - 1)) [(3,.cells (aa os) 64)] (.call f [.slice (some ⟨3,0,none⟩) os.length 0,a]) (.val v):=
 fp (l:= [3]) (c:=5) h rfl (fun n hn=>by simp at hn;omega) (Nat.le_refl _) (DK os) (vG ha) (fun n x h=>by
  rw [aQ] at h
  split at h
  · rename_i q;subst q;cases h
    have hb1:Nat.blt 0 k1=true:=by rw [Nat.blt_eq];exact hk
    exact .inl ⟨0,_,rfl,(by simp [fwd,hb1,fP]),.cells aV⟩
  · simp [Heap.get] at h) (fun r r2 u hb hr=>by rw [←hv];exact b9 hb 9 _ _ hr)
end
def rm (ws:List Wt):Option (List Rt)→Heap
 |none=>eP ws []
 |some os=>eP ws [(3,.cells (aa os) 64)]
def rU:Option (List Rt)→Value
 |none=> .slice none 0 0
 |some os=> .slice (some ⟨3,0,none⟩) os.length 0
abbrev yx (ws:List Wt) (i:Nat) (o:Option (List Rt)):Prop:=
 (∃o',im (i+1) o'∧i < ws.length∧Sx.bX Tryz.prog 3 4 60 (rm ws o) lQ (iG ws (rU o) i) (rm ws o') (iG ws (rU o') ((i+1:Nat):Int)))∨
 (i=ws.length∧Sx.Ends Tryz.prog 3 4 60 (rm ws o) lQ (iG ws (rU o) i) (.exit 2) (rm ws o) (iG ws (rU o) i))
theorem I3 {ws:List Wt}{i:Nat} (hs:fa ws) (hl:ws.length < 100000) (hi:i≤ws.length):yx ws i none:=by
 have hwi:IntKind.i64.wrap ((i:Int)+1)=((i+1:Nat):Int):=by rw [wrap64 (by omega) (by omega)];omega
 by_cases qi:i < ws.length
 · skip
   have q0:(decide ((↑i:Int) < (↑ws.length:Int)))=true:=decide_eq_true (by omega)
   have q1:(decide ((0:Int)≤(↑i:Int)∧(↑i:Int) < (↑ws.length:Int)))=true:=decide_eq_true (by omega)
   rcases Bool.eq_false_or_eq_true ((bp ws (((0:Nat)+i*(3:Nat)) / (3:Nat))).snd.snd) with q2|q2
   · skip
     exact .inl ⟨none,trivial,qi,by have:=RF (ws:=ws) (os:= []) (os2:= []) (i:=i) (t:=false) q0 q1 q2 (by exact js (by omega) (by omega));rw [hwi] at this;exact this⟩
   · skip
     rcases Bool.eq_false_or_eq_true (decide ((↑(bp ws (((0:Nat)+i*(3:Nat)) / (3:Nat))).fst.data.toList.length:Int)≥(1:Int))) with q3|q3
     · have fq3:=of_decide_eq_true q3
       rcases Bool.eq_false_or_eq_true (decide ((↑(bp ws (((0:Nat)+i*(3:Nat)) / (3:Nat))).fst.data.toList.length:Int)≤(16:Int))) with q4|q4
       · have fq4:=of_decide_eq_true q4
         rcases Bool.eq_false_or_eq_true (!decide ((↑(bp ws (((0:Nat)+i*(3:Nat)) / (3:Nat))).snd.fst.data.toList.length:Int)≤(16:Int))) with q5|q5
         · have fq5:=wA q5
           exact .inl ⟨none,trivial,qi,by have:=RB (ws:=ws) (os:= []) (os2:= []) (i:=i) (t:=false) q0 q1 q2 q3 q4 q5 (by exact js (by omega) (by omega));rw [hwi] at this;exact this⟩
         · have fq5:=wP q5
           exact .inl ⟨some [((bp ws (((0:Nat)+i*(3:Nat)) / (3:Nat))).1,(bp ws (((0:Nat)+i*(3:Nat)) / (3:Nat))).2.1)],⟨by simp,by simp,dA (oT hs _)⟩,qi,by have:=Tl (ws:=ws) (os:= []) (os2:= []) (i:=i) (t:=false) q0 q1 q2 q3 q4 q5 (by exact js (by omega) (by omega));rw [hwi] at this;exact this⟩
       · have fq4:=of_decide_eq_false q4
         exact .inl ⟨none,trivial,qi,by have:=Q5 (ws:=ws) (os:= []) (os2:= []) (i:=i) (t:=false) q0 q1 q2 q3 q4 (by exact js (by omega) (by omega));rw [hwi] at this;exact this⟩
     · have fq3:=of_decide_eq_false q3
       exact .inl ⟨none,trivial,qi,by have:=RH (ws:=ws) (os:= []) (os2:= []) (i:=i) (t:=false) q0 q1 q2 q3 (by exact js (by omega) (by omega));rw [hwi] at this;exact this⟩
 · exact .inr ⟨by omega,SL (os:= []) (os2:= []) (t:=false) (decide_eq_false (by omega))⟩
theorem IK {ws:List Wt}{os:List Rt}{i:Nat} (hs:fa ws) (hl:ws.length < 100000) (ho:im i (some os)) (hi:i≤ws.length):yx ws i (some os):=by
 have hwi:IntKind.i64.wrap ((i:Int)+1)=((i+1:Nat):Int):=by rw [wrap64 (by omega) (by omega)];omega
 obtain⟨ho1,ho2,ho3⟩:=ho
 by_cases qi:i < ws.length
 · have c0:decide ((i:Int) < (ws.length:Int))=true:=decide_eq_true (by omega)
   have c1:decide ((0:Int)≤(i:Int)∧(i:Int) < (ws.length:Int))=true:=decide_eq_true (by omega)
   rcases Bool.eq_false_or_eq_true (bp ws (((0:Nat)+i*(3:Nat)) / (3:Nat))).2.2 with q|q
   · rcases NI (key:=(bp ws (((0:Nat)+i*(3:Nat)) / (3:Nat))).1) ho3 (by omega) ho1 with⟨t,h⟩|⟨os',t,h1,h2,h3,h⟩
     · have:=NL (os:=os) (os2:= []) (t:=t) c0 c1 q (by exact js (by omega) (by omega)) (Mo rfl rfl h)
       rw [hwi] at this;exact .inl ⟨none,trivial,qi,this⟩
     · have:=OV (os:=os) (os2:=os') (t:=t) c0 c1 q (by exact js (by omega) (by omega)) (Dp (by omega) rfl rfl h)
       rw [hwi] at this;exact .inl ⟨some os',⟨h1,by omega,h2⟩,qi,this⟩
   · rcases Ma (key:=(bp ws (((0:Nat)+i*(3:Nat)) / (3:Nat))).1) (v:=(bp ws (((0:Nat)+i*(3:Nat)) / (3:Nat))).2.1) ho3 (by omega) ho1 (oT hs _) with h|⟨os',t,h1,h2,h3,h⟩
     · have:=P6 (os:=os) (os2:= []) (t:=false) c0 c1 q (by exact js (by omega) (by omega)) (Nj (by omega) rfl rfl h)
       rw [hwi] at this;exact .inl ⟨some os,⟨ho1,by omega,ho3⟩,qi,this⟩
     · have:=Pt (os:=os) (os2:=os') (t:=t) c0 c1 q (by exact js (by omega) (by omega)) (Dp (by omega) rfl rfl h)
       rw [hwi] at this;exact .inl ⟨some os',⟨h1,by omega,h2⟩,qi,this⟩
 · exact .inr ⟨by omega,OO (os2:= []) (t:=false) (decide_eq_false (by omega))⟩
theorem NN {ws:List Wt}{h0:Heap} (hs:fa ws) (hl:ws.length < 100000):∀(r i:Nat) (o:Option (List Rt)),i+r=ws.length→im i o→
  ∃o',im (ws.length+1) o'∧Mid Tryz.prog 3 h0 4 (rm ws o) 60 (rm ws o') lQ (iG ws (rU o) i) (.exit 2) (iG ws (rU o') ws.length):=by
 have up:∀ {a b:Nat} {o:Option (List Rt)},a≤b→im a o→im b o:=fun {a b o} h k=>by
  cases o with
  |none=>trivial
  |some os=>exact⟨k.1,Nat.le_trans k.2.1 h,k.2.2⟩
 have step:∀(i:Nat) (o:Option (List Rt)),i≤ws.length→im i o→yx ws i o:=fun i o hi ho=>by
  cases o with
  |none=>exact I3 hs hl hi
  |some os=>exact IK hs hl ho hi
 intro r
 induction r with
 |zero=>
  intro i o hi ho
  rcases step i o (by omega) ho with⟨o',_,h,_⟩|⟨h,g⟩
  · omega
  · subst h;exact⟨o,up (by omega) ho,g.dt (by simp) (by decide)⟩
 |succ r ih=>
  intro i o hi ho
  rcases step i o (by omega) ho with⟨o',h1,h,g⟩|⟨h,g⟩
  · obtain⟨o2,h3,m⟩:=ih (i+1) o' (by omega) h1
    exact⟨o2,h3,g.dt (by decide) (by decide) m⟩
  · omega
end
section
open Go.Sx
set_option maxRecDepth 100000 in
theorem Rg {ws:List Wt}{os:List Rt} (hd10:ab Tryz.prog 3 (eP ws []) 60 (rm ws none) (.inLoop lQ (iG ws (.slice none 0 0) 0)) (.out (.exit 2) (iG ws (rU none) ws.length))):ab Tryz.prog 2 (eP ws []) 60 (eP ws []) (.call 134 [.slice none 0 0,.slice (some ⟨1,0,none⟩) 1 0]) (.val (.slice none 0 0)):=
 bZ mixed aA [] [(0,true),(1,false)] (d:= [(10,.loop [4,5,15,16,17,21,22,23] [0,1] 60 (rm ws none) (.exit 2) (iG ws (rU none) ws.length))]) (n:=600) (c2:=60) (L':= [.p (aj (ah ws) ((ah ws).map (ao (nameOf [] 2 60) 9)))]) (by kernel_rfl) rfl rfl (ag bm af) (vP hd10 vN)
set_option maxRecDepth 100000 in
theorem RX {ws:List Wt}{os:List Rt} (hd10:ab Tryz.prog 3 (eP ws []) 60 (rm ws (some os)) (.inLoop lQ (iG ws (.slice none 0 0) 0)) (.out (.exit 2) (iG ws (rU (some os)) ws.length))):ab Tryz.prog 2 (eP ws []) 60 (eP ws [(2,.cells (aa os) 64)]) (.call 134 [.slice none 0 0,.slice (some ⟨1,0,none⟩) 1 0]) (.val (.slice (some ⟨2,0,none⟩) os.length 0)):=
 bZ mixed aA [(2,3),(3,2)] [(0,true),(1,false),(3,true)] (d:= [(10,.loop [4,5,15,16,17,21,22,23] [0,1] 60 (rm ws (some os)) (.exit 2) (iG ws (rU (some os)) ws.length))]) (n:=600) (c2:=60) (L':= [.p (aj (ah ws) ((ah ws).map (ao (nameOf [(2,3),(3,2)] 2 60) 9))),.p (aj (aa os) ((aa os).map (ao (nameOf [(2,3),(3,2)] 2 60) 9)))]) (by kernel_rfl) rfl rfl (ag bm (ag aV af)) (vP hd10 vN)
theorem LP {ws:List Wt} (hs:fa ws) (hl:ws.length < 100000):(ab Tryz.prog 2 (eP ws []) 60 (eP ws []) (.call 134 [.slice none 0 0,.slice (some ⟨1,0,none⟩) 1 0]) (.val (.slice none 0 0)))∨
  ∃os:List Rt,os≠ []∧os.length≤ws.length+1∧dC os∧ab Tryz.prog 2 (eP ws []) 60 (eP ws [(2,.cells (aa os) 64)]) (.call 134 [.slice none 0 0,.slice (some ⟨1,0,none⟩) 1 0]) (.val (.slice (some ⟨2,0,none⟩) os.length 0)):=by
 obtain⟨o,ho,m⟩:=NN (h0:=eP ws []) hs hl ws.length 0 none (by omega) trivial
 have hd:ab Tryz.prog 3 (eP ws []) 60 (rm ws o) (.inLoop lQ (iG ws (.slice none 0 0) 0)) (.out (.exit 2) (iG ws (rU o) ws.length)):=
  gX (ρ:= []) rfl (by decide) (by decide) (nR (ρ:= []) [(0,true),(1,false)] (l:= [(4,.slice none 0 0),(5,.slice none 0 0),(15,.slice (some ⟨1,0,none⟩) 1 0),(16,.int .i64 1),(17,.int .i64 0),(21,.slice (some ⟨0,0,none⟩) ws.length 0),(22,.int .i64 ws.length),(23,.int .i64 ((0:Int)))]) (by kernel_rfl) (vP (show aj (ah ws) ((ah ws).map (ao (nameOf [] 3 60) 9)) from bm) vN)) m
 cases o with
 |none=>exact .inl (Rg (os:= []) hd)
 |some os=>exact .inr ⟨os,ho.1,ho.2.1,ho.2.2,RX hd⟩
end
section
open Go.Sx
section
set_option maxRecDepth 100000
set_option linter.unusedSectionVars false
variable {rs os:List Rt}{low high:ByteArray}{unb rev:Bool}{limit:Int}{j:Nat}
variable (k0:ab Tryz.prog 4 (ja rs low high unb limit none) 30 (ja rs low high unb limit none) (.inLoop fu (dS rs rev 0)) (.out (.exit 0) (dS rs rev j)))(k1:ab Tryz.prog 4 (ja rs low high unb limit none) 30 (ja rs low high unb limit (some os)) (.inLoop fu (dS rs rev 0)) (.out (.exit 0) (dS rs rev j)))(k2:dC rs)(k3:low.data.toList.length.ble 4294967295=true)(k4:rs.length < 100000)
include k0 in
theorem RC {os:List Rt}:ab Tryz.prog 1 (db rs) 30 [] (.call 91 [.slice (some ⟨0,0,none⟩) rs.length 0,.agg ⟨[.string low,.string high,.bool unb]⟩,.int .i64 limit,.bool rev]) (.val (.slice none 0 0)):=
 bZ mixed aA [] [] (d:= [(0,.loop [0,3,8,9,10,15,16] [0,1,2,3] 30 (ja rs low high unb limit none) (.exit 0) (dS rs rev j))]) (n:=600) (c2:=30) (L':= []) (by kernel_rfl) rfl rfl (af) (vP k0 vN)
include k1 in
theorem S8:ab Tryz.prog 1 (db rs) 30 [(1,.cells (aa os) 64)] (.call 91 [.slice (some ⟨0,0,none⟩) rs.length 0,.agg ⟨[.string low,.string high,.bool unb]⟩,.int .i64 limit,.bool rev]) (.val (.slice (some ⟨1,0,none⟩) os.length 0)):=
 bZ mixed aA [(1,4),(4,1)] [(4,true)] (d:= [(0,.loop [0,3,8,9,10,15,16] [0,1,2,3] 30 (ja rs low high unb limit (some os)) (.exit 0) (dS rs rev j))]) (n:=600) (c2:=30) (L':= [.p (aj (aa os) ((aa os).map (ao (nameOf [(1,4),(4,1)] 1 30) 9)))]) (by kernel_rfl) rfl rfl (ag aV af) (vP k1 vN)
include k2 k3 k4 in
theorem Ns:(ab Tryz.prog 1 (db rs) 30 [] (.call 91 [.slice (some ⟨0,0,none⟩) rs.length 0,.agg ⟨[.string low,.string high,.bool unb]⟩,.int .i64 limit,.bool rev]) (.val (.slice none 0 0)))∨
  ∃os:List Rt,os≠ []∧os.length≤rs.length+1∧dC os∧ab Tryz.prog 1 (db rs) 30 [(1,.cells (aa os) 64)] (.call 91 [.slice (some ⟨0,0,none⟩) rs.length 0,.agg ⟨[.string low,.string high,.bool unb]⟩,.int .i64 limit,.bool rev]) (.val (.slice (some ⟨1,0,none⟩) os.length 0)):=by
 obtain⟨o,j,hj,ho,m⟩:=Po (low:=low) (high:=high) (unb:=unb) (rev:=rev) (limit:=limit) (h0:=ja rs low high unb limit none) k2 k3 k4 rs.length 0 none (by omega) trivial
 have hd:ab Tryz.prog 4 (ja rs low high unb limit none) 30 (ja rs low high unb limit o) (.inLoop fu (dS rs rev 0)) (.out (.exit 0) (dS rs rev j)):=
  gX (ρ:= []) rfl (by decide) (by decide) (nR (ρ:= []) [(0,true),(1,false),(2,false),(3,false)] (l:= [(0,.slice (some ⟨0,0,none⟩) rs.length 0),(3,.bool rev),(8,.slice none 0 0),(9,.pointer (some ⟨3,0,none⟩)),(10,.func (.func 118) ⟨[]⟩ ⟨[.pointer (some ⟨1,0,none⟩),.pointer (some ⟨3,0,none⟩),.pointer (some ⟨2,0,none⟩)]⟩),(15,.int .i64 rs.length),(16,.int .i64 ((0:Int)))]) (by kernel_rfl) (vP (show aj (aa rs) ((aa rs).map (ao (nameOf [] 4 30) 9)) from aV) vN)) m
 cases o with
 |none=>exact .inl (RC (os:= []) hd)
 |some os=>exact .inr ⟨os,ho.1,ho.2.1,ho.2.2,S8 hd⟩
end
end
end Go.Proofs.YtalanookmohdeaaGreatDoor
