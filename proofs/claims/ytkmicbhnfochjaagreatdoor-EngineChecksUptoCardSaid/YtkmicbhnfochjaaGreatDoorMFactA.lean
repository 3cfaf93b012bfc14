/- The closed facts of the row, each apart. No condition. -/
import Derived.Test.YtkmicbhnfochjaaGreatDoorRows
import Derived.JoinedCond
import Derived.KernelRfl

namespace Go.Proofs.YtkmicbhnfochjaaGreatDoor
open Go
noncomputable def specE : ChangeSpec := (Rows.OpenSpec.upto Rows.engineChecksSpec).bare
theorem and2E {a b : Bool} (ha : a = true) (hb : b = true) : (a && b) = true := by rw [ha, hb]; rfl
theorem jf_0 : (fun (P : Program) (f : FuncId) (fn : Func) (s : ChangeSpec) (c : OpenClaim) => c.wf (OpenSpec.ofChange s)) Tryz.pinned.checked.prog 3 Tryz.f3 specE Rows.engineChecksUptoRow = true := by kernel_rfl
theorem jf_1 : (fun (P : Program) (f : FuncId) (fn : Func) (s : ChangeSpec) (c : OpenClaim) => laidOutB P) Tryz.pinned.checked.prog 3 Tryz.f3 specE Rows.engineChecksUptoRow = true := by kernel_rfl
theorem jf_2 : (fun (P : Program) (f : FuncId) (fn : Func) (s : ChangeSpec) (c : OpenClaim) => mapsRowed P) Tryz.pinned.checked.prog 3 Tryz.f3 specE Rows.engineChecksUptoRow = true := by kernel_rfl
theorem jf_3 : (fun (P : Program) (f : FuncId) (fn : Func) (s : ChangeSpec) (c : OpenClaim) => fn.params.all (P.readableRec ·)) Tryz.pinned.checked.prog 3 Tryz.f3 specE Rows.engineChecksUptoRow = true := by kernel_rfl
theorem jf_4 : (fun (P : Program) (f : FuncId) (fn : Func) (s : ChangeSpec) (c : OpenClaim) => namedTie P c.named s.vars) Tryz.pinned.checked.prog 3 Tryz.f3 specE Rows.engineChecksUptoRow = true := by kernel_rfl
theorem jf_5 : (fun (P : Program) (f : FuncId) (fn : Func) (s : ChangeSpec) (c : OpenClaim) => (c.stops == [])) Tryz.pinned.checked.prog 3 Tryz.f3 specE Rows.engineChecksUptoRow = true := by kernel_rfl
theorem jf_6 : (fun (P : Program) (f : FuncId) (fn : Func) (s : ChangeSpec) (c : OpenClaim) => (P.stops == [])) Tryz.pinned.checked.prog 3 Tryz.f3 specE Rows.engineChecksUptoRow = true := by kernel_rfl
theorem jf_7 : (fun (P : Program) (f : FuncId) (fn : Func) (s : ChangeSpec) (c : OpenClaim) => (c.knobs == [])) Tryz.pinned.checked.prog 3 Tryz.f3 specE Rows.engineChecksUptoRow = true := by kernel_rfl
theorem jf_8 : (fun (P : Program) (f : FuncId) (fn : Func) (s : ChangeSpec) (c : OpenClaim) => (P.stopKnobs == [])) Tryz.pinned.checked.prog 3 Tryz.f3 specE Rows.engineChecksUptoRow = true := by kernel_rfl
theorem jf_9 : (fun (P : Program) (f : FuncId) (fn : Func) (s : ChangeSpec) (c : OpenClaim) => (c.inPlace == P.inPlace f)) Tryz.pinned.checked.prog 3 Tryz.f3 specE Rows.engineChecksUptoRow = true := by kernel_rfl
theorem jf_10 : (fun (P : Program) (f : FuncId) (fn : Func) (s : ChangeSpec) (c : OpenClaim) => (c.unfollowed == P.unfollowed f)) Tryz.pinned.checked.prog 3 Tryz.f3 specE Rows.engineChecksUptoRow = true := by kernel_rfl
theorem jf_11 : (fun (P : Program) (f : FuncId) (fn : Func) (s : ChangeSpec) (c : OpenClaim) => (c.recurses == P.recurses f)) Tryz.pinned.checked.prog 3 Tryz.f3 specE Rows.engineChecksUptoRow = true := by kernel_rfl
theorem jf_12 : (fun (P : Program) (f : FuncId) (fn : Func) (s : ChangeSpec) (c : OpenClaim) => (c.named == P.varsNamed f)) Tryz.pinned.checked.prog 3 Tryz.f3 specE Rows.engineChecksUptoRow = true := by kernel_rfl
theorem jf_13 : (fun (P : Program) (f : FuncId) (fn : Func) (s : ChangeSpec) (c : OpenClaim) => (c.maps == (fn.params.toList ++ s.plain.varTypes P).any (P.mapsRec ·))) Tryz.pinned.checked.prog 3 Tryz.f3 specE Rows.engineChecksUptoRow = true := by kernel_rfl
theorem jf_14 : (fun (P : Program) (f : FuncId) (fn : Func) (s : ChangeSpec) (c : OpenClaim) => (c.ifaces == (fn.params.toList ++ s.plain.varTypes P).any (P.ifacesRec ·))) Tryz.pinned.checked.prog 3 Tryz.f3 specE Rows.engineChecksUptoRow = true := by kernel_rfl
theorem jf_15 : (fun (P : Program) (f : FuncId) (fn : Func) (s : ChangeSpec) (c : OpenClaim) => (c.mapsOut == P.mapsAmong fn.resultTypes.toList)) Tryz.pinned.checked.prog 3 Tryz.f3 specE Rows.engineChecksUptoRow = true := by kernel_rfl
theorem jf_16 : (fun (P : Program) (f : FuncId) (fn : Func) (s : ChangeSpec) (c : OpenClaim) => (c.loops == (fn.params.toList ++ s.plain.varTypes P).any (P.loopsFrom ·))) Tryz.pinned.checked.prog 3 Tryz.f3 specE Rows.engineChecksUptoRow = true := by kernel_rfl
theorem jf_17 : (fun (P : Program) (f : FuncId) (fn : Func) (s : ChangeSpec) (c : OpenClaim) => (c.wideKeys == (fn.params.toList ++ s.plain.varTypes P ++ fn.resultTypes.toList).any (P.wideKeysFrom ·))) Tryz.pinned.checked.prog 3 Tryz.f3 specE Rows.engineChecksUptoRow = true := by kernel_rfl
theorem jf_18 : (fun (P : Program) (f : FuncId) (fn : Func) (s : ChangeSpec) (c : OpenClaim) => s.vars.all (P.varReadable ·)) Tryz.pinned.checked.prog 3 Tryz.f3 specE Rows.engineChecksUptoRow = true := by kernel_rfl
theorem jf_19 : (fun (P : Program) (f : FuncId) (fn : Func) (s : ChangeSpec) (c : OpenClaim) => fn.resultTypes.all (fun t => P.readableRec t && decide (t < P.types.size))) Tryz.pinned.checked.prog 3 Tryz.f3 specE Rows.engineChecksUptoRow = true := by kernel_rfl
theorem jf_20 : (fun (P : Program) (f : FuncId) (fn : Func) (s : ChangeSpec) (c : OpenClaim) => (c.ifacesOut == fn.resultTypes.toList.any (P.ifacesRec ·))) Tryz.pinned.checked.prog 3 Tryz.f3 specE Rows.engineChecksUptoRow = true := by kernel_rfl
theorem jf_21 : (fun (P : Program) (f : FuncId) (fn : Func) (s : ChangeSpec) (c : OpenClaim) => (c.loopsOut == fn.resultTypes.toList.any (P.loopsFrom ·))) Tryz.pinned.checked.prog 3 Tryz.f3 specE Rows.engineChecksUptoRow = true := by kernel_rfl
theorem jf_22 : (fun (P : Program) (f : FuncId) (fn : Func) (s : ChangeSpec) (c : OpenClaim) => (c.plainKeys == P.plainKeys)) Tryz.pinned.checked.prog 3 Tryz.f3 specE Rows.engineChecksUptoRow = true := by kernel_rfl
theorem jf_23 : (fun (P : Program) (f : FuncId) (fn : Func) (s : ChangeSpec) (c : OpenClaim) => c.shortTexts.isNone) Tryz.pinned.checked.prog 3 Tryz.f3 specE Rows.engineChecksUptoRow = true := by kernel_rfl
theorem jf_24 : (fun (P : Program) (f : FuncId) (fn : Func) (s : ChangeSpec) (c : OpenClaim) => P.stopsHeard) Tryz.pinned.checked.prog 3 Tryz.f3 specE Rows.engineChecksUptoRow = true := by kernel_rfl
theorem jf_25 : (fun (P : Program) (f : FuncId) (fn : Func) (s : ChangeSpec) (c : OpenClaim) => P.mayEnter) Tryz.pinned.checked.prog 3 Tryz.f3 specE Rows.engineChecksUptoRow = true := by kernel_rfl
theorem jf_26 : (fun (P : Program) (f : FuncId) (fn : Func) (s : ChangeSpec) (c : OpenClaim) => (c.lifted == P.liftsFinal)) Tryz.pinned.checked.prog 3 Tryz.f3 specE Rows.engineChecksUptoRow = true := by kernel_rfl
theorem jf_27 : (fun (P : Program) (f : FuncId) (fn : Func) (s : ChangeSpec) (c : OpenClaim) => (P.make == some c.make)) Tryz.pinned.checked.prog 3 Tryz.f3 specE Rows.engineChecksUptoRow = true := by kernel_rfl
theorem jf_28 : (fun (P : Program) (f : FuncId) (fn : Func) (s : ChangeSpec) (c : OpenClaim) => (c.kinds == (if c.domain.isEmpty then [] else fn.params.toList.map fun t => match P.underlying t with | some (.int k) => some k | _ => none))) Tryz.pinned.checked.prog 3 Tryz.f3 specE Rows.engineChecksUptoRow = true := by kernel_rfl
theorem jf_29 : (fun (P : Program) (f : FuncId) (fn : Func) (s : ChangeSpec) (c : OpenClaim) => (c.pinned == c.pinnedBy)) Tryz.pinned.checked.prog 3 Tryz.f3 specE Rows.engineChecksUptoRow = true := by kernel_rfl
theorem jf_30 : (fun (P : Program) (f : FuncId) (fn : Func) (s : ChangeSpec) (c : OpenClaim) => (c.veiled == (fn.params.toList ++ s.plain.varTypes P ++ fn.resultTypes.toList).any (P.veiledRec ·))) Tryz.pinned.checked.prog 3 Tryz.f3 specE Rows.engineChecksUptoRow = true := by kernel_rfl
theorem jf_31 : (fun (P : Program) (f : FuncId) (fn : Func) (s : ChangeSpec) (c : OpenClaim) => c.veiledFits P fn.params.toList (fn.params.toList ++ s.plain.varTypes P ++ fn.resultTypes.toList)) Tryz.pinned.checked.prog 3 Tryz.f3 specE Rows.engineChecksUptoRow = true := by kernel_rfl
end Go.Proofs.YtkmicbhnfochjaaGreatDoor
