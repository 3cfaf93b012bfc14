/- 'EngineChecksUptoCardSaid': whatever the text, of bulk at most 1048576, EngineChecks answers true, and its argument reads as it did. No condition. -/
import Derived.Test.YtkmicbhnfochjaaGreatDoorCards
import Derived.Test.YtkmicbhnfochjaaGreatDoorTie
import Derived.Test.YtkmicbhnfochjaaGreatDoorMRow0
import Derived.Test.YtkmicbhnfochjaaGreatDoorMFacts
import Derived.WalkKit
import Derived.ProofKit
import Derived.OpenShut
import Derived.Deep.DeepHandedRow
import Derived.Lib.LaidTab
import Derived.LaidHandle
import Derived.Shelf.Vars
import Derived.ChangeMaps5

namespace Go.Proofs.YtkmicbhnfochjaaGreatDoor
open Go Go.ChangeShapes Go.WideShapes Go.ChangeAt Go.RowKit Go.ChangeMaps

set_option maxRecDepth 100000 in
theorem liftedE (os : Os) (started : os.Started) (H : Type) (enc : TypeId × Value → H) (F : Stop.Interp) :
    ReturnsInHanded {} Tryz.checked os 3 .any ((Rows.OpenSpec.upto Rows.engineChecksSpec).preRow enc Tryz.prog Tryz.f3 Rows.engineChecksUptoRow.domain false Rows.engineChecksUptoRow.laid) (((Rows.OpenSpec.upto Rows.engineChecksSpec).at F).post enc Tryz.prog Tryz.f3 false true false false) := by
  obtain ⟨places, hx⟩ := readsE os enc
  refine returnsInHanded_of_row (C := Tryz.checked) (s := Rows.OpenSpec.upto Rows.engineChecksSpec) ownE started (by kernel_rfl) Tryz.func3
    (witness_row_at (enc := enc) (C := Tryz.checked) false (laidWorld os) #[.string ⟨#[]⟩] rfl (by kernel_rfl) (by kernel_rfl) (by kernel_rfl)
      (OpenSpec.preRow_of_cond 8 hx (by kernel_rfl) (fun k hk => by cases hk; kernel_rfl) (by kernel_rfl) (laid_met os))) ?_
  intro W base args ds gs before hval hW _ hk _ hL hs _
  exact engineContract H enc W base args ds gs before hval hW (hk _ rfl) hL hs
theorem saidE : Rows.EngineChecksUptoSaid :=
  OpenClaim.holds_of_cond 3 Tryz.f3 rfl rfl rfl rfl rfl rfl rfl ⟨rfl, rfl, rfl, rfl, rfl⟩ rfl rfl rfl rfl rfl (by as_aux_lemma => kernel_rfl) Tryz.func3 closedE
    (of_decide_eq_true (by kernel_rfl)) (by unfold Func.isWrapper; first | (rw [if_pos (by decide +kernel)]; kernel_rfl) | (rw [if_neg (by decide +kernel)]; exact ⟨rfl, rfl⟩))
    (fun os started H enc _ F => by rw [OpenClaim.pre_eq_preRow]; exact liftedE os started H enc F)
/-- No parameter wants a stand-in; the program's own looks are off. -/
theorem plainE (f : FuncId) (fn : Func) (hf : Tryz.pinned.checked.prog.funcNamed "rowlock/rowlocklaw18.EngineChecks" = some f) (hfn : Tryz.pinned.checked.prog.funcs[f]? = some fn) :
    true = Tryz.pinned.checked.prog.looks [] ∧ ∀ (j : Nat) t, fn.params[j]? = some t → Tryz.pinned.checked.prog.wantsStandIn t = false := by
  obtain rfl : f = 3 := Option.some.inj ((show Tryz.prog.funcNamed "rowlock/rowlocklaw18.EngineChecks" = some 3 by kernel_rfl).symm.trans hf) |>.symm
  obtain rfl : fn = Tryz.f3 := (Option.some.inj (Tryz.func3.symm.trans hfn)).symm
  refine ⟨by kernel_rfl, fun j t ht => ?_⟩
  rw [Tryz.params3] at ht
  obtain rfl : t = 9 := by simpa using Array.mem_of_getElem? ht
  exact (show Tryz.prog.wantsStandIn 9 = false by kernel_rfl)
/-- The card of the second form. -/
theorem engineChecks : Rows.EngineChecksUptoCardSaid :=
  Claim7.holds_tied_plain_at .later [] _ _ _ _ saidE (fun _ h => by cases h) (by kernel_rfl) (fun _ h => by cases h) engineChecksUpto_row_tie rfl ⟨rfl, rfl⟩ (by kernel_rfl) rfl plainE (by kernel_rfl)
#print axioms engineChecks
end Go.Proofs.YtkmicbhnfochjaaGreatDoor
