/- 'TxnCallsSaid': whatever the limits and the acts, TxnCalls answers true, and its arguments read as they did. No condition. -/
import Derived.Test.YtglaapelpidfhaaGreatRows
import Derived.Test.YtglaapelpidfhaaGreatOpens
import Derived.WalkKit
import Derived.ProofKit
import Derived.OpenShut
import Derived.ShutString
import Derived.ChangeOld
import Derived.Below
namespace Go.Proofs.YtglaapelpidfhaaGreat
open Go Go.ChangeShapes Go.WideShapes Go.ChangeAt Go.RowKit
open Go.Sx (argsHeap ArgCells lit litOk args_cells args_calls)

theorem own : ownKnob Tryz.prog.godebug = none := by kernel_rfl
theorem laidOut : laidOutB Tryz.prog = true := by kernel_rfl

set_option maxRecDepth 100000 in
theorem lifted (os : Os) (started : os.Started) (H : Type) (enc : TypeId × Value → H) :
    ReturnsInHanded {} Tryz.checked os 4 .any (Rows.txnCallsSpec.pre6 enc Tryz.prog Tryz.f4 Rows.txnCallsRow.domain false) (Rows.txnCallsSpec.post enc Tryz.prog Tryz.f4 false true false false) := by
  refine returnsInHanded_of_change (C := Tryz.checked) own started (by kernel_rfl) Tryz.func4
    (ChangeSpec.witness6 (enc := enc) (C := Tryz.checked) false ⟨#[], #[.agg #[.int .i64 0, .int .i64 0, .int .i64 0, .int .i64 0, .int .i64 0, .int .i64 0], .slice none 0 0], []⟩ 8 (by kernel_rfl) (by kernel_rfl) (by kernel_rfl) (by kernel_rfl)) ?_
  intro W base args ds gs before hval0 hW hcnd _
  have hval : ∀ (j : Nat) t v, Tryz.f4.params[j]? = some t → args[j]? = some v → Value.okWide Tryz.prog W .any base t v := hval0
  have hW' := hW
  obtain ⟨p, q, hA0, hV, rfl, hfz, hnd⟩ := hW
  have hA : DataW.TrodAll enc Tryz.prog W 0 (fun _ => true) true Tryz.f4.params.toList args.toList ds p := hA0
  rw [Tryz.params4] at hA hval
  obtain ⟨v0, v1, d0, d1, p0, p1, rfl, rfl, rfl, h0, h1⟩ := trodAll_two hA
  obtain ⟨rfl, rfl⟩ := trodVars_none hV
  have lt0 : ∀ x ∈ p0, x.block < W.heap.size := by obtain ⟨m, hm⟩ := h0; exact DataW.trod_lt m _ _ _ hm
  have lt1 : ∀ x ∈ p1, x.block < W.heap.size := by obtain ⟨m, hm⟩ := h1; exact DataW.trod_lt m _ _ _ hm
  have k0 := h0
  have k1 := h1
  obtain ⟨a, b, c, d, e, g, rfl⟩ := open_lims Tryz.underlying23 Tryz.underlying3 (by kernel_rfl) (by kernel_rfl) (hval 0 23 v0 rfl rfl) h0
  have acts := open_acts Tryz.underlying40 Tryz.underlying48 Tryz.underlying46 Tryz.underlying3 Tryz.underlying4 Tryz.underlying9 (by kernel_rfl) (by kernel_rfl) (by kernel_rfl) (by kernel_rfl) (by kernel_rfl) (hval 1 40 v1 rfl rfl) h1
  clear hA0 hval0
  have run : Calls Tryz.prog 4 #[.agg #[.int .i64 a, .int .i64 b, .int .i64 c, .int .i64 d, .int .i64 e, .int .i64 g], v1] W fun e W' => e = .returned (.bool true) ∧ Sx.Old W W' := by
    rcases acts with rfl | ⟨blk, off, N, cap, rfl, hc, hA⟩
    · exact fine_calls (fine_of (p := none) (N := 0) (cap := 0) (fun _ => ⟨loop_end (by decide) end13, loop_end (by decide) end32⟩) a b c d e g) fun r => .sliceNil
    · exact fine_calls (fine_of (p := some ⟨blk, off, some 0⟩) (N := N) (cap := cap) (fun hN => ⟨loop_of (by decide) round13 end13 hN hA N 0 (by omega), loop_of (by decide) round32 end32 hN hA N 0 (by omega)⟩) a b c d e g) fun r => .litSlice hc
  refine run.mono fun e W' ⟨he, old⟩ => ?_
  subst he
  have bel := Old.below old
  exact ⟨_, rfl, _, _, _, [], _, [], hW', trodAll_mk1 (shut_bool Tryz.underlying4 _), (trodAll_mk2 (Below.trod laidOut (by kernel_rfl) (of_decide_eq_true (by kernel_rfl)) k0 bel lt0) (Below.trod laidOut (by kernel_rfl) (of_decide_eq_true (by kernel_rfl)) k1 bel lt1)), rfl, bel.frame _, fun h => by cases h⟩

theorem txnCalls : Rows.TxnCallsSaid :=
  OpenClaim.holds_of_wide 4 Tryz.f4 rfl rfl rfl rfl rfl rfl rfl ⟨rfl, rfl, rfl, rfl, rfl⟩ rfl rfl rfl rfl rfl (by kernel_rfl) Tryz.func4 (by kernel_rfl)
    (of_decide_eq_true (by kernel_rfl)) (by unfold Func.isWrapper; first | (rw [if_pos (by decide +kernel)]; kernel_rfl) | (rw [if_neg (by decide +kernel)]; exact ⟨rfl, rfl⟩))
    (fun os started H enc _ => lifted os started H enc)
#print axioms txnCalls
end Go.Proofs.YtglaapelpidfhaaGreat
