/- 'TreeCallsSaid': whatever the call and the number, TreeCalls answers true, and its arguments read as they did. No condition. -/
import Derived.Test.YthccmjkfigpbdaaGreatRows
import Derived.Test.YthccmjkfigpbdaaGreatWays
import Derived.WalkKit
import Derived.ProofKit
import Derived.OpenShut
import Derived.ShutString
import Derived.ChangeOld
import Derived.Below
import Derived.Lib.SmallJoins
namespace Go.Proofs.YthccmjkfigpbdaaGreat
open Go Go.ChangeShapes Go.WideShapes Go.ChangeAt Go.RowKit
open Go.Joins (open_agg3)

theorem treeCalls_fine (kind : Int) (key value : ByteArray) (n : Int) : Fine kind key value n := by
  by_cases h1 : key.size > 1000
  · exact w1 h1
  by_cases h2 : value.size > 1000
  · exact w2 (by omega) h2
  by_cases h3 : kind < 1
  · exact w3 (by omega) (by omega) h3
  by_cases h4 : kind > 5
  · exact w4 (by omega) (by omega) h4
  by_cases h5 : key.size = 0
  · exact w5 (by omega) (by omega) (by omega) h5
  by_cases h6 : key.size > 16
  · exact w6 (by omega) (by omega) (by omega) (by omega) h6
  by_cases h7 : kind = 1
  · exact w7 (by omega) h7 (by omega) (by omega)
  by_cases h8 : kind = 5
  · exact w8 (by omega) h8 (by omega) (by omega)
  by_cases h9 : value.size > 16
  · exact w9 (by omega) (by omega) (by omega) (by omega) (by omega) h9
  · exact w10 (by omega) (by omega) (by omega) (by omega) (by omega)
theorem Old.below {w w' : World} (h : Sx.Old w w') : Below w.heap.size w w' := ⟨h.os, h.tape, h.output, h.size, h.keep⟩

theorem own : ownKnob Tryz.prog.godebug = none := by kernel_rfl
theorem laidOut : laidOutB Tryz.prog = true := by kernel_rfl

set_option maxRecDepth 100000 in
theorem lifted (os : Os) (started : os.Started) (H : Type) (enc : TypeId × Value → H) :
    ReturnsInHanded {} Tryz.checked os 3 .any (Rows.treeCallsSpec.pre6 enc Tryz.prog Tryz.f3 Rows.treeCallsRow.domain false) (Rows.treeCallsSpec.post enc Tryz.prog Tryz.f3 false true false false) := by
  refine returnsInHanded_of_change (C := Tryz.checked) own started (by kernel_rfl) Tryz.func3
    (ChangeSpec.witness6 (enc := enc) (C := Tryz.checked) false ⟨#[], #[.agg #[.int .i64 0, .string ⟨#[]⟩, .string ⟨#[]⟩], .int .i64 0], []⟩ 8 (by kernel_rfl) (by kernel_rfl) (by kernel_rfl) (by kernel_rfl)) ?_
  intro W base args ds gs before hval0 hW hcnd _
  have hval : ∀ (j : Nat) t v, Tryz.f3.params[j]? = some t → args[j]? = some v → Value.okWide Tryz.prog W .any base t v := hval0
  have hW' := hW
  obtain ⟨p, q, hA0, hV, rfl, hfz, hnd⟩ := hW
  have hA : DataW.TrodAll enc Tryz.prog W 0 (fun _ => true) true Tryz.f3.params.toList args.toList ds p := hA0
  rw [Tryz.params3] at hA hval
  obtain ⟨v0, v1, d0, d1, p0, p1, rfl, rfl, rfl, h0, h1⟩ := trodAll_two hA
  obtain ⟨rfl, rfl⟩ := trodVars_none hV
  have k0 := h0
  have lt0 : ∀ x ∈ p0, x.block < W.heap.size := by obtain ⟨m, hm⟩ := k0; exact DataW.trod_lt m _ _ _ hm
  obtain ⟨c0, c1, c2, y0, y1, y2, m, rfl, _, _, hy0, hy1, hy2⟩ := open_agg3 Tryz.underlying23 (by kernel_rfl) (by kernel_rfl) (hval 0 23 v0 rfl rfl) h0
  obtain ⟨kind, e0, _, _⟩ := DataW.trod_int Tryz.underlying3 hy0
  obtain ⟨key, e1, _, _⟩ := DataW.trod_string Tryz.underlying9 hy1
  obtain ⟨value, e2, _, _⟩ := DataW.trod_string Tryz.underlying9 hy2
  simp only [List.cons.injEq, and_true] at e0 e1 e2
  subst e0 e1 e2
  obtain ⟨n, rfl, rfl, rfl, wn⟩ := open_int Tryz.underlying3 (hval 1 3 v1 rfl rfl) h1
  clear hA0 hval0
  refine (treeCalls_fine kind key value n W).mono fun e W' ⟨he, old⟩ => ?_
  subst he
  have bel := Old.below old
  exact ⟨_, rfl, _, _, _, [], _, [], hW', trodAll_mk1 (shut_bool Tryz.underlying4 _), (trodAll_mk2 (Below.trod laidOut (by kernel_rfl) (of_decide_eq_true (by kernel_rfl)) k0 bel lt0) (shut_int Tryz.underlying3 wn)), rfl, bel.frame _, fun h => by cases h⟩

theorem treeCalls : Rows.TreeCallsSaid :=
  OpenClaim.holds_of_wide 3 Tryz.f3 rfl rfl rfl rfl rfl rfl rfl ⟨rfl, rfl, rfl, rfl, rfl⟩ rfl rfl rfl rfl rfl (by kernel_rfl) Tryz.func3 (by kernel_rfl)
    (of_decide_eq_true (by kernel_rfl)) (by unfold Func.isWrapper; first | (rw [if_pos (by decide +kernel)]; kernel_rfl) | (rw [if_neg (by decide +kernel)]; exact ⟨rfl, rfl⟩))
    (fun os started H enc _ => lifted os started H enc)
#print axioms treeCalls
end Go.Proofs.YthccmjkfigpbdaaGreat
