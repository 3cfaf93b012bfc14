/- 'TopStoresSaid': whatever the play, TopStores answers true, and its argument reads as it did. No condition. -/
import Derived.Test.YtglaapelpidfhaaGreatPlay
namespace Go.Proofs.YtglaapelpidfhaaGreat
open Go Go.ChangeShapes Go.WideShapes Go.ChangeAt Go.RowKit
open Go.Sx (argsHeap ArgCells lit litOk args_cells args_calls)

theorem ownTop : ownKnob Tryz.prog.godebug = none := by kernel_rfl
theorem laidOutTop : laidOutB Tryz.prog = true := by kernel_rfl
theorem fineT_calls {W : World} {x y u v : Value} {a b c d e g : Int} (h : FineT W a b c d e g x y) (hu : ∀ r, Sx.Rel r x u) (hv : ∀ r, Sx.Rel r y v) :
    Calls Tryz.prog 3 #[.agg #[.int .i64 a, .int .i64 b, .int .i64 c, .int .i64 d, .int .i64 e, .int .i64 g, u, v]] W fun e W' => e = .returned (.bool true) ∧ Sx.Old W W' := by
  obtain ⟨c1, h1, hd, h0⟩ := h
  refine Calls.mono (args_calls hd h0 (us := #[.agg #[.int .i64 a, .int .i64 b, .int .i64 c, .int .i64 d, .int .i64 e, .int .i64 g, u, v]]) ?_) fun e W' ⟨r', u, he, hr, old⟩ => ?_
  · exact .cons (Sx.RelL.mkAgg (.cons (.int _ _) (.cons (.int _ _) (.cons (.int _ _) (.cons (.int _ _) (.cons (.int _ _) (.cons (.int _ _) (.cons (hu _) (.cons (hv _) .nil))))))))) .nil
  · cases hr; exact ⟨he, old⟩

set_option maxRecDepth 100000 in
theorem liftedTop (os : Os) (started : os.Started) (H : Type) (enc : TypeId × Value → H) :
    ReturnsInHanded {} Tryz.checked os 3 .any (Rows.topStoresSpec.pre6 enc Tryz.prog Tryz.f3 Rows.topStoresRow.domain false) (Rows.topStoresSpec.post enc Tryz.prog Tryz.f3 false true false false) := by
  refine returnsInHanded_of_change_sized (C := Tryz.checked) ownTop started (by kernel_rfl) Tryz.func3
    (ChangeSpec.witness6 (enc := enc) (C := Tryz.checked) false ⟨#[], #[.agg #[.int .i64 0, .int .i64 0, .int .i64 0, .int .i64 0, .int .i64 0, .int .i64 0, .slice none 0 0, .slice none 0 0]], []⟩ 8 (by kernel_rfl) (by kernel_rfl) (by kernel_rfl) (by kernel_rfl)) ?_
  intro W base args ds gs before hval0 hW _ hk _
  have hval : ∀ (j : Nat) t v, Tryz.f3.params[j]? = some t → args[j]? = some v → Value.okWide Tryz.prog W .any base t v := hval0
  have hW' := hW
  obtain ⟨p, q, hA0, hV, rfl, hfz, hnd⟩ := hW
  have hA : DataW.TrodAll enc Tryz.prog W 0 (fun _ => true) true Tryz.f3.params.toList args.toList ds p := hA0
  rw [Tryz.params3] at hA hval
  obtain ⟨v0, vs0, d0, ds0, p0, q0, hargs, rfl, rfl, h0, r0⟩ := trodAll_cons hA
  obtain ⟨rfl, rfl, rfl⟩ := trodAll_nil r0
  obtain rfl : args = #[v0] := by cases args; simp_all
  obtain ⟨rfl, rfl⟩ := trodVars_none hV
  have hB : ∀ k ∈ d0.weights Tryz.prog 27, k ≤ reachBytes := fun k hm => by
    have h := List.all_eq_true.1 hk k (DataW.weights_mem_each (P := Tryz.prog) (j := 0) (t := 27) rfl rfl k hm)
    simpa using h
  have lt0 : ∀ x ∈ p0, x.block < W.heap.size := by obtain ⟨m, hm⟩ := h0; exact DataW.trod_lt m _ _ _ hm
  have k0 := h0
  obtain ⟨a, b, c, d, e, g, x, y, rfl, hx, hy⟩ := open_play (hval 0 27 v0 rfl rfl) h0 hB
  clear hA0 hval0
  have run : Calls Tryz.prog 3 #[.agg #[.int .i64 a, .int .i64 b, .int .i64 c, .int .i64 d, .int .i64 e, .int .i64 g, x, y]] W fun e W' => e = .returned (.bool true) ∧ Sx.Old W W' := by
    obtain ⟨pt, Tn, ct, hyr⟩ : ∃ (pt : Option Addr) (Tn ct : Nat), ∀ r, Sx.Rel r (.slice pt Tn ct) y := by
      rcases hy with rfl | ⟨⟨b1, o1, s1⟩, M1, c1, rfl, hs1, hc1⟩
      · exact ⟨none, 0, 0, fun _ => .sliceNil⟩
      · exact ⟨some ⟨b1, o1, some 0⟩, M1, c1, fun _ => .litSlice hc1 hs1⟩
    rcases hx with rfl | ⟨⟨b2, o2, s2⟩, M2, c2, rfl, hs2, hc2, hM, hL⟩
    · exact fineT_calls (fine_nil a b c d e g) (fun _ => .sliceNil) hyr
    · exact fineT_calls (fine_some a b c d e g hM hL) (fun _ => .litSlice hc2 hs2) hyr
  refine run.mono fun e W' ⟨he, old⟩ => ?_
  subst he
  have bel := Old.below old
  exact ⟨_, rfl, _, _, _, [], _, [], hW', trodAll_mk1 (shut_bool Tryz.underlying4 _), (trodAll_cons_mk (Below.trod laidOutTop (by kernel_rfl) (of_decide_eq_true (by kernel_rfl)) k0 bel lt0) trodAll_mk0), rfl, bel.frame _, fun h => by cases h⟩

theorem topStores : Rows.TopStoresSaid :=
  OpenClaim.holds_of_wide 3 Tryz.f3 rfl rfl rfl rfl rfl rfl rfl ⟨rfl, rfl, rfl, rfl, rfl⟩ rfl rfl rfl rfl rfl (by kernel_rfl) Tryz.func3 (by kernel_rfl)
    (of_decide_eq_true (by kernel_rfl)) (by unfold Func.isWrapper; first | (rw [if_pos (by decide +kernel)]; kernel_rfl) | (rw [if_neg (by decide +kernel)]; exact ⟨rfl, rfl⟩))
    (fun os started H enc _ => liftedTop os started H enc)
#print axioms topStores
end Go.Proofs.YtglaapelpidfhaaGreat
