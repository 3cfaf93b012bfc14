/- Live's loop over the slots. No condition. -/
import Derived.Test.YtglaapelpidfhaaGreatTop2
namespace Go.Proofs.YtglaapelpidfhaaGreat
open Go Go.Sx
/-- Live's loop. -/
noncomputable def lv : Code := subC [1, 1, 1, 0, 1, 0, 0] (bodyC 30)
noncomputable def lvT (out : Value) (s : Nat) (i : Int) : List Value := mkT 30 0 [(3, out), (11, .slice (some ⟨6, 0, none⟩) (s + 1) 0), (12, .int .i64 (.ofNat (s + 1))), (13, .int .i64 i)]
noncomputable def slH (s : Nat) : Heap := [(6, .cells (slotsL s) 162)]
theorem zrep_at {zl : List Value} : ∀ {n i : Nat}, i < n → ((zrep zl n).drop (i * zl.length)).take zl.length = zl
  | 0, _, h => by omega
  | n + 1, 0, _ => by
    show ((zl ++ zrep zl n).drop (0 * zl.length)).take zl.length = zl
    rw [Nat.zero_mul, List.drop_zero, List.take_left]
  | n + 1, i + 1, h => by
    show ((zl ++ zrep zl n).drop ((i + 1) * zl.length)).take zl.length = zl
    rw [show (i + 1) * zl.length = zl.length + i * zl.length by rw [Nat.succ_mul, Nat.add_comm], ← List.drop_drop, List.drop_left]
    exact zrep_at (by omega)
theorem slot_at {s i : Nat} (h : i < s) : ((slotsL s).drop (0 + (i + 1) * 17)).take 17 = zslot ∧ zslot.length = 17 := by
  refine ⟨?_, rfl⟩
  show (((.int .i64 1 :: .bool true :: recL 1 true (.slice (some ⟨17, 0, none⟩) 0 0) (.slice (some ⟨18, 0, none⟩) 0 0)) ++ zrep zslot s).drop (0 + (i + 1) * 17)).take 17 = zslot
  rw [show 0 + (i + 1) * 17 = (.int .i64 1 :: .bool true :: recL 1 true (.slice (some ⟨17, 0, none⟩) 0 0) (.slice (some ⟨18, 0, none⟩) 0 0)).length + i * 17 by simp [recL]; omega, ← List.drop_drop, List.drop_left]
  exact zrep_at (zl := zslot) h
set_option maxRecDepth 100000 in
theorem live_0 {s : Nat} (h0 : (Decidable.decide (0 < Int.ofNat (s + 1))) = true) (h1 : (Decidable.decide ((0 : Int) ≤ 0 ∧ 0 < ((s + 1 : Nat) : Int))) = true)   :
    Sx.Goes Tryz.prog 26 27 60 (slH s) lv (lvT (.slice none 0 0) s 0) (slH s) (mkT 30 0 [(3, .slice (some ⟨26, 0, none⟩) 1 0), (11, .slice (some ⟨6, 0, none⟩) (s + 1) 0), (12, .int .i64 (.ofNat (s + 1))), (13, .int .i64 (1))]) :=
  goes_of mixed con3_holds [(26, 29)] [(6, true)] (d := [(0, .br true), (1, .br true)]) (n := 600) (c2 := 30) (L' := [.p (Cover (slotsL s) ((slotsL s).map (renV (nameOf [(26, 29)] 26 60) 9)))]) (L := [.b (Decidable.decide ((0 : Int) ≤ 0 ∧ 0 < ((s + 1 : Nat) : Int))), .b ((Decidable.decide (0 < Int.ofNat (s + 1))) == true)]) (by kernel_rfl) rfl rfl (vcs_cons (cover_slots (nm := nameOf [(26, 29)] 26 60) rfl rfl s) vcs_nil)
    (by
      refine vcs_cons (vc_c h1) ?_
      refine vcs_cons (vc_b h0) ?_
      exact vcs_nil)
set_option maxRecDepth 100000 in
theorem live_1 {s i : Nat} (h0 : (Decidable.decide (Int.ofNat (i + 1) < Int.ofNat (s + 1))) = true) (h1 : (Decidable.decide (0 ≤ Int.ofNat (i + 1) ∧ Int.ofNat (i + 1) < ((s + 1 : Nat) : Int))) = true) (hc : ((slotsL s).drop (0 + (i + 1) * 17)).take 17 = zslot ∧ zslot.length = 17)  :
    Sx.Goes Tryz.prog 26 27 60 (slH s) lv (lvT (.slice (some ⟨26, 0, none⟩) 1 0) s (.ofNat (i + 1))) (slH s) (mkT 30 0 [(3, .slice (some ⟨26, 0, none⟩) 1 0), (11, .slice (some ⟨6, 0, none⟩) (s + 1) 0), (12, .int .i64 (.ofNat (s + 1))), (13, .int .i64 (IntKind.i64.wrap (.ofNat (i + 1) + 1)))]) :=
  goes_of mixed con3_holds [(26, 26)] [(6, true)] (d := [(0, .br true), (1, .br true), (2, .cell (.tuple ⟨zslot⟩))]) (n := 600) (c2 := 28) (L' := [.p (Cover (slotsL s) ((slotsL s).map (renV (nameOf [(26, 26)] 26 60) 9)))]) (L := [.p (((slotsL s).drop (0 + (i + 1) * 17)).take 17 = zslot ∧ zslot.length = 17), .b (Decidable.decide (0 ≤ Int.ofNat (i + 1) ∧ Int.ofNat (i + 1) < ((s + 1 : Nat) : Int))), .b ((Decidable.decide (Int.ofNat (i + 1) < Int.ofNat (s + 1))) == true)]) (by kernel_rfl) rfl rfl (vcs_cons (cover_slots (nm := nameOf [(26, 26)] 26 60) rfl rfl s) vcs_nil)
    (by
      refine vcs_cons (hc) ?_
      refine vcs_cons (vc_c h1) ?_
      refine vcs_cons (vc_b h0) ?_
      exact vcs_nil)
set_option maxRecDepth 100000 in
theorem live_e {s : Nat} (h0 : (Decidable.decide (Int.ofNat (s + 1) < Int.ofNat (s + 1))) = false)   :
    Sx.Ends Tryz.prog 26 27 60 (slH s) lv (lvT (.slice (some ⟨26, 0, none⟩) 1 0) s (.ofNat (s + 1))) (.exit 0) (slH s) (mkT 30 0 [(3, .slice (some ⟨26, 0, none⟩) 1 0)]) :=
  ends_of mixed con3_holds [(26, 26)] [(6, true)] (d := [(0, .br false)]) (n := 600) (c2 := 27) (L' := [.p (Cover (slotsL s) ((slotsL s).map (renV (nameOf [(26, 26)] 26 60) 9)))]) (L := [.b ((Decidable.decide (Int.ofNat (s + 1) < Int.ofNat (s + 1))) == false)]) (by kernel_rfl) rfl rfl (vcs_cons (cover_slots (nm := nameOf [(26, 26)] 26 60) rfl rfl s) vcs_nil)
    (by
      refine vcs_cons (vc_b h0) ?_
      exact vcs_nil)
/-- Live: one slot is used. -/
theorem live_loop {s : Nat} (hs : s < 1000) : Does Tryz.prog 26 (slH s) 60 (slH s) (.inLoop lv (lvT (.slice none 0 0) s 0)) (.out (.exit 0) (mkT 30 0 [(3, .slice (some ⟨26, 0, none⟩) 1 0)])) := by
  have rest : ∀ k i : Nat, i + k = s → Mid Tryz.prog 26 (slH s) 27 (slH s) 60 (slH s) lv (lvT (.slice (some ⟨26, 0, none⟩) 1 0) s (.ofNat (i + 1))) (.exit 0) (mkT 30 0 [(3, .slice (some ⟨26, 0, none⟩) 1 0)]) := by
    intro k
    induction k with
    | zero =>
      intro i hi
      obtain rfl : i = s := by omega
      exact (live_e (decide_eq_false (by omega))).mid (by simp) (by decide)
    | succ k ih =>
      intro i hi
      have g := live_1 (s := s) (i := i) (decide_eq_true (by simp only [Int.ofNat_eq_natCast]; omega)) (decide_eq_true (by simp only [Int.ofNat_eq_natCast]; omega)) (slot_at (by omega))
      rw [wrapS (by simp only [Int.ofNat_eq_natCast]; omega) (by simp only [Int.ofNat_eq_natCast]; omega)] at g
      exact g.mid (by decide) (by decide) (ih (i + 1) (by omega))
  have g := live_0 (s := s) (decide_eq_true (by simp only [Int.ofNat_eq_natCast]; omega)) (decide_eq_true (by omega))
  refine does_of_mid (ρ := []) (cm := 27) rfl (by decide) (by decide) (entry_of (len := 30) (h' := slH s) [(6, true)] (l := [(3, .slice none 0 0), (11, .slice (some ⟨6, 0, none⟩) (s + 1) 0), (12, .int .i64 (.ofNat (s + 1))), (13, .int .i64 0)]) (L := [.p (Cover (slotsL s) ((slotsL s).map (renV (nameOf [] 26 60) 9)))]) (by kernel_rfl) (vcs_cons (cover_slots (nm := nameOf [] 26 60) rfl rfl s) vcs_nil)) ?_
  exact g.mid (by decide) (by decide) (rest s 0 (by omega))
end Go.Proofs.YtglaapelpidfhaaGreat
