/- Live's and Pages' loops, at the end. No condition. -/
import Derived.Test.YtglaapelpidfhaaGreatClients
namespace Go.Proofs.YtglaapelpidfhaaGreat
open Go Go.Sx
/-- Pages' loop. -/
noncomputable def pg : Code := subC [1, 1, 1, 0, 1, 0, 0] (bodyC 93)
noncomputable def pgT (out : Value) (q : Nat) (i : Int) : List Value := mkT 26 0 [(3, out), (11, .slice (some ⟨8, 0, none⟩) (q + 1) 0), (12, .int .i64 (.ofNat (q + 1))), (13, .int .i64 i)]
noncomputable def pgH (q : Nat) : Heap := [(8, .cells (pagesL q) 214)]
theorem page_at {q i : Nat} (h : i < q) : ((pagesL q).drop (0 + (i + 1) * 3)).take 3 = zpage ∧ zpage.length = 3 := by
  refine ⟨?_, rfl⟩
  show ((([.bool true, .int .i64 1, .int .i64 1] : List Value) ++ zrep zpage q).drop (0 + (i + 1) * 3)).take 3 = zpage
  rw [show 0 + (i + 1) * 3 = ([.bool true, .int .i64 1, .int .i64 1] : List Value).length + i * 3 by simp; omega, ← List.drop_drop, List.drop_left]
  exact zrep_at (zl := zpage) h
set_option maxRecDepth 100000 in
theorem lv700_0 {s : Nat} (h0 : (Decidable.decide (0 < Int.ofNat (s + 1))) = true) (h1 : (Decidable.decide ((0 : Int) ≤ 0 ∧ 0 < ((s + 1 : Nat) : Int))) = true)   :
    Sx.Goes Tryz.prog 700 701 710 (slH s) lv (lvT (.slice none 0 0) s 0) (slH s) (mkT 30 0 [(3, .slice (some ⟨700, 0, none⟩) 1 0), (11, .slice (some ⟨6, 0, none⟩) (s + 1) 0), (12, .int .i64 (.ofNat (s + 1))), (13, .int .i64 (1))]) :=
  goes_of mixed con4_holds [(700, 703)] [(6, true)] (d := [(0, .br true), (1, .br true)]) (n := 600) (c2 := 704) (L' := [.p (Cover (slotsL s) ((slotsL s).map (renV (nameOf [(700, 703)] 700 710) 9)))]) (L := [.b (Decidable.decide ((0 : Int) ≤ 0 ∧ 0 < ((s + 1 : Nat) : Int))), .b ((Decidable.decide (0 < Int.ofNat (s + 1))) == true)]) (by kernel_rfl) rfl rfl (vcs_cons (cover_slots (nm := nameOf [(700, 703)] 700 710) rfl rfl s) vcs_nil)
    (by
      refine vcs_cons (vc_c h1) ?_
      refine vcs_cons (vc_b h0) ?_
      exact vcs_nil)
set_option maxRecDepth 100000 in
theorem lv700_1 {s i : Nat} (h0 : (Decidable.decide (Int.ofNat (i + 1) < Int.ofNat (s + 1))) = true) (h1 : (Decidable.decide (0 ≤ Int.ofNat (i + 1) ∧ Int.ofNat (i + 1) < ((s + 1 : Nat) : Int))) = true) (hc : ((slotsL s).drop (0 + (i + 1) * 17)).take 17 = zslot ∧ zslot.length = 17)  :
    Sx.Goes Tryz.prog 700 701 710 (slH s) lv (lvT (.slice (some ⟨700, 0, none⟩) 1 0) s (.ofNat (i + 1))) (slH s) (mkT 30 0 [(3, .slice (some ⟨700, 0, none⟩) 1 0), (11, .slice (some ⟨6, 0, none⟩) (s + 1) 0), (12, .int .i64 (.ofNat (s + 1))), (13, .int .i64 (IntKind.i64.wrap (.ofNat (i + 1) + 1)))]) :=
  goes_of mixed con4_holds [(700, 700)] [(6, true)] (d := [(0, .br true), (1, .br true), (2, .cell (.tuple ⟨zslot⟩))]) (n := 600) (c2 := 702) (L' := [.p (Cover (slotsL s) ((slotsL s).map (renV (nameOf [(700, 700)] 700 710) 9)))]) (L := [.p (((slotsL s).drop (0 + (i + 1) * 17)).take 17 = zslot ∧ zslot.length = 17), .b (Decidable.decide (0 ≤ Int.ofNat (i + 1) ∧ Int.ofNat (i + 1) < ((s + 1 : Nat) : Int))), .b ((Decidable.decide (Int.ofNat (i + 1) < Int.ofNat (s + 1))) == true)]) (by kernel_rfl) rfl rfl (vcs_cons (cover_slots (nm := nameOf [(700, 700)] 700 710) rfl rfl s) vcs_nil)
    (by
      refine vcs_cons (hc) ?_
      refine vcs_cons (vc_c h1) ?_
      refine vcs_cons (vc_b h0) ?_
      exact vcs_nil)
set_option maxRecDepth 100000 in
theorem lv700_e {s : Nat} (h0 : (Decidable.decide (Int.ofNat (s + 1) < Int.ofNat (s + 1))) = false)   :
    Sx.Ends Tryz.prog 700 701 710 (slH s) lv (lvT (.slice (some ⟨700, 0, none⟩) 1 0) s (.ofNat (s + 1))) (.exit 0) (slH s) (mkT 30 0 [(3, .slice (some ⟨700, 0, none⟩) 1 0)]) :=
  ends_of mixed con4_holds [(700, 700)] [(6, true)] (d := [(0, .br false)]) (n := 600) (c2 := 701) (L' := [.p (Cover (slotsL s) ((slotsL s).map (renV (nameOf [(700, 700)] 700 710) 9)))]) (L := [.b ((Decidable.decide (Int.ofNat (s + 1) < Int.ofNat (s + 1))) == false)]) (by kernel_rfl) rfl rfl (vcs_cons (cover_slots (nm := nameOf [(700, 700)] 700 710) rfl rfl s) vcs_nil)
    (by
      refine vcs_cons (vc_b h0) ?_
      exact vcs_nil)
theorem lv700_loop {s : Nat} (hs : s < 100000) : Does Tryz.prog 700 (slH s) 710 (slH s) (.inLoop lv (lvT (.slice none 0 0) s 0)) (.out (.exit 0) (mkT 30 0 [(3, .slice (some ⟨700, 0, none⟩) 1 0)])) := by
  have rest : ∀ k i : Nat, i + k = s → Mid Tryz.prog 700 (slH s) 701 (slH s) 710 (slH s) lv (lvT (.slice (some ⟨700, 0, none⟩) 1 0) s (.ofNat (i + 1))) (.exit 0) (mkT 30 0 [(3, .slice (some ⟨700, 0, none⟩) 1 0)]) := by
    intro k
    induction k with
    | zero =>
      intro i hi
      obtain rfl : i = s := by omega
      exact (lv700_e (decide_eq_false (by omega))).mid (by simp) (by decide)
    | succ k ih =>
      intro i hi
      have g := lv700_1 (s := s) (i := i) (decide_eq_true (by simp only [Int.ofNat_eq_natCast]; omega)) (decide_eq_true (by simp only [Int.ofNat_eq_natCast]; omega)) (slot_at (by omega))
      rw [wrapS (by simp only [Int.ofNat_eq_natCast]; omega) (by simp only [Int.ofNat_eq_natCast]; omega)] at g
      exact g.mid (by decide) (by decide) (ih (i + 1) (by omega))
  have g := lv700_0 (s := s) (decide_eq_true (by simp only [Int.ofNat_eq_natCast]; omega)) (decide_eq_true (by omega))
  refine does_of_mid (ρ := []) (cm := 701) rfl (by decide) (by decide) (entry_of (len := 30) (h' := slH s) [(6, true)] (l := [(3, .slice none 0 0), (11, .slice (some ⟨6, 0, none⟩) (s + 1) 0), (12, .int .i64 (.ofNat (s + 1))), (13, .int .i64 0)]) (L := [.p (Cover (slotsL s) ((slotsL s).map (renV (nameOf [] 700 710) 9)))]) (by kernel_rfl) (vcs_cons (cover_slots (nm := nameOf [] 700 710) rfl rfl s) vcs_nil)) ?_
  exact g.mid (by decide) (by decide) (rest s 0 (by omega))
set_option maxRecDepth 100000 in
theorem pg600_0 {q : Nat} (h0 : (Decidable.decide (0 < Int.ofNat (q + 1))) = true) (h1 : (Decidable.decide ((0 : Int) ≤ 0 ∧ 0 < ((q + 1 : Nat) : Int))) = true)   :
    Sx.Goes Tryz.prog 600 601 610 (pgH q) pg (pgT (.slice none 0 0) q 0) (pgH q) (mkT 26 0 [(3, .slice (some ⟨600, 0, none⟩) 1 0), (11, .slice (some ⟨8, 0, none⟩) (q + 1) 0), (12, .int .i64 (.ofNat (q + 1))), (13, .int .i64 (1))]) :=
  goes_of mixed con4_holds [(600, 603)] [(8, true)] (d := [(0, .br true), (1, .br true)]) (n := 600) (c2 := 604) (L' := [.p (Cover (pagesL q) ((pagesL q).map (renV (nameOf [(600, 603)] 600 610) 9)))]) (L := [.b (Decidable.decide ((0 : Int) ≤ 0 ∧ 0 < ((q + 1 : Nat) : Int))), .b ((Decidable.decide (0 < Int.ofNat (q + 1))) == true)]) (by kernel_rfl) rfl rfl (vcs_cons (cover_pages (nm := nameOf [(600, 603)] 600 610) q) vcs_nil)
    (by
      refine vcs_cons (vc_c h1) ?_
      refine vcs_cons (vc_b h0) ?_
      exact vcs_nil)
set_option maxRecDepth 100000 in
theorem pg600_1 {q i : Nat} (h0 : (Decidable.decide (Int.ofNat (i + 1) < Int.ofNat (q + 1))) = true) (h1 : (Decidable.decide (0 ≤ Int.ofNat (i + 1) ∧ Int.ofNat (i + 1) < ((q + 1 : Nat) : Int))) = true) (hc : ((pagesL q).drop (0 + (i + 1) * 3)).take 3 = zpage ∧ zpage.length = 3)  :
    Sx.Goes Tryz.prog 600 601 610 (pgH q) pg (pgT (.slice (some ⟨600, 0, none⟩) 1 0) q (.ofNat (i + 1))) (pgH q) (mkT 26 0 [(3, .slice (some ⟨600, 0, none⟩) 1 0), (11, .slice (some ⟨8, 0, none⟩) (q + 1) 0), (12, .int .i64 (.ofNat (q + 1))), (13, .int .i64 (IntKind.i64.wrap (.ofNat (i + 1) + 1)))]) :=
  goes_of mixed con4_holds [(600, 600)] [(8, true)] (d := [(0, .br true), (1, .br true), (2, .cell (.tuple ⟨zpage⟩))]) (n := 600) (c2 := 602) (L' := [.p (Cover (pagesL q) ((pagesL q).map (renV (nameOf [(600, 600)] 600 610) 9)))]) (L := [.p (((pagesL q).drop (0 + (i + 1) * 3)).take 3 = zpage ∧ zpage.length = 3), .b (Decidable.decide (0 ≤ Int.ofNat (i + 1) ∧ Int.ofNat (i + 1) < ((q + 1 : Nat) : Int))), .b ((Decidable.decide (Int.ofNat (i + 1) < Int.ofNat (q + 1))) == true)]) (by kernel_rfl) rfl rfl (vcs_cons (cover_pages (nm := nameOf [(600, 600)] 600 610) q) vcs_nil)
    (by
      refine vcs_cons (hc) ?_
      refine vcs_cons (vc_c h1) ?_
      refine vcs_cons (vc_b h0) ?_
      exact vcs_nil)
set_option maxRecDepth 100000 in
theorem pg600_e {q : Nat} (h0 : (Decidable.decide (Int.ofNat (q + 1) < Int.ofNat (q + 1))) = false)   :
    Sx.Ends Tryz.prog 600 601 610 (pgH q) pg (pgT (.slice (some ⟨600, 0, none⟩) 1 0) q (.ofNat (q + 1))) (.exit 0) (pgH q) (mkT 26 0 [(3, .slice (some ⟨600, 0, none⟩) 1 0)]) :=
  ends_of mixed con4_holds [(600, 600)] [(8, true)] (d := [(0, .br false)]) (n := 600) (c2 := 601) (L' := [.p (Cover (pagesL q) ((pagesL q).map (renV (nameOf [(600, 600)] 600 610) 9)))]) (L := [.b ((Decidable.decide (Int.ofNat (q + 1) < Int.ofNat (q + 1))) == false)]) (by kernel_rfl) rfl rfl (vcs_cons (cover_pages (nm := nameOf [(600, 600)] 600 610) q) vcs_nil)
    (by
      refine vcs_cons (vc_b h0) ?_
      exact vcs_nil)
theorem pg600_loop {q : Nat} (hs : q < 100000) : Does Tryz.prog 600 (pgH q) 610 (pgH q) (.inLoop pg (pgT (.slice none 0 0) q 0)) (.out (.exit 0) (mkT 26 0 [(3, .slice (some ⟨600, 0, none⟩) 1 0)])) := by
  have rest : ∀ k i : Nat, i + k = q → Mid Tryz.prog 600 (pgH q) 601 (pgH q) 610 (pgH q) pg (pgT (.slice (some ⟨600, 0, none⟩) 1 0) q (.ofNat (i + 1))) (.exit 0) (mkT 26 0 [(3, .slice (some ⟨600, 0, none⟩) 1 0)]) := by
    intro k
    induction k with
    | zero =>
      intro i hi
      obtain rfl : i = q := by omega
      exact (pg600_e (decide_eq_false (by omega))).mid (by simp) (by decide)
    | succ k ih =>
      intro i hi
      have g := pg600_1 (q := q) (i := i) (decide_eq_true (by simp only [Int.ofNat_eq_natCast]; omega)) (decide_eq_true (by simp only [Int.ofNat_eq_natCast]; omega)) (page_at (by omega))
      rw [wrapS (by simp only [Int.ofNat_eq_natCast]; omega) (by simp only [Int.ofNat_eq_natCast]; omega)] at g
      exact g.mid (by decide) (by decide) (ih (i + 1) (by omega))
  have g := pg600_0 (q := q) (decide_eq_true (by simp only [Int.ofNat_eq_natCast]; omega)) (decide_eq_true (by omega))
  refine does_of_mid (ρ := []) (cm := 601) rfl (by decide) (by decide) (entry_of (len := 26) (h' := pgH q) [(8, true)] (l := [(3, .slice none 0 0), (11, .slice (some ⟨8, 0, none⟩) (q + 1) 0), (12, .int .i64 (.ofNat (q + 1))), (13, .int .i64 0)]) (L := [.p (Cover (pagesL q) ((pagesL q).map (renV (nameOf [] 600 610) 9)))]) (by kernel_rfl) (vcs_cons (cover_pages (nm := nameOf [] 600 610) q) vcs_nil)) ?_
  exact g.mid (by decide) (by decide) (rest q 0 (by omega))
set_option maxRecDepth 100000 in
theorem pg648_0 {q : Nat} (h0 : (Decidable.decide (0 < Int.ofNat (q + 1))) = true) (h1 : (Decidable.decide ((0 : Int) ≤ 0 ∧ 0 < ((q + 1 : Nat) : Int))) = true)   :
    Sx.Goes Tryz.prog 648 649 660 (pgH q) pg (pgT (.slice none 0 0) q 0) (pgH q) (mkT 26 0 [(3, .slice (some ⟨648, 0, none⟩) 1 0), (11, .slice (some ⟨8, 0, none⟩) (q + 1) 0), (12, .int .i64 (.ofNat (q + 1))), (13, .int .i64 (1))]) :=
  goes_of mixed con4_holds [(648, 651)] [(8, true)] (d := [(0, .br true), (1, .br true)]) (n := 600) (c2 := 652) (L' := [.p (Cover (pagesL q) ((pagesL q).map (renV (nameOf [(648, 651)] 648 660) 9)))]) (L := [.b (Decidable.decide ((0 : Int) ≤ 0 ∧ 0 < ((q + 1 : Nat) : Int))), .b ((Decidable.decide (0 < Int.ofNat (q + 1))) == true)]) (by kernel_rfl) rfl rfl (vcs_cons (cover_pages (nm := nameOf [(648, 651)] 648 660) q) vcs_nil)
    (by
      refine vcs_cons (vc_c h1) ?_
      refine vcs_cons (vc_b h0) ?_
      exact vcs_nil)
set_option maxRecDepth 100000 in
theorem pg648_1 {q i : Nat} (h0 : (Decidable.decide (Int.ofNat (i + 1) < Int.ofNat (q + 1))) = true) (h1 : (Decidable.decide (0 ≤ Int.ofNat (i + 1) ∧ Int.ofNat (i + 1) < ((q + 1 : Nat) : Int))) = true) (hc : ((pagesL q).drop (0 + (i + 1) * 3)).take 3 = zpage ∧ zpage.length = 3)  :
    Sx.Goes Tryz.prog 648 649 660 (pgH q) pg (pgT (.slice (some ⟨648, 0, none⟩) 1 0) q (.ofNat (i + 1))) (pgH q) (mkT 26 0 [(3, .slice (some ⟨648, 0, none⟩) 1 0), (11, .slice (some ⟨8, 0, none⟩) (q + 1) 0), (12, .int .i64 (.ofNat (q + 1))), (13, .int .i64 (IntKind.i64.wrap (.ofNat (i + 1) + 1)))]) :=
  goes_of mixed con4_holds [(648, 648)] [(8, true)] (d := [(0, .br true), (1, .br true), (2, .cell (.tuple ⟨zpage⟩))]) (n := 600) (c2 := 650) (L' := [.p (Cover (pagesL q) ((pagesL q).map (renV (nameOf [(648, 648)] 648 660) 9)))]) (L := [.p (((pagesL q).drop (0 + (i + 1) * 3)).take 3 = zpage ∧ zpage.length = 3), .b (Decidable.decide (0 ≤ Int.ofNat (i + 1) ∧ Int.ofNat (i + 1) < ((q + 1 : Nat) : Int))), .b ((Decidable.decide (Int.ofNat (i + 1) < Int.ofNat (q + 1))) == true)]) (by kernel_rfl) rfl rfl (vcs_cons (cover_pages (nm := nameOf [(648, 648)] 648 660) q) vcs_nil)
    (by
      refine vcs_cons (hc) ?_
      refine vcs_cons (vc_c h1) ?_
      refine vcs_cons (vc_b h0) ?_
      exact vcs_nil)
set_option maxRecDepth 100000 in
theorem pg648_e {q : Nat} (h0 : (Decidable.decide (Int.ofNat (q + 1) < Int.ofNat (q + 1))) = false)   :
    Sx.Ends Tryz.prog 648 649 660 (pgH q) pg (pgT (.slice (some ⟨648, 0, none⟩) 1 0) q (.ofNat (q + 1))) (.exit 0) (pgH q) (mkT 26 0 [(3, .slice (some ⟨648, 0, none⟩) 1 0)]) :=
  ends_of mixed con4_holds [(648, 648)] [(8, true)] (d := [(0, .br false)]) (n := 600) (c2 := 649) (L' := [.p (Cover (pagesL q) ((pagesL q).map (renV (nameOf [(648, 648)] 648 660) 9)))]) (L := [.b ((Decidable.decide (Int.ofNat (q + 1) < Int.ofNat (q + 1))) == false)]) (by kernel_rfl) rfl rfl (vcs_cons (cover_pages (nm := nameOf [(648, 648)] 648 660) q) vcs_nil)
    (by
      refine vcs_cons (vc_b h0) ?_
      exact vcs_nil)
theorem pg648_loop {q : Nat} (hs : q < 100000) : Does Tryz.prog 648 (pgH q) 660 (pgH q) (.inLoop pg (pgT (.slice none 0 0) q 0)) (.out (.exit 0) (mkT 26 0 [(3, .slice (some ⟨648, 0, none⟩) 1 0)])) := by
  have rest : ∀ k i : Nat, i + k = q → Mid Tryz.prog 648 (pgH q) 649 (pgH q) 660 (pgH q) pg (pgT (.slice (some ⟨648, 0, none⟩) 1 0) q (.ofNat (i + 1))) (.exit 0) (mkT 26 0 [(3, .slice (some ⟨648, 0, none⟩) 1 0)]) := by
    intro k
    induction k with
    | zero =>
      intro i hi
      obtain rfl : i = q := by omega
      exact (pg648_e (decide_eq_false (by omega))).mid (by simp) (by decide)
    | succ k ih =>
      intro i hi
      have g := pg648_1 (q := q) (i := i) (decide_eq_true (by simp only [Int.ofNat_eq_natCast]; omega)) (decide_eq_true (by simp only [Int.ofNat_eq_natCast]; omega)) (page_at (by omega))
      rw [wrapS (by simp only [Int.ofNat_eq_natCast]; omega) (by simp only [Int.ofNat_eq_natCast]; omega)] at g
      exact g.mid (by decide) (by decide) (ih (i + 1) (by omega))
  have g := pg648_0 (q := q) (decide_eq_true (by simp only [Int.ofNat_eq_natCast]; omega)) (decide_eq_true (by omega))
  refine does_of_mid (ρ := []) (cm := 649) rfl (by decide) (by decide) (entry_of (len := 26) (h' := pgH q) [(8, true)] (l := [(3, .slice none 0 0), (11, .slice (some ⟨8, 0, none⟩) (q + 1) 0), (12, .int .i64 (.ofNat (q + 1))), (13, .int .i64 0)]) (L := [.p (Cover (pagesL q) ((pagesL q).map (renV (nameOf [] 648 660) 9)))]) (by kernel_rfl) (vcs_cons (cover_pages (nm := nameOf [] 648 660) q) vcs_nil)) ?_
  exact g.mid (by decide) (by decide) (rest q 0 (by omega))
end Go.Proofs.YtglaapelpidfhaaGreat
