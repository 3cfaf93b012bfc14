/- The order of two texts: a contract. No condition. -/
import Derived.Test.YtglaapelpidfhaaGreatSxStr
import Derived.Test.YtglaapelpidfhaaGreatTop3
namespace Go.Proofs.YtglaapelpidfhaaGreat
open Go Go.Sx
/-- Common's loop. -/
noncomputable def cmc : Code := subC [1, 1, 0, 1, 0, 0] (bodyC 127)
noncomputable def cmT (a b : ByteArray) (m : Int) (j : Nat) : List Value := mkT 24 0 [(0, .string a), (1, .string b), (5, .int .i64 j), (10, .int .i64 m), (11, .int .i64 j)]
def comN : List UInt8 → List UInt8 → Nat
  | x :: xs, y :: ys => if x = y then comN xs ys + 1 else 0
  | _, _ => 0
def comB (a b : ByteArray) : Int := .ofNat (comN a.data.toList b.data.toList)
set_option maxRecDepth 100000 in
theorem cm_s {a b : ByteArray} {m : Int} {j : Nat} (h0 : (Decidable.decide ((j : Int) < m)) = true) (h1 : (Decidable.decide (0 ≤ (j : Int) ∧ (j : Int) < (a.data.toList.length : Int))) = true) (h2 : (Decidable.decide (0 ≤ (j : Int) ∧ (j : Int) < (b.data.toList.length : Int))) = true) (h3 : ((((a.data.toList.getD ((j : Int)).toNat 0).toNat : Nat) : Int) != (((b.data.toList.getD ((j : Int)).toNat 0).toNat : Nat) : Int)) = false)   :
    Sx.Goes Tryz.prog 0 0 0 [] cmc (cmT a b m j) [] (mkT 24 0 [(0, .string a), (1, .string b), (5, .int .i64 (IntKind.i64.wrap ((j : Int) + 1))), (10, .int .i64 m), (11, .int .i64 (IntKind.i64.wrap ((j : Int) + 1)))]) :=
  goes_of mixed noC_gives.holds [] [] (d := [(0, .br true), (1, .br true), (2, .br true), (3, .br false)]) (n := 600) (c2 := 0) (L' := []) (L := [.b (((((a.data.toList.getD ((j : Int)).toNat 0).toNat : Nat) : Int) != (((b.data.toList.getD ((j : Int)).toNat 0).toNat : Nat) : Int)) == false), .b (Decidable.decide (0 ≤ (j : Int) ∧ (j : Int) < (b.data.toList.length : Int))), .b (Decidable.decide (0 ≤ (j : Int) ∧ (j : Int) < (a.data.toList.length : Int))), .b ((Decidable.decide ((j : Int) < m)) == true)]) (by kernel_rfl) rfl rfl (vcs_nil)
    (by
      refine vcs_cons (vc_b h3) ?_
      refine vcs_cons (vc_c h2) ?_
      refine vcs_cons (vc_c h1) ?_
      refine vcs_cons (vc_b h0) ?_
      exact vcs_nil)
set_option maxRecDepth 100000 in
theorem cm_d {a b : ByteArray} {m : Int} {j : Nat} (h0 : (Decidable.decide ((j : Int) < m)) = true) (h1 : (Decidable.decide (0 ≤ (j : Int) ∧ (j : Int) < (a.data.toList.length : Int))) = true) (h2 : (Decidable.decide (0 ≤ (j : Int) ∧ (j : Int) < (b.data.toList.length : Int))) = true) (h3 : ((((a.data.toList.getD ((j : Int)).toNat 0).toNat : Nat) : Int) != (((b.data.toList.getD ((j : Int)).toNat 0).toNat : Nat) : Int)) = true)   :
    Sx.Ends Tryz.prog 0 0 0 [] cmc (cmT a b m j) (.exit 0) [] (mkT 24 0 [(5, .int .i64 (j : Int))]) :=
  ends_of mixed noC_gives.holds [] [] (d := [(0, .br true), (1, .br true), (2, .br true), (3, .br true)]) (n := 600) (c2 := 0) (L' := []) (L := [.b (((((a.data.toList.getD ((j : Int)).toNat 0).toNat : Nat) : Int) != (((b.data.toList.getD ((j : Int)).toNat 0).toNat : Nat) : Int)) == true), .b (Decidable.decide (0 ≤ (j : Int) ∧ (j : Int) < (b.data.toList.length : Int))), .b (Decidable.decide (0 ≤ (j : Int) ∧ (j : Int) < (a.data.toList.length : Int))), .b ((Decidable.decide ((j : Int) < m)) == true)]) (by kernel_rfl) rfl rfl (vcs_nil)
    (by
      refine vcs_cons (vc_b h3) ?_
      refine vcs_cons (vc_c h2) ?_
      refine vcs_cons (vc_c h1) ?_
      refine vcs_cons (vc_b h0) ?_
      exact vcs_nil)
set_option maxRecDepth 100000 in
theorem cm_e {a b : ByteArray} {m : Int} {j : Nat} (h0 : (Decidable.decide ((j : Int) < m)) = false)   :
    Sx.Ends Tryz.prog 0 0 0 [] cmc (cmT a b m j) (.exit 0) [] (mkT 24 0 [(5, .int .i64 (j : Int))]) :=
  ends_of mixed noC_gives.holds [] [] (d := [(0, .br false)]) (n := 600) (c2 := 0) (L' := []) (L := [.b ((Decidable.decide ((j : Int) < m)) == false)]) (by kernel_rfl) rfl rfl (vcs_nil)
    (by
      refine vcs_cons (vc_b h0) ?_
      exact vcs_nil)
theorem comN_le : ∀ (x y : List UInt8), comN x y ≤ x.length ∧ comN x y ≤ y.length
  | [], y => by simp [comN]
  | _ :: _, [] => by simp [comN]
  | x :: xs, y :: ys => by
    have h := comN_le xs ys
    simp only [comN, List.length_cons]
    split <;> omega
theorem com_drop {x y : List UInt8} {j : Nat} (h1 : j < x.length) (h2 : j < y.length) : comN (x.drop j) (y.drop j) = if x.getD j 0 = y.getD j 0 then comN (x.drop (j + 1)) (y.drop (j + 1)) + 1 else 0 := by
  rw [List.drop_eq_getElem_cons h1, List.drop_eq_getElem_cons h2]
  simp [comN, List.getD, h1, h2]
theorem com_loop (a b : ByteArray) (hb : (a.data.toList.length : Int) < 4294967296) : Does Tryz.prog 0 [] 0 [] (.inLoop cmc (cmT a b (if (b.data.toList.length : Int) < (a.data.toList.length : Int) then (b.data.toList.length : Int) else (a.data.toList.length : Int)) 0)) (.out (.exit 0) (mkT 24 0 [(5, .int .i64 (comB a b))])) := by
  obtain ⟨m, hm⟩ : ∃ m : Int, m = if (b.data.toList.length : Int) < (a.data.toList.length : Int) then (b.data.toList.length : Int) else (a.data.toList.length : Int) := ⟨_, rfl⟩
  rw [← hm]
  have hm1 : m ≤ (a.data.toList.length : Int) := by subst hm; split <;> omega
  have hm2 : m ≤ (b.data.toList.length : Int) := by subst hm; split <;> omega
  have hm3 : m = (a.data.toList.length : Int) ∨ m = (b.data.toList.length : Int) := by subst hm; split <;> omega
  have key : ∀ k j : Nat, ((j + k : Nat) : Int) = m → Mid Tryz.prog 0 [] 0 [] 0 [] cmc (cmT a b m j) (.exit 0) (mkT 24 0 [(5, .int .i64 (((j + comN (a.data.toList.drop j) (b.data.toList.drop j) : Nat)) : Int))]) := by
    intro k
    induction k with
    | zero =>
      intro j hj
      have e : comN (a.data.toList.drop j) (b.data.toList.drop j) = 0 := by
        have h := comN_le (a.data.toList.drop j) (b.data.toList.drop j)
        simp only [List.length_drop] at h
        omega
      rw [e]
      exact (cm_e (decide_eq_false (by omega))).mid (by simp) (Nat.le_refl _)
    | succ k ih =>
      intro j hj
      have j1 : j < a.data.toList.length := by omega
      have j2 : j < b.data.toList.length := by omega
      have e := com_drop (x := a.data.toList) (y := b.data.toList) j1 j2
      by_cases hx : a.data.toList.getD j 0 = b.data.toList.getD j 0
      · rw [if_pos hx] at e
        have g := cm_s (a := a) (b := b) (m := m) (j := j) (decide_eq_true (by omega)) (decide_eq_true (by omega)) (decide_eq_true (by omega)) (by rw [Int.toNat_natCast, hx]; simp)
        rw [wrapS (by omega) (by omega)] at g
        have q := ih (j + 1) (by omega)
        rw [e, show j + (comN (a.data.toList.drop (j + 1)) (b.data.toList.drop (j + 1)) + 1) = j + 1 + comN (a.data.toList.drop (j + 1)) (b.data.toList.drop (j + 1)) by omega]
        exact g.mid (Nat.le_refl _) (Nat.le_refl _) q
      · rw [if_neg hx] at e
        rw [e]
        refine (cm_d (decide_eq_true (by omega)) (decide_eq_true (by omega)) (decide_eq_true (by omega)) ?_).mid (by simp) (Nat.le_refl _)
        rw [Int.toNat_natCast]
        have : (a.data.toList.getD j 0).toNat ≠ (b.data.toList.getD j 0).toNat := fun q => hx (UInt8.toNat_inj.1 q)
        rw [bne_iff_ne]
        exact fun q => this (Int.ofNat_inj.1 q)
  have q := key m.toNat 0 (by omega)
  simp only [List.drop_zero, Nat.zero_add] at q
  exact does_of_mid' (Nat.le_refl _) q
set_option maxRecDepth 100000 in
theorem com_gives (a b : ByteArray) (hb : (a.data.toList.length : Int) < 4294967296) : Gives Tryz.prog 127 [.string a, .string b] (.int .i64 (comB a b)) := by
  obtain ⟨c1, h1, hd, _⟩ := vFar_does (n := 600) (t := .call 127 [.string a, .string b]) (d := [(0, .loop [0, 1, 5, 10, 11] [] 0 [] (.exit 0) (mkT 24 0 [(5, .int .i64 (comB a b))]))]) (c := 0) (h := []) (v := .int .i64 (comB a b)) (x := none) (L := [.p (Does Tryz.prog 0 [] 0 [] (.inLoop cmc (cmT a b (if (b.data.toList.length : Int) < (a.data.toList.length : Int) then (b.data.toList.length : Int) else (a.data.toList.length : Int)) 0)) (.out (.exit 0) (mkT 24 0 [(5, .int .i64 (comB a b))])))]) mixed noC_gives.holds (by kernel_rfl)
    (vcs_cons (com_loop a b hb) vcs_nil)
  exact gives_of_does hd rfl rfl
noncomputable def conC : Contracts := addS noC 127 comB
theorem conC_holds : Holds Tryz.prog conC := Holds.addS noC_gives.holds com_gives
set_option maxRecDepth 100000 in
theorem cmp_w0 {a b : ByteArray} (h0 : (a.data.toList.length.ble 4294967295) = true) (h1 : (comB a b == (a.data.toList.length : Int)) = true) (h2 : (comB a b == (b.data.toList.length : Int)) = true) : Gives Tryz.prog 81 [.string a, .string b] (.int .i64 0) := by
  obtain ⟨c1, h1, hd, _⟩ := vFar_does (n := 600) (t := .call 81 [.string a, .string b]) (d := [(0, .br true), (1, .br true), (2, .br true), (3, .br true), (4, .br true), (5, .br true), (6, .br true)]) (c := 0) (h := []) (v := .int .i64 0) (x := none) (L := [.b ((comB a b == (b.data.toList.length : Int)) == true), .b ((comB a b == (a.data.toList.length : Int)) == true), .b ((comB a b == (a.data.toList.length : Int)) == true), .b ((comB a b == (a.data.toList.length : Int)) == true), .b ((comB a b == (a.data.toList.length : Int)) == true), .b ((comB a b == (a.data.toList.length : Int)) == true), .b (a.data.toList.length.ble 4294967295)]) mixed conC_holds (by kernel_rfl)
    (by
      refine vcs_cons (vc_b h2) ?_
      refine vcs_cons (vc_b h1) ?_
      refine vcs_cons (vc_b h1) ?_
      refine vcs_cons (vc_b h1) ?_
      refine vcs_cons (vc_b h1) ?_
      refine vcs_cons (vc_b h1) ?_
      refine vcs_cons (vc_c h0) ?_
      exact vcs_nil)
  exact gives_of_does hd rfl rfl
set_option maxRecDepth 100000 in
theorem cmp_w1 {a b : ByteArray} (h0 : (a.data.toList.length.ble 4294967295) = true) (h1 : (comB a b == (a.data.toList.length : Int)) = true) (h2 : (comB a b == (b.data.toList.length : Int)) = false) : Gives Tryz.prog 81 [.string a, .string b] (.int .i64 (-1)) := by
  obtain ⟨c1, h1, hd, _⟩ := vFar_does (n := 600) (t := .call 81 [.string a, .string b]) (d := [(0, .br true), (1, .br true), (2, .br true), (3, .br true), (4, .br true), (5, .br true), (6, .br false), (7, .br true)]) (c := 0) (h := []) (v := .int .i64 (-1)) (x := none) (L := [.b ((comB a b == (a.data.toList.length : Int)) == true), .b ((comB a b == (b.data.toList.length : Int)) == false), .b ((comB a b == (a.data.toList.length : Int)) == true), .b ((comB a b == (a.data.toList.length : Int)) == true), .b ((comB a b == (a.data.toList.length : Int)) == true), .b ((comB a b == (a.data.toList.length : Int)) == true), .b ((comB a b == (a.data.toList.length : Int)) == true), .b (a.data.toList.length.ble 4294967295)]) mixed conC_holds (by kernel_rfl)
    (by
      refine vcs_cons (vc_b h1) ?_
      refine vcs_cons (vc_b h2) ?_
      refine vcs_cons (vc_b h1) ?_
      refine vcs_cons (vc_b h1) ?_
      refine vcs_cons (vc_b h1) ?_
      refine vcs_cons (vc_b h1) ?_
      refine vcs_cons (vc_b h1) ?_
      refine vcs_cons (vc_c h0) ?_
      exact vcs_nil)
  exact gives_of_does hd rfl rfl
set_option maxRecDepth 100000 in
theorem cmp_w2 {a b : ByteArray} (h0 : (a.data.toList.length.ble 4294967295) = true) (h1 : (comB a b == (a.data.toList.length : Int)) = false) (h2 : (comB a b == (b.data.toList.length : Int)) = true) : Gives Tryz.prog 81 [.string a, .string b] (.int .i64 1) := by
  obtain ⟨c1, h1, hd, _⟩ := vFar_does (n := 600) (t := .call 81 [.string a, .string b]) (d := [(0, .br true), (1, .br false), (2, .br false), (3, .br false), (4, .br false), (5, .br false), (7, .br false), (8, .br true)]) (c := 0) (h := []) (v := .int .i64 1) (x := none) (L := [.b ((comB a b == (b.data.toList.length : Int)) == true), .b ((comB a b == (a.data.toList.length : Int)) == false), .b ((comB a b == (a.data.toList.length : Int)) == false), .b ((comB a b == (a.data.toList.length : Int)) == false), .b ((comB a b == (a.data.toList.length : Int)) == false), .b ((comB a b == (a.data.toList.length : Int)) == false), .b ((comB a b == (a.data.toList.length : Int)) == false), .b (a.data.toList.length.ble 4294967295)]) mixed conC_holds (by kernel_rfl)
    (by
      refine vcs_cons (vc_b h2) ?_
      refine vcs_cons (vc_b h1) ?_
      refine vcs_cons (vc_b h1) ?_
      refine vcs_cons (vc_b h1) ?_
      refine vcs_cons (vc_b h1) ?_
      refine vcs_cons (vc_b h1) ?_
      refine vcs_cons (vc_b h1) ?_
      refine vcs_cons (vc_c h0) ?_
      exact vcs_nil)
  exact gives_of_does hd rfl rfl
set_option maxRecDepth 100000 in
theorem cmp_w3 {a b : ByteArray} (h0 : (a.data.toList.length.ble 4294967295) = true) (h1 : (comB a b == (a.data.toList.length : Int)) = false) (h2 : (comB a b == (b.data.toList.length : Int)) = false) (h3 : (Decidable.decide (0 ≤ comB a b ∧ comB a b < (a.data.toList.length : Int))) = true) (h4 : (Decidable.decide (0 ≤ comB a b ∧ comB a b < (b.data.toList.length : Int))) = true) (h5 : (Decidable.decide ((((a.data.toList.getD (comB a b).toNat 0).toNat : Nat) : Int) < (((b.data.toList.getD (comB a b).toNat 0).toNat : Nat) : Int))) = true) : Gives Tryz.prog 81 [.string a, .string b] (.int .i64 (-1)) := by
  obtain ⟨c1, h1, hd, _⟩ := vFar_does (n := 600) (t := .call 81 [.string a, .string b]) (d := [(0, .br true), (1, .br false), (2, .br false), (3, .br false), (4, .br false), (5, .br false), (7, .br false), (8, .br false), (9, .br true), (10, .br true), (11, .br true)]) (c := 0) (h := []) (v := .int .i64 (-1)) (x := none) (L := [.b ((Decidable.decide ((((a.data.toList.getD (comB a b).toNat 0).toNat : Nat) : Int) < (((b.data.toList.getD (comB a b).toNat 0).toNat : Nat) : Int))) == true), .b (Decidable.decide (0 ≤ comB a b ∧ comB a b < (b.data.toList.length : Int))), .b (Decidable.decide (0 ≤ comB a b ∧ comB a b < (a.data.toList.length : Int))), .b ((comB a b == (b.data.toList.length : Int)) == false), .b ((comB a b == (a.data.toList.length : Int)) == false), .b ((comB a b == (a.data.toList.length : Int)) == false), .b ((comB a b == (a.data.toList.length : Int)) == false), .b ((comB a b == (a.data.toList.length : Int)) == false), .b ((comB a b == (a.data.toList.length : Int)) == false), .b ((comB a b == (a.data.toList.length : Int)) == false), .b (a.data.toList.length.ble 4294967295)]) mixed conC_holds (by kernel_rfl)
    (by
      refine vcs_cons (vc_b h5) ?_
      refine vcs_cons (vc_c h4) ?_
      refine vcs_cons (vc_c h3) ?_
      refine vcs_cons (vc_b h2) ?_
      refine vcs_cons (vc_b h1) ?_
      refine vcs_cons (vc_b h1) ?_
      refine vcs_cons (vc_b h1) ?_
      refine vcs_cons (vc_b h1) ?_
      refine vcs_cons (vc_b h1) ?_
      refine vcs_cons (vc_b h1) ?_
      refine vcs_cons (vc_c h0) ?_
      exact vcs_nil)
  exact gives_of_does hd rfl rfl
set_option maxRecDepth 100000 in
theorem cmp_w4 {a b : ByteArray} (h0 : (a.data.toList.length.ble 4294967295) = true) (h1 : (comB a b == (a.data.toList.length : Int)) = false) (h2 : (comB a b == (b.data.toList.length : Int)) = false) (h3 : (Decidable.decide (0 ≤ comB a b ∧ comB a b < (a.data.toList.length : Int))) = true) (h4 : (Decidable.decide (0 ≤ comB a b ∧ comB a b < (b.data.toList.length : Int))) = true) (h5 : (Decidable.decide ((((a.data.toList.getD (comB a b).toNat 0).toNat : Nat) : Int) < (((b.data.toList.getD (comB a b).toNat 0).toNat : Nat) : Int))) = false) : Gives Tryz.prog 81 [.string a, .string b] (.int .i64 1) := by
  obtain ⟨c1, h1, hd, _⟩ := vFar_does (n := 600) (t := .call 81 [.string a, .string b]) (d := [(0, .br true), (1, .br false), (2, .br false), (3, .br false), (4, .br false), (5, .br false), (7, .br false), (8, .br false), (9, .br true), (10, .br true), (11, .br false)]) (c := 0) (h := []) (v := .int .i64 1) (x := none) (L := [.b ((Decidable.decide ((((a.data.toList.getD (comB a b).toNat 0).toNat : Nat) : Int) < (((b.data.toList.getD (comB a b).toNat 0).toNat : Nat) : Int))) == false), .b (Decidable.decide (0 ≤ comB a b ∧ comB a b < (b.data.toList.length : Int))), .b (Decidable.decide (0 ≤ comB a b ∧ comB a b < (a.data.toList.length : Int))), .b ((comB a b == (b.data.toList.length : Int)) == false), .b ((comB a b == (a.data.toList.length : Int)) == false), .b ((comB a b == (a.data.toList.length : Int)) == false), .b ((comB a b == (a.data.toList.length : Int)) == false), .b ((comB a b == (a.data.toList.length : Int)) == false), .b ((comB a b == (a.data.toList.length : Int)) == false), .b ((comB a b == (a.data.toList.length : Int)) == false), .b (a.data.toList.length.ble 4294967295)]) mixed conC_holds (by kernel_rfl)
    (by
      refine vcs_cons (vc_b h5) ?_
      refine vcs_cons (vc_c h4) ?_
      refine vcs_cons (vc_c h3) ?_
      refine vcs_cons (vc_b h2) ?_
      refine vcs_cons (vc_b h1) ?_
      refine vcs_cons (vc_b h1) ?_
      refine vcs_cons (vc_b h1) ?_
      refine vcs_cons (vc_b h1) ?_
      refine vcs_cons (vc_b h1) ?_
      refine vcs_cons (vc_b h1) ?_
      refine vcs_cons (vc_c h0) ?_
      exact vcs_nil)
  exact gives_of_does hd rfl rfl
/-- The order of two texts. -/
def cmpB (a b : ByteArray) : Int := match decide (comB a b = (a.data.toList.length : Int)), decide (comB a b = (b.data.toList.length : Int)) with
  | true, true => 0
  | true, false => -1
  | false, true => 1
  | false, false => match decide (((((a.data.toList.getD (comB a b).toNat 0).toNat : Nat) : Int)) < (((b.data.toList.getD (comB a b).toNat 0).toNat : Nat) : Int)) with
    | true => -1
    | false => 1
theorem cmp_gives (a b : ByteArray) (hb : (a.data.toList.length : Int) < 4294967296) : Gives Tryz.prog 81 [.string a, .string b] (.int .i64 (cmpB a b)) := by
  have hl := comN_le a.data.toList b.data.toList
  have h0 : 0 ≤ comB a b := Int.natCast_nonneg _
  have h1 : comB a b ≤ (a.data.toList.length : Int) := Int.ofNat_le.2 hl.1
  have h2 : comB a b ≤ (b.data.toList.length : Int) := Int.ofNat_le.2 hl.2
  by_cases e1 : comB a b = (a.data.toList.length : Int) <;> by_cases e2 : comB a b = (b.data.toList.length : Int)
  · rw [show cmpB a b = 0 by simp only [cmpB, decide_eq_true e1, decide_eq_true e2]]
    exact cmp_w0 (Nat.ble_eq_true_of_le (by omega)) (beq_iff_eq.2 e1) (beq_iff_eq.2 e2)
  · rw [show cmpB a b = -1 by simp only [cmpB, decide_eq_true e1, decide_eq_false e2]]
    exact cmp_w1 (Nat.ble_eq_true_of_le (by omega)) (beq_iff_eq.2 e1) (beq_eq_false_iff_ne.2 e2)
  · rw [show cmpB a b = 1 by simp only [cmpB, decide_eq_false e1, decide_eq_true e2]]
    exact cmp_w2 (Nat.ble_eq_true_of_le (by omega)) (beq_eq_false_iff_ne.2 e1) (beq_iff_eq.2 e2)
  · by_cases e3 : ((((a.data.toList.getD (comB a b).toNat 0).toNat : Nat) : Int)) < (((b.data.toList.getD (comB a b).toNat 0).toNat : Nat) : Int)
    · rw [show cmpB a b = -1 by simp only [cmpB, decide_eq_false e1, decide_eq_false e2, decide_eq_true e3]]
      exact cmp_w3 (Nat.ble_eq_true_of_le (by omega)) (beq_eq_false_iff_ne.2 e1) (beq_eq_false_iff_ne.2 e2) (decide_eq_true ⟨h0, by omega⟩) (decide_eq_true ⟨h0, by omega⟩) (decide_eq_true e3)
    · rw [show cmpB a b = 1 by simp only [cmpB, decide_eq_false e1, decide_eq_false e2, decide_eq_false e3]]
      exact cmp_w4 (Nat.ble_eq_true_of_le (by omega)) (beq_eq_false_iff_ne.2 e1) (beq_eq_false_iff_ne.2 e2) (decide_eq_true ⟨h0, by omega⟩) (decide_eq_true ⟨h0, by omega⟩) (decide_eq_false e3)
noncomputable def con4 : Contracts := addS con3 81 cmpB
theorem con4_holds : Holds Tryz.prog con4 := Holds.addS con3_holds cmp_gives
end Go.Proofs.YtglaapelpidfhaaGreat
