/- Few's outer loop. No condition. -/
import Derived.Test.YtglaapelpidfhaaGreatFew2
namespace Go.Proofs.YtglaapelpidfhaaGreat
open Go Go.Sx
/-- The lists of acts. -/
def Lists (W : World) (ba oa M : Nat) : Prop := ∀ j, j < M → ∃ s N, ArgCells W.heap.size W ba (oa + j * 1) [s] ∧ ActList W s N
theorem few_outer {W : World} {ba oa M ca : Nat} (hM : (M : Int) < 9223372036854775808) (A : Lists W ba oa M) :
    (∃ n, Does Tryz.prog 3 (argsHeap W) 3 (argsHeap W) (.inLoop fo (foT 0 ba oa M ca 0)) (.out (.exit 0) (mkT 105 0 [(1, .pointer (some ⟨2, 0, none⟩)), (3, .int .i64 n)]))) ∨
    Does Tryz.prog 3 (argsHeap W) 3 (argsHeap W) (.inLoop fo (foT 0 ba oa M ca 0)) (.out .ret (mkT 105 0 [(2, .bool false)])) := by
  have key : ∀ (k j : Nat) (n : Int), j + k = M → (∃ n', Mid Tryz.prog 3 (argsHeap W) 3 (argsHeap W) 3 (argsHeap W) fo (foT n ba oa M ca j) (.exit 0) (mkT 105 0 [(1, .pointer (some ⟨2, 0, none⟩)), (3, .int .i64 n')])) ∨
      Mid Tryz.prog 3 (argsHeap W) 3 (argsHeap W) 3 (argsHeap W) fo (foT n ba oa M ca j) .ret (mkT 105 0 [(2, .bool false)]) := by
    intro k
    induction k with
    | zero =>
      intro j n hj
      exact .inl ⟨n, (few_oend (decide_eq_false (by omega))).mid (by simp) (Nat.le_refl _)⟩
    | succ k ih =>
      intro j n hj
      have a0 : Decidable.decide ((j : Int) < (M : Int)) = true := decide_eq_true (by omega)
      have a1 : Decidable.decide (0 ≤ (j : Int) ∧ (j : Int) < (M : Int)) = true := decide_eq_true (by omega)
      obtain ⟨s, N, hc, hs⟩ := A j (by omega)
      cases hs with
      | nil =>
        rcases few_inner (n := IntKind.i64.wrap (n + 0)) (ba := ba) (oa := oa) (M := M) (ca := ca) (j := j) (ActList.nil (W := W)) with l | l
        · have g := few_on (blk := 0) (off := 0) (N := 0) (cap := 0) a0 a1 hc l
          rw [wrapS (n := (j : Int) + 1) (by omega) (by omega)] at g
          rcases ih (j + 1) _ (by omega) with ⟨n', q⟩ | q
          · exact .inl ⟨n', g.mid (Nat.le_refl _) (Nat.le_refl _) q⟩
          · exact .inr (g.mid (Nat.le_refl _) (Nat.le_refl _) q)
        · have l2 := does_of_mid' (Nat.le_refl 3) ((few_nil (W := W) (n := IntKind.i64.wrap (n + 0)) (ba := ba) (oa := oa) (M := M) (ca := ca) (j := j)).mid (h0 := argsHeap W) (by simp) (Nat.le_refl _))
          have g := few_on (blk := 0) (off := 0) (N := 0) (cap := 0) a0 a1 hc l2
          rw [wrapS (n := (j : Int) + 1) (by omega) (by omega)] at g
          rcases ih (j + 1) _ (by omega) with ⟨n', q⟩ | q
          · exact .inl ⟨n', g.mid (Nat.le_refl _) (Nat.le_refl _) q⟩
          · exact .inr (g.mid (Nat.le_refl _) (Nat.le_refl _) q)
      | @some blk off N cap hA =>
        rcases few_inner (n := IntKind.i64.wrap (n + (N : Int))) (ba := ba) (oa := oa) (M := M) (ca := ca) (j := j) (ActList.some (cap := cap) hA) with l | l
        · have g := few_os a0 a1 hc l
          rw [wrapS (n := (j : Int) + 1) (by omega) (by omega)] at g
          rcases ih (j + 1) _ (by omega) with ⟨n', q⟩ | q
          · exact .inl ⟨n', g.mid (Nat.le_refl _) (Nat.le_refl _) q⟩
          · exact .inr (g.mid (Nat.le_refl _) (Nat.le_refl _) q)
        · exact .inr ((few_or a0 a1 hc l).mid (by simp) (Nat.le_refl _))
  rcases key M 0 0 (by omega) with ⟨n, q⟩ | q
  · exact .inl ⟨n, does_of_mid' (Nat.le_refl _) q⟩
  · exact .inr (does_of_mid' (Nat.le_refl _) q)
end Go.Proofs.YtglaapelpidfhaaGreat
