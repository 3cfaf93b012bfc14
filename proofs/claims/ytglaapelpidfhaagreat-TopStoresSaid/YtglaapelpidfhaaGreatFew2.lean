/- Few's inner loop; the rounds of its outer loop. No condition. -/
import Derived.Test.YtglaapelpidfhaaGreatFew1
namespace Go.Sx
theorem does_of_mid' {P : Program} {c0 c1 : Nat} {h0 h1 : Heap} {code : Code} {T Tf : List Value} {e : SExit} (hc : c0 ≤ c1) (m : Mid P c0 h0 c0 h0 c1 h1 code T e Tf) : Does P c0 h0 c1 h1 (.inLoop code T) (.out e Tf) :=
  ⟨hc, fun r ow w hs hf a ha hd => m r ow w r ow w hf (Post.calm hs (Calm.refl _)) hf a ha hd⟩
end Go.Sx
namespace Go.Proofs.YtglaapelpidfhaaGreat
open Go Go.Sx
/-- Few's outer loop. -/
noncomputable def fo : Code := subC [1,1,0,1,0,0] (bodyC 5)
noncomputable def foT (n : Int) (ba oa M ca : Nat) (j : Int) : List Value := mkT 105 0 [(1, .pointer (some ⟨2, 0, none⟩)), (3, .int .i64 n), (8, .slice (some ⟨ba, oa, some 0⟩) M ca), (9, .int .i64 M), (10, .int .i64 j)]
noncomputable def fkT (n : Int) (ba oa M ca j : Nat) : List Value := mkT 105 0 [(1, .pointer (some ⟨2, 0, none⟩)), (3, .int .i64 n), (8, .slice (some ⟨ba, oa, some 0⟩) M ca), (9, .int .i64 M), (10, .int .i64 j)]
/-- The acts of a list. -/
def Acts (W : World) (blk off N : Nat) : Prop := ∀ i, i < N → ∃ kind reads key value low high unb limit rev, ArgCells W.heap.size W blk (off + i * 9) (act kind reads key value low high unb limit rev)
/-- A list of acts. -/
inductive ActList (W : World) : Value → Nat → Prop
  | nil : ActList W (.slice none 0 0) 0
  | some {blk off N cap : Nat} (h : Acts W blk off N) : ActList W (.slice (some ⟨blk, off, some 0⟩) N cap) N
theorem wrapS {n : Int} (h0 : 0 ≤ n) (h1 : n < 9223372036854775808) : IntKind.i64.wrap n = n := by
  have h2 : n % (2 ^ 64 : Int) = n := by omega
  show (if (true && decide (n % (2 ^ 64 : Int) ≥ (2 ^ 63 : Int))) = true then n % (2 ^ 64 : Int) - (2 ^ 64 : Int) else n % (2 ^ 64 : Int)) = n
  rw [h2, if_neg]
  simp only [Bool.true_and, decide_eq_true_eq]
  omega
theorem few_inner {W : World} {n : Int} {ba oa M ca j : Nat} {s : Value} {N : Nat} (h : ActList W s N) :
    Does Tryz.prog 3 (argsHeap W) 3 (argsHeap W) (.inLoop fi (fiT n ba oa M ca j s 0)) (.out (.exit 2) (fkT n ba oa M ca j)) ∨
    Does Tryz.prog 3 (argsHeap W) 3 (argsHeap W) (.inLoop fi (fiT n ba oa M ca j s 0)) (.out .ret (mkT 105 0 [(2, .bool false)])) := by
  cases h with
  | nil => exact .inl (does_of_mid' (Nat.le_refl _) (few_nil.mid (by simp) (Nat.le_refl _)))
  | @some blk off N cap A =>
    have key : ∀ k i : Nat, i + k = N → Mid Tryz.prog 3 (argsHeap W) 3 (argsHeap W) 3 (argsHeap W) fi (fiT n ba oa M ca j (.slice (some ⟨blk, off, some 0⟩) N cap) i) (.exit 2) (fkT n ba oa M ca j) ∨
        Mid Tryz.prog 3 (argsHeap W) 3 (argsHeap W) 3 (argsHeap W) fi (fiT n ba oa M ca j (.slice (some ⟨blk, off, some 0⟩) N cap) i) .ret (mkT 105 0 [(2, .bool false)]) := by
      intro k
      induction k with
      | zero =>
        intro i hi
        exact .inl ((few_end (decide_eq_false (by omega))).mid (by simp) (Nat.le_refl _))
      | succ k ih =>
        intro i hi
        have a0 : Decidable.decide ((i : Int) < (N : Int)) = true := decide_eq_true (by omega)
        have a2 : Decidable.decide (0 ≤ (i : Int) ∧ (i : Int) < (N : Int)) = true := decide_eq_true (by omega)
        by_cases a1 : (i : Int) ≤ 40
        · obtain ⟨kind, reads, key, value, low, high, unb, limit, rev, hc⟩ := A i (by omega)
          by_cases t1 : (key.data.toList.length : Int) > 100
          · exact .inr ((few_l1 a0 (decide_eq_true a1) a2 (decide_eq_true t1) hc).mid (by simp) (Nat.le_refl _))
          by_cases t2 : (value.data.toList.length : Int) > 100
          · exact .inr ((few_l2 a0 (decide_eq_true a1) a2 (decide_eq_false t1) (decide_eq_true t2) hc).mid (by simp) (Nat.le_refl _))
          by_cases t3 : (low.data.toList.length : Int) > 100
          · exact .inr ((few_l3 a0 (decide_eq_true a1) a2 (decide_eq_false t1) (decide_eq_false t2) (decide_eq_true t3) hc).mid (by simp) (Nat.le_refl _))
          by_cases t4 : (high.data.toList.length : Int) > 100
          · exact .inr ((few_l4 a0 (decide_eq_true a1) a2 (decide_eq_false t1) (decide_eq_false t2) (decide_eq_false t3) (decide_eq_true t4) hc).mid (by simp) (Nat.le_refl _))
          have g := few_ok (n := n) (ba := ba) (oa := oa) (M := M) (ca := ca) (j := j) (cap := cap) a0 (decide_eq_true a1) a2 (decide_eq_false t1) (decide_eq_false t2) (decide_eq_false t3) (decide_eq_false t4) hc
          rw [wrapS (by omega) (by omega)] at g
          rcases ih (i + 1) (by omega) with q | q
          · exact .inl (g.mid (Nat.le_refl _) (Nat.le_refl _) q)
          · exact .inr (g.mid (Nat.le_refl _) (Nat.le_refl _) q)
        · exact .inl ((few_far a0 (decide_eq_false a1)).mid (by simp) (Nat.le_refl _))
    rcases key N 0 (by omega) with q | q
    · exact .inl (does_of_mid' (Nat.le_refl _) q)
    · exact .inr (does_of_mid' (Nat.le_refl _) q)
set_option maxRecDepth 100000 in
theorem few_os {W : World} {n : Int} {ba oa M ca : Nat} {blk off N cap j : Nat} (h0 : (Decidable.decide ((j : Int) < (M : Int))) = true) (h1 : (Decidable.decide (0 ≤ (j : Int) ∧ (j : Int) < (M : Int))) = true) (hc : ArgCells W.heap.size W ba (oa + j * 1) [.slice (some ⟨blk, off, some 0⟩) N cap]) (hl : Does Tryz.prog 3 (argsHeap W) 3 (argsHeap W) (.inLoop fi (fiT (IntKind.i64.wrap (n + (N : Int))) ba oa M ca j (.slice (some ⟨blk, off, some 0⟩) N cap) 0)) (.out (.exit 2) (fkT (IntKind.i64.wrap (n + (N : Int))) ba oa M ca j)))  :
    Sx.Goes Tryz.prog 3 3 3 (argsHeap W) fo (foT n ba oa M ca j) (argsHeap W) (mkT 105 0 [(1, .pointer (some ⟨2, 0, none⟩)), (3, .int .i64 (IntKind.i64.wrap (n + (N : Int)))), (8, .slice (some ⟨ba, oa, some 0⟩) M ca), (9, .int .i64 M), (10, .int .i64 (IntKind.i64.wrap ((j : Int) + 1)))]) :=
  goes_of mixed con3_holds [] [(0, false)] (d := [(0, .br true), (1, .br true), (2, .cell (.tuple ⟨[.slice (some ⟨blk, off, some 0⟩) N cap]⟩)), (3, .loop [1, 3, 8, 9, 10, 5, 6] [0] 3 (argsHeap W) (.exit 2) (fkT (IntKind.i64.wrap (n + (N : Int))) ba oa M ca j))]) (n := 600) (c2 := 3) (L' := []) (L := [.p (Does Tryz.prog 3 (argsHeap W) 3 (argsHeap W) (.inLoop fi (fiT (IntKind.i64.wrap (n + (N : Int))) ba oa M ca j (.slice (some ⟨blk, off, some 0⟩) N cap) 0)) (.out (.exit 2) (fkT (IntKind.i64.wrap (n + (N : Int))) ba oa M ca j))), .p (ArgCells W.heap.size W ba (oa + j * 1) [.slice (some ⟨blk, off, some 0⟩) N cap] ∧ ([.slice (some ⟨blk, off, some 0⟩) N cap] : List Value).length = 1), .b (Decidable.decide (0 ≤ (j : Int) ∧ (j : Int) < (M : Int))), .b ((Decidable.decide ((j : Int) < (M : Int))) == true)]) (by kernel_rfl) rfl rfl (vcs_nil)
    (by
      refine vcs_cons (hl) ?_
      refine vcs_cons (⟨hc, rfl⟩) ?_
      refine vcs_cons (vc_c h1) ?_
      refine vcs_cons (vc_b h0) ?_
      exact vcs_nil)
set_option maxRecDepth 100000 in
theorem few_on {W : World} {n : Int} {ba oa M ca : Nat} {blk off N cap j : Nat} (h0 : (Decidable.decide ((j : Int) < (M : Int))) = true) (h1 : (Decidable.decide (0 ≤ (j : Int) ∧ (j : Int) < (M : Int))) = true) (hc : ArgCells W.heap.size W ba (oa + j * 1) [.slice none 0 0]) (hl : Does Tryz.prog 3 (argsHeap W) 3 (argsHeap W) (.inLoop fi (fiT (IntKind.i64.wrap (n + 0)) ba oa M ca j (.slice none 0 0) 0)) (.out (.exit 2) (fkT (IntKind.i64.wrap (n + 0)) ba oa M ca j)))  :
    Sx.Goes Tryz.prog 3 3 3 (argsHeap W) fo (foT n ba oa M ca j) (argsHeap W) (mkT 105 0 [(1, .pointer (some ⟨2, 0, none⟩)), (3, .int .i64 (IntKind.i64.wrap (n + 0))), (8, .slice (some ⟨ba, oa, some 0⟩) M ca), (9, .int .i64 M), (10, .int .i64 (IntKind.i64.wrap ((j : Int) + 1)))]) :=
  goes_of mixed con3_holds [] [(0, false)] (d := [(0, .br true), (1, .br true), (2, .cell (.tuple ⟨[.slice none 0 0]⟩)), (3, .loop [1, 3, 8, 9, 10, 5, 6] [0] 3 (argsHeap W) (.exit 2) (fkT (IntKind.i64.wrap (n + 0)) ba oa M ca j))]) (n := 600) (c2 := 3) (L' := []) (L := [.p (Does Tryz.prog 3 (argsHeap W) 3 (argsHeap W) (.inLoop fi (fiT (IntKind.i64.wrap (n + 0)) ba oa M ca j (.slice none 0 0) 0)) (.out (.exit 2) (fkT (IntKind.i64.wrap (n + 0)) ba oa M ca j))), .p (ArgCells W.heap.size W ba (oa + j * 1) [.slice none 0 0] ∧ ([.slice none 0 0] : List Value).length = 1), .b (Decidable.decide (0 ≤ (j : Int) ∧ (j : Int) < (M : Int))), .b ((Decidable.decide ((j : Int) < (M : Int))) == true)]) (by kernel_rfl) rfl rfl (vcs_nil)
    (by
      refine vcs_cons (hl) ?_
      refine vcs_cons (⟨hc, rfl⟩) ?_
      refine vcs_cons (vc_c h1) ?_
      refine vcs_cons (vc_b h0) ?_
      exact vcs_nil)
set_option maxRecDepth 100000 in
theorem few_or {W : World} {n : Int} {ba oa M ca : Nat} {blk off N cap j : Nat} (h0 : (Decidable.decide ((j : Int) < (M : Int))) = true) (h1 : (Decidable.decide (0 ≤ (j : Int) ∧ (j : Int) < (M : Int))) = true) (hc : ArgCells W.heap.size W ba (oa + j * 1) [.slice (some ⟨blk, off, some 0⟩) N cap]) (hl : Does Tryz.prog 3 (argsHeap W) 3 (argsHeap W) (.inLoop fi (fiT (IntKind.i64.wrap (n + (N : Int))) ba oa M ca j (.slice (some ⟨blk, off, some 0⟩) N cap) 0)) (.out .ret (mkT 105 0 [(2, .bool false)])))  :
    Sx.Ends Tryz.prog 3 3 3 (argsHeap W) fo (foT n ba oa M ca j) .ret (argsHeap W) (mkT 105 0 [(2, .bool false)]) :=
  ends_of mixed con3_holds [] [(0, false)] (d := [(0, .br true), (1, .br true), (2, .cell (.tuple ⟨[.slice (some ⟨blk, off, some 0⟩) N cap]⟩)), (3, .loop [1, 3, 8, 9, 10, 5, 6] [0] 3 (argsHeap W) .ret (mkT 105 0 [(2, .bool false)]))]) (n := 600) (c2 := 3) (L' := []) (L := [.p (Does Tryz.prog 3 (argsHeap W) 3 (argsHeap W) (.inLoop fi (fiT (IntKind.i64.wrap (n + (N : Int))) ba oa M ca j (.slice (some ⟨blk, off, some 0⟩) N cap) 0)) (.out .ret (mkT 105 0 [(2, .bool false)]))), .p (ArgCells W.heap.size W ba (oa + j * 1) [.slice (some ⟨blk, off, some 0⟩) N cap] ∧ ([.slice (some ⟨blk, off, some 0⟩) N cap] : List Value).length = 1), .b (Decidable.decide (0 ≤ (j : Int) ∧ (j : Int) < (M : Int))), .b ((Decidable.decide ((j : Int) < (M : Int))) == true)]) (by kernel_rfl) rfl rfl (vcs_nil)
    (by
      refine vcs_cons (hl) ?_
      refine vcs_cons (⟨hc, rfl⟩) ?_
      refine vcs_cons (vc_c h1) ?_
      refine vcs_cons (vc_b h0) ?_
      exact vcs_nil)
set_option maxRecDepth 100000 in
theorem few_oend {W : World} {n : Int} {ba oa M ca : Nat} {j : Nat} (h0 : (Decidable.decide ((j : Int) < (M : Int))) = false)   :
    Sx.Ends Tryz.prog 3 3 3 (argsHeap W) fo (foT n ba oa M ca j) (.exit 0) (argsHeap W) (mkT 105 0 [(1, .pointer (some ⟨2, 0, none⟩)), (3, .int .i64 n)]) :=
  ends_of mixed con3_holds [] [(0, false)] (d := [(0, .br false)]) (n := 600) (c2 := 3) (L' := []) (L := [.b ((Decidable.decide ((j : Int) < (M : Int))) == false)]) (by kernel_rfl) rfl rfl (vcs_nil)
    (by
      refine vcs_cons (vc_b h0) ?_
      exact vcs_nil)
end Go.Proofs.YtglaapelpidfhaaGreat
