/- The loop of TxnCalls over the acts, from both counters: it ends, by its end or by the way out. No condition. -/
import Derived.Test.YtglaapelpidfhaaGreatRnd32
namespace Go.Proofs.YtglaapelpidfhaaGreat
open Go Go.Sx
/-- A round: it ends the loop, or goes on with the next. -/
def Round (c : Nat) : Prop := ∀ {W : World} {blk off N cap i : Nat} {kind : Int} {reads : Bool} {key value low high : ByteArray} {unb : Bool} {limit : Int} {rev : Bool},
  i < N → ArgCells W.heap.size W blk (off + i * 9) (act kind reads key value low high unb limit rev) →
  (∃ T2 h2 c2, c2 ≤ 200 ∧ Does Tryz.prog c (argsHeap W) c2 h2 (.code lcode (tin (.slice (some ⟨blk, off, some 0⟩) N cap) N i)) (.out .ret T2) ∧ T2.getD 4 undef = .bool true ∧ T2.length = 155 ∧ h2.get 0 = some (.args W.heap.size W)) ∨
  (∃ T2 h2 c2, c2 ≤ 200 ∧ Does Tryz.prog c (argsHeap W) c2 h2 (.code lcode (tin (.slice (some ⟨blk, off, some 0⟩) N cap) N i)) (.out .normal T2) ∧
    ([5, 86, 87, 88].map fun k => T2.getD k undef) = [.pointer none, .slice (some ⟨blk, off, some 0⟩) N cap, .int .i64 N, .int .i64 (IntKind.i64.wrap ((i : Int) + 1))] ∧ T2.length = 155 ∧ h2.get 0 = some (.args W.heap.size W))
/-- The loop's end. -/
def End (c : Nat) : Prop := ∀ {W : World} {s : Value} {N : Nat},
  ∃ T2 h2 c2, c2 ≤ 200 ∧ Does Tryz.prog c (argsHeap W) c2 h2 (.code lcode (tin s N N)) (.out (.exit 0) T2) ∧ T2.length = 155 ∧ h2.get 0 = some (.args W.heap.size W)
theorem one_slot {T2 : List Value} {v : Value} (h : ([4].map fun k => T2.getD k undef) = [v]) : T2.getD 4 undef = v := by
  simpa using h
theorem round13 : Round 13 := by
  intro W blk off N cap i kind reads key value low high unb limit rev hi hc
  have a0 : (Decidable.decide ((i : Int) < (N : Int))) = true := decide_eq_true (by omega)
  have a1 : (Decidable.decide (0 ≤ (i : Int) ∧ (i : Int) < (N : Int))) = true := decide_eq_true (by omega)
  by_cases t0 : (key.data.toList.length : Int) > 100
  · obtain ⟨T2, h2, d, s, l, g⟩ := rd13_l1 a0 a1 (decide_eq_true t0) hc
    exact .inl ⟨T2, h2, _, by decide, d, one_slot s, l, g⟩
  by_cases t1 : (value.data.toList.length : Int) > 100
  · obtain ⟨T2, h2, d, s, l, g⟩ := rd13_l2 a0 a1 (decide_eq_false t0) (decide_eq_true t1) hc
    exact .inl ⟨T2, h2, _, by decide, d, one_slot s, l, g⟩
  by_cases t2 : (low.data.toList.length : Int) > 100
  · obtain ⟨T2, h2, d, s, l, g⟩ := rd13_l3 a0 a1 (decide_eq_false t0) (decide_eq_false t1) (decide_eq_true t2) hc
    exact .inl ⟨T2, h2, _, by decide, d, one_slot s, l, g⟩
  by_cases t3 : (high.data.toList.length : Int) > 100
  · obtain ⟨T2, h2, d, s, l, g⟩ := rd13_l4 a0 a1 (decide_eq_false t0) (decide_eq_false t1) (decide_eq_false t2) (decide_eq_true t3) hc
    exact .inl ⟨T2, h2, _, by decide, d, one_slot s, l, g⟩
  by_cases k1 : kind = 1
  · obtain ⟨T2, h2, d, s, l, g⟩ := rd13_k1 a0 a1 (decide_eq_false t0) (decide_eq_false t1) (decide_eq_false t2) (decide_eq_false t3) (beq_iff_eq.2 k1) (decide_eq_true (by omega)) (decide_eq_true (by omega)) hc
    exact .inr ⟨T2, h2, _, by decide, d, s, l, g⟩
  by_cases k2 : kind = 2
  · obtain ⟨T2, h2, d, s, l, g⟩ := rd13_k2 a0 a1 (decide_eq_false t0) (decide_eq_false t1) (decide_eq_false t2) (decide_eq_false t3) (beq_false_of_ne k1) (beq_iff_eq.2 k2) (decide_eq_true (by omega)) (decide_eq_true (by omega)) hc
    exact .inr ⟨T2, h2, _, by decide, d, s, l, g⟩
  by_cases k3 : kind = 3
  · obtain ⟨T2, h2, d, s, l, g⟩ := rd13_k3 a0 a1 (decide_eq_false t0) (decide_eq_false t1) (decide_eq_false t2) (decide_eq_false t3) (beq_false_of_ne k1) (beq_false_of_ne k2) (beq_iff_eq.2 k3) (decide_eq_true (by omega)) (decide_eq_true (by omega)) hc
    exact .inr ⟨T2, h2, _, by decide, d, s, l, g⟩
  by_cases k4 : kind = 4
  · obtain ⟨T2, h2, d, s, l, g⟩ := rd13_k4 a0 a1 (decide_eq_false t0) (decide_eq_false t1) (decide_eq_false t2) (decide_eq_false t3) (beq_false_of_ne k1) (beq_false_of_ne k2) (beq_false_of_ne k3) (beq_iff_eq.2 k4) (decide_eq_true (by omega)) (decide_eq_true (by omega)) hc
    exact .inr ⟨T2, h2, _, by decide, d, s, l, g⟩
  by_cases k5 : kind = 5
  · obtain ⟨T2, h2, d, s, l, g⟩ := rd13_k5 a0 a1 (decide_eq_false t0) (decide_eq_false t1) (decide_eq_false t2) (decide_eq_false t3) (beq_false_of_ne k1) (beq_false_of_ne k2) (beq_false_of_ne k3) (beq_false_of_ne k4) (beq_iff_eq.2 k5) (decide_eq_true (by omega)) (decide_eq_true (by omega)) hc
    exact .inr ⟨T2, h2, _, by decide, d, s, l, g⟩
  by_cases k6 : kind = 6
  · obtain ⟨T2, h2, d, s, l, g⟩ := rd13_k6 a0 a1 (decide_eq_false t0) (decide_eq_false t1) (decide_eq_false t2) (decide_eq_false t3) (beq_false_of_ne k1) (beq_false_of_ne k2) (beq_false_of_ne k3) (beq_false_of_ne k4) (beq_false_of_ne k5) (beq_iff_eq.2 k6) (decide_eq_true (by omega)) (decide_eq_true (by omega)) hc
    exact .inr ⟨T2, h2, _, by decide, d, s, l, g⟩
  by_cases k7 : kind = 7
  · obtain ⟨T2, h2, d, s, l, g⟩ := rd13_k7 a0 a1 (decide_eq_false t0) (decide_eq_false t1) (decide_eq_false t2) (decide_eq_false t3) (beq_false_of_ne k1) (beq_false_of_ne k2) (beq_false_of_ne k3) (beq_false_of_ne k4) (beq_false_of_ne k5) (beq_false_of_ne k6) (beq_iff_eq.2 k7) (decide_eq_true (by omega)) (decide_eq_true (by omega)) hc
    exact .inr ⟨T2, h2, _, by decide, d, s, l, g⟩
  by_cases k8 : kind = 8
  · obtain ⟨T2, h2, d, s, l, g⟩ := rd13_k8 a0 a1 (decide_eq_false t0) (decide_eq_false t1) (decide_eq_false t2) (decide_eq_false t3) (beq_false_of_ne k1) (beq_false_of_ne k2) (beq_false_of_ne k3) (beq_false_of_ne k4) (beq_false_of_ne k5) (beq_false_of_ne k6) (beq_false_of_ne k7) (beq_iff_eq.2 k8) (decide_eq_true (by omega)) (decide_eq_true (by omega)) hc
    exact .inr ⟨T2, h2, _, by decide, d, s, l, g⟩
  by_cases k9 : kind ≥ 1
  · obtain ⟨T2, h2, d, s, l, g⟩ := rd13_k9 a0 a1 (decide_eq_false t0) (decide_eq_false t1) (decide_eq_false t2) (decide_eq_false t3) (beq_false_of_ne k1) (beq_false_of_ne k2) (beq_false_of_ne k3) (beq_false_of_ne k4) (beq_false_of_ne k5) (beq_false_of_ne k6) (beq_false_of_ne k7) (beq_false_of_ne k8) (decide_eq_true k9) (decide_eq_false (by omega)) hc
    exact .inr ⟨T2, h2, _, by decide, d, s, l, g⟩
  · obtain ⟨T2, h2, d, s, l, g⟩ := rd13_k0 a0 a1 (decide_eq_false t0) (decide_eq_false t1) (decide_eq_false t2) (decide_eq_false t3) (beq_false_of_ne k1) (beq_false_of_ne k2) (beq_false_of_ne k3) (beq_false_of_ne k4) (beq_false_of_ne k5) (beq_false_of_ne k6) (beq_false_of_ne k7) (beq_false_of_ne k8) (decide_eq_false k9) hc
    exact .inr ⟨T2, h2, _, by decide, d, s, l, g⟩
theorem round32 : Round 32 := by
  intro W blk off N cap i kind reads key value low high unb limit rev hi hc
  have a0 : (Decidable.decide ((i : Int) < (N : Int))) = true := decide_eq_true (by omega)
  have a1 : (Decidable.decide (0 ≤ (i : Int) ∧ (i : Int) < (N : Int))) = true := decide_eq_true (by omega)
  by_cases t0 : (key.data.toList.length : Int) > 100
  · obtain ⟨T2, h2, d, s, l, g⟩ := rd32_l1 a0 a1 (decide_eq_true t0) hc
    exact .inl ⟨T2, h2, _, by decide, d, one_slot s, l, g⟩
  by_cases t1 : (value.data.toList.length : Int) > 100
  · obtain ⟨T2, h2, d, s, l, g⟩ := rd32_l2 a0 a1 (decide_eq_false t0) (decide_eq_true t1) hc
    exact .inl ⟨T2, h2, _, by decide, d, one_slot s, l, g⟩
  by_cases t2 : (low.data.toList.length : Int) > 100
  · obtain ⟨T2, h2, d, s, l, g⟩ := rd32_l3 a0 a1 (decide_eq_false t0) (decide_eq_false t1) (decide_eq_true t2) hc
    exact .inl ⟨T2, h2, _, by decide, d, one_slot s, l, g⟩
  by_cases t3 : (high.data.toList.length : Int) > 100
  · obtain ⟨T2, h2, d, s, l, g⟩ := rd32_l4 a0 a1 (decide_eq_false t0) (decide_eq_false t1) (decide_eq_false t2) (decide_eq_true t3) hc
    exact .inl ⟨T2, h2, _, by decide, d, one_slot s, l, g⟩
  by_cases k1 : kind = 1
  · obtain ⟨T2, h2, d, s, l, g⟩ := rd32_k1 a0 a1 (decide_eq_false t0) (decide_eq_false t1) (decide_eq_false t2) (decide_eq_false t3) (beq_iff_eq.2 k1) (decide_eq_true (by omega)) (decide_eq_true (by omega)) hc
    exact .inr ⟨T2, h2, _, by decide, d, s, l, g⟩
  by_cases k2 : kind = 2
  · obtain ⟨T2, h2, d, s, l, g⟩ := rd32_k2 a0 a1 (decide_eq_false t0) (decide_eq_false t1) (decide_eq_false t2) (decide_eq_false t3) (beq_false_of_ne k1) (beq_iff_eq.2 k2) (decide_eq_true (by omega)) (decide_eq_true (by omega)) hc
    exact .inr ⟨T2, h2, _, by decide, d, s, l, g⟩
  by_cases k3 : kind = 3
  · obtain ⟨T2, h2, d, s, l, g⟩ := rd32_k3 a0 a1 (decide_eq_false t0) (decide_eq_false t1) (decide_eq_false t2) (decide_eq_false t3) (beq_false_of_ne k1) (beq_false_of_ne k2) (beq_iff_eq.2 k3) (decide_eq_true (by omega)) (decide_eq_true (by omega)) hc
    exact .inr ⟨T2, h2, _, by decide, d, s, l, g⟩
  by_cases k4 : kind = 4
  · obtain ⟨T2, h2, d, s, l, g⟩ := rd32_k4 a0 a1 (decide_eq_false t0) (decide_eq_false t1) (decide_eq_false t2) (decide_eq_false t3) (beq_false_of_ne k1) (beq_false_of_ne k2) (beq_false_of_ne k3) (beq_iff_eq.2 k4) (decide_eq_true (by omega)) (decide_eq_true (by omega)) hc
    exact .inr ⟨T2, h2, _, by decide, d, s, l, g⟩
  by_cases k5 : kind = 5
  · obtain ⟨T2, h2, d, s, l, g⟩ := rd32_k5 a0 a1 (decide_eq_false t0) (decide_eq_false t1) (decide_eq_false t2) (decide_eq_false t3) (beq_false_of_ne k1) (beq_false_of_ne k2) (beq_false_of_ne k3) (beq_false_of_ne k4) (beq_iff_eq.2 k5) (decide_eq_true (by omega)) (decide_eq_true (by omega)) hc
    exact .inr ⟨T2, h2, _, by decide, d, s, l, g⟩
  by_cases k6 : kind = 6
  · obtain ⟨T2, h2, d, s, l, g⟩ := rd32_k6 a0 a1 (decide_eq_false t0) (decide_eq_false t1) (decide_eq_false t2) (decide_eq_false t3) (beq_false_of_ne k1) (beq_false_of_ne k2) (beq_false_of_ne k3) (beq_false_of_ne k4) (beq_false_of_ne k5) (beq_iff_eq.2 k6) (decide_eq_true (by omega)) (decide_eq_true (by omega)) hc
    exact .inr ⟨T2, h2, _, by decide, d, s, l, g⟩
  by_cases k7 : kind = 7
  · obtain ⟨T2, h2, d, s, l, g⟩ := rd32_k7 a0 a1 (decide_eq_false t0) (decide_eq_false t1) (decide_eq_false t2) (decide_eq_false t3) (beq_false_of_ne k1) (beq_false_of_ne k2) (beq_false_of_ne k3) (beq_false_of_ne k4) (beq_false_of_ne k5) (beq_false_of_ne k6) (beq_iff_eq.2 k7) (decide_eq_true (by omega)) (decide_eq_true (by omega)) hc
    exact .inr ⟨T2, h2, _, by decide, d, s, l, g⟩
  by_cases k8 : kind = 8
  · obtain ⟨T2, h2, d, s, l, g⟩ := rd32_k8 a0 a1 (decide_eq_false t0) (decide_eq_false t1) (decide_eq_false t2) (decide_eq_false t3) (beq_false_of_ne k1) (beq_false_of_ne k2) (beq_false_of_ne k3) (beq_false_of_ne k4) (beq_false_of_ne k5) (beq_false_of_ne k6) (beq_false_of_ne k7) (beq_iff_eq.2 k8) (decide_eq_true (by omega)) (decide_eq_true (by omega)) hc
    exact .inr ⟨T2, h2, _, by decide, d, s, l, g⟩
  by_cases k9 : kind ≥ 1
  · obtain ⟨T2, h2, d, s, l, g⟩ := rd32_k9 a0 a1 (decide_eq_false t0) (decide_eq_false t1) (decide_eq_false t2) (decide_eq_false t3) (beq_false_of_ne k1) (beq_false_of_ne k2) (beq_false_of_ne k3) (beq_false_of_ne k4) (beq_false_of_ne k5) (beq_false_of_ne k6) (beq_false_of_ne k7) (beq_false_of_ne k8) (decide_eq_true k9) (decide_eq_false (by omega)) hc
    exact .inr ⟨T2, h2, _, by decide, d, s, l, g⟩
  · obtain ⟨T2, h2, d, s, l, g⟩ := rd32_k0 a0 a1 (decide_eq_false t0) (decide_eq_false t1) (decide_eq_false t2) (decide_eq_false t3) (beq_false_of_ne k1) (beq_false_of_ne k2) (beq_false_of_ne k3) (beq_false_of_ne k4) (beq_false_of_ne k5) (beq_false_of_ne k6) (beq_false_of_ne k7) (beq_false_of_ne k8) (decide_eq_false k9) hc
    exact .inr ⟨T2, h2, _, by decide, d, s, l, g⟩
theorem end13 : End 13 := by
  intro W s N
  have a0 : (Decidable.decide ((N : Int) < (N : Int))) = false := decide_eq_false (by omega)
  obtain ⟨T2, h2, d, _, l, g⟩ := rOut_does (P := Tryz.prog) mixed con_gives.holds (c := 13) (h := argsHeap W) (t := .code lcode (tin s N N)) (d := [(0, .br false)]) (n := 400) (slots := []) (e := .exit 0) (vs := []) (len := 155) (c2 := 13)
    (x := some (.args W.heap.size W)) (L := [.b ((Decidable.decide ((N : Int) < (N : Int))) == false)]) (by kernel_rfl) (by repeat' refine vcs_cons ?_ ?_
                                                                                                                            all_goals first | exact vcs_nil | (simp only [VC.ok, a0]; rfl))
  exact ⟨T2, h2, _, by decide, d, l, g⟩
theorem end32 : End 32 := by
  intro W s N
  have a0 : (Decidable.decide ((N : Int) < (N : Int))) = false := decide_eq_false (by omega)
  obtain ⟨T2, h2, d, _, l, g⟩ := rOut_does (P := Tryz.prog) mixed con_gives.holds (c := 32) (h := argsHeap W) (t := .code lcode (tin s N N)) (d := [(0, .br false)]) (n := 400) (slots := []) (e := .exit 0) (vs := []) (len := 155) (c2 := 32)
    (x := some (.args W.heap.size W)) (L := [.b ((Decidable.decide ((N : Int) < (N : Int))) == false)]) (by kernel_rfl) (by repeat' refine vcs_cons ?_ ?_
                                                                                                                            all_goals first | exact vcs_nil | (simp only [VC.ok, a0]; rfl))
  exact ⟨T2, h2, _, by decide, d, l, g⟩
theorem wrap_small {n : Int} (h0 : 0 ≤ n) (h1 : n < 1000) : IntKind.i64.wrap n = n := by
  have h2 : n % (2 ^ 64 : Int) = n := by omega
  show (if (true && decide (n % (2 ^ 64 : Int) ≥ (2 ^ 63 : Int))) = true then n % (2 ^ 64 : Int) - (2 ^ 64 : Int) else n % (2 ^ 64 : Int)) = n
  rw [h2, if_neg]
  simp only [Bool.true_and, decide_eq_true_eq]
  omega
/-- The loop's outcome. -/
def Loops (c : Nat) (W : World) (s : Value) (N i : Nat) : Prop :=
  Does Tryz.prog c (argsHeap W) 200 (argsHeap W) (.inLoop lcode (tin s N i)) (.out (.exit 0) (mkT 155 0 [])) ∨ Does Tryz.prog c (argsHeap W) 200 (argsHeap W) (.inLoop lcode (tin s N i)) (.out .ret (mkT 155 0 [(4, .bool true)]))
theorem loop_end {c : Nat} (hc : 0 < c) (E : End c) {W : World} {s : Value} {N : Nat} : Loops c W s N N := by
  obtain ⟨T2, h2, c2, hle, d, l, g⟩ := E (W := W) (s := s) (N := N)
  exact .inl (does_end (by simp) (does_weak hle d (sheds_args hc g) fun r us hr => mkT_of hr l (fun p hp => by cases hp)))
theorem loop_of {c : Nat} (hc : 0 < c) (R : Round c) (E : End c) {W : World} {blk off N cap : Nat} (hN : N ≤ 20)
    (A : ∀ j, j < N → ∃ kind reads key value low high unb limit rev, ArgCells W.heap.size W blk (off + j * 9) (act kind reads key value low high unb limit rev)) :
    ∀ k i, i + k = N → Loops c W (.slice (some ⟨blk, off, some 0⟩) N cap) N i := by
  intro k
  induction k with
  | zero =>
    intro i hi
    obtain rfl : i = N := by omega
    exact loop_end hc E
  | succ k ih =>
    intro i hi
    obtain ⟨kind, reads, key, value, low, high, unb, limit, rev, ha⟩ := A i (by omega)
    rcases R (N := N) (cap := cap) (i := i) (by omega) ha with ⟨T2, h2, c2, hle, d, s, l, g⟩ | ⟨T2, h2, c2, hle, d, s, l, g⟩
    · refine .inr (does_end (by simp) (does_weak hle d (sheds_args hc g) fun r us hr => mkT_of hr l (fun p hp => ?_)))
      simp only [List.mem_cons, List.not_mem_nil, or_false] at hp
      subst hp
      exact ⟨s, away_ok 9 _ rfl⟩
    · rw [wrap_small (by omega) (by omega)] at s
      simp only [List.map_cons, List.map_nil, List.cons.injEq, and_true] at s
      obtain ⟨s1, s2, s3, s4⟩ := s
      have key : ∀ (r : Env) (us : List Value), RelL r T2 us → RelL (r.cut c c2) (tin (.slice (some ⟨blk, off, some 0⟩) N cap) N (i + 1)) us := fun r us hr => mkT_of hr l (fun p hp => by
        simp only [List.mem_cons, List.not_mem_nil, or_false] at hp
        rcases hp with rfl | rfl | rfl | rfl
        · exact ⟨s1, away_ok 9 _ rfl⟩
        · exact ⟨s2, away_ok 9 _ rfl⟩
        · exact ⟨s3, away_ok 9 _ rfl⟩
        · exact ⟨s4, away_ok 9 _ rfl⟩)
      rcases ih (i + 1) (by omega) with q | q
      · exact .inl (does_step hle d (sheds_args hc g) key q)
      · exact .inr (does_step hle d (sheds_args hc g) key q)
end Go.Proofs.YtglaapelpidfhaaGreat
