/- The loop over the clients. No condition. -/
import Derived.Test.YtglaapelpidfhaaGreatCli1
namespace Go.Proofs.YtglaapelpidfhaaGreat
open Go Go.Sx
/-- The lists of acts, none of which is too long for any machine. -/
def Lists2 (W : World) (ba oa M : Nat) : Prop := ∀ j, j < M → ∃ s N, N ≤ 1400000000000 ∧ ArgCells W.heap.size W ba (oa + j * 1) [s] ∧ ActList W s N
def clF : List Value := mkT 147 0 [(1, .pointer (some ⟨1, 0, none⟩)), (3, .pointer (some ⟨25, 0, none⟩)), (5, .int .i64 1)]
def CliAt (W : World) (s q : Nat) (c d e g : Int) (ba oa M ca : Nat) (h0 : Heap) (mk : List (Value × Value)) (k : Int) : Prop :=
  ∀ now count, 1 ≤ now → now ≤ g → ∃ nw cn, 1 ≤ nw ∧ nw ≤ g ∧ Mid Tryz.prog 60 h0 60 ((0, .args W.heap.size W) :: storeH s q c d e g now count ++ [(23, .map mk)]) 600 ((0, .args W.heap.size W) :: storeH s q c d e g nw cn) cl (alE (.slice (some ⟨ba, oa, some 0⟩) M ca) M k) (.exit 0) clF
theorem cli_done {W : World} {s q : Nat} {c d e g : Int} {ba oa M ca : Nat} {h0 : Heap} {mk : List (Value × Value)} {k : Int} (h : (M : Int) ≤ k) : CliAt W s q c d e g ba oa M ca h0 mk k :=
  fun now count h1 h2 => ⟨now, count, h1, h2, (cl_end (decide_eq_false (by omega))).mid (by simp) (by decide)⟩
theorem cli_step0 {W : World} {s q : Nat} {c d e g : Int} {ba oa M ca : Nat} {h0 : Heap} (hk : 0 < M) (hM : (M : Int) ≤ c) (hg : g ≤ 1099511627776) (A : Lists2 W ba oa M) (ih : CliAt W s q c d e g ba oa M ca h0 [(.int .i64 0, .int .i64 0)] 1) : CliAt W s q c d e g ba oa M ca h0 [] 0 := by
  intro now count h1 h2
  obtain ⟨sv, N, hN, hc, hA⟩ := A 0 hk
  obtain ⟨nw, cn, q1, q2, hl⟩ := acts_loop (s := s) (q := q) (d := d) (e := e) (now := now) (count := count) (k := 0) (ba := ba) (oa := oa) (M := M) (ca := ca) (by decide) (show (0 : Int) < c by omega) hg h1 h2 hN hA
  obtain ⟨n2, c2, r1, r2, m⟩ := ih nw cn q1 q2
  have a0 : Decidable.decide ((0 : Int) < (M : Int)) = true := decide_eq_true (by omega)
  have a1 : Decidable.decide ((0 : Int) ≤ 0 ∧ (0 : Int) < (M : Int)) = true := decide_eq_true (by omega)
  have a2 : (!Decidable.decide ((0 : Int) < c)) = false := not_true (decide_eq_true (by omega))
  cases hA with
  | nil => exact ⟨n2, c2, r1, r2, (cl_c0n (blk := 0) (off := 0) (N := 0) (cap := 0) a0 a1 a2 hc hl).mid (by decide) (by decide) m⟩
  | some hB => exact ⟨n2, c2, r1, r2, (cl_c0s a0 a1 a2 hc hl).mid (by decide) (by decide) m⟩
theorem cli_step1 {W : World} {s q : Nat} {c d e g : Int} {ba oa M ca : Nat} {h0 : Heap} (hk : 1 < M) (hM : (M : Int) ≤ c) (hg : g ≤ 1099511627776) (A : Lists2 W ba oa M) (ih : CliAt W s q c d e g ba oa M ca h0 [(.int .i64 0, .int .i64 0), (.int .i64 1, .int .i64 0)] 2) : CliAt W s q c d e g ba oa M ca h0 [(.int .i64 0, .int .i64 0)] 1 := by
  intro now count h1 h2
  obtain ⟨sv, N, hN, hc, hA⟩ := A 1 hk
  obtain ⟨nw, cn, q1, q2, hl⟩ := acts_loop (s := s) (q := q) (d := d) (e := e) (now := now) (count := count) (k := 1) (ba := ba) (oa := oa) (M := M) (ca := ca) (by decide) (show (1 : Int) < c by omega) hg h1 h2 hN hA
  obtain ⟨n2, c2, r1, r2, m⟩ := ih nw cn q1 q2
  have a0 : Decidable.decide ((1 : Int) < (M : Int)) = true := decide_eq_true (by omega)
  have a1 : Decidable.decide ((0 : Int) ≤ 1 ∧ (1 : Int) < (M : Int)) = true := decide_eq_true (by omega)
  have a2 : (!Decidable.decide ((1 : Int) < c)) = false := not_true (decide_eq_true (by omega))
  cases hA with
  | nil => exact ⟨n2, c2, r1, r2, (cl_c1n (blk := 0) (off := 0) (N := 0) (cap := 0) a0 a1 a2 hc hl).mid (by decide) (by decide) m⟩
  | some hB => exact ⟨n2, c2, r1, r2, (cl_c1s a0 a1 a2 hc hl).mid (by decide) (by decide) m⟩
theorem cli_step2 {W : World} {s q : Nat} {c d e g : Int} {ba oa M ca : Nat} {h0 : Heap} (hk : 2 < M) (hM : (M : Int) ≤ c) (hg : g ≤ 1099511627776) (A : Lists2 W ba oa M) (ih : CliAt W s q c d e g ba oa M ca h0 [(.int .i64 0, .int .i64 0), (.int .i64 1, .int .i64 0), (.int .i64 2, .int .i64 0)] 3) : CliAt W s q c d e g ba oa M ca h0 [(.int .i64 0, .int .i64 0), (.int .i64 1, .int .i64 0)] 2 := by
  intro now count h1 h2
  obtain ⟨sv, N, hN, hc, hA⟩ := A 2 hk
  obtain ⟨nw, cn, q1, q2, hl⟩ := acts_loop (s := s) (q := q) (d := d) (e := e) (now := now) (count := count) (k := 2) (ba := ba) (oa := oa) (M := M) (ca := ca) (by decide) (show (2 : Int) < c by omega) hg h1 h2 hN hA
  obtain ⟨n2, c2, r1, r2, m⟩ := ih nw cn q1 q2
  have a0 : Decidable.decide ((2 : Int) < (M : Int)) = true := decide_eq_true (by omega)
  have a1 : Decidable.decide ((0 : Int) ≤ 2 ∧ (2 : Int) < (M : Int)) = true := decide_eq_true (by omega)
  have a2 : (!Decidable.decide ((2 : Int) < c)) = false := not_true (decide_eq_true (by omega))
  cases hA with
  | nil => exact ⟨n2, c2, r1, r2, (cl_c2n (blk := 0) (off := 0) (N := 0) (cap := 0) a0 a1 a2 hc hl).mid (by decide) (by decide) m⟩
  | some hB => exact ⟨n2, c2, r1, r2, (cl_c2s a0 a1 a2 hc hl).mid (by decide) (by decide) m⟩
theorem cli_step3 {W : World} {s q : Nat} {c d e g : Int} {ba oa M ca : Nat} {h0 : Heap} (hk : 3 < M) (hM : (M : Int) ≤ c) (hg : g ≤ 1099511627776) (A : Lists2 W ba oa M) (ih : CliAt W s q c d e g ba oa M ca h0 [(.int .i64 0, .int .i64 0), (.int .i64 1, .int .i64 0), (.int .i64 2, .int .i64 0), (.int .i64 3, .int .i64 0)] 4) : CliAt W s q c d e g ba oa M ca h0 [(.int .i64 0, .int .i64 0), (.int .i64 1, .int .i64 0), (.int .i64 2, .int .i64 0)] 3 := by
  intro now count h1 h2
  obtain ⟨sv, N, hN, hc, hA⟩ := A 3 hk
  obtain ⟨nw, cn, q1, q2, hl⟩ := acts_loop (s := s) (q := q) (d := d) (e := e) (now := now) (count := count) (k := 3) (ba := ba) (oa := oa) (M := M) (ca := ca) (by decide) (show (3 : Int) < c by omega) hg h1 h2 hN hA
  obtain ⟨n2, c2, r1, r2, m⟩ := ih nw cn q1 q2
  have a0 : Decidable.decide ((3 : Int) < (M : Int)) = true := decide_eq_true (by omega)
  have a1 : Decidable.decide ((0 : Int) ≤ 3 ∧ (3 : Int) < (M : Int)) = true := decide_eq_true (by omega)
  have a2 : (!Decidable.decide ((3 : Int) < c)) = false := not_true (decide_eq_true (by omega))
  cases hA with
  | nil => exact ⟨n2, c2, r1, r2, (cl_c3n (blk := 0) (off := 0) (N := 0) (cap := 0) a0 a1 a2 hc hl).mid (by decide) (by decide) m⟩
  | some hB => exact ⟨n2, c2, r1, r2, (cl_c3s a0 a1 a2 hc hl).mid (by decide) (by decide) m⟩
theorem cli_step4 {W : World} {s q : Nat} {c d e g : Int} {ba oa M ca : Nat} {h0 : Heap} (hk : 4 < M) (hM : (M : Int) ≤ c) (hg : g ≤ 1099511627776) (A : Lists2 W ba oa M) (ih : CliAt W s q c d e g ba oa M ca h0 [(.int .i64 0, .int .i64 0), (.int .i64 1, .int .i64 0), (.int .i64 2, .int .i64 0), (.int .i64 3, .int .i64 0), (.int .i64 4, .int .i64 0)] 5) : CliAt W s q c d e g ba oa M ca h0 [(.int .i64 0, .int .i64 0), (.int .i64 1, .int .i64 0), (.int .i64 2, .int .i64 0), (.int .i64 3, .int .i64 0)] 4 := by
  intro now count h1 h2
  obtain ⟨sv, N, hN, hc, hA⟩ := A 4 hk
  obtain ⟨nw, cn, q1, q2, hl⟩ := acts_loop (s := s) (q := q) (d := d) (e := e) (now := now) (count := count) (k := 4) (ba := ba) (oa := oa) (M := M) (ca := ca) (by decide) (show (4 : Int) < c by omega) hg h1 h2 hN hA
  obtain ⟨n2, c2, r1, r2, m⟩ := ih nw cn q1 q2
  have a0 : Decidable.decide ((4 : Int) < (M : Int)) = true := decide_eq_true (by omega)
  have a1 : Decidable.decide ((0 : Int) ≤ 4 ∧ (4 : Int) < (M : Int)) = true := decide_eq_true (by omega)
  have a2 : (!Decidable.decide ((4 : Int) < c)) = false := not_true (decide_eq_true (by omega))
  cases hA with
  | nil => exact ⟨n2, c2, r1, r2, (cl_c4n (blk := 0) (off := 0) (N := 0) (cap := 0) a0 a1 a2 hc hl).mid (by decide) (by decide) m⟩
  | some hB => exact ⟨n2, c2, r1, r2, (cl_c4s a0 a1 a2 hc hl).mid (by decide) (by decide) m⟩
theorem cli_step5 {W : World} {s q : Nat} {c d e g : Int} {ba oa M ca : Nat} {h0 : Heap} (hk : 5 < M) (hM : (M : Int) ≤ c) (hg : g ≤ 1099511627776) (A : Lists2 W ba oa M) (ih : CliAt W s q c d e g ba oa M ca h0 [(.int .i64 0, .int .i64 0), (.int .i64 1, .int .i64 0), (.int .i64 2, .int .i64 0), (.int .i64 3, .int .i64 0), (.int .i64 4, .int .i64 0), (.int .i64 5, .int .i64 0)] 6) : CliAt W s q c d e g ba oa M ca h0 [(.int .i64 0, .int .i64 0), (.int .i64 1, .int .i64 0), (.int .i64 2, .int .i64 0), (.int .i64 3, .int .i64 0), (.int .i64 4, .int .i64 0)] 5 := by
  intro now count h1 h2
  obtain ⟨sv, N, hN, hc, hA⟩ := A 5 hk
  obtain ⟨nw, cn, q1, q2, hl⟩ := acts_loop (s := s) (q := q) (d := d) (e := e) (now := now) (count := count) (k := 5) (ba := ba) (oa := oa) (M := M) (ca := ca) (by decide) (show (5 : Int) < c by omega) hg h1 h2 hN hA
  obtain ⟨n2, c2, r1, r2, m⟩ := ih nw cn q1 q2
  have a0 : Decidable.decide ((5 : Int) < (M : Int)) = true := decide_eq_true (by omega)
  have a1 : Decidable.decide ((0 : Int) ≤ 5 ∧ (5 : Int) < (M : Int)) = true := decide_eq_true (by omega)
  have a2 : (!Decidable.decide ((5 : Int) < c)) = false := not_true (decide_eq_true (by omega))
  cases hA with
  | nil => exact ⟨n2, c2, r1, r2, (cl_c5n (blk := 0) (off := 0) (N := 0) (cap := 0) a0 a1 a2 hc hl).mid (by decide) (by decide) m⟩
  | some hB => exact ⟨n2, c2, r1, r2, (cl_c5s a0 a1 a2 hc hl).mid (by decide) (by decide) m⟩
theorem cli_step6 {W : World} {s q : Nat} {c d e g : Int} {ba oa M ca : Nat} {h0 : Heap} (hk : 6 < M) (hM : (M : Int) ≤ c) (hg : g ≤ 1099511627776) (A : Lists2 W ba oa M) (ih : CliAt W s q c d e g ba oa M ca h0 [(.int .i64 0, .int .i64 0), (.int .i64 1, .int .i64 0), (.int .i64 2, .int .i64 0), (.int .i64 3, .int .i64 0), (.int .i64 4, .int .i64 0), (.int .i64 5, .int .i64 0), (.int .i64 6, .int .i64 0)] 7) : CliAt W s q c d e g ba oa M ca h0 [(.int .i64 0, .int .i64 0), (.int .i64 1, .int .i64 0), (.int .i64 2, .int .i64 0), (.int .i64 3, .int .i64 0), (.int .i64 4, .int .i64 0), (.int .i64 5, .int .i64 0)] 6 := by
  intro now count h1 h2
  obtain ⟨sv, N, hN, hc, hA⟩ := A 6 hk
  obtain ⟨nw, cn, q1, q2, hl⟩ := acts_loop (s := s) (q := q) (d := d) (e := e) (now := now) (count := count) (k := 6) (ba := ba) (oa := oa) (M := M) (ca := ca) (by decide) (show (6 : Int) < c by omega) hg h1 h2 hN hA
  obtain ⟨n2, c2, r1, r2, m⟩ := ih nw cn q1 q2
  have a0 : Decidable.decide ((6 : Int) < (M : Int)) = true := decide_eq_true (by omega)
  have a1 : Decidable.decide ((0 : Int) ≤ 6 ∧ (6 : Int) < (M : Int)) = true := decide_eq_true (by omega)
  have a2 : (!Decidable.decide ((6 : Int) < c)) = false := not_true (decide_eq_true (by omega))
  cases hA with
  | nil => exact ⟨n2, c2, r1, r2, (cl_c6n (blk := 0) (off := 0) (N := 0) (cap := 0) a0 a1 a2 hc hl).mid (by decide) (by decide) m⟩
  | some hB => exact ⟨n2, c2, r1, r2, (cl_c6s a0 a1 a2 hc hl).mid (by decide) (by decide) m⟩
theorem cli_step7 {W : World} {s q : Nat} {c d e g : Int} {ba oa M ca : Nat} {h0 : Heap} (hk : 7 < M) (hM : (M : Int) ≤ c) (hg : g ≤ 1099511627776) (A : Lists2 W ba oa M) (ih : CliAt W s q c d e g ba oa M ca h0 [(.int .i64 0, .int .i64 0), (.int .i64 1, .int .i64 0), (.int .i64 2, .int .i64 0), (.int .i64 3, .int .i64 0), (.int .i64 4, .int .i64 0), (.int .i64 5, .int .i64 0), (.int .i64 6, .int .i64 0), (.int .i64 7, .int .i64 0)] 8) : CliAt W s q c d e g ba oa M ca h0 [(.int .i64 0, .int .i64 0), (.int .i64 1, .int .i64 0), (.int .i64 2, .int .i64 0), (.int .i64 3, .int .i64 0), (.int .i64 4, .int .i64 0), (.int .i64 5, .int .i64 0), (.int .i64 6, .int .i64 0)] 7 := by
  intro now count h1 h2
  obtain ⟨sv, N, hN, hc, hA⟩ := A 7 hk
  obtain ⟨nw, cn, q1, q2, hl⟩ := acts_loop (s := s) (q := q) (d := d) (e := e) (now := now) (count := count) (k := 7) (ba := ba) (oa := oa) (M := M) (ca := ca) (by decide) (show (7 : Int) < c by omega) hg h1 h2 hN hA
  obtain ⟨n2, c2, r1, r2, m⟩ := ih nw cn q1 q2
  have a0 : Decidable.decide ((7 : Int) < (M : Int)) = true := decide_eq_true (by omega)
  have a1 : Decidable.decide ((0 : Int) ≤ 7 ∧ (7 : Int) < (M : Int)) = true := decide_eq_true (by omega)
  have a2 : (!Decidable.decide ((7 : Int) < c)) = false := not_true (decide_eq_true (by omega))
  cases hA with
  | nil => exact ⟨n2, c2, r1, r2, (cl_c7n (blk := 0) (off := 0) (N := 0) (cap := 0) a0 a1 a2 hc hl).mid (by decide) (by decide) m⟩
  | some hB => exact ⟨n2, c2, r1, r2, (cl_c7s a0 a1 a2 hc hl).mid (by decide) (by decide) m⟩
theorem clients_loop {W : World} {s q : Nat} {c d e g now count : Int} {ba oa M ca : Nat} (hM : M ≤ 8) (hc : (M : Int) ≤ c) (hg : g ≤ 1099511627776) (A : Lists2 W ba oa M) (n1 : 1 ≤ now) (n2 : now ≤ g) :
    ∃ nw cn, Does Tryz.prog 60 ((0, .args W.heap.size W) :: storeH s q c d e g now count ++ [(23, .map [])]) 600 ((0, .args W.heap.size W) :: storeH s q c d e g nw cn) (.inLoop cl (alE (.slice (some ⟨ba, oa, some 0⟩) M ca) M 0)) (.out (.exit 0) clF) := by
  obtain ⟨h0, hh⟩ : ∃ h0 : Heap, h0 = (0, .args W.heap.size W) :: storeH s q c d e g now count ++ [(23, .map [])] := ⟨_, rfl⟩
  have z8 : CliAt W s q c d e g ba oa M ca h0 [(.int .i64 0, .int .i64 0), (.int .i64 1, .int .i64 0), (.int .i64 2, .int .i64 0), (.int .i64 3, .int .i64 0), (.int .i64 4, .int .i64 0), (.int .i64 5, .int .i64 0), (.int .i64 6, .int .i64 0), (.int .i64 7, .int .i64 0)] 8 := cli_done (by omega)
  have z7 : CliAt W s q c d e g ba oa M ca h0 [(.int .i64 0, .int .i64 0), (.int .i64 1, .int .i64 0), (.int .i64 2, .int .i64 0), (.int .i64 3, .int .i64 0), (.int .i64 4, .int .i64 0), (.int .i64 5, .int .i64 0), (.int .i64 6, .int .i64 0)] 7 := if h : 7 < M then cli_step7 h hc hg A z8 else cli_done (by omega)
  have z6 : CliAt W s q c d e g ba oa M ca h0 [(.int .i64 0, .int .i64 0), (.int .i64 1, .int .i64 0), (.int .i64 2, .int .i64 0), (.int .i64 3, .int .i64 0), (.int .i64 4, .int .i64 0), (.int .i64 5, .int .i64 0)] 6 := if h : 6 < M then cli_step6 h hc hg A z7 else cli_done (by omega)
  have z5 : CliAt W s q c d e g ba oa M ca h0 [(.int .i64 0, .int .i64 0), (.int .i64 1, .int .i64 0), (.int .i64 2, .int .i64 0), (.int .i64 3, .int .i64 0), (.int .i64 4, .int .i64 0)] 5 := if h : 5 < M then cli_step5 h hc hg A z6 else cli_done (by omega)
  have z4 : CliAt W s q c d e g ba oa M ca h0 [(.int .i64 0, .int .i64 0), (.int .i64 1, .int .i64 0), (.int .i64 2, .int .i64 0), (.int .i64 3, .int .i64 0)] 4 := if h : 4 < M then cli_step4 h hc hg A z5 else cli_done (by omega)
  have z3 : CliAt W s q c d e g ba oa M ca h0 [(.int .i64 0, .int .i64 0), (.int .i64 1, .int .i64 0), (.int .i64 2, .int .i64 0)] 3 := if h : 3 < M then cli_step3 h hc hg A z4 else cli_done (by omega)
  have z2 : CliAt W s q c d e g ba oa M ca h0 [(.int .i64 0, .int .i64 0), (.int .i64 1, .int .i64 0)] 2 := if h : 2 < M then cli_step2 h hc hg A z3 else cli_done (by omega)
  have z1 : CliAt W s q c d e g ba oa M ca h0 [(.int .i64 0, .int .i64 0)] 1 := if h : 1 < M then cli_step1 h hc hg A z2 else cli_done (by omega)
  have z0 : CliAt W s q c d e g ba oa M ca h0 [] 0 := if h : 0 < M then cli_step0 h hc hg A z1 else cli_done (by omega)
  obtain ⟨nw, cn, _, _, m⟩ := z0 now count n1 n2
  rw [← hh]
  rw [← hh] at m
  exact ⟨nw, cn, does_of_mid' (by decide) m⟩
end Go.Proofs.YtglaapelpidfhaaGreat
