/- The loop over the acts. No condition. -/
import Derived.Test.YtglaapelpidfhaaGreatAct7
namespace Go.Proofs.YtglaapelpidfhaaGreat
open Go Go.Sx
theorem cmp_nil (x : ByteArray) : cmpB { data := #[] } x ≤ 0 := by
  have e : comB { data := #[] } x = 0 := by
    show Int.ofNat (comN [] x.data.toList) = 0
    simp [comN]
  unfold cmpB
  rw [e]
  split <;> first | decide | (rename_i h _; cases h)
theorem big_ok {m b : Nat} (h : m ≤ 1400000000001) (hb : b ≤ 40) : bigOk m b = true :=
  Nat.ble_eq_true_of_le (Nat.le_trans (Nat.mul_le_mul h (show 2 * b + 1 ≤ 81 by omega)) (by decide))
def ErrOk (v : Value) : Prop := v = .nilIface ∨ v = .iface 234 (.chan none)
theorem not_true {b : Bool} (h : b = true) : (!b) = false := by rw [h]; rfl
theorem not_false {b : Bool} (h : b = false) : (!b) = true := by rw [h]; rfl
noncomputable def alE (p : Value) (M : Nat) (k : Int) : List Value := mkT 147 0 [(1, .pointer (some ⟨1, 0, none⟩)), (3, .pointer (some ⟨25, 0, none⟩)), (5, .int .i64 1), (39, p), (40, .int .i64 M), (41, .int .i64 k)]
theorem acts_mid {W : World} {s q : Nat} {c d e g k : Int} {ba oa M ca blk off N cap : Nat} (hk : 0 ≤ k) (hkc : k < c) (hg : g ≤ 1099511627776) (hN : N ≤ 1400000000000) (A : Acts W blk off N) {h0 : Heap} :
    ∀ (r i : Nat) (now count : Int) (m1 m2 : Nat) (err : Value), i + r = N → m1 + m2 ≤ i → 1 ≤ now → now ≤ g → ErrOk err →
      ∃ nw cn, 1 ≤ nw ∧ nw ≤ g ∧ Mid Tryz.prog 80 h0 82 (alH [(0, .args W.heap.size W)] s q c d e g now count k m1 m2 err) 500 ((0, .args W.heap.size W) :: storeH s q c d e g nw cn) al
        (alT (.slice (some ⟨ba, oa, some 0⟩) M ca) M k (.slice (some ⟨blk, off, some 0⟩) N cap) N i) (.exit 4) (alE (.slice (some ⟨ba, oa, some 0⟩) M ca) M k) := by
  intro r
  induction r with
  | zero =>
    intro i now count m1 m2 err hi hm h1 h2 he
    exact ⟨now, count, h1, h2, (a_end (decide_eq_false (by omega))).mid (by simp) (by decide)⟩
  | succ r ih =>
    intro i now count m1 m2 err hi hm h1 h2 he
    have a0 : Decidable.decide ((i : Int) < (N : Int)) = true := decide_eq_true (by omega)
    have a1 : Decidable.decide (0 ≤ (i : Int) ∧ (i : Int) < (N : Int)) = true := decide_eq_true (by omega)
    obtain ⟨kind, reads, key, value, low, high, unb, limit, rev, hc⟩ := A i (by omega)
    have step : ∀ {nw cn : Int} {n1 n2 : Nat} {er : Value},
        Sx.Goes Tryz.prog 80 82 500 (alH [(0, .args W.heap.size W)] s q c d e g now count k m1 m2 err) al (alT (.slice (some ⟨ba, oa, some 0⟩) M ca) M k (.slice (some ⟨blk, off, some 0⟩) N cap) N i) (alH [(0, .args W.heap.size W)] s q c d e g nw cn k n1 n2 er)
          (alT (.slice (some ⟨ba, oa, some 0⟩) M ca) M k (.slice (some ⟨blk, off, some 0⟩) N cap) N (IntKind.i64.wrap ((i : Int) + 1))) →
        n1 + n2 ≤ i + 1 → 1 ≤ nw → nw ≤ g → ErrOk er → ∃ nw cn, 1 ≤ nw ∧ nw ≤ g ∧ Mid Tryz.prog 80 h0 82 (alH [(0, .args W.heap.size W)] s q c d e g now count k m1 m2 err) 500 ((0, .args W.heap.size W) :: storeH s q c d e g nw cn) al
        (alT (.slice (some ⟨ba, oa, some 0⟩) M ca) M k (.slice (some ⟨blk, off, some 0⟩) N cap) N i) (.exit 4) (alE (.slice (some ⟨ba, oa, some 0⟩) M ca) M k) := by
      intro nw cn n1 n2 er gg hm' h1' h2' he'
      rw [wrapS (by omega) (by omega)] at gg
      obtain ⟨n, c2, q1, q2, q3⟩ := ih (i + 1) nw cn n1 n2 er (by omega) hm' h1' h2' he'
      exact ⟨n, c2, q1, q2, gg.mid (by decide) (by decide) q3⟩
    have hw : now ≠ g → IntKind.i64.wrap (now + 1) = now + 1 := fun _ => wrapS (by omega) (by omega)
    have kk : (k == k) = true := beq_iff_eq.2 rfl
    have q0 : Decidable.decide ((0 : Int) ≤ 0 ∧ 0 < ((q + 1 : Nat) : Int)) = true := decide_eq_true (by omega)
    have s0 : Decidable.decide (0 ≤ IntKind.i64.wrap (1 - 1) ∧ IntKind.i64.wrap (1 - 1) < ((s + 1 : Nat) : Int)) = true := decide_eq_true (by rw [wrapS (by omega) (by omega)]; omega)
    by_cases k2 : kind = 2
    · have k2' := beq_iff_eq.2 k2
      by_cases t0 : (key.data.toList.length : Int) ≥ 1
      · by_cases t1 : (key.data.toList.length : Int) ≤ 16
        · by_cases eg : now = g
          · exact step (a_getx a0 a1 k2' (decide_eq_true t0) (not_true (decide_eq_true t1)) (big_ok (by omega) (by decide)) (beq_iff_eq.2 eg) hc) (by omega) h1 h2 (.inr rfl)
          · have w := hw eg
            refine step (a_get a0 a1 k2' (decide_eq_true t0) (not_true (decide_eq_true t1)) (big_ok (by omega) (by decide)) (beq_eq_false_iff_ne.2 eg) (decide_eq_true hk) (not_true (decide_eq_true hkc)) (decide_eq_false (by rw [w]; omega)) (decide_eq_false (by omega)) q0 s0 (decide_eq_true (cmp_nil key)) kk hc) (by omega) (by rw [w]; omega) (by rw [w]; omega) (.inl rfl)
        · rcases he with rfl | rfl
          · exact step (a_g_l0 a0 a1 k2' (decide_eq_true t0) (not_false (decide_eq_false t1)) hc) (by omega) h1 h2 (.inl rfl)
          · exact step (a_g_l1 a0 a1 k2' (decide_eq_true t0) (not_false (decide_eq_false t1)) hc) (by omega) h1 h2 (.inr rfl)
      · rcases he with rfl | rfl
        · exact step (a_g_z0 a0 a1 k2' (decide_eq_false t0) hc) (by omega) h1 h2 (.inl rfl)
        · exact step (a_g_z1 a0 a1 k2' (decide_eq_false t0) hc) (by omega) h1 h2 (.inr rfl)
    have k2' : (kind == 2) = false := beq_eq_false_iff_ne.2 k2
    by_cases k5 : kind = 5
    · have k5' := beq_iff_eq.2 k5
      by_cases t0 : (low.data.toList.length : Int) > 16
      · rcases he with rfl | rfl
        · exact step (a_r_lo0 a0 a1 k2' k5' (decide_eq_true t0) hc) (by omega) h1 h2 (.inl rfl)
        · exact step (a_r_lo1 a0 a1 k2' k5' (decide_eq_true t0) hc) (by omega) h1 h2 (.inr rfl)
      have t0' := decide_eq_false t0
      by_cases t1 : (high.data.toList.length : Int) > 16
      · rcases he with rfl | rfl
        · exact step (a_r_hi0 a0 a1 k2' k5' t0' (decide_eq_true t1) hc) (by omega) h1 h2 (.inl rfl)
        · exact step (a_r_hi1 a0 a1 k2' k5' t0' (decide_eq_true t1) hc) (by omega) h1 h2 (.inr rfl)
      have t1' := decide_eq_false t1
      cases unb with
      | true =>
        cases hs : strEq high { data := #[] } with
        | false =>
          rcases he with rfl | rfl
          · exact step (a_r_uh0 a0 a1 k2' k5' t0' t1' rfl (not_false hs) hc) (by omega) h1 h2 (.inl rfl)
          · exact step (a_r_uh1 a0 a1 k2' k5' t0' t1' rfl (not_false hs) hc) (by omega) h1 h2 (.inr rfl)
        | true =>
          by_cases eg : now = g
          · exact step (a_ranx a0 a1 k2' k5' t0' t1' rfl (not_true hs) rfl (big_ok (by omega) (by decide)) (beq_iff_eq.2 eg) hc) (by omega) h1 h2 (.inr rfl)
          · have w := hw eg
            exact step (a_ran a0 a1 k2' k5' t0' t1' rfl (not_true hs) rfl (big_ok (by omega) (by decide)) (beq_eq_false_iff_ne.2 eg) (decide_eq_true hk) (not_true (decide_eq_true hkc)) (decide_eq_false (by rw [w]; omega)) (decide_eq_false (by omega)) q0 s0 (decide_eq_true (cmp_nil low)) kk hc) (by omega) (by rw [w]; omega) (by rw [w]; omega) (.inl rfl)
      | false =>
        have bl : Nat.ble low.data.toList.length 4294967295 = true := Nat.ble_eq_true_of_le (by omega)
        by_cases ge : cmpB low high ≥ 0
        · rcases he with rfl | rfl
          · exact step (a_r_ge0 a0 a1 k2' k5' t0' t1' rfl rfl bl (decide_eq_true ge) hc) (by omega) h1 h2 (.inl rfl)
          · exact step (a_r_ge1 a0 a1 k2' k5' t0' t1' rfl rfl bl (decide_eq_true ge) hc) (by omega) h1 h2 (.inr rfl)
        have lt := not_true (decide_eq_true (show cmpB low high < 0 by omega))
        by_cases eg : now = g
        · exact step (a_ransx a0 a1 k2' k5' t0' t1' rfl rfl bl (decide_eq_false ge) (big_ok (by omega) (by decide)) lt (beq_iff_eq.2 eg) hc) (by omega) h1 h2 (.inr rfl)
        · have w := hw eg
          exact step (a_rans a0 a1 k2' k5' t0' t1' rfl rfl bl (decide_eq_false ge) (big_ok (by omega) (by decide)) lt (beq_eq_false_iff_ne.2 eg) (decide_eq_true hk) (not_true (decide_eq_true hkc)) (decide_eq_false (by rw [w]; omega)) (decide_eq_false (by omega)) q0 s0 (decide_eq_true (cmp_nil low)) kk hc) (by omega) (by rw [w]; omega) (by rw [w]; omega) (.inl rfl)
    have k5' : (kind == 5) = false := beq_eq_false_iff_ne.2 k5
    rcases he with rfl | rfl
    · exact step (a_other0 a0 a1 k2' k5' hc) (by omega) h1 h2 (.inl rfl)
    · exact step (a_other1 a0 a1 k2' k5' hc) (by omega) h1 h2 (.inr rfl)
/-- The thread and the client as the loop begins. -/
def thL0 (k : Int) : List Value := [.int .i64 k, .slice none 0 0, .bool false, .int .i64 0, .string ⟨#[]⟩, .string ⟨#[]⟩, .bool false, .string ⟨#[]⟩, .nilIface, .pointer none, .pointer none, .nilFunc, .bool false, .int .i64 0, .int .i64 0, .int .i64 0, .string ⟨#[]⟩, .string ⟨#[]⟩, .bool false, .int .i64 0, .slice none 0 0, .bool false, .int .i64 0, .int .i64 0, .string ⟨#[]⟩, .int .i64 0, .int .i64 0, .slice none 0 0, .int .i64 0, .int .i64 0]
def clG (k : Int) (keys spans parts : Value) : List Value := [.int .i64 k, .pointer (some ⟨60, 0, none⟩), .nilFunc, .bool true, .bool true, .int .i64 0, .slice none 0 0, keys, spans, .bool true, .string ⟨#[]⟩, .bool false, .slice none 0 0, .int .i64 0, .nilIface, parts]
noncomputable def acE (W : World) (s q : Nat) (c d e g now count k : Int) : Heap := (0, .args W.heap.size W) :: storeH s q c d e g now count ++ [(60, .cells (thL0 k) 156), (61, .cells (clG k (.slice none 0 0) (.slice none 0 0) (.slice none 0 0)) 85)]
noncomputable def acB (W : World) (s q : Nat) (c d e g now count k : Int) : Heap := (0, .args W.heap.size W) :: storeH s q c d e g now count ++ [(60, .cells (thL k) 156), (61, .cells (clG k (.slice none 0 0) (.slice none 0 0) (.chan none)) 85)]
noncomputable def acC (W : World) (s q : Nat) (c d e g now count k : Int) : Heap := (0, .args W.heap.size W) :: storeH s q c d e g now count ++ [(60, .cells (thL k) 156), (61, .cells (clG k (.chan (some 80)) (.slice none 0 0) (.chan none)) 85), (80, .bag 9 0)]
theorem enter {W : World} {s q : Nat} {c d e g now count k : Int} {ba oa M ca N : Nat} {sv : Value} {nw cn : Int} (R : RenTo [] 80 500 (acE W s q c d e g now count k) (alT (.slice (some ⟨ba, oa, some 0⟩) M ca) M k sv N 0) (acB W s q c d e g now count k) (alT (.slice (some ⟨ba, oa, some 0⟩) M ca) M k sv N 0))
    (hm : Mid Tryz.prog 80 (acE W s q c d e g now count k) 82 (alH [(0, .args W.heap.size W)] s q c d e g now count k 0 0 .nilIface) 500 ((0, .args W.heap.size W) :: storeH s q c d e g nw cn) al (alT (.slice (some ⟨ba, oa, some 0⟩) M ca) M k sv N 0) (.exit 4) (alE (.slice (some ⟨ba, oa, some 0⟩) M ca) M k)) :
    Does Tryz.prog 80 (acE W s q c d e g now count k) 500 ((0, .args W.heap.size W) :: storeH s q c d e g nw cn) (.inLoop al (alT (.slice (some ⟨ba, oa, some 0⟩) M ca) M k sv N 0)) (.out (.exit 4) (alE (.slice (some ⟨ba, oa, some 0⟩) M ca) M k)) := by
  refine does_of_mid (ρ := []) (cm := 80) (hm := acB W s q c d e g now count k) (T := alT (.slice (some ⟨ba, oa, some 0⟩) M ca) M k sv N 0) rfl (by decide) (by decide) R ?_
  refine mid_bag (p := 7) (k := 0) (m := 0) (e := 9) (n := 61) (H := acC W s q c d e g now count k) (l := clG k (.slice none 0 0) (.slice none 0 0) (.chan none)) (t := 85) (by decide) rfl rfl ?_ ?_
  · intro x hx
    simp only [acC, storeH, List.cons_append, List.nil_append, List.mem_cons, List.not_mem_nil, or_false] at hx
    rcases hx with rfl | rfl | rfl | rfl | rfl | rfl | rfl | rfl | rfl | rfl | rfl | rfl | rfl | rfl | rfl | rfl <;> first | exact .inr (.inr rfl) | exact .inr (.inl rfl) | exact .inl rfl
  refine mid_bag (p := 8) (k := 0) (m := 0) (e := 46) (n := 61) (H := alH [(0, .args W.heap.size W)] s q c d e g now count k 0 0 .nilIface) (l := clG k (.chan (some 80)) (.slice none 0 0) (.chan none)) (t := 85) (by decide) rfl rfl ?_ hm
  intro x hx
  simp only [alH, storeH, List.cons_append, List.nil_append, List.mem_cons, List.not_mem_nil, or_false] at hx
  rcases hx with rfl | rfl | rfl | rfl | rfl | rfl | rfl | rfl | rfl | rfl | rfl | rfl | rfl | rfl | rfl | rfl | rfl <;> first | exact .inr (.inr rfl) | exact .inr (.inl rfl) | exact .inl rfl
set_option maxRecDepth 100000 in
theorem acts_loop {W : World} {s q : Nat} {c d e g now count k : Int} {ba oa M ca N : Nat} {sv : Value} (hk : 0 ≤ k) (hkc : k < c) (hg : g ≤ 1099511627776) (h1 : 1 ≤ now) (h2 : now ≤ g) (hN : N ≤ 1400000000000) (A : ActList W sv N) :
    ∃ nw cn, 1 ≤ nw ∧ nw ≤ g ∧ Does Tryz.prog 80 (acE W s q c d e g now count k) 500 ((0, .args W.heap.size W) :: storeH s q c d e g nw cn) (.inLoop al (alT (.slice (some ⟨ba, oa, some 0⟩) M ca) M k sv N 0)) (.out (.exit 4) (alE (.slice (some ⟨ba, oa, some 0⟩) M ca) M k)) := by
  cases A with
  | nil => exact ⟨now, count, h1, h2, enter (entry_of (ρ := []) (len := 147) (h' := acB W s q c d e g now count k) [(0, false), (6, true), (7, false), (8, true), (9, false), (10, false), (11, false), (12, false), (17, false), (18, false), (22, false), (24, false), (25, false), (60, false), (61, false)] (l := [(1, .pointer (some ⟨1, 0, none⟩)), (3, .pointer (some ⟨25, 0, none⟩)), (5, .int .i64 1), (8, .pointer (some ⟨61, 0, none⟩)), (39, .slice (some ⟨ba, oa, some 0⟩) M ca), (40, .int .i64 M), (41, .int .i64 k), (55, .slice none 0 0), (56, .int .i64 0), (57, .int .i64 0)]) (L := [.p (Cover (slotsL s) ((slotsL s).map (renV (nameOf [] 80 500) 9))), .p (Cover (pagesL q) ((pagesL q).map (renV (nameOf [] 80 500) 9)))]) (by kernel_rfl) (vcs_cons (cover_slots (nm := nameOf [] 80 500) rfl rfl s) (vcs_cons (cover_pages (nm := nameOf [] 80 500) q) vcs_nil))) ((a_nil (i := 0) (blk := 0) (off := 0) (N := 0) (cap := 0)).mid (by simp) (by decide))⟩
  | @some blk off N cap hA =>
    obtain ⟨nw, cn, q1, q2, q3⟩ := acts_mid (h0 := acE W s q c d e g now count k) (s := s) (q := q) (d := d) (e := e) (ba := ba) (oa := oa) (M := M) (ca := ca) (cap := cap) hk hkc hg hN hA N 0 now count 0 0 .nilIface (by omega) (by omega) h1 h2 (.inl rfl)
    exact ⟨nw, cn, q1, q2, enter (entry_of (ρ := []) (len := 147) (h' := acB W s q c d e g now count k) [(0, false), (6, true), (7, false), (8, true), (9, false), (10, false), (11, false), (12, false), (17, false), (18, false), (22, false), (24, false), (25, false), (60, false), (61, false)] (l := [(1, .pointer (some ⟨1, 0, none⟩)), (3, .pointer (some ⟨25, 0, none⟩)), (5, .int .i64 1), (8, .pointer (some ⟨61, 0, none⟩)), (39, .slice (some ⟨ba, oa, some 0⟩) M ca), (40, .int .i64 M), (41, .int .i64 k), (55, .slice (some ⟨blk, off, some 0⟩) N cap), (56, .int .i64 N), (57, .int .i64 0)]) (L := [.p (Cover (slotsL s) ((slotsL s).map (renV (nameOf [] 80 500) 9))), .p (Cover (pagesL q) ((pagesL q).map (renV (nameOf [] 80 500) 9)))]) (by kernel_rfl) (vcs_cons (cover_slots (nm := nameOf [] 80 500) rfl rfl s) (vcs_cons (cover_pages (nm := nameOf [] 80 500) q) vcs_nil))) q3⟩
end Go.Proofs.YtglaapelpidfhaaGreat
