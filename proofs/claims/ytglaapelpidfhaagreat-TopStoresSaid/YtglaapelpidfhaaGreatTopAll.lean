/- TopStores, whole: whatever the play, true; what was there is as it was. No condition. -/
import Derived.Test.YtglaapelpidfhaaGreatTop5
namespace Go.Proofs.YtglaapelpidfhaaGreat
open Go Go.Sx
theorem body3 : bodyC 3 = .seq tp0 (.seq tp1 (.seq tp2 (.seq tp3 (.seq rg6 (.seq (.seq rg7 (.block 0 (.loop cl))) (.seq rg32 rg33)))))) := by kernel_rfl
/-- The call over old memory is true. -/
def FineT (W : World) (a b c d e g : Int) (acts turns : Value) : Prop := ∃ c1 h1, Does Tryz.prog 1 (argsHeap W) c1 h1 (.call 3 [.agg ⟨playL a b c d e g acts turns⟩]) (.val (.bool true)) ∧ h1.get 0 = some (.args W.heap.size W)
theorem fine_ret {W : World} {a b c d e g : Int} {acts turns : Value} {c1 : Nat} {h1 : Heap} (h0 : h1.get 0 = some (.args W.heap.size W))
    (h : Does Tryz.prog 2 (topH W a b c d e g acts turns) c1 h1 (.code (.seq tp1 (.seq tp2 (.seq tp3 (.seq rg6 (.seq (.seq rg7 (.block 0 (.loop cl))) (.seq rg32 rg33)))))) top1T) (.out .ret (mkT 147 0 [(2, .bool true)]))) : FineT W a b c d e g acts turns := by
  obtain ⟨body, hbd⟩ : ∃ body, Tryz.f3.body = some body := ⟨_, rfl⟩
  have e : body = bodyC 3 := by
    unfold bodyC
    rw [Tryz.func3]
    simp only [hbd]
  refine ⟨c1, h1, does_call (T2 := mkT 147 0 [(2, .bool true)]) (t := 2) (fn := Tryz.f3) (body := body) Tryz.func3 hbd rfl ?_ rfl, h0⟩
  rw [e, body3]
  exact does_seq top_0 h
theorem fine_out {W : World} {a b c d e g : Int} {acts turns : Value} (h : Does Tryz.prog 2 (topH W a b c d e g acts turns) 3 (argsHeap W) (.code tp1 top1T) (.out .ret (mkT 147 0 [(2, .bool true)]))) : FineT W a b c d e g acts turns :=
  fine_ret rfl (does_seq_out (by simp) h)
theorem fine_nil {W : World} (a b c d e g : Int) {pt : Option Addr} {Tn ct : Nat} : FineT W a b c d e g (.slice none 0 0) (.slice pt Tn ct) := by
  cases h0 : rightB a b c d e g with
  | false => exact fine_out (top_nright h0)
  | true =>
    have h5 := of_decide_eq_true h0
    by_cases h1 : a ≤ 300
    · by_cases h2 : b ≤ 60
      · by_cases h3 : c ≤ 8
        · by_cases h4 : (Tn : Int) ≤ 3000
          · exact fine_out (top_nok h0 (decide_eq_true h1) (decide_eq_true h2) (decide_eq_true h3) (decide_eq_true (by omega)) (not_true (decide_eq_true h4)))
          · exact fine_out (top_nt h0 (decide_eq_true h1) (decide_eq_true h2) (decide_eq_true h3) (decide_eq_true (by omega)) (not_false (decide_eq_false h4)))
        · exact fine_out (top_nc h0 (decide_eq_true h1) (decide_eq_true h2) (decide_eq_false h3))
      · exact fine_out (top_nq h0 (decide_eq_true h1) (decide_eq_false h2))
    · exact fine_out (top_ns h0 (decide_eq_false h1))
theorem fine_some {W : World} (a b c d e g : Int) {ba oa M ca : Nat} {pt : Option Addr} {Tn ct : Nat} (hM : (M : Int) < 9223372036854775808) (A : Lists2 W ba oa M) : FineT W a b c d e g (.slice (some ⟨ba, oa, some 0⟩) M ca) (.slice pt Tn ct) := by
  rcases few_outer (ca := ca) hM (show Lists W ba oa M from fun j hj => by obtain ⟨s, N, _, h1, h2⟩ := A j hj; exact ⟨s, N, h1, h2⟩) with ⟨n, hl⟩ | hl
  · cases h0 : rightB a b c d e g with
    | false => exact fine_out (top_right h0 hl)
    | true =>
      have h5 := of_decide_eq_true h0
      by_cases h1 : a ≤ 300
      · have h1' := decide_eq_true h1
        by_cases h2 : b ≤ 60
        · have h2' := decide_eq_true h2
          by_cases h3 : c ≤ 8
          · have h3' := decide_eq_true h3
            by_cases h4 : (M : Int) ≤ c
            · have h4' := decide_eq_true h4
              by_cases h6 : n ≤ 40
              · have h6' := decide_eq_true h6
                by_cases h7 : (Tn : Int) ≤ 3000
                · have h7' := not_true (decide_eq_true h7)
                  by_cases h8 : (M : Int) = 0
                  · exact fine_out (top_zero h0 h1' h2' h3' h4' h6' h7' (beq_iff_eq.2 h8) hl)
                  · obtain ⟨s, rfl⟩ : ∃ s : Nat, a = .ofNat (s + 1) := ⟨(a - 1).toNat, by simp only [Int.ofNat_eq_natCast]; omega⟩
                    obtain ⟨q, rfl⟩ : ∃ q : Nat, b = .ofNat (q + 1) := ⟨(b - 1).toNat, by simp only [Int.ofNat_eq_natCast]; omega⟩
                    have k4 : (!rightB (.ofNat (s + 1)) (.ofNat (q + 1)) c d e g) = false := not_true h0
                    have g0 : ((0 : Int) == g) = false := beq_false_of_ne (by omega)
                    have f1 : ¬(Int.ofNat (s + 1) > 4096) := by omega
                    have f2 : ¬(g < 1) := by omega
                    have f3 : ¬(g > 1099511627776) := by omega
                    have f4 : Int.ofNat (s + 1) = Int.ofNat (s + 1) ∧ 0 ≤ Int.ofNat (s + 1) ∧ (208 : Int) * Int.ofNat (s + 1) ≤ 281474976710656 ∧ Int.ofNat (s + 1) ≤ 9223372036854775807 := ⟨rfl, by omega, by omega, by omega⟩
                    have f5 : ¬(Int.ofNat (q + 1) > 256) := by omega
                    have f6 : Int.ofNat (q + 1) = Int.ofNat (q + 1) ∧ 0 ≤ Int.ofNat (q + 1) ∧ (24 : Int) * Int.ofNat (q + 1) ≤ 281474976710656 ∧ Int.ofNat (q + 1) ≤ 9223372036854775807 := ⟨rfl, by omega, by omega, by omega⟩
                    have f7 : ¬(c < 1) := by omega
                    have f8 : ¬(c > 64) := by omega
                    have f9 : (0 : Int) < ((Int.ofNat (s + 1)).toNat : Int) := by omega
                    have f10 : (0 : Int) ≤ 0 ∧ (0 : Int) < ((Int.ofNat (s + 1)).toNat : Int) := by omega
                    have f11 : (0 : Int) < ((Int.ofNat (q + 1)).toNat : Int) := by omega
                    have f12 : (0 : Int) ≤ 0 ∧ (0 : Int) < ((Int.ofNat (q + 1)).toNat : Int) := by omega
                    have hs : s < 300 := by simp only [Int.ofNat_eq_natCast] at h1; omega
                    have hq : q < 60 := by simp only [Int.ofNat_eq_natCast] at h2; omega
                    obtain ⟨nw, cn, hcl⟩ := clients_loop (s := s) (q := q) (c := c) (d := d) (e := e) (g := g) (now := 1) (count := 0) (ca := ca) (show M ≤ 8 by omega) h4 (by omega) A (by omega) (by omega)
                    have q0 : Decidable.decide ((0 : Int) ≤ 0 ∧ 0 < ((q + 1 : Nat) : Int)) = true := decide_eq_true (by omega)
                    have s0 : Decidable.decide (0 ≤ IntKind.i64.wrap (1 - 1) ∧ IntKind.i64.wrap (1 - 1) < ((s + 1 : Nat) : Int)) = true := decide_eq_true (by rw [wrapS (by omega) (by omega)]; omega)
                    exact fine_ret rfl (does_seq (top_ok h0 h1' h2' h3' h4' h6' h7' (beq_eq_false_iff_ne.2 h8) hl)
                      (does_seq (top_store k4 (decide_eq_false f1) (decide_eq_false f2) (decide_eq_false f3) (decide_eq_true f4) (decide_eq_false f5) (decide_eq_true f6) (decide_eq_false f7) (decide_eq_false f8) (decide_eq_true f9) (decide_eq_true f10) g0 (decide_eq_true f11) (decide_eq_true f12))
                      (does_seq top_p3 (does_seq (top_p6 (live_loop (by omega))) (does_seq (does_seq top_p7 (does_block_exit (does_loop hcl)))
                      (does_seq (top_p32 q0 s0 (pg600_loop (by omega)) (pg648_loop (by omega))) (top_p33 (lv700_loop (by omega)))))))))
                · exact fine_out (top_t h0 h1' h2' h3' h4' h6' (not_false (decide_eq_false h7)) hl)
              · exact fine_out (top_n h0 h1' h2' h3' h4' (decide_eq_false h6) hl)
            · exact fine_out (top_m h0 h1' h2' h3' (decide_eq_false h4) hl)
          · exact fine_out (top_c h0 h1' h2' (decide_eq_false h3) hl)
        · exact fine_out (top_q h0 h1' (decide_eq_false h2) hl)
      · exact fine_out (top_s h0 (decide_eq_false h1) hl)
  · exact fine_out (top_few (n := 0) hl)
end Go.Proofs.YtglaapelpidfhaaGreat
