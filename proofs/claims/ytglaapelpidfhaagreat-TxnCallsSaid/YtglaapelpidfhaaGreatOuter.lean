/- TxnCalls, all around its loop. No condition. -/
import Derived.Test.YtglaapelpidfhaaGreatLoop
import Derived.KernelRfl
namespace Go.Proofs.YtglaapelpidfhaaGreat
open Go Go.Sx
theorem vc_b {c b : Bool} (h : c = b) : VC.ok (.b (c == b)) := by subst h; exact beq_self_eq_true c
theorem vc_c {c : Bool} (h : c = true) : VC.ok (.b c) := h
/-- The call answers true, and old memory is as it was. -/
def Fine (W : World) (acts : Value) (a b c d e g : Int) : Prop := ∃ c1 h1, Does Tryz.prog 1 (argsHeap W) c1 h1 (.call 4 [.agg ⟨[.int .i64 a, .int .i64 b, .int .i64 c, .int .i64 d, .int .i64 e, .int .i64 g]⟩, acts]) (.val (.bool true)) ∧ h1.get 0 = some (.args W.heap.size W)
set_option maxRecDepth 100000 in
theorem out_w1 {W : World} {p : Option Addr} {N cap : Nat} {a b c d e g : Int} (h0 : (Decidable.decide ((N : Int) > 20)) = true) : Fine W (.slice p N cap) a b c d e g :=
  vOut_does mixed con_gives.holds (d := [(0, .br true), (1, .br true), (2, .br true), (3, .br true)]) (n := 400) (L := [.b ((Decidable.decide ((N : Int) > 20)) == true), .b ((Decidable.decide ((N : Int) > 20)) == true), .b ((Decidable.decide ((N : Int) > 20)) == true), .b ((Decidable.decide ((N : Int) > 20)) == true)]) (by kernel_rfl)
    (by
      refine vcs_cons (vc_b h0) ?_
      refine vcs_cons (vc_b h0) ?_
      refine vcs_cons (vc_b h0) ?_
      refine vcs_cons (vc_b h0) ?_
      exact vcs_nil)
set_option maxRecDepth 100000 in
theorem out_w2 {W : World} {p : Option Addr} {N cap : Nat} {a b c d e g : Int} (h0 : (Decidable.decide ((N : Int) > 20)) = false) (h1 : (Decidable.decide (a > 300)) = true) : Fine W (.slice p N cap) a b c d e g :=
  vOut_does mixed con_gives.holds (d := [(0, .br false), (1, .br false), (3, .br false), (4, .br false), (5, .br true), (6, .br true), (7, .br true), (8, .br true)]) (n := 400) (L := [.b ((Decidable.decide (a > 300)) == true), .b ((Decidable.decide (a > 300)) == true), .b ((Decidable.decide (a > 300)) == true), .b ((Decidable.decide (a > 300)) == true), .b ((Decidable.decide ((N : Int) > 20)) == false), .b ((Decidable.decide ((N : Int) > 20)) == false), .b ((Decidable.decide ((N : Int) > 20)) == false), .b ((Decidable.decide ((N : Int) > 20)) == false)]) (by kernel_rfl)
    (by
      refine vcs_cons (vc_b h1) ?_
      refine vcs_cons (vc_b h1) ?_
      refine vcs_cons (vc_b h1) ?_
      refine vcs_cons (vc_b h1) ?_
      refine vcs_cons (vc_b h0) ?_
      refine vcs_cons (vc_b h0) ?_
      refine vcs_cons (vc_b h0) ?_
      refine vcs_cons (vc_b h0) ?_
      exact vcs_nil)
set_option maxRecDepth 100000 in
theorem out_w3 {W : World} {p : Option Addr} {N cap : Nat} {a b c d e g : Int} (h0 : (Decidable.decide ((N : Int) > 20)) = false) (h1 : (Decidable.decide (a > 300)) = false) (h2 : (Decidable.decide (b > 60)) = true) : Fine W (.slice p N cap) a b c d e g :=
  vOut_does mixed con_gives.holds (d := [(0, .br false), (1, .br false), (3, .br false), (4, .br false), (5, .br false), (6, .br false), (8, .br false), (9, .br false), (10, .br true)]) (n := 400) (L := [.b ((Decidable.decide (b > 60)) == true), .b ((Decidable.decide (a > 300)) == false), .b ((Decidable.decide (a > 300)) == false), .b ((Decidable.decide (a > 300)) == false), .b ((Decidable.decide (a > 300)) == false), .b ((Decidable.decide ((N : Int) > 20)) == false), .b ((Decidable.decide ((N : Int) > 20)) == false), .b ((Decidable.decide ((N : Int) > 20)) == false), .b ((Decidable.decide ((N : Int) > 20)) == false)]) (by kernel_rfl)
    (by
      refine vcs_cons (vc_b h2) ?_
      refine vcs_cons (vc_b h1) ?_
      refine vcs_cons (vc_b h1) ?_
      refine vcs_cons (vc_b h1) ?_
      refine vcs_cons (vc_b h1) ?_
      refine vcs_cons (vc_b h0) ?_
      refine vcs_cons (vc_b h0) ?_
      refine vcs_cons (vc_b h0) ?_
      refine vcs_cons (vc_b h0) ?_
      exact vcs_nil)
set_option maxRecDepth 100000 in
theorem out_w4 {W : World} {p : Option Addr} {N cap : Nat} {a b c d e g : Int} (h0 : (Decidable.decide ((N : Int) > 20)) = false) (h1 : (Decidable.decide (a > 300)) = false) (h2 : (Decidable.decide (b > 60)) = false) (h3 : (!Go.Proofs.YtglaapelpidfhaaGreat.rightB a b c d e g) = true) (h4 : (!Bool.false == Go.Proofs.YtglaapelpidfhaaGreat.rightB a b c d e g) = false) (hl : Does Tryz.prog 13 (argsHeap W) 200 (argsHeap W) (.inLoop lcode (tin (.slice p N cap) N 0)) (.out (.exit 0) (mkT 155 0 []))) : Fine W (.slice p N cap) a b c d e g :=
  vOut_does mixed con_gives.holds (d := [(0, .br false), (1, .br false), (3, .br false), (4, .br false), (5, .br false), (6, .br false), (8, .br false), (9, .br false), (10, .br false), (63, .br true), (75, .br false), (76, .br false), (77, .br false), (88, .br false), (90, .br false), (92, .loop [5, 86, 87, 88] [0] 200 (argsHeap W) (.exit 0) (mkT 155 0 []))]) (n := 400) (L := [.p (Does Tryz.prog 13 (argsHeap W) 200 (argsHeap W) (.inLoop lcode (tin (.slice p N cap) N 0)) (.out (.exit 0) (mkT 155 0 []))), .b ((!Bool.false == Go.Proofs.YtglaapelpidfhaaGreat.rightB a b c d e g) == false), .b ((!Bool.false == Go.Proofs.YtglaapelpidfhaaGreat.rightB a b c d e g) == false), .b ((!Bool.false == Go.Proofs.YtglaapelpidfhaaGreat.rightB a b c d e g) == false), .b ((!Bool.false == Go.Proofs.YtglaapelpidfhaaGreat.rightB a b c d e g) == false), .b ((!Bool.false == Go.Proofs.YtglaapelpidfhaaGreat.rightB a b c d e g) == false), .b ((!Go.Proofs.YtglaapelpidfhaaGreat.rightB a b c d e g) == true), .b ((Decidable.decide (b > 60)) == false), .b ((Decidable.decide (a > 300)) == false), .b ((Decidable.decide (a > 300)) == false), .b ((Decidable.decide (a > 300)) == false), .b ((Decidable.decide (a > 300)) == false), .b ((Decidable.decide ((N : Int) > 20)) == false), .b ((Decidable.decide ((N : Int) > 20)) == false), .b ((Decidable.decide ((N : Int) > 20)) == false), .b ((Decidable.decide ((N : Int) > 20)) == false)]) (by kernel_rfl)
    (by
      refine vcs_cons (hl) ?_
      refine vcs_cons (vc_b h4) ?_
      refine vcs_cons (vc_b h4) ?_
      refine vcs_cons (vc_b h4) ?_
      refine vcs_cons (vc_b h4) ?_
      refine vcs_cons (vc_b h4) ?_
      refine vcs_cons (vc_b h3) ?_
      refine vcs_cons (vc_b h2) ?_
      refine vcs_cons (vc_b h1) ?_
      refine vcs_cons (vc_b h1) ?_
      refine vcs_cons (vc_b h1) ?_
      refine vcs_cons (vc_b h1) ?_
      refine vcs_cons (vc_b h0) ?_
      refine vcs_cons (vc_b h0) ?_
      refine vcs_cons (vc_b h0) ?_
      refine vcs_cons (vc_b h0) ?_
      exact vcs_nil)
set_option maxRecDepth 100000 in
theorem out_w5 {W : World} {p : Option Addr} {N cap : Nat} {a b c d e g : Int} (h0 : (Decidable.decide ((N : Int) > 20)) = false) (h1 : (Decidable.decide (a > 300)) = false) (h2 : (Decidable.decide (b > 60)) = false) (h3 : (!Go.Proofs.YtglaapelpidfhaaGreat.rightB a b c d e g) = true) (h4 : (!Bool.false == Go.Proofs.YtglaapelpidfhaaGreat.rightB a b c d e g) = false) (hl : Does Tryz.prog 13 (argsHeap W) 200 (argsHeap W) (.inLoop lcode (tin (.slice p N cap) N 0)) (.out .ret (mkT 155 0 [(4, .bool true)]))) : Fine W (.slice p N cap) a b c d e g :=
  vOut_does mixed con_gives.holds (d := [(0, .br false), (1, .br false), (3, .br false), (4, .br false), (5, .br false), (6, .br false), (8, .br false), (9, .br false), (10, .br false), (63, .br true), (75, .br false), (76, .br false), (77, .br false), (88, .br false), (90, .br false), (92, .loop [5, 86, 87, 88] [0] 200 (argsHeap W) .ret (mkT 155 0 [(4, .bool true)]))]) (n := 400) (L := [.p (Does Tryz.prog 13 (argsHeap W) 200 (argsHeap W) (.inLoop lcode (tin (.slice p N cap) N 0)) (.out .ret (mkT 155 0 [(4, .bool true)]))), .b ((!Bool.false == Go.Proofs.YtglaapelpidfhaaGreat.rightB a b c d e g) == false), .b ((!Bool.false == Go.Proofs.YtglaapelpidfhaaGreat.rightB a b c d e g) == false), .b ((!Bool.false == Go.Proofs.YtglaapelpidfhaaGreat.rightB a b c d e g) == false), .b ((!Bool.false == Go.Proofs.YtglaapelpidfhaaGreat.rightB a b c d e g) == false), .b ((!Bool.false == Go.Proofs.YtglaapelpidfhaaGreat.rightB a b c d e g) == false), .b ((!Go.Proofs.YtglaapelpidfhaaGreat.rightB a b c d e g) == true), .b ((Decidable.decide (b > 60)) == false), .b ((Decidable.decide (a > 300)) == false), .b ((Decidable.decide (a > 300)) == false), .b ((Decidable.decide (a > 300)) == false), .b ((Decidable.decide (a > 300)) == false), .b ((Decidable.decide ((N : Int) > 20)) == false), .b ((Decidable.decide ((N : Int) > 20)) == false), .b ((Decidable.decide ((N : Int) > 20)) == false), .b ((Decidable.decide ((N : Int) > 20)) == false)]) (by kernel_rfl)
    (by
      refine vcs_cons (hl) ?_
      refine vcs_cons (vc_b h4) ?_
      refine vcs_cons (vc_b h4) ?_
      refine vcs_cons (vc_b h4) ?_
      refine vcs_cons (vc_b h4) ?_
      refine vcs_cons (vc_b h4) ?_
      refine vcs_cons (vc_b h3) ?_
      refine vcs_cons (vc_b h2) ?_
      refine vcs_cons (vc_b h1) ?_
      refine vcs_cons (vc_b h1) ?_
      refine vcs_cons (vc_b h1) ?_
      refine vcs_cons (vc_b h1) ?_
      refine vcs_cons (vc_b h0) ?_
      refine vcs_cons (vc_b h0) ?_
      refine vcs_cons (vc_b h0) ?_
      refine vcs_cons (vc_b h0) ?_
      exact vcs_nil)
set_option maxRecDepth 100000 in
theorem out_w6 {W : World} {p : Option Addr} {N cap : Nat} {s q : Nat} {c d e g : Int} (h0 : (Decidable.decide ((N : Int) > 20)) = false) (h1 : (Decidable.decide (Int.ofNat (s + 1) > 300)) = false) (h2 : (Decidable.decide (Int.ofNat (q + 1) > 60)) = false) (h3 : (!Go.Proofs.YtglaapelpidfhaaGreat.rightB (Int.ofNat (s + 1)) (Int.ofNat (q + 1)) c d e g) = false) (h4 : (Decidable.decide (Int.ofNat (s + 1) > 4096)) = false) (h5 : (Decidable.decide (g < 1)) = false) (h6 : (Decidable.decide (g > 1099511627776)) = false) (h7 : (Decidable.decide (Int.ofNat (s + 1) = Int.ofNat (s + 1) ∧ 0 ≤ Int.ofNat (s + 1) ∧ (208 : Int) * Int.ofNat (s + 1) ≤ 281474976710656 ∧ Int.ofNat (s + 1) ≤ 9223372036854775807)) = true) (h8 : (Decidable.decide (Int.ofNat (q + 1) > 256)) = false) (h9 : (Decidable.decide (Int.ofNat (q + 1) = Int.ofNat (q + 1) ∧ 0 ≤ Int.ofNat (q + 1) ∧ (24 : Int) * Int.ofNat (q + 1) ≤ 281474976710656 ∧ Int.ofNat (q + 1) ≤ 9223372036854775807)) = true) (h10 : (Decidable.decide (c < 1)) = false) (h11 : (Decidable.decide (c > 64)) = false) (h12 : (Decidable.decide (0 < ((Int.ofNat (s + 1)).toNat : Int))) = true) (h13 : (Decidable.decide ((0 : Int) ≤ 0 ∧ 0 < ((Int.ofNat (s + 1)).toNat : Int))) = true) (h14 : (0 == g) = false) (h15 : (Decidable.decide (0 < ((Int.ofNat (q + 1)).toNat : Int))) = true) (h16 : (Decidable.decide ((0 : Int) ≤ 0 ∧ 0 < ((Int.ofNat (q + 1)).toNat : Int))) = true) (h17 : (!Bool.true == Go.Proofs.YtglaapelpidfhaaGreat.rightB (Int.ofNat (s + 1)) (Int.ofNat (q + 1)) c d e g) = false) (hl : Does Tryz.prog 32 (argsHeap W) 200 (argsHeap W) (.inLoop lcode (tin (.slice p N cap) N 0)) (.out (.exit 0) (mkT 155 0 []))) : Fine W (.slice p N cap) (.ofNat (s + 1)) (.ofNat (q + 1)) c d e g :=
  vOut_does mixed con_gives.holds (d := [(0, .br false), (1, .br false), (3, .br false), (4, .br false), (5, .br false), (6, .br false), (8, .br false), (9, .br false), (10, .br false), (63, .br false), (70, .br false), (71, .br false), (72, .br false), (73, .br false), (74, .br false), (75, .br false), (76, .br false), (77, .br true), (82, .br false), (83, .br true), (86, .br false), (87, .br false), (88, .br false), (89, .br false), (90, .br false), (91, .br false), (92, .br false), (93, .br false), (94, .br false), (95, .br false), (99, .br true), (101, .br true), (106, .br false), (125, .br true), (127, .br true), (131, .br true), (150, .br true), (170, .br false), (171, .br false), (172, .br false), (173, .br false), (174, .br false), (175, .br false), (176, .br false), (177, .br false), (178, .br false), (179, .br false), (190, .br false), (191, .br false), (192, .br false), (198, .br false), (200, .br false), (202, .loop [5, 86, 87, 88] [0] 200 (argsHeap W) (.exit 0) (mkT 155 0 []))]) (n := 400) (L := [.p (Does Tryz.prog 32 (argsHeap W) 200 (argsHeap W) (.inLoop lcode (tin (.slice p N cap) N 0)) (.out (.exit 0) (mkT 155 0 []))), .b ((!Bool.true == Go.Proofs.YtglaapelpidfhaaGreat.rightB (Int.ofNat (s + 1)) (Int.ofNat (q + 1)) c d e g) == false), .b ((!Bool.true == Go.Proofs.YtglaapelpidfhaaGreat.rightB (Int.ofNat (s + 1)) (Int.ofNat (q + 1)) c d e g) == false), .b ((!Bool.true == Go.Proofs.YtglaapelpidfhaaGreat.rightB (Int.ofNat (s + 1)) (Int.ofNat (q + 1)) c d e g) == false), .b ((!Bool.true == Go.Proofs.YtglaapelpidfhaaGreat.rightB (Int.ofNat (s + 1)) (Int.ofNat (q + 1)) c d e g) == false), .b ((!Bool.true == Go.Proofs.YtglaapelpidfhaaGreat.rightB (Int.ofNat (s + 1)) (Int.ofNat (q + 1)) c d e g) == false), .b ((Decidable.decide (g > 1099511627776)) == false), .b ((Decidable.decide (g < 1)) == false), .b ((Decidable.decide (g < 1)) == false), .b ((Decidable.decide (g < 1)) == false), .b ((Decidable.decide (c > 64)) == false), .b ((Decidable.decide (c > 64)) == false), .b ((Decidable.decide (c > 64)) == false), .b ((Decidable.decide (c < 1)) == false), .b ((Decidable.decide (c < 1)) == false), .b ((Decidable.decide (c < 1)) == false), .b (Decidable.decide ((0 : Int) ≤ 0 ∧ 0 < ((Int.ofNat (q + 1)).toNat : Int))), .b (Decidable.decide ((0 : Int) ≤ 0 ∧ 0 < ((Int.ofNat (q + 1)).toNat : Int))), .b (Decidable.decide ((0 : Int) ≤ 0 ∧ 0 < ((Int.ofNat (q + 1)).toNat : Int))), .b ((Decidable.decide (0 < ((Int.ofNat (q + 1)).toNat : Int))) == true), .b ((0 == g) == false), .b (Decidable.decide ((0 : Int) ≤ 0 ∧ 0 < ((Int.ofNat (s + 1)).toNat : Int))), .b ((Decidable.decide (0 < ((Int.ofNat (s + 1)).toNat : Int))) == true), .b ((Decidable.decide (g > 1099511627776)) == false), .b ((Decidable.decide (g < 1)) == false), .b ((Decidable.decide (g < 1)) == false), .b ((Decidable.decide (g < 1)) == false), .b ((Decidable.decide (c > 64)) == false), .b ((Decidable.decide (c > 64)) == false), .b ((Decidable.decide (c > 64)) == false), .b ((Decidable.decide (c < 1)) == false), .b ((Decidable.decide (c < 1)) == false), .b ((Decidable.decide (c < 1)) == false), .b (Decidable.decide (Int.ofNat (q + 1) = Int.ofNat (q + 1) ∧ 0 ≤ Int.ofNat (q + 1) ∧ (24 : Int) * Int.ofNat (q + 1) ≤ 281474976710656 ∧ Int.ofNat (q + 1) ≤ 9223372036854775807)), .b ((Decidable.decide (Int.ofNat (q + 1) > 256)) == false), .b (Decidable.decide (Int.ofNat (s + 1) = Int.ofNat (s + 1) ∧ 0 ≤ Int.ofNat (s + 1) ∧ (208 : Int) * Int.ofNat (s + 1) ≤ 281474976710656 ∧ Int.ofNat (s + 1) ≤ 9223372036854775807)), .b ((Decidable.decide (g > 1099511627776)) == false), .b ((Decidable.decide (g < 1)) == false), .b ((Decidable.decide (g < 1)) == false), .b ((Decidable.decide (g < 1)) == false), .b ((Decidable.decide (Int.ofNat (s + 1) > 4096)) == false), .b ((Decidable.decide (Int.ofNat (s + 1) > 4096)) == false), .b ((Decidable.decide (Int.ofNat (s + 1) > 4096)) == false), .b ((!Go.Proofs.YtglaapelpidfhaaGreat.rightB (Int.ofNat (s + 1)) (Int.ofNat (q + 1)) c d e g) == false), .b ((Decidable.decide (Int.ofNat (q + 1) > 60)) == false), .b ((Decidable.decide (Int.ofNat (s + 1) > 300)) == false), .b ((Decidable.decide (Int.ofNat (s + 1) > 300)) == false), .b ((Decidable.decide (Int.ofNat (s + 1) > 300)) == false), .b ((Decidable.decide (Int.ofNat (s + 1) > 300)) == false), .b ((Decidable.decide ((N : Int) > 20)) == false), .b ((Decidable.decide ((N : Int) > 20)) == false), .b ((Decidable.decide ((N : Int) > 20)) == false), .b ((Decidable.decide ((N : Int) > 20)) == false)]) (by kernel_rfl)
    (by
      refine vcs_cons (hl) ?_
      refine vcs_cons (vc_b h17) ?_
      refine vcs_cons (vc_b h17) ?_
      refine vcs_cons (vc_b h17) ?_
      refine vcs_cons (vc_b h17) ?_
      refine vcs_cons (vc_b h17) ?_
      refine vcs_cons (vc_b h6) ?_
      refine vcs_cons (vc_b h5) ?_
      refine vcs_cons (vc_b h5) ?_
      refine vcs_cons (vc_b h5) ?_
      refine vcs_cons (vc_b h11) ?_
      refine vcs_cons (vc_b h11) ?_
      refine vcs_cons (vc_b h11) ?_
      refine vcs_cons (vc_b h10) ?_
      refine vcs_cons (vc_b h10) ?_
      refine vcs_cons (vc_b h10) ?_
      refine vcs_cons (vc_c h16) ?_
      refine vcs_cons (vc_c h16) ?_
      refine vcs_cons (vc_c h16) ?_
      refine vcs_cons (vc_b h15) ?_
      refine vcs_cons (vc_b h14) ?_
      refine vcs_cons (vc_c h13) ?_
      refine vcs_cons (vc_b h12) ?_
      refine vcs_cons (vc_b h6) ?_
      refine vcs_cons (vc_b h5) ?_
      refine vcs_cons (vc_b h5) ?_
      refine vcs_cons (vc_b h5) ?_
      refine vcs_cons (vc_b h11) ?_
      refine vcs_cons (vc_b h11) ?_
      refine vcs_cons (vc_b h11) ?_
      refine vcs_cons (vc_b h10) ?_
      refine vcs_cons (vc_b h10) ?_
      refine vcs_cons (vc_b h10) ?_
      refine vcs_cons (vc_c h9) ?_
      refine vcs_cons (vc_b h8) ?_
      refine vcs_cons (vc_c h7) ?_
      refine vcs_cons (vc_b h6) ?_
      refine vcs_cons (vc_b h5) ?_
      refine vcs_cons (vc_b h5) ?_
      refine vcs_cons (vc_b h5) ?_
      refine vcs_cons (vc_b h4) ?_
      refine vcs_cons (vc_b h4) ?_
      refine vcs_cons (vc_b h4) ?_
      refine vcs_cons (vc_b h3) ?_
      refine vcs_cons (vc_b h2) ?_
      refine vcs_cons (vc_b h1) ?_
      refine vcs_cons (vc_b h1) ?_
      refine vcs_cons (vc_b h1) ?_
      refine vcs_cons (vc_b h1) ?_
      refine vcs_cons (vc_b h0) ?_
      refine vcs_cons (vc_b h0) ?_
      refine vcs_cons (vc_b h0) ?_
      refine vcs_cons (vc_b h0) ?_
      exact vcs_nil)
set_option maxRecDepth 100000 in
theorem out_w7 {W : World} {p : Option Addr} {N cap : Nat} {s q : Nat} {c d e g : Int} (h0 : (Decidable.decide ((N : Int) > 20)) = false) (h1 : (Decidable.decide (Int.ofNat (s + 1) > 300)) = false) (h2 : (Decidable.decide (Int.ofNat (q + 1) > 60)) = false) (h3 : (!Go.Proofs.YtglaapelpidfhaaGreat.rightB (Int.ofNat (s + 1)) (Int.ofNat (q + 1)) c d e g) = false) (h4 : (Decidable.decide (Int.ofNat (s + 1) > 4096)) = false) (h5 : (Decidable.decide (g < 1)) = false) (h6 : (Decidable.decide (g > 1099511627776)) = false) (h7 : (Decidable.decide (Int.ofNat (s + 1) = Int.ofNat (s + 1) ∧ 0 ≤ Int.ofNat (s + 1) ∧ (208 : Int) * Int.ofNat (s + 1) ≤ 281474976710656 ∧ Int.ofNat (s + 1) ≤ 9223372036854775807)) = true) (h8 : (Decidable.decide (Int.ofNat (q + 1) > 256)) = false) (h9 : (Decidable.decide (Int.ofNat (q + 1) = Int.ofNat (q + 1) ∧ 0 ≤ Int.ofNat (q + 1) ∧ (24 : Int) * Int.ofNat (q + 1) ≤ 281474976710656 ∧ Int.ofNat (q + 1) ≤ 9223372036854775807)) = true) (h10 : (Decidable.decide (c < 1)) = false) (h11 : (Decidable.decide (c > 64)) = false) (h12 : (Decidable.decide (0 < ((Int.ofNat (s + 1)).toNat : Int))) = true) (h13 : (Decidable.decide ((0 : Int) ≤ 0 ∧ 0 < ((Int.ofNat (s + 1)).toNat : Int))) = true) (h14 : (0 == g) = false) (h15 : (Decidable.decide (0 < ((Int.ofNat (q + 1)).toNat : Int))) = true) (h16 : (Decidable.decide ((0 : Int) ≤ 0 ∧ 0 < ((Int.ofNat (q + 1)).toNat : Int))) = true) (h17 : (!Bool.true == Go.Proofs.YtglaapelpidfhaaGreat.rightB (Int.ofNat (s + 1)) (Int.ofNat (q + 1)) c d e g) = false) (hl : Does Tryz.prog 32 (argsHeap W) 200 (argsHeap W) (.inLoop lcode (tin (.slice p N cap) N 0)) (.out .ret (mkT 155 0 [(4, .bool true)]))) : Fine W (.slice p N cap) (.ofNat (s + 1)) (.ofNat (q + 1)) c d e g :=
  vOut_does mixed con_gives.holds (d := [(0, .br false), (1, .br false), (3, .br false), (4, .br false), (5, .br false), (6, .br false), (8, .br false), (9, .br false), (10, .br false), (63, .br false), (70, .br false), (71, .br false), (72, .br false), (73, .br false), (74, .br false), (75, .br false), (76, .br false), (77, .br true), (82, .br false), (83, .br true), (86, .br false), (87, .br false), (88, .br false), (89, .br false), (90, .br false), (91, .br false), (92, .br false), (93, .br false), (94, .br false), (95, .br false), (99, .br true), (101, .br true), (106, .br false), (125, .br true), (127, .br true), (131, .br true), (150, .br true), (170, .br false), (171, .br false), (172, .br false), (173, .br false), (174, .br false), (175, .br false), (176, .br false), (177, .br false), (178, .br false), (179, .br false), (190, .br false), (191, .br false), (192, .br false), (198, .br false), (200, .br false), (202, .loop [5, 86, 87, 88] [0] 200 (argsHeap W) .ret (mkT 155 0 [(4, .bool true)]))]) (n := 400) (L := [.p (Does Tryz.prog 32 (argsHeap W) 200 (argsHeap W) (.inLoop lcode (tin (.slice p N cap) N 0)) (.out .ret (mkT 155 0 [(4, .bool true)]))), .b ((!Bool.true == Go.Proofs.YtglaapelpidfhaaGreat.rightB (Int.ofNat (s + 1)) (Int.ofNat (q + 1)) c d e g) == false), .b ((!Bool.true == Go.Proofs.YtglaapelpidfhaaGreat.rightB (Int.ofNat (s + 1)) (Int.ofNat (q + 1)) c d e g) == false), .b ((!Bool.true == Go.Proofs.YtglaapelpidfhaaGreat.rightB (Int.ofNat (s + 1)) (Int.ofNat (q + 1)) c d e g) == false), .b ((!Bool.true == Go.Proofs.YtglaapelpidfhaaGreat.rightB (Int.ofNat (s + 1)) (Int.ofNat (q + 1)) c d e g) == false), .b ((!Bool.true == Go.Proofs.YtglaapelpidfhaaGreat.rightB (Int.ofNat (s + 1)) (Int.ofNat (q + 1)) c d e g) == false), .b ((Decidable.decide (g > 1099511627776)) == false), .b ((Decidable.decide (g < 1)) == false), .b ((Decidable.decide (g < 1)) == false), .b ((Decidable.decide (g < 1)) == false), .b ((Decidable.decide (c > 64)) == false), .b ((Decidable.decide (c > 64)) == false), .b ((Decidable.decide (c > 64)) == false), .b ((Decidable.decide (c < 1)) == false), .b ((Decidable.decide (c < 1)) == false), .b ((Decidable.decide (c < 1)) == false), .b (Decidable.decide ((0 : Int) ≤ 0 ∧ 0 < ((Int.ofNat (q + 1)).toNat : Int))), .b (Decidable.decide ((0 : Int) ≤ 0 ∧ 0 < ((Int.ofNat (q + 1)).toNat : Int))), .b (Decidable.decide ((0 : Int) ≤ 0 ∧ 0 < ((Int.ofNat (q + 1)).toNat : Int))), .b ((Decidable.decide (0 < ((Int.ofNat (q + 1)).toNat : Int))) == true), .b ((0 == g) == false), .b (Decidable.decide ((0 : Int) ≤ 0 ∧ 0 < ((Int.ofNat (s + 1)).toNat : Int))), .b ((Decidable.decide (0 < ((Int.ofNat (s + 1)).toNat : Int))) == true), .b ((Decidable.decide (g > 1099511627776)) == false), .b ((Decidable.decide (g < 1)) == false), .b ((Decidable.decide (g < 1)) == false), .b ((Decidable.decide (g < 1)) == false), .b ((Decidable.decide (c > 64)) == false), .b ((Decidable.decide (c > 64)) == false), .b ((Decidable.decide (c > 64)) == false), .b ((Decidable.decide (c < 1)) == false), .b ((Decidable.decide (c < 1)) == false), .b ((Decidable.decide (c < 1)) == false), .b (Decidable.decide (Int.ofNat (q + 1) = Int.ofNat (q + 1) ∧ 0 ≤ Int.ofNat (q + 1) ∧ (24 : Int) * Int.ofNat (q + 1) ≤ 281474976710656 ∧ Int.ofNat (q + 1) ≤ 9223372036854775807)), .b ((Decidable.decide (Int.ofNat (q + 1) > 256)) == false), .b (Decidable.decide (Int.ofNat (s + 1) = Int.ofNat (s + 1) ∧ 0 ≤ Int.ofNat (s + 1) ∧ (208 : Int) * Int.ofNat (s + 1) ≤ 281474976710656 ∧ Int.ofNat (s + 1) ≤ 9223372036854775807)), .b ((Decidable.decide (g > 1099511627776)) == false), .b ((Decidable.decide (g < 1)) == false), .b ((Decidable.decide (g < 1)) == false), .b ((Decidable.decide (g < 1)) == false), .b ((Decidable.decide (Int.ofNat (s + 1) > 4096)) == false), .b ((Decidable.decide (Int.ofNat (s + 1) > 4096)) == false), .b ((Decidable.decide (Int.ofNat (s + 1) > 4096)) == false), .b ((!Go.Proofs.YtglaapelpidfhaaGreat.rightB (Int.ofNat (s + 1)) (Int.ofNat (q + 1)) c d e g) == false), .b ((Decidable.decide (Int.ofNat (q + 1) > 60)) == false), .b ((Decidable.decide (Int.ofNat (s + 1) > 300)) == false), .b ((Decidable.decide (Int.ofNat (s + 1) > 300)) == false), .b ((Decidable.decide (Int.ofNat (s + 1) > 300)) == false), .b ((Decidable.decide (Int.ofNat (s + 1) > 300)) == false), .b ((Decidable.decide ((N : Int) > 20)) == false), .b ((Decidable.decide ((N : Int) > 20)) == false), .b ((Decidable.decide ((N : Int) > 20)) == false), .b ((Decidable.decide ((N : Int) > 20)) == false)]) (by kernel_rfl)
    (by
      refine vcs_cons (hl) ?_
      refine vcs_cons (vc_b h17) ?_
      refine vcs_cons (vc_b h17) ?_
      refine vcs_cons (vc_b h17) ?_
      refine vcs_cons (vc_b h17) ?_
      refine vcs_cons (vc_b h17) ?_
      refine vcs_cons (vc_b h6) ?_
      refine vcs_cons (vc_b h5) ?_
      refine vcs_cons (vc_b h5) ?_
      refine vcs_cons (vc_b h5) ?_
      refine vcs_cons (vc_b h11) ?_
      refine vcs_cons (vc_b h11) ?_
      refine vcs_cons (vc_b h11) ?_
      refine vcs_cons (vc_b h10) ?_
      refine vcs_cons (vc_b h10) ?_
      refine vcs_cons (vc_b h10) ?_
      refine vcs_cons (vc_c h16) ?_
      refine vcs_cons (vc_c h16) ?_
      refine vcs_cons (vc_c h16) ?_
      refine vcs_cons (vc_b h15) ?_
      refine vcs_cons (vc_b h14) ?_
      refine vcs_cons (vc_c h13) ?_
      refine vcs_cons (vc_b h12) ?_
      refine vcs_cons (vc_b h6) ?_
      refine vcs_cons (vc_b h5) ?_
      refine vcs_cons (vc_b h5) ?_
      refine vcs_cons (vc_b h5) ?_
      refine vcs_cons (vc_b h11) ?_
      refine vcs_cons (vc_b h11) ?_
      refine vcs_cons (vc_b h11) ?_
      refine vcs_cons (vc_b h10) ?_
      refine vcs_cons (vc_b h10) ?_
      refine vcs_cons (vc_b h10) ?_
      refine vcs_cons (vc_c h9) ?_
      refine vcs_cons (vc_b h8) ?_
      refine vcs_cons (vc_c h7) ?_
      refine vcs_cons (vc_b h6) ?_
      refine vcs_cons (vc_b h5) ?_
      refine vcs_cons (vc_b h5) ?_
      refine vcs_cons (vc_b h5) ?_
      refine vcs_cons (vc_b h4) ?_
      refine vcs_cons (vc_b h4) ?_
      refine vcs_cons (vc_b h4) ?_
      refine vcs_cons (vc_b h3) ?_
      refine vcs_cons (vc_b h2) ?_
      refine vcs_cons (vc_b h1) ?_
      refine vcs_cons (vc_b h1) ?_
      refine vcs_cons (vc_b h1) ?_
      refine vcs_cons (vc_b h1) ?_
      refine vcs_cons (vc_b h0) ?_
      refine vcs_cons (vc_b h0) ?_
      refine vcs_cons (vc_b h0) ?_
      refine vcs_cons (vc_b h0) ?_
      exact vcs_nil)
end Go.Proofs.YtglaapelpidfhaaGreat
