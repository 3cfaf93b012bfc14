/- Whether limits may be. No condition. -/
import Derived.Test.YtkmicbhnfochjaaGreatDoorMCmp
import Derived.KernelRfl

namespace Go.Proofs.YtkmicbhnfochjaaGreatDoor
open Go Go.Sx
def rightB (a b c d e g : Int) : Bool := decide (4 ≤ a ∧ a ≤ 4096 ∧ 3 ≤ b ∧ b ≤ 256 ∧ 1 ≤ c ∧ c ≤ 64 ∧ 2 ≤ d ∧ d ≤ 64 ∧ 2 ≤ e ∧ e ≤ 64 ∧ 8 ≤ g ∧ g ≤ 1099511627776)
def lims (a b c d e g : Int) : List Value := [.agg ⟨[.int .i64 a, .int .i64 b, .int .i64 c, .int .i64 d, .int .i64 e, .int .i64 g]⟩]
theorem right_eq {f : FuncId} {xs : List Value} {x b : Bool} (h : x = b) (g : Gives Tryz.prog f xs (.bool b)) : Gives Tryz.prog f xs (.bool x) := by rw [h]; exact g
theorem r29_0 {a b c d e g : Int} (h0 : (Decidable.decide (a < 4)) = false) (h1 : (Decidable.decide (a > 4096)) = false) (h2 : (Decidable.decide (b < 3)) = false) (h3 : (Decidable.decide (b > 256)) = false) (h4 : (Decidable.decide (c < 1)) = false) (h5 : (Decidable.decide (c > 64)) = false) (h6 : (Decidable.decide (d ≥ 2)) = true) (h7 : (Decidable.decide (d ≤ 64)) = true) (h8 : (Decidable.decide (e ≥ 2)) = true) (h9 : (Decidable.decide (e ≤ 64)) = true) (h10 : (Decidable.decide (g ≥ 8)) = true) : Gives Tryz.prog 29 (lims a b c d e g) (.bool (decide (g ≤ 1099511627776))) :=
  gives_of_run mixed noC_gives.holds (d := [(1, .br false), (2, .br false), (4, .br false), (5, .br false), (6, .br false), (7, .br false), (9, .br false), (10, .br false), (11, .br false), (12, .br false), (14, .br false), (15, .br false), (16, .br false), (17, .br false), (19, .br false), (20, .br false), (21, .br false), (22, .br false), (24, .br false), (25, .br false), (26, .br false), (28, .br true), (29, .br true), (31, .br true), (32, .br true), (33, .br true), (34, .br true), (36, .br true), (37, .br true), (38, .br true), (39, .br true), (41, .br true), (42, .br true), (43, .br true), (44, .br true), (46, .br true), (47, .br true), (48, .br true), (49, .br true), (51, .br true), (52, .br true)]) (n := 400) (L := [.b ((Decidable.decide (g ≥ 8)) == true), .b ((Decidable.decide (g ≥ 8)) == true), .b ((Decidable.decide (g ≥ 8)) == true), .b ((Decidable.decide (g ≥ 8)) == true), .b ((Decidable.decide (e ≤ 64)) == true), .b ((Decidable.decide (e ≤ 64)) == true), .b ((Decidable.decide (e ≤ 64)) == true), .b ((Decidable.decide (e ≤ 64)) == true), .b ((Decidable.decide (e ≥ 2)) == true), .b ((Decidable.decide (e ≥ 2)) == true), .b ((Decidable.decide (e ≥ 2)) == true), .b ((Decidable.decide (e ≥ 2)) == true), .b ((Decidable.decide (d ≤ 64)) == true), .b ((Decidable.decide (d ≤ 64)) == true), .b ((Decidable.decide (d ≤ 64)) == true), .b ((Decidable.decide (d ≤ 64)) == true), .b ((Decidable.decide (d ≥ 2)) == true), .b ((Decidable.decide (d ≥ 2)) == true), .b ((Decidable.decide (d ≥ 2)) == true), .b ((Decidable.decide (d ≥ 2)) == true), .b ((Decidable.decide (c > 64)) == false), .b ((Decidable.decide (c < 1)) == false), .b ((Decidable.decide (c < 1)) == false), .b ((Decidable.decide (c < 1)) == false), .b ((Decidable.decide (c < 1)) == false), .b ((Decidable.decide (b > 256)) == false), .b ((Decidable.decide (b > 256)) == false), .b ((Decidable.decide (b > 256)) == false), .b ((Decidable.decide (b > 256)) == false), .b ((Decidable.decide (b < 3)) == false), .b ((Decidable.decide (b < 3)) == false), .b ((Decidable.decide (b < 3)) == false), .b ((Decidable.decide (b < 3)) == false), .b ((Decidable.decide (a > 4096)) == false), .b ((Decidable.decide (a > 4096)) == false), .b ((Decidable.decide (a > 4096)) == false), .b ((Decidable.decide (a > 4096)) == false), .b ((Decidable.decide (a < 4)) == false), .b ((Decidable.decide (a < 4)) == false), .b ((Decidable.decide (a < 4)) == false), .b ((Decidable.decide (a < 4)) == false)]) (by kernel_rfl)
    (by repeat' refine vcs_cons ?_ ?_
        all_goals first | exact vcs_nil | (simp only [VC.ok, h0, h1, h2, h3, h4, h5, h6, h7, h8, h9, h10]; rfl)) rfl rfl
theorem r29_1 {a b c d e g : Int} (h0 : (Decidable.decide (a < 4)) = true) : Gives Tryz.prog 29 (lims a b c d e g) (.bool (Bool.false)) :=
  gives_of_run mixed noC_gives.holds (d := [(1, .br true), (2, .br true), (3, .br true), (4, .br true)]) (n := 400) (L := [.b ((Decidable.decide (a < 4)) == true), .b ((Decidable.decide (a < 4)) == true), .b ((Decidable.decide (a < 4)) == true), .b ((Decidable.decide (a < 4)) == true)]) (by kernel_rfl)
    (by repeat' refine vcs_cons ?_ ?_
        all_goals first | exact vcs_nil | (simp only [VC.ok, h0]; rfl)) rfl rfl
theorem r29_2 {a b c d e g : Int} (h0 : (Decidable.decide (a < 4)) = false) (h1 : (Decidable.decide (a > 4096)) = true) : Gives Tryz.prog 29 (lims a b c d e g) (.bool (Bool.false)) :=
  gives_of_run mixed noC_gives.holds (d := [(1, .br false), (2, .br false), (4, .br false), (5, .br false), (6, .br true), (7, .br true), (8, .br true), (9, .br true)]) (n := 400) (L := [.b ((Decidable.decide (a > 4096)) == true), .b ((Decidable.decide (a > 4096)) == true), .b ((Decidable.decide (a > 4096)) == true), .b ((Decidable.decide (a > 4096)) == true), .b ((Decidable.decide (a < 4)) == false), .b ((Decidable.decide (a < 4)) == false), .b ((Decidable.decide (a < 4)) == false), .b ((Decidable.decide (a < 4)) == false)]) (by kernel_rfl)
    (by repeat' refine vcs_cons ?_ ?_
        all_goals first | exact vcs_nil | (simp only [VC.ok, h0, h1]; rfl)) rfl rfl
theorem r29_3 {a b c d e g : Int} (h0 : (Decidable.decide (a < 4)) = false) (h1 : (Decidable.decide (a > 4096)) = false) (h2 : (Decidable.decide (b < 3)) = true) : Gives Tryz.prog 29 (lims a b c d e g) (.bool (Bool.false)) :=
  gives_of_run mixed noC_gives.holds (d := [(1, .br false), (2, .br false), (4, .br false), (5, .br false), (6, .br false), (7, .br false), (9, .br false), (10, .br false), (11, .br true), (12, .br true), (13, .br true), (14, .br true)]) (n := 400) (L := [.b ((Decidable.decide (b < 3)) == true), .b ((Decidable.decide (b < 3)) == true), .b ((Decidable.decide (b < 3)) == true), .b ((Decidable.decide (b < 3)) == true), .b ((Decidable.decide (a > 4096)) == false), .b ((Decidable.decide (a > 4096)) == false), .b ((Decidable.decide (a > 4096)) == false), .b ((Decidable.decide (a > 4096)) == false), .b ((Decidable.decide (a < 4)) == false), .b ((Decidable.decide (a < 4)) == false), .b ((Decidable.decide (a < 4)) == false), .b ((Decidable.decide (a < 4)) == false)]) (by kernel_rfl)
    (by repeat' refine vcs_cons ?_ ?_
        all_goals first | exact vcs_nil | (simp only [VC.ok, h0, h1, h2]; rfl)) rfl rfl
theorem r29_4 {a b c d e g : Int} (h0 : (Decidable.decide (a < 4)) = false) (h1 : (Decidable.decide (a > 4096)) = false) (h2 : (Decidable.decide (b < 3)) = false) (h3 : (Decidable.decide (b > 256)) = true) : Gives Tryz.prog 29 (lims a b c d e g) (.bool (Bool.false)) :=
  gives_of_run mixed noC_gives.holds (d := [(1, .br false), (2, .br false), (4, .br false), (5, .br false), (6, .br false), (7, .br false), (9, .br false), (10, .br false), (11, .br false), (12, .br false), (14, .br false), (15, .br false), (16, .br true), (17, .br true), (18, .br true), (19, .br true)]) (n := 400) (L := [.b ((Decidable.decide (b > 256)) == true), .b ((Decidable.decide (b > 256)) == true), .b ((Decidable.decide (b > 256)) == true), .b ((Decidable.decide (b > 256)) == true), .b ((Decidable.decide (b < 3)) == false), .b ((Decidable.decide (b < 3)) == false), .b ((Decidable.decide (b < 3)) == false), .b ((Decidable.decide (b < 3)) == false), .b ((Decidable.decide (a > 4096)) == false), .b ((Decidable.decide (a > 4096)) == false), .b ((Decidable.decide (a > 4096)) == false), .b ((Decidable.decide (a > 4096)) == false), .b ((Decidable.decide (a < 4)) == false), .b ((Decidable.decide (a < 4)) == false), .b ((Decidable.decide (a < 4)) == false), .b ((Decidable.decide (a < 4)) == false)]) (by kernel_rfl)
    (by repeat' refine vcs_cons ?_ ?_
        all_goals first | exact vcs_nil | (simp only [VC.ok, h0, h1, h2, h3]; rfl)) rfl rfl
theorem r29_5 {a b c d e g : Int} (h0 : (Decidable.decide (a < 4)) = false) (h1 : (Decidable.decide (a > 4096)) = false) (h2 : (Decidable.decide (b < 3)) = false) (h3 : (Decidable.decide (b > 256)) = false) (h4 : (Decidable.decide (c < 1)) = true) : Gives Tryz.prog 29 (lims a b c d e g) (.bool (Bool.false)) :=
  gives_of_run mixed noC_gives.holds (d := [(1, .br false), (2, .br false), (4, .br false), (5, .br false), (6, .br false), (7, .br false), (9, .br false), (10, .br false), (11, .br false), (12, .br false), (14, .br false), (15, .br false), (16, .br false), (17, .br false), (19, .br false), (20, .br false), (21, .br true), (22, .br true), (23, .br true), (24, .br true)]) (n := 400) (L := [.b ((Decidable.decide (c < 1)) == true), .b ((Decidable.decide (c < 1)) == true), .b ((Decidable.decide (c < 1)) == true), .b ((Decidable.decide (c < 1)) == true), .b ((Decidable.decide (b > 256)) == false), .b ((Decidable.decide (b > 256)) == false), .b ((Decidable.decide (b > 256)) == false), .b ((Decidable.decide (b > 256)) == false), .b ((Decidable.decide (b < 3)) == false), .b ((Decidable.decide (b < 3)) == false), .b ((Decidable.decide (b < 3)) == false), .b ((Decidable.decide (b < 3)) == false), .b ((Decidable.decide (a > 4096)) == false), .b ((Decidable.decide (a > 4096)) == false), .b ((Decidable.decide (a > 4096)) == false), .b ((Decidable.decide (a > 4096)) == false), .b ((Decidable.decide (a < 4)) == false), .b ((Decidable.decide (a < 4)) == false), .b ((Decidable.decide (a < 4)) == false), .b ((Decidable.decide (a < 4)) == false)]) (by kernel_rfl)
    (by repeat' refine vcs_cons ?_ ?_
        all_goals first | exact vcs_nil | (simp only [VC.ok, h0, h1, h2, h3, h4]; rfl)) rfl rfl
theorem r29_6 {a b c d e g : Int} (h0 : (Decidable.decide (a < 4)) = false) (h1 : (Decidable.decide (a > 4096)) = false) (h2 : (Decidable.decide (b < 3)) = false) (h3 : (Decidable.decide (b > 256)) = false) (h4 : (Decidable.decide (c < 1)) = false) (h5 : (Decidable.decide (c > 64)) = true) : Gives Tryz.prog 29 (lims a b c d e g) (.bool (Bool.false)) :=
  gives_of_run mixed noC_gives.holds (d := [(1, .br false), (2, .br false), (4, .br false), (5, .br false), (6, .br false), (7, .br false), (9, .br false), (10, .br false), (11, .br false), (12, .br false), (14, .br false), (15, .br false), (16, .br false), (17, .br false), (19, .br false), (20, .br false), (21, .br false), (22, .br false), (24, .br false), (25, .br false), (26, .br true)]) (n := 400) (L := [.b ((Decidable.decide (c > 64)) == true), .b ((Decidable.decide (c < 1)) == false), .b ((Decidable.decide (c < 1)) == false), .b ((Decidable.decide (c < 1)) == false), .b ((Decidable.decide (c < 1)) == false), .b ((Decidable.decide (b > 256)) == false), .b ((Decidable.decide (b > 256)) == false), .b ((Decidable.decide (b > 256)) == false), .b ((Decidable.decide (b > 256)) == false), .b ((Decidable.decide (b < 3)) == false), .b ((Decidable.decide (b < 3)) == false), .b ((Decidable.decide (b < 3)) == false), .b ((Decidable.decide (b < 3)) == false), .b ((Decidable.decide (a > 4096)) == false), .b ((Decidable.decide (a > 4096)) == false), .b ((Decidable.decide (a > 4096)) == false), .b ((Decidable.decide (a > 4096)) == false), .b ((Decidable.decide (a < 4)) == false), .b ((Decidable.decide (a < 4)) == false), .b ((Decidable.decide (a < 4)) == false), .b ((Decidable.decide (a < 4)) == false)]) (by kernel_rfl)
    (by repeat' refine vcs_cons ?_ ?_
        all_goals first | exact vcs_nil | (simp only [VC.ok, h0, h1, h2, h3, h4, h5]; rfl)) rfl rfl
theorem r29_7 {a b c d e g : Int} (h0 : (Decidable.decide (a < 4)) = false) (h1 : (Decidable.decide (a > 4096)) = false) (h2 : (Decidable.decide (b < 3)) = false) (h3 : (Decidable.decide (b > 256)) = false) (h4 : (Decidable.decide (c < 1)) = false) (h5 : (Decidable.decide (c > 64)) = false) (h6 : (Decidable.decide (d ≥ 2)) = false) : Gives Tryz.prog 29 (lims a b c d e g) (.bool (Bool.false)) :=
  gives_of_run mixed noC_gives.holds (d := [(1, .br false), (2, .br false), (4, .br false), (5, .br false), (6, .br false), (7, .br false), (9, .br false), (10, .br false), (11, .br false), (12, .br false), (14, .br false), (15, .br false), (16, .br false), (17, .br false), (19, .br false), (20, .br false), (21, .br false), (22, .br false), (24, .br false), (25, .br false), (26, .br false), (28, .br false), (29, .br false), (30, .br false), (31, .br false)]) (n := 400) (L := [.b ((Decidable.decide (d ≥ 2)) == false), .b ((Decidable.decide (d ≥ 2)) == false), .b ((Decidable.decide (d ≥ 2)) == false), .b ((Decidable.decide (d ≥ 2)) == false), .b ((Decidable.decide (c > 64)) == false), .b ((Decidable.decide (c < 1)) == false), .b ((Decidable.decide (c < 1)) == false), .b ((Decidable.decide (c < 1)) == false), .b ((Decidable.decide (c < 1)) == false), .b ((Decidable.decide (b > 256)) == false), .b ((Decidable.decide (b > 256)) == false), .b ((Decidable.decide (b > 256)) == false), .b ((Decidable.decide (b > 256)) == false), .b ((Decidable.decide (b < 3)) == false), .b ((Decidable.decide (b < 3)) == false), .b ((Decidable.decide (b < 3)) == false), .b ((Decidable.decide (b < 3)) == false), .b ((Decidable.decide (a > 4096)) == false), .b ((Decidable.decide (a > 4096)) == false), .b ((Decidable.decide (a > 4096)) == false), .b ((Decidable.decide (a > 4096)) == false), .b ((Decidable.decide (a < 4)) == false), .b ((Decidable.decide (a < 4)) == false), .b ((Decidable.decide (a < 4)) == false), .b ((Decidable.decide (a < 4)) == false)]) (by kernel_rfl)
    (by repeat' refine vcs_cons ?_ ?_
        all_goals first | exact vcs_nil | (simp only [VC.ok, h0, h1, h2, h3, h4, h5, h6]; rfl)) rfl rfl
theorem r29_8 {a b c d e g : Int} (h0 : (Decidable.decide (a < 4)) = false) (h1 : (Decidable.decide (a > 4096)) = false) (h2 : (Decidable.decide (b < 3)) = false) (h3 : (Decidable.decide (b > 256)) = false) (h4 : (Decidable.decide (c < 1)) = false) (h5 : (Decidable.decide (c > 64)) = false) (h6 : (Decidable.decide (d ≥ 2)) = true) (h7 : (Decidable.decide (d ≤ 64)) = false) : Gives Tryz.prog 29 (lims a b c d e g) (.bool (Bool.false)) :=
  gives_of_run mixed noC_gives.holds (d := [(1, .br false), (2, .br false), (4, .br false), (5, .br false), (6, .br false), (7, .br false), (9, .br false), (10, .br false), (11, .br false), (12, .br false), (14, .br false), (15, .br false), (16, .br false), (17, .br false), (19, .br false), (20, .br false), (21, .br false), (22, .br false), (24, .br false), (25, .br false), (26, .br false), (28, .br true), (29, .br true), (31, .br true), (32, .br true), (33, .br false), (34, .br false), (35, .br false), (36, .br false)]) (n := 400) (L := [.b ((Decidable.decide (d ≤ 64)) == false), .b ((Decidable.decide (d ≤ 64)) == false), .b ((Decidable.decide (d ≤ 64)) == false), .b ((Decidable.decide (d ≤ 64)) == false), .b ((Decidable.decide (d ≥ 2)) == true), .b ((Decidable.decide (d ≥ 2)) == true), .b ((Decidable.decide (d ≥ 2)) == true), .b ((Decidable.decide (d ≥ 2)) == true), .b ((Decidable.decide (c > 64)) == false), .b ((Decidable.decide (c < 1)) == false), .b ((Decidable.decide (c < 1)) == false), .b ((Decidable.decide (c < 1)) == false), .b ((Decidable.decide (c < 1)) == false), .b ((Decidable.decide (b > 256)) == false), .b ((Decidable.decide (b > 256)) == false), .b ((Decidable.decide (b > 256)) == false), .b ((Decidable.decide (b > 256)) == false), .b ((Decidable.decide (b < 3)) == false), .b ((Decidable.decide (b < 3)) == false), .b ((Decidable.decide (b < 3)) == false), .b ((Decidable.decide (b < 3)) == false), .b ((Decidable.decide (a > 4096)) == false), .b ((Decidable.decide (a > 4096)) == false), .b ((Decidable.decide (a > 4096)) == false), .b ((Decidable.decide (a > 4096)) == false), .b ((Decidable.decide (a < 4)) == false), .b ((Decidable.decide (a < 4)) == false), .b ((Decidable.decide (a < 4)) == false), .b ((Decidable.decide (a < 4)) == false)]) (by kernel_rfl)
    (by repeat' refine vcs_cons ?_ ?_
        all_goals first | exact vcs_nil | (simp only [VC.ok, h0, h1, h2, h3, h4, h5, h6, h7]; rfl)) rfl rfl
theorem r29_9 {a b c d e g : Int} (h0 : (Decidable.decide (a < 4)) = false) (h1 : (Decidable.decide (a > 4096)) = false) (h2 : (Decidable.decide (b < 3)) = false) (h3 : (Decidable.decide (b > 256)) = false) (h4 : (Decidable.decide (c < 1)) = false) (h5 : (Decidable.decide (c > 64)) = false) (h6 : (Decidable.decide (d ≥ 2)) = true) (h7 : (Decidable.decide (d ≤ 64)) = true) (h8 : (Decidable.decide (e ≥ 2)) = false) : Gives Tryz.prog 29 (lims a b c d e g) (.bool (Bool.false)) :=
  gives_of_run mixed noC_gives.holds (d := [(1, .br false), (2, .br false), (4, .br false), (5, .br false), (6, .br false), (7, .br false), (9, .br false), (10, .br false), (11, .br false), (12, .br false), (14, .br false), (15, .br false), (16, .br false), (17, .br false), (19, .br false), (20, .br false), (21, .br false), (22, .br false), (24, .br false), (25, .br false), (26, .br false), (28, .br true), (29, .br true), (31, .br true), (32, .br true), (33, .br true), (34, .br true), (36, .br true), (37, .br true), (38, .br false), (39, .br false), (40, .br false), (41, .br false)]) (n := 400) (L := [.b ((Decidable.decide (e ≥ 2)) == false), .b ((Decidable.decide (e ≥ 2)) == false), .b ((Decidable.decide (e ≥ 2)) == false), .b ((Decidable.decide (e ≥ 2)) == false), .b ((Decidable.decide (d ≤ 64)) == true), .b ((Decidable.decide (d ≤ 64)) == true), .b ((Decidable.decide (d ≤ 64)) == true), .b ((Decidable.decide (d ≤ 64)) == true), .b ((Decidable.decide (d ≥ 2)) == true), .b ((Decidable.decide (d ≥ 2)) == true), .b ((Decidable.decide (d ≥ 2)) == true), .b ((Decidable.decide (d ≥ 2)) == true), .b ((Decidable.decide (c > 64)) == false), .b ((Decidable.decide (c < 1)) == false), .b ((Decidable.decide (c < 1)) == false), .b ((Decidable.decide (c < 1)) == false), .b ((Decidable.decide (c < 1)) == false), .b ((Decidable.decide (b > 256)) == false), .b ((Decidable.decide (b > 256)) == false), .b ((Decidable.decide (b > 256)) == false), .b ((Decidable.decide (b > 256)) == false), .b ((Decidable.decide (b < 3)) == false), .b ((Decidable.decide (b < 3)) == false), .b ((Decidable.decide (b < 3)) == false), .b ((Decidable.decide (b < 3)) == false), .b ((Decidable.decide (a > 4096)) == false), .b ((Decidable.decide (a > 4096)) == false), .b ((Decidable.decide (a > 4096)) == false), .b ((Decidable.decide (a > 4096)) == false), .b ((Decidable.decide (a < 4)) == false), .b ((Decidable.decide (a < 4)) == false), .b ((Decidable.decide (a < 4)) == false), .b ((Decidable.decide (a < 4)) == false)]) (by kernel_rfl)
    (by repeat' refine vcs_cons ?_ ?_
        all_goals first | exact vcs_nil | (simp only [VC.ok, h0, h1, h2, h3, h4, h5, h6, h7, h8]; rfl)) rfl rfl
theorem r29_10 {a b c d e g : Int} (h0 : (Decidable.decide (a < 4)) = false) (h1 : (Decidable.decide (a > 4096)) = false) (h2 : (Decidable.decide (b < 3)) = false) (h3 : (Decidable.decide (b > 256)) = false) (h4 : (Decidable.decide (c < 1)) = false) (h5 : (Decidable.decide (c > 64)) = false) (h6 : (Decidable.decide (d ≥ 2)) = true) (h7 : (Decidable.decide (d ≤ 64)) = true) (h8 : (Decidable.decide (e ≥ 2)) = true) (h9 : (Decidable.decide (e ≤ 64)) = false) : Gives Tryz.prog 29 (lims a b c d e g) (.bool (Bool.false)) :=
  gives_of_run mixed noC_gives.holds (d := [(1, .br false), (2, .br false), (4, .br false), (5, .br false), (6, .br false), (7, .br false), (9, .br false), (10, .br false), (11, .br false), (12, .br false), (14, .br false), (15, .br false), (16, .br false), (17, .br false), (19, .br false), (20, .br false), (21, .br false), (22, .br false), (24, .br false), (25, .br false), (26, .br false), (28, .br true), (29, .br true), (31, .br true), (32, .br true), (33, .br true), (34, .br true), (36, .br true), (37, .br true), (38, .br true), (39, .br true), (41, .br true), (42, .br true), (43, .br false), (44, .br false), (45, .br false), (46, .br false)]) (n := 400) (L := [.b ((Decidable.decide (e ≤ 64)) == false), .b ((Decidable.decide (e ≤ 64)) == false), .b ((Decidable.decide (e ≤ 64)) == false), .b ((Decidable.decide (e ≤ 64)) == false), .b ((Decidable.decide (e ≥ 2)) == true), .b ((Decidable.decide (e ≥ 2)) == true), .b ((Decidable.decide (e ≥ 2)) == true), .b ((Decidable.decide (e ≥ 2)) == true), .b ((Decidable.decide (d ≤ 64)) == true), .b ((Decidable.decide (d ≤ 64)) == true), .b ((Decidable.decide (d ≤ 64)) == true), .b ((Decidable.decide (d ≤ 64)) == true), .b ((Decidable.decide (d ≥ 2)) == true), .b ((Decidable.decide (d ≥ 2)) == true), .b ((Decidable.decide (d ≥ 2)) == true), .b ((Decidable.decide (d ≥ 2)) == true), .b ((Decidable.decide (c > 64)) == false), .b ((Decidable.decide (c < 1)) == false), .b ((Decidable.decide (c < 1)) == false), .b ((Decidable.decide (c < 1)) == false), .b ((Decidable.decide (c < 1)) == false), .b ((Decidable.decide (b > 256)) == false), .b ((Decidable.decide (b > 256)) == false), .b ((Decidable.decide (b > 256)) == false), .b ((Decidable.decide (b > 256)) == false), .b ((Decidable.decide (b < 3)) == false), .b ((Decidable.decide (b < 3)) == false), .b ((Decidable.decide (b < 3)) == false), .b ((Decidable.decide (b < 3)) == false), .b ((Decidable.decide (a > 4096)) == false), .b ((Decidable.decide (a > 4096)) == false), .b ((Decidable.decide (a > 4096)) == false), .b ((Decidable.decide (a > 4096)) == false), .b ((Decidable.decide (a < 4)) == false), .b ((Decidable.decide (a < 4)) == false), .b ((Decidable.decide (a < 4)) == false), .b ((Decidable.decide (a < 4)) == false)]) (by kernel_rfl)
    (by repeat' refine vcs_cons ?_ ?_
        all_goals first | exact vcs_nil | (simp only [VC.ok, h0, h1, h2, h3, h4, h5, h6, h7, h8, h9]; rfl)) rfl rfl
theorem r29_11 {a b c d e g : Int} (h0 : (Decidable.decide (a < 4)) = false) (h1 : (Decidable.decide (a > 4096)) = false) (h2 : (Decidable.decide (b < 3)) = false) (h3 : (Decidable.decide (b > 256)) = false) (h4 : (Decidable.decide (c < 1)) = false) (h5 : (Decidable.decide (c > 64)) = false) (h6 : (Decidable.decide (d ≥ 2)) = true) (h7 : (Decidable.decide (d ≤ 64)) = true) (h8 : (Decidable.decide (e ≥ 2)) = true) (h9 : (Decidable.decide (e ≤ 64)) = true) (h10 : (Decidable.decide (g ≥ 8)) = false) : Gives Tryz.prog 29 (lims a b c d e g) (.bool (Bool.false)) :=
  gives_of_run mixed noC_gives.holds (d := [(1, .br false), (2, .br false), (4, .br false), (5, .br false), (6, .br false), (7, .br false), (9, .br false), (10, .br false), (11, .br false), (12, .br false), (14, .br false), (15, .br false), (16, .br false), (17, .br false), (19, .br false), (20, .br false), (21, .br false), (22, .br false), (24, .br false), (25, .br false), (26, .br false), (28, .br true), (29, .br true), (31, .br true), (32, .br true), (33, .br true), (34, .br true), (36, .br true), (37, .br true), (38, .br true), (39, .br true), (41, .br true), (42, .br true), (43, .br true), (44, .br true), (46, .br true), (47, .br true), (48, .br false), (49, .br false), (50, .br false), (51, .br false)]) (n := 400) (L := [.b ((Decidable.decide (g ≥ 8)) == false), .b ((Decidable.decide (g ≥ 8)) == false), .b ((Decidable.decide (g ≥ 8)) == false), .b ((Decidable.decide (g ≥ 8)) == false), .b ((Decidable.decide (e ≤ 64)) == true), .b ((Decidable.decide (e ≤ 64)) == true), .b ((Decidable.decide (e ≤ 64)) == true), .b ((Decidable.decide (e ≤ 64)) == true), .b ((Decidable.decide (e ≥ 2)) == true), .b ((Decidable.decide (e ≥ 2)) == true), .b ((Decidable.decide (e ≥ 2)) == true), .b ((Decidable.decide (e ≥ 2)) == true), .b ((Decidable.decide (d ≤ 64)) == true), .b ((Decidable.decide (d ≤ 64)) == true), .b ((Decidable.decide (d ≤ 64)) == true), .b ((Decidable.decide (d ≤ 64)) == true), .b ((Decidable.decide (d ≥ 2)) == true), .b ((Decidable.decide (d ≥ 2)) == true), .b ((Decidable.decide (d ≥ 2)) == true), .b ((Decidable.decide (d ≥ 2)) == true), .b ((Decidable.decide (c > 64)) == false), .b ((Decidable.decide (c < 1)) == false), .b ((Decidable.decide (c < 1)) == false), .b ((Decidable.decide (c < 1)) == false), .b ((Decidable.decide (c < 1)) == false), .b ((Decidable.decide (b > 256)) == false), .b ((Decidable.decide (b > 256)) == false), .b ((Decidable.decide (b > 256)) == false), .b ((Decidable.decide (b > 256)) == false), .b ((Decidable.decide (b < 3)) == false), .b ((Decidable.decide (b < 3)) == false), .b ((Decidable.decide (b < 3)) == false), .b ((Decidable.decide (b < 3)) == false), .b ((Decidable.decide (a > 4096)) == false), .b ((Decidable.decide (a > 4096)) == false), .b ((Decidable.decide (a > 4096)) == false), .b ((Decidable.decide (a > 4096)) == false), .b ((Decidable.decide (a < 4)) == false), .b ((Decidable.decide (a < 4)) == false), .b ((Decidable.decide (a < 4)) == false), .b ((Decidable.decide (a < 4)) == false)]) (by kernel_rfl)
    (by repeat' refine vcs_cons ?_ ?_
        all_goals first | exact vcs_nil | (simp only [VC.ok, h0, h1, h2, h3, h4, h5, h6, h7, h8, h9, h10]; rfl)) rfl rfl
theorem right29 (a b c d e g : Int) : Gives Tryz.prog 29 (lims a b c d e g) (.bool (rightB a b c d e g)) := by
  cases h0 : (Decidable.decide (a < 4)) with
  | false =>
    cases h1 : (Decidable.decide (a > 4096)) with
    | false =>
      cases h2 : (Decidable.decide (b < 3)) with
      | false =>
        cases h3 : (Decidable.decide (b > 256)) with
        | false =>
          cases h4 : (Decidable.decide (c < 1)) with
          | false =>
            cases h5 : (Decidable.decide (c > 64)) with
            | false =>
              cases h6 : (Decidable.decide (d ≥ 2)) with
              | false =>
                exact right_eq (b := (Bool.false)) (by first | (simp [rightB] at *; done) | (simp only [rightB, decide_eq_decide]; simp only [decide_eq_true_eq, decide_eq_false_iff_not] at *; omega) | (simp [rightB] at *; omega)) (r29_7 h0 h1 h2 h3 h4 h5 h6)
              | true =>
                cases h7 : (Decidable.decide (d ≤ 64)) with
                | false =>
                  exact right_eq (b := (Bool.false)) (by first | (simp [rightB] at *; done) | (simp only [rightB, decide_eq_decide]; simp only [decide_eq_true_eq, decide_eq_false_iff_not] at *; omega) | (simp [rightB] at *; omega)) (r29_8 h0 h1 h2 h3 h4 h5 h6 h7)
                | true =>
                  cases h8 : (Decidable.decide (e ≥ 2)) with
                  | false =>
                    exact right_eq (b := (Bool.false)) (by first | (simp [rightB] at *; done) | (simp only [rightB, decide_eq_decide]; simp only [decide_eq_true_eq, decide_eq_false_iff_not] at *; omega) | (simp [rightB] at *; omega)) (r29_9 h0 h1 h2 h3 h4 h5 h6 h7 h8)
                  | true =>
                    cases h9 : (Decidable.decide (e ≤ 64)) with
                    | false =>
                      exact right_eq (b := (Bool.false)) (by first | (simp [rightB] at *; done) | (simp only [rightB, decide_eq_decide]; simp only [decide_eq_true_eq, decide_eq_false_iff_not] at *; omega) | (simp [rightB] at *; omega)) (r29_10 h0 h1 h2 h3 h4 h5 h6 h7 h8 h9)
                    | true =>
                      cases h10 : (Decidable.decide (g ≥ 8)) with
                      | false =>
                        exact right_eq (b := (Bool.false)) (by first | (simp [rightB] at *; done) | (simp only [rightB, decide_eq_decide]; simp only [decide_eq_true_eq, decide_eq_false_iff_not] at *; omega) | (simp [rightB] at *; omega)) (r29_11 h0 h1 h2 h3 h4 h5 h6 h7 h8 h9 h10)
                      | true =>
                        exact right_eq (b := (decide (g ≤ 1099511627776))) (by first | (simp [rightB] at *; done) | (simp only [rightB, decide_eq_decide]; simp only [decide_eq_true_eq, decide_eq_false_iff_not] at *; omega) | (simp [rightB] at *; omega)) (r29_0 h0 h1 h2 h3 h4 h5 h6 h7 h8 h9 h10)
            | true =>
              exact right_eq (b := (Bool.false)) (by first | (simp [rightB] at *; done) | (simp only [rightB, decide_eq_decide]; simp only [decide_eq_true_eq, decide_eq_false_iff_not] at *; omega) | (simp [rightB] at *; omega)) (r29_6 h0 h1 h2 h3 h4 h5)
          | true =>
            exact right_eq (b := (Bool.false)) (by first | (simp [rightB] at *; done) | (simp only [rightB, decide_eq_decide]; simp only [decide_eq_true_eq, decide_eq_false_iff_not] at *; omega) | (simp [rightB] at *; omega)) (r29_5 h0 h1 h2 h3 h4)
        | true =>
          exact right_eq (b := (Bool.false)) (by first | (simp [rightB] at *; done) | (simp only [rightB, decide_eq_decide]; simp only [decide_eq_true_eq, decide_eq_false_iff_not] at *; omega) | (simp [rightB] at *; omega)) (r29_4 h0 h1 h2 h3)
      | true =>
        exact right_eq (b := (Bool.false)) (by first | (simp [rightB] at *; done) | (simp only [rightB, decide_eq_decide]; simp only [decide_eq_true_eq, decide_eq_false_iff_not] at *; omega) | (simp [rightB] at *; omega)) (r29_3 h0 h1 h2)
    | true =>
      exact right_eq (b := (Bool.false)) (by first | (simp [rightB] at *; done) | (simp only [rightB, decide_eq_decide]; simp only [decide_eq_true_eq, decide_eq_false_iff_not] at *; omega) | (simp [rightB] at *; omega)) (r29_2 h0 h1)
  | true =>
    exact right_eq (b := (Bool.false)) (by first | (simp [rightB] at *; done) | (simp only [rightB, decide_eq_decide]; simp only [decide_eq_true_eq, decide_eq_false_iff_not] at *; omega) | (simp [rightB] at *; omega)) (r29_1 h0)

theorem r36_0 {a b c d e g : Int} (h0 : (Decidable.decide (a ≥ 4)) = true) (h1 : (Decidable.decide (a ≤ 4096)) = true) (h2 : (Decidable.decide (b ≥ 3)) = true) (h3 : (Decidable.decide (b ≤ 256)) = true) (h4 : (Decidable.decide (c ≥ 1)) = true) (h5 : (Decidable.decide (c ≤ 64)) = true) (h6 : (Decidable.decide (d ≥ 2)) = true) (h7 : (Decidable.decide (d ≤ 64)) = true) (h8 : (Decidable.decide (e ≥ 2)) = true) (h9 : (Decidable.decide (e ≤ 64)) = true) (h10 : (Decidable.decide (g ≥ 8)) = true) : Gives Tryz.prog 36 (lims a b c d e g) (.bool (decide (g ≤ 1099511627776))) :=
  gives_of_run mixed noC_gives.holds (d := [(1, .br true), (2, .br true), (3, .br true), (4, .br true), (5, .br true), (6, .br true), (8, .br true), (9, .br true), (10, .br true), (11, .br true), (12, .br true), (13, .br true), (14, .br true), (15, .br true), (17, .br true), (18, .br true), (19, .br true), (20, .br true), (21, .br true), (22, .br true), (23, .br true), (24, .br true), (26, .br true), (27, .br true), (28, .br true), (29, .br true), (30, .br true), (31, .br true), (32, .br true), (33, .br true), (35, .br true), (36, .br true), (37, .br true), (38, .br true), (39, .br true), (40, .br true), (41, .br true), (42, .br true), (44, .br true), (45, .br true), (46, .br true), (47, .br true), (48, .br true), (49, .br true)]) (n := 400) (L := [.b ((Decidable.decide (e ≤ 64)) == true), .b ((Decidable.decide (g ≥ 8)) == true), .b ((Decidable.decide (g ≥ 8)) == true), .b ((Decidable.decide (g ≥ 8)) == true), .b ((Decidable.decide (g ≥ 8)) == true), .b ((Decidable.decide (e ≤ 64)) == true), .b ((Decidable.decide (e ≤ 64)) == true), .b ((Decidable.decide (e ≤ 64)) == true), .b ((Decidable.decide (d ≤ 64)) == true), .b ((Decidable.decide (e ≥ 2)) == true), .b ((Decidable.decide (e ≥ 2)) == true), .b ((Decidable.decide (e ≥ 2)) == true), .b ((Decidable.decide (e ≥ 2)) == true), .b ((Decidable.decide (d ≤ 64)) == true), .b ((Decidable.decide (d ≤ 64)) == true), .b ((Decidable.decide (d ≤ 64)) == true), .b ((Decidable.decide (c ≤ 64)) == true), .b ((Decidable.decide (d ≥ 2)) == true), .b ((Decidable.decide (d ≥ 2)) == true), .b ((Decidable.decide (d ≥ 2)) == true), .b ((Decidable.decide (d ≥ 2)) == true), .b ((Decidable.decide (c ≤ 64)) == true), .b ((Decidable.decide (c ≤ 64)) == true), .b ((Decidable.decide (c ≤ 64)) == true), .b ((Decidable.decide (b ≤ 256)) == true), .b ((Decidable.decide (c ≥ 1)) == true), .b ((Decidable.decide (c ≥ 1)) == true), .b ((Decidable.decide (c ≥ 1)) == true), .b ((Decidable.decide (c ≥ 1)) == true), .b ((Decidable.decide (b ≤ 256)) == true), .b ((Decidable.decide (b ≤ 256)) == true), .b ((Decidable.decide (b ≤ 256)) == true), .b ((Decidable.decide (a ≤ 4096)) == true), .b ((Decidable.decide (b ≥ 3)) == true), .b ((Decidable.decide (b ≥ 3)) == true), .b ((Decidable.decide (b ≥ 3)) == true), .b ((Decidable.decide (b ≥ 3)) == true), .b ((Decidable.decide (a ≤ 4096)) == true), .b ((Decidable.decide (a ≤ 4096)) == true), .b ((Decidable.decide (a ≤ 4096)) == true), .b ((Decidable.decide (a ≥ 4)) == true), .b ((Decidable.decide (a ≥ 4)) == true), .b ((Decidable.decide (a ≥ 4)) == true), .b ((Decidable.decide (a ≥ 4)) == true)]) (by kernel_rfl)
    (by repeat' refine vcs_cons ?_ ?_
        all_goals first | exact vcs_nil | (simp only [VC.ok, h0, h1, h2, h3, h4, h5, h6, h7, h8, h9, h10]; rfl)) rfl rfl
theorem r36_1 {a b c d e g : Int} (h0 : (Decidable.decide (a ≥ 4)) = false) : Gives Tryz.prog 36 (lims a b c d e g) (.bool (Bool.false)) :=
  gives_of_run mixed noC_gives.holds (d := [(1, .br false), (2, .br false), (3, .br false), (4, .br false)]) (n := 400) (L := [.b ((Decidable.decide (a ≥ 4)) == false), .b ((Decidable.decide (a ≥ 4)) == false), .b ((Decidable.decide (a ≥ 4)) == false), .b ((Decidable.decide (a ≥ 4)) == false)]) (by kernel_rfl)
    (by repeat' refine vcs_cons ?_ ?_
        all_goals first | exact vcs_nil | (simp only [VC.ok, h0]; rfl)) rfl rfl
theorem r36_2 {a b c d e g : Int} (h0 : (Decidable.decide (a ≥ 4)) = true) (h1 : (Decidable.decide (a ≤ 4096)) = false) : Gives Tryz.prog 36 (lims a b c d e g) (.bool (Bool.false)) :=
  gives_of_run mixed noC_gives.holds (d := [(1, .br true), (2, .br true), (3, .br true), (4, .br true), (5, .br false), (6, .br false), (7, .br false), (8, .br false)]) (n := 400) (L := [.b ((Decidable.decide (a ≤ 4096)) == false), .b ((Decidable.decide (a ≤ 4096)) == false), .b ((Decidable.decide (a ≤ 4096)) == false), .b ((Decidable.decide (a ≤ 4096)) == false), .b ((Decidable.decide (a ≥ 4)) == true), .b ((Decidable.decide (a ≥ 4)) == true), .b ((Decidable.decide (a ≥ 4)) == true), .b ((Decidable.decide (a ≥ 4)) == true)]) (by kernel_rfl)
    (by repeat' refine vcs_cons ?_ ?_
        all_goals first | exact vcs_nil | (simp only [VC.ok, h0, h1]; rfl)) rfl rfl
theorem r36_3 {a b c d e g : Int} (h0 : (Decidable.decide (a ≥ 4)) = true) (h1 : (Decidable.decide (a ≤ 4096)) = true) (h2 : (Decidable.decide (b ≥ 3)) = false) : Gives Tryz.prog 36 (lims a b c d e g) (.bool (Bool.false)) :=
  gives_of_run mixed noC_gives.holds (d := [(1, .br true), (2, .br true), (3, .br true), (4, .br true), (5, .br true), (6, .br true), (8, .br true), (9, .br false), (10, .br false), (11, .br false), (12, .br false), (13, .br true)]) (n := 400) (L := [.b ((Decidable.decide (a ≤ 4096)) == true), .b ((Decidable.decide (b ≥ 3)) == false), .b ((Decidable.decide (b ≥ 3)) == false), .b ((Decidable.decide (b ≥ 3)) == false), .b ((Decidable.decide (b ≥ 3)) == false), .b ((Decidable.decide (a ≤ 4096)) == true), .b ((Decidable.decide (a ≤ 4096)) == true), .b ((Decidable.decide (a ≤ 4096)) == true), .b ((Decidable.decide (a ≥ 4)) == true), .b ((Decidable.decide (a ≥ 4)) == true), .b ((Decidable.decide (a ≥ 4)) == true), .b ((Decidable.decide (a ≥ 4)) == true)]) (by kernel_rfl)
    (by repeat' refine vcs_cons ?_ ?_
        all_goals first | exact vcs_nil | (simp only [VC.ok, h0, h1, h2]; rfl)) rfl rfl
theorem r36_4 {a b c d e g : Int} (h0 : (Decidable.decide (a ≥ 4)) = true) (h1 : (Decidable.decide (a ≤ 4096)) = true) (h2 : (Decidable.decide (b ≥ 3)) = true) (h3 : (Decidable.decide (b ≤ 256)) = false) : Gives Tryz.prog 36 (lims a b c d e g) (.bool (Bool.false)) :=
  gives_of_run mixed noC_gives.holds (d := [(1, .br true), (2, .br true), (3, .br true), (4, .br true), (5, .br true), (6, .br true), (8, .br true), (9, .br true), (10, .br true), (11, .br true), (12, .br true), (13, .br true), (14, .br false), (15, .br false), (16, .br false), (17, .br false)]) (n := 400) (L := [.b ((Decidable.decide (b ≤ 256)) == false), .b ((Decidable.decide (b ≤ 256)) == false), .b ((Decidable.decide (b ≤ 256)) == false), .b ((Decidable.decide (b ≤ 256)) == false), .b ((Decidable.decide (a ≤ 4096)) == true), .b ((Decidable.decide (b ≥ 3)) == true), .b ((Decidable.decide (b ≥ 3)) == true), .b ((Decidable.decide (b ≥ 3)) == true), .b ((Decidable.decide (b ≥ 3)) == true), .b ((Decidable.decide (a ≤ 4096)) == true), .b ((Decidable.decide (a ≤ 4096)) == true), .b ((Decidable.decide (a ≤ 4096)) == true), .b ((Decidable.decide (a ≥ 4)) == true), .b ((Decidable.decide (a ≥ 4)) == true), .b ((Decidable.decide (a ≥ 4)) == true), .b ((Decidable.decide (a ≥ 4)) == true)]) (by kernel_rfl)
    (by repeat' refine vcs_cons ?_ ?_
        all_goals first | exact vcs_nil | (simp only [VC.ok, h0, h1, h2, h3]; rfl)) rfl rfl
theorem r36_5 {a b c d e g : Int} (h0 : (Decidable.decide (a ≥ 4)) = true) (h1 : (Decidable.decide (a ≤ 4096)) = true) (h2 : (Decidable.decide (b ≥ 3)) = true) (h3 : (Decidable.decide (b ≤ 256)) = true) (h4 : (Decidable.decide (c ≥ 1)) = false) : Gives Tryz.prog 36 (lims a b c d e g) (.bool (Bool.false)) :=
  gives_of_run mixed noC_gives.holds (d := [(1, .br true), (2, .br true), (3, .br true), (4, .br true), (5, .br true), (6, .br true), (8, .br true), (9, .br true), (10, .br true), (11, .br true), (12, .br true), (13, .br true), (14, .br true), (15, .br true), (17, .br true), (18, .br false), (19, .br false), (20, .br false), (21, .br false), (22, .br true)]) (n := 400) (L := [.b ((Decidable.decide (b ≤ 256)) == true), .b ((Decidable.decide (c ≥ 1)) == false), .b ((Decidable.decide (c ≥ 1)) == false), .b ((Decidable.decide (c ≥ 1)) == false), .b ((Decidable.decide (c ≥ 1)) == false), .b ((Decidable.decide (b ≤ 256)) == true), .b ((Decidable.decide (b ≤ 256)) == true), .b ((Decidable.decide (b ≤ 256)) == true), .b ((Decidable.decide (a ≤ 4096)) == true), .b ((Decidable.decide (b ≥ 3)) == true), .b ((Decidable.decide (b ≥ 3)) == true), .b ((Decidable.decide (b ≥ 3)) == true), .b ((Decidable.decide (b ≥ 3)) == true), .b ((Decidable.decide (a ≤ 4096)) == true), .b ((Decidable.decide (a ≤ 4096)) == true), .b ((Decidable.decide (a ≤ 4096)) == true), .b ((Decidable.decide (a ≥ 4)) == true), .b ((Decidable.decide (a ≥ 4)) == true), .b ((Decidable.decide (a ≥ 4)) == true), .b ((Decidable.decide (a ≥ 4)) == true)]) (by kernel_rfl)
    (by repeat' refine vcs_cons ?_ ?_
        all_goals first | exact vcs_nil | (simp only [VC.ok, h0, h1, h2, h3, h4]; rfl)) rfl rfl
theorem r36_6 {a b c d e g : Int} (h0 : (Decidable.decide (a ≥ 4)) = true) (h1 : (Decidable.decide (a ≤ 4096)) = true) (h2 : (Decidable.decide (b ≥ 3)) = true) (h3 : (Decidable.decide (b ≤ 256)) = true) (h4 : (Decidable.decide (c ≥ 1)) = true) (h5 : (Decidable.decide (c ≤ 64)) = false) : Gives Tryz.prog 36 (lims a b c d e g) (.bool (Bool.false)) :=
  gives_of_run mixed noC_gives.holds (d := [(1, .br true), (2, .br true), (3, .br true), (4, .br true), (5, .br true), (6, .br true), (8, .br true), (9, .br true), (10, .br true), (11, .br true), (12, .br true), (13, .br true), (14, .br true), (15, .br true), (17, .br true), (18, .br true), (19, .br true), (20, .br true), (21, .br true), (22, .br true), (23, .br false), (24, .br false), (25, .br false), (26, .br false)]) (n := 400) (L := [.b ((Decidable.decide (c ≤ 64)) == false), .b ((Decidable.decide (c ≤ 64)) == false), .b ((Decidable.decide (c ≤ 64)) == false), .b ((Decidable.decide (c ≤ 64)) == false), .b ((Decidable.decide (b ≤ 256)) == true), .b ((Decidable.decide (c ≥ 1)) == true), .b ((Decidable.decide (c ≥ 1)) == true), .b ((Decidable.decide (c ≥ 1)) == true), .b ((Decidable.decide (c ≥ 1)) == true), .b ((Decidable.decide (b ≤ 256)) == true), .b ((Decidable.decide (b ≤ 256)) == true), .b ((Decidable.decide (b ≤ 256)) == true), .b ((Decidable.decide (a ≤ 4096)) == true), .b ((Decidable.decide (b ≥ 3)) == true), .b ((Decidable.decide (b ≥ 3)) == true), .b ((Decidable.decide (b ≥ 3)) == true), .b ((Decidable.decide (b ≥ 3)) == true), .b ((Decidable.decide (a ≤ 4096)) == true), .b ((Decidable.decide (a ≤ 4096)) == true), .b ((Decidable.decide (a ≤ 4096)) == true), .b ((Decidable.decide (a ≥ 4)) == true), .b ((Decidable.decide (a ≥ 4)) == true), .b ((Decidable.decide (a ≥ 4)) == true), .b ((Decidable.decide (a ≥ 4)) == true)]) (by kernel_rfl)
    (by repeat' refine vcs_cons ?_ ?_
        all_goals first | exact vcs_nil | (simp only [VC.ok, h0, h1, h2, h3, h4, h5]; rfl)) rfl rfl
theorem r36_7 {a b c d e g : Int} (h0 : (Decidable.decide (a ≥ 4)) = true) (h1 : (Decidable.decide (a ≤ 4096)) = true) (h2 : (Decidable.decide (b ≥ 3)) = true) (h3 : (Decidable.decide (b ≤ 256)) = true) (h4 : (Decidable.decide (c ≥ 1)) = true) (h5 : (Decidable.decide (c ≤ 64)) = true) (h6 : (Decidable.decide (d ≥ 2)) = false) : Gives Tryz.prog 36 (lims a b c d e g) (.bool (Bool.false)) :=
  gives_of_run mixed noC_gives.holds (d := [(1, .br true), (2, .br true), (3, .br true), (4, .br true), (5, .br true), (6, .br true), (8, .br true), (9, .br true), (10, .br true), (11, .br true), (12, .br true), (13, .br true), (14, .br true), (15, .br true), (17, .br true), (18, .br true), (19, .br true), (20, .br true), (21, .br true), (22, .br true), (23, .br true), (24, .br true), (26, .br true), (27, .br false), (28, .br false), (29, .br false), (30, .br false), (31, .br true)]) (n := 400) (L := [.b ((Decidable.decide (c ≤ 64)) == true), .b ((Decidable.decide (d ≥ 2)) == false), .b ((Decidable.decide (d ≥ 2)) == false), .b ((Decidable.decide (d ≥ 2)) == false), .b ((Decidable.decide (d ≥ 2)) == false), .b ((Decidable.decide (c ≤ 64)) == true), .b ((Decidable.decide (c ≤ 64)) == true), .b ((Decidable.decide (c ≤ 64)) == true), .b ((Decidable.decide (b ≤ 256)) == true), .b ((Decidable.decide (c ≥ 1)) == true), .b ((Decidable.decide (c ≥ 1)) == true), .b ((Decidable.decide (c ≥ 1)) == true), .b ((Decidable.decide (c ≥ 1)) == true), .b ((Decidable.decide (b ≤ 256)) == true), .b ((Decidable.decide (b ≤ 256)) == true), .b ((Decidable.decide (b ≤ 256)) == true), .b ((Decidable.decide (a ≤ 4096)) == true), .b ((Decidable.decide (b ≥ 3)) == true), .b ((Decidable.decide (b ≥ 3)) == true), .b ((Decidable.decide (b ≥ 3)) == true), .b ((Decidable.decide (b ≥ 3)) == true), .b ((Decidable.decide (a ≤ 4096)) == true), .b ((Decidable.decide (a ≤ 4096)) == true), .b ((Decidable.decide (a ≤ 4096)) == true), .b ((Decidable.decide (a ≥ 4)) == true), .b ((Decidable.decide (a ≥ 4)) == true), .b ((Decidable.decide (a ≥ 4)) == true), .b ((Decidable.decide (a ≥ 4)) == true)]) (by kernel_rfl)
    (by repeat' refine vcs_cons ?_ ?_
        all_goals first | exact vcs_nil | (simp only [VC.ok, h0, h1, h2, h3, h4, h5, h6]; rfl)) rfl rfl
theorem r36_8 {a b c d e g : Int} (h0 : (Decidable.decide (a ≥ 4)) = true) (h1 : (Decidable.decide (a ≤ 4096)) = true) (h2 : (Decidable.decide (b ≥ 3)) = true) (h3 : (Decidable.decide (b ≤ 256)) = true) (h4 : (Decidable.decide (c ≥ 1)) = true) (h5 : (Decidable.decide (c ≤ 64)) = true) (h6 : (Decidable.decide (d ≥ 2)) = true) (h7 : (Decidable.decide (d ≤ 64)) = false) : Gives Tryz.prog 36 (lims a b c d e g) (.bool (Bool.false)) :=
  gives_of_run mixed noC_gives.holds (d := [(1, .br true), (2, .br true), (3, .br true), (4, .br true), (5, .br true), (6, .br true), (8, .br true), (9, .br true), (10, .br true), (11, .br true), (12, .br true), (13, .br true), (14, .br true), (15, .br true), (17, .br true), (18, .br true), (19, .br true), (20, .br true), (21, .br true), (22, .br true), (23, .br true), (24, .br true), (26, .br true), (27, .br true), (28, .br true), (29, .br true), (30, .br true), (31, .br true), (32, .br false), (33, .br false), (34, .br false), (35, .br false)]) (n := 400) (L := [.b ((Decidable.decide (d ≤ 64)) == false), .b ((Decidable.decide (d ≤ 64)) == false), .b ((Decidable.decide (d ≤ 64)) == false), .b ((Decidable.decide (d ≤ 64)) == false), .b ((Decidable.decide (c ≤ 64)) == true), .b ((Decidable.decide (d ≥ 2)) == true), .b ((Decidable.decide (d ≥ 2)) == true), .b ((Decidable.decide (d ≥ 2)) == true), .b ((Decidable.decide (d ≥ 2)) == true), .b ((Decidable.decide (c ≤ 64)) == true), .b ((Decidable.decide (c ≤ 64)) == true), .b ((Decidable.decide (c ≤ 64)) == true), .b ((Decidable.decide (b ≤ 256)) == true), .b ((Decidable.decide (c ≥ 1)) == true), .b ((Decidable.decide (c ≥ 1)) == true), .b ((Decidable.decide (c ≥ 1)) == true), .b ((Decidable.decide (c ≥ 1)) == true), .b ((Decidable.decide (b ≤ 256)) == true), .b ((Decidable.decide (b ≤ 256)) == true), .b ((Decidable.decide (b ≤ 256)) == true), .b ((Decidable.decide (a ≤ 4096)) == true), .b ((Decidable.decide (b ≥ 3)) == true), .b ((Decidable.decide (b ≥ 3)) == true), .b ((Decidable.decide (b ≥ 3)) == true), .b ((Decidable.decide (b ≥ 3)) == true), .b ((Decidable.decide (a ≤ 4096)) == true), .b ((Decidable.decide (a ≤ 4096)) == true), .b ((Decidable.decide (a ≤ 4096)) == true), .b ((Decidable.decide (a ≥ 4)) == true), .b ((Decidable.decide (a ≥ 4)) == true), .b ((Decidable.decide (a ≥ 4)) == true), .b ((Decidable.decide (a ≥ 4)) == true)]) (by kernel_rfl)
    (by repeat' refine vcs_cons ?_ ?_
        all_goals first | exact vcs_nil | (simp only [VC.ok, h0, h1, h2, h3, h4, h5, h6, h7]; rfl)) rfl rfl
theorem r36_9 {a b c d e g : Int} (h0 : (Decidable.decide (a ≥ 4)) = true) (h1 : (Decidable.decide (a ≤ 4096)) = true) (h2 : (Decidable.decide (b ≥ 3)) = true) (h3 : (Decidable.decide (b ≤ 256)) = true) (h4 : (Decidable.decide (c ≥ 1)) = true) (h5 : (Decidable.decide (c ≤ 64)) = true) (h6 : (Decidable.decide (d ≥ 2)) = true) (h7 : (Decidable.decide (d ≤ 64)) = true) (h8 : (Decidable.decide (e ≥ 2)) = false) : Gives Tryz.prog 36 (lims a b c d e g) (.bool (Bool.false)) :=
  gives_of_run mixed noC_gives.holds (d := [(1, .br true), (2, .br true), (3, .br true), (4, .br true), (5, .br true), (6, .br true), (8, .br true), (9, .br true), (10, .br true), (11, .br true), (12, .br true), (13, .br true), (14, .br true), (15, .br true), (17, .br true), (18, .br true), (19, .br true), (20, .br true), (21, .br true), (22, .br true), (23, .br true), (24, .br true), (26, .br true), (27, .br true), (28, .br true), (29, .br true), (30, .br true), (31, .br true), (32, .br true), (33, .br true), (35, .br true), (36, .br false), (37, .br false), (38, .br false), (39, .br false), (40, .br true)]) (n := 400) (L := [.b ((Decidable.decide (d ≤ 64)) == true), .b ((Decidable.decide (e ≥ 2)) == false), .b ((Decidable.decide (e ≥ 2)) == false), .b ((Decidable.decide (e ≥ 2)) == false), .b ((Decidable.decide (e ≥ 2)) == false), .b ((Decidable.decide (d ≤ 64)) == true), .b ((Decidable.decide (d ≤ 64)) == true), .b ((Decidable.decide (d ≤ 64)) == true), .b ((Decidable.decide (c ≤ 64)) == true), .b ((Decidable.decide (d ≥ 2)) == true), .b ((Decidable.decide (d ≥ 2)) == true), .b ((Decidable.decide (d ≥ 2)) == true), .b ((Decidable.decide (d ≥ 2)) == true), .b ((Decidable.decide (c ≤ 64)) == true), .b ((Decidable.decide (c ≤ 64)) == true), .b ((Decidable.decide (c ≤ 64)) == true), .b ((Decidable.decide (b ≤ 256)) == true), .b ((Decidable.decide (c ≥ 1)) == true), .b ((Decidable.decide (c ≥ 1)) == true), .b ((Decidable.decide (c ≥ 1)) == true), .b ((Decidable.decide (c ≥ 1)) == true), .b ((Decidable.decide (b ≤ 256)) == true), .b ((Decidable.decide (b ≤ 256)) == true), .b ((Decidable.decide (b ≤ 256)) == true), .b ((Decidable.decide (a ≤ 4096)) == true), .b ((Decidable.decide (b ≥ 3)) == true), .b ((Decidable.decide (b ≥ 3)) == true), .b ((Decidable.decide (b ≥ 3)) == true), .b ((Decidable.decide (b ≥ 3)) == true), .b ((Decidable.decide (a ≤ 4096)) == true), .b ((Decidable.decide (a ≤ 4096)) == true), .b ((Decidable.decide (a ≤ 4096)) == true), .b ((Decidable.decide (a ≥ 4)) == true), .b ((Decidable.decide (a ≥ 4)) == true), .b ((Decidable.decide (a ≥ 4)) == true), .b ((Decidable.decide (a ≥ 4)) == true)]) (by kernel_rfl)
    (by repeat' refine vcs_cons ?_ ?_
        all_goals first | exact vcs_nil | (simp only [VC.ok, h0, h1, h2, h3, h4, h5, h6, h7, h8]; rfl)) rfl rfl
theorem r36_10 {a b c d e g : Int} (h0 : (Decidable.decide (a ≥ 4)) = true) (h1 : (Decidable.decide (a ≤ 4096)) = true) (h2 : (Decidable.decide (b ≥ 3)) = true) (h3 : (Decidable.decide (b ≤ 256)) = true) (h4 : (Decidable.decide (c ≥ 1)) = true) (h5 : (Decidable.decide (c ≤ 64)) = true) (h6 : (Decidable.decide (d ≥ 2)) = true) (h7 : (Decidable.decide (d ≤ 64)) = true) (h8 : (Decidable.decide (e ≥ 2)) = true) (h9 : (Decidable.decide (e ≤ 64)) = false) : Gives Tryz.prog 36 (lims a b c d e g) (.bool (Bool.false)) :=
  gives_of_run mixed noC_gives.holds (d := [(1, .br true), (2, .br true), (3, .br true), (4, .br true), (5, .br true), (6, .br true), (8, .br true), (9, .br true), (10, .br true), (11, .br true), (12, .br true), (13, .br true), (14, .br true), (15, .br true), (17, .br true), (18, .br true), (19, .br true), (20, .br true), (21, .br true), (22, .br true), (23, .br true), (24, .br true), (26, .br true), (27, .br true), (28, .br true), (29, .br true), (30, .br true), (31, .br true), (32, .br true), (33, .br true), (35, .br true), (36, .br true), (37, .br true), (38, .br true), (39, .br true), (40, .br true), (41, .br false), (42, .br false), (43, .br false), (44, .br false)]) (n := 400) (L := [.b ((Decidable.decide (e ≤ 64)) == false), .b ((Decidable.decide (e ≤ 64)) == false), .b ((Decidable.decide (e ≤ 64)) == false), .b ((Decidable.decide (e ≤ 64)) == false), .b ((Decidable.decide (d ≤ 64)) == true), .b ((Decidable.decide (e ≥ 2)) == true), .b ((Decidable.decide (e ≥ 2)) == true), .b ((Decidable.decide (e ≥ 2)) == true), .b ((Decidable.decide (e ≥ 2)) == true), .b ((Decidable.decide (d ≤ 64)) == true), .b ((Decidable.decide (d ≤ 64)) == true), .b ((Decidable.decide (d ≤ 64)) == true), .b ((Decidable.decide (c ≤ 64)) == true), .b ((Decidable.decide (d ≥ 2)) == true), .b ((Decidable.decide (d ≥ 2)) == true), .b ((Decidable.decide (d ≥ 2)) == true), .b ((Decidable.decide (d ≥ 2)) == true), .b ((Decidable.decide (c ≤ 64)) == true), .b ((Decidable.decide (c ≤ 64)) == true), .b ((Decidable.decide (c ≤ 64)) == true), .b ((Decidable.decide (b ≤ 256)) == true), .b ((Decidable.decide (c ≥ 1)) == true), .b ((Decidable.decide (c ≥ 1)) == true), .b ((Decidable.decide (c ≥ 1)) == true), .b ((Decidable.decide (c ≥ 1)) == true), .b ((Decidable.decide (b ≤ 256)) == true), .b ((Decidable.decide (b ≤ 256)) == true), .b ((Decidable.decide (b ≤ 256)) == true), .b ((Decidable.decide (a ≤ 4096)) == true), .b ((Decidable.decide (b ≥ 3)) == true), .b ((Decidable.decide (b ≥ 3)) == true), .b ((Decidable.decide (b ≥ 3)) == true), .b ((Decidable.decide (b ≥ 3)) == true), .b ((Decidable.decide (a ≤ 4096)) == true), .b ((Decidable.decide (a ≤ 4096)) == true), .b ((Decidable.decide (a ≤ 4096)) == true), .b ((Decidable.decide (a ≥ 4)) == true), .b ((Decidable.decide (a ≥ 4)) == true), .b ((Decidable.decide (a ≥ 4)) == true), .b ((Decidable.decide (a ≥ 4)) == true)]) (by kernel_rfl)
    (by repeat' refine vcs_cons ?_ ?_
        all_goals first | exact vcs_nil | (simp only [VC.ok, h0, h1, h2, h3, h4, h5, h6, h7, h8, h9]; rfl)) rfl rfl
theorem r36_11 {a b c d e g : Int} (h0 : (Decidable.decide (a ≥ 4)) = true) (h1 : (Decidable.decide (a ≤ 4096)) = true) (h2 : (Decidable.decide (b ≥ 3)) = true) (h3 : (Decidable.decide (b ≤ 256)) = true) (h4 : (Decidable.decide (c ≥ 1)) = true) (h5 : (Decidable.decide (c ≤ 64)) = true) (h6 : (Decidable.decide (d ≥ 2)) = true) (h7 : (Decidable.decide (d ≤ 64)) = true) (h8 : (Decidable.decide (e ≥ 2)) = true) (h9 : (Decidable.decide (e ≤ 64)) = true) (h10 : (Decidable.decide (g ≥ 8)) = false) : Gives Tryz.prog 36 (lims a b c d e g) (.bool (Bool.false)) :=
  gives_of_run mixed noC_gives.holds (d := [(1, .br true), (2, .br true), (3, .br true), (4, .br true), (5, .br true), (6, .br true), (8, .br true), (9, .br true), (10, .br true), (11, .br true), (12, .br true), (13, .br true), (14, .br true), (15, .br true), (17, .br true), (18, .br true), (19, .br true), (20, .br true), (21, .br true), (22, .br true), (23, .br true), (24, .br true), (26, .br true), (27, .br true), (28, .br true), (29, .br true), (30, .br true), (31, .br true), (32, .br true), (33, .br true), (35, .br true), (36, .br true), (37, .br true), (38, .br true), (39, .br true), (40, .br true), (41, .br true), (42, .br true), (44, .br true), (45, .br false), (46, .br false), (47, .br false), (48, .br false), (49, .br true)]) (n := 400) (L := [.b ((Decidable.decide (e ≤ 64)) == true), .b ((Decidable.decide (g ≥ 8)) == false), .b ((Decidable.decide (g ≥ 8)) == false), .b ((Decidable.decide (g ≥ 8)) == false), .b ((Decidable.decide (g ≥ 8)) == false), .b ((Decidable.decide (e ≤ 64)) == true), .b ((Decidable.decide (e ≤ 64)) == true), .b ((Decidable.decide (e ≤ 64)) == true), .b ((Decidable.decide (d ≤ 64)) == true), .b ((Decidable.decide (e ≥ 2)) == true), .b ((Decidable.decide (e ≥ 2)) == true), .b ((Decidable.decide (e ≥ 2)) == true), .b ((Decidable.decide (e ≥ 2)) == true), .b ((Decidable.decide (d ≤ 64)) == true), .b ((Decidable.decide (d ≤ 64)) == true), .b ((Decidable.decide (d ≤ 64)) == true), .b ((Decidable.decide (c ≤ 64)) == true), .b ((Decidable.decide (d ≥ 2)) == true), .b ((Decidable.decide (d ≥ 2)) == true), .b ((Decidable.decide (d ≥ 2)) == true), .b ((Decidable.decide (d ≥ 2)) == true), .b ((Decidable.decide (c ≤ 64)) == true), .b ((Decidable.decide (c ≤ 64)) == true), .b ((Decidable.decide (c ≤ 64)) == true), .b ((Decidable.decide (b ≤ 256)) == true), .b ((Decidable.decide (c ≥ 1)) == true), .b ((Decidable.decide (c ≥ 1)) == true), .b ((Decidable.decide (c ≥ 1)) == true), .b ((Decidable.decide (c ≥ 1)) == true), .b ((Decidable.decide (b ≤ 256)) == true), .b ((Decidable.decide (b ≤ 256)) == true), .b ((Decidable.decide (b ≤ 256)) == true), .b ((Decidable.decide (a ≤ 4096)) == true), .b ((Decidable.decide (b ≥ 3)) == true), .b ((Decidable.decide (b ≥ 3)) == true), .b ((Decidable.decide (b ≥ 3)) == true), .b ((Decidable.decide (b ≥ 3)) == true), .b ((Decidable.decide (a ≤ 4096)) == true), .b ((Decidable.decide (a ≤ 4096)) == true), .b ((Decidable.decide (a ≤ 4096)) == true), .b ((Decidable.decide (a ≥ 4)) == true), .b ((Decidable.decide (a ≥ 4)) == true), .b ((Decidable.decide (a ≥ 4)) == true), .b ((Decidable.decide (a ≥ 4)) == true)]) (by kernel_rfl)
    (by repeat' refine vcs_cons ?_ ?_
        all_goals first | exact vcs_nil | (simp only [VC.ok, h0, h1, h2, h3, h4, h5, h6, h7, h8, h9, h10]; rfl)) rfl rfl
theorem right36 (a b c d e g : Int) : Gives Tryz.prog 36 (lims a b c d e g) (.bool (rightB a b c d e g)) := by
  cases h0 : (Decidable.decide (a ≥ 4)) with
  | false =>
    exact right_eq (b := (Bool.false)) (by first | (simp [rightB] at *; done) | (simp only [rightB, decide_eq_decide]; simp only [decide_eq_true_eq, decide_eq_false_iff_not] at *; omega) | (simp [rightB] at *; omega)) (r36_1 h0)
  | true =>
    cases h1 : (Decidable.decide (a ≤ 4096)) with
    | false =>
      exact right_eq (b := (Bool.false)) (by first | (simp [rightB] at *; done) | (simp only [rightB, decide_eq_decide]; simp only [decide_eq_true_eq, decide_eq_false_iff_not] at *; omega) | (simp [rightB] at *; omega)) (r36_2 h0 h1)
    | true =>
      cases h2 : (Decidable.decide (b ≥ 3)) with
      | false =>
        exact right_eq (b := (Bool.false)) (by first | (simp [rightB] at *; done) | (simp only [rightB, decide_eq_decide]; simp only [decide_eq_true_eq, decide_eq_false_iff_not] at *; omega) | (simp [rightB] at *; omega)) (r36_3 h0 h1 h2)
      | true =>
        cases h3 : (Decidable.decide (b ≤ 256)) with
        | false =>
          exact right_eq (b := (Bool.false)) (by first | (simp [rightB] at *; done) | (simp only [rightB, decide_eq_decide]; simp only [decide_eq_true_eq, decide_eq_false_iff_not] at *; omega) | (simp [rightB] at *; omega)) (r36_4 h0 h1 h2 h3)
        | true =>
          cases h4 : (Decidable.decide (c ≥ 1)) with
          | false =>
            exact right_eq (b := (Bool.false)) (by first | (simp [rightB] at *; done) | (simp only [rightB, decide_eq_decide]; simp only [decide_eq_true_eq, decide_eq_false_iff_not] at *; omega) | (simp [rightB] at *; omega)) (r36_5 h0 h1 h2 h3 h4)
          | true =>
            cases h5 : (Decidable.decide (c ≤ 64)) with
            | false =>
              exact right_eq (b := (Bool.false)) (by first | (simp [rightB] at *; done) | (simp only [rightB, decide_eq_decide]; simp only [decide_eq_true_eq, decide_eq_false_iff_not] at *; omega) | (simp [rightB] at *; omega)) (r36_6 h0 h1 h2 h3 h4 h5)
            | true =>
              cases h6 : (Decidable.decide (d ≥ 2)) with
              | false =>
                exact right_eq (b := (Bool.false)) (by first | (simp [rightB] at *; done) | (simp only [rightB, decide_eq_decide]; simp only [decide_eq_true_eq, decide_eq_false_iff_not] at *; omega) | (simp [rightB] at *; omega)) (r36_7 h0 h1 h2 h3 h4 h5 h6)
              | true =>
                cases h7 : (Decidable.decide (d ≤ 64)) with
                | false =>
                  exact right_eq (b := (Bool.false)) (by first | (simp [rightB] at *; done) | (simp only [rightB, decide_eq_decide]; simp only [decide_eq_true_eq, decide_eq_false_iff_not] at *; omega) | (simp [rightB] at *; omega)) (r36_8 h0 h1 h2 h3 h4 h5 h6 h7)
                | true =>
                  cases h8 : (Decidable.decide (e ≥ 2)) with
                  | false =>
                    exact right_eq (b := (Bool.false)) (by first | (simp [rightB] at *; done) | (simp only [rightB, decide_eq_decide]; simp only [decide_eq_true_eq, decide_eq_false_iff_not] at *; omega) | (simp [rightB] at *; omega)) (r36_9 h0 h1 h2 h3 h4 h5 h6 h7 h8)
                  | true =>
                    cases h9 : (Decidable.decide (e ≤ 64)) with
                    | false =>
                      exact right_eq (b := (Bool.false)) (by first | (simp [rightB] at *; done) | (simp only [rightB, decide_eq_decide]; simp only [decide_eq_true_eq, decide_eq_false_iff_not] at *; omega) | (simp [rightB] at *; omega)) (r36_10 h0 h1 h2 h3 h4 h5 h6 h7 h8 h9)
                    | true =>
                      cases h10 : (Decidable.decide (g ≥ 8)) with
                      | false =>
                        exact right_eq (b := (Bool.false)) (by first | (simp [rightB] at *; done) | (simp only [rightB, decide_eq_decide]; simp only [decide_eq_true_eq, decide_eq_false_iff_not] at *; omega) | (simp [rightB] at *; omega)) (r36_11 h0 h1 h2 h3 h4 h5 h6 h7 h8 h9 h10)
                      | true =>
                        exact right_eq (b := (decide (g ≤ 1099511627776))) (by first | (simp [rightB] at *; done) | (simp only [rightB, decide_eq_decide]; simp only [decide_eq_true_eq, decide_eq_false_iff_not] at *; omega) | (simp [rightB] at *; omega)) (r36_0 h0 h1 h2 h3 h4 h5 h6 h7 h8 h9 h10)

def onLims : List Value → Option Value
  | [.agg ⟨[.int .i64 a, .int .i64 b, .int .i64 c, .int .i64 d, .int .i64 e, .int .i64 g]⟩] => some (.bool (rightB a b c d e g))
  | _ => none
end Go.Proofs.YtkmicbhnfochjaaGreatDoor

namespace Go.Proofs.YtkmicbhnfochjaaGreatDoor
open Go Go.Sx Go.Eng
/-- Before's loop. -/
noncomputable def bec : Code := subC [1, 0, 1, 0, 0] (bodyC 31)
noncomputable def beT (a b : ByteArray) (j : Nat) : List Value := mkT 30 0 [(0, .string a), (1, .string b), (5, .int .i64 j)]
set_option maxRecDepth 100000 in
theorem b_s {a b : ByteArray} {j : Nat} (h0 : (Decidable.decide ((j : Int) < (b.data.toList.length : Int))) = true) (h1 : ((j : Int) == (a.data.toList.length : Int)) = false) (h2 : (Decidable.decide (0 ≤ (j : Int) ∧ (j : Int) < (a.data.toList.length : Int))) = true) (h3 : (Decidable.decide (0 ≤ (j : Int) ∧ (j : Int) < (b.data.toList.length : Int))) = true) (h4 : ((((a.data.toList.getD ((j : Int)).toNat 0).toNat : Nat) : Int) != (((b.data.toList.getD ((j : Int)).toNat 0).toNat : Nat) : Int)) = false)   :
    Sx.Goes Tryz.prog 0 0 0 [] bec (beT a b j) [] (mkT 30 0 [(0, .string a), (1, .string b), (5, .int .i64 (IntKind.i64.wrap ((j : Int) + 1)))]) :=
  goes_of mixed noC_gives.holds [] [] (d := [(0, .br true), (1, .br false), (2, .br true), (3, .br true), (4, .br false)]) (n := 600) (c2 := 0) (L' := []) (L := [.b (((((a.data.toList.getD ((j : Int)).toNat 0).toNat : Nat) : Int) != (((b.data.toList.getD ((j : Int)).toNat 0).toNat : Nat) : Int)) == false), .b (Decidable.decide (0 ≤ (j : Int) ∧ (j : Int) < (b.data.toList.length : Int))), .b (Decidable.decide (0 ≤ (j : Int) ∧ (j : Int) < (a.data.toList.length : Int))), .b (((j : Int) == (a.data.toList.length : Int)) == false), .b ((Decidable.decide ((j : Int) < (b.data.toList.length : Int))) == true)]) (by kernel_rfl) rfl rfl (vcs_nil)
    (by
      refine vcs_cons (vc_b h4) ?_
      refine vcs_cons (vc_c h3) ?_
      refine vcs_cons (vc_c h2) ?_
      refine vcs_cons (vc_b h1) ?_
      refine vcs_cons (vc_b h0) ?_
      exact vcs_nil)
set_option maxRecDepth 100000 in
theorem b_t {a b : ByteArray} {j : Nat} (h0 : (Decidable.decide ((j : Int) < (b.data.toList.length : Int))) = true) (h1 : ((j : Int) == (a.data.toList.length : Int)) = true)   :
    Sx.Ends Tryz.prog 0 0 0 [] bec (beT a b j) .ret [] (mkT 30 0 [(4, .bool true)]) :=
  ends_of mixed noC_gives.holds [] [] (d := [(0, .br true), (1, .br true)]) (n := 600) (c2 := 0) (L' := []) (L := [.b (((j : Int) == (a.data.toList.length : Int)) == true), .b ((Decidable.decide ((j : Int) < (b.data.toList.length : Int))) == true)]) (by kernel_rfl) rfl rfl (vcs_nil)
    (by
      refine vcs_cons (vc_b h1) ?_
      refine vcs_cons (vc_b h0) ?_
      exact vcs_nil)
set_option maxRecDepth 100000 in
theorem b_d {a b : ByteArray} {j : Nat} (h0 : (Decidable.decide ((j : Int) < (b.data.toList.length : Int))) = true) (h1 : ((j : Int) == (a.data.toList.length : Int)) = false) (h2 : (Decidable.decide (0 ≤ (j : Int) ∧ (j : Int) < (a.data.toList.length : Int))) = true) (h3 : (Decidable.decide (0 ≤ (j : Int) ∧ (j : Int) < (b.data.toList.length : Int))) = true) (h4 : ((((a.data.toList.getD ((j : Int)).toNat 0).toNat : Nat) : Int) != (((b.data.toList.getD ((j : Int)).toNat 0).toNat : Nat) : Int)) = true)   :
    Sx.Ends Tryz.prog 0 0 0 [] bec (beT a b j) .ret [] (mkT 30 0 [(4, .bool (Decidable.decide ((((a.data.toList.getD ((j : Int)).toNat 0).toNat : Nat) : Int) < (((b.data.toList.getD ((j : Int)).toNat 0).toNat : Nat) : Int))))]) :=
  ends_of mixed noC_gives.holds [] [] (d := [(0, .br true), (1, .br false), (2, .br true), (3, .br true), (4, .br true), (5, .br true), (6, .br true)]) (n := 600) (c2 := 0) (L' := []) (L := [.b (Decidable.decide (0 ≤ (j : Int) ∧ (j : Int) < (b.data.toList.length : Int))), .b (Decidable.decide (0 ≤ (j : Int) ∧ (j : Int) < (a.data.toList.length : Int))), .b (((((a.data.toList.getD ((j : Int)).toNat 0).toNat : Nat) : Int) != (((b.data.toList.getD ((j : Int)).toNat 0).toNat : Nat) : Int)) == true), .b (Decidable.decide (0 ≤ (j : Int) ∧ (j : Int) < (b.data.toList.length : Int))), .b (Decidable.decide (0 ≤ (j : Int) ∧ (j : Int) < (a.data.toList.length : Int))), .b (((j : Int) == (a.data.toList.length : Int)) == false), .b ((Decidable.decide ((j : Int) < (b.data.toList.length : Int))) == true)]) (by kernel_rfl) rfl rfl (vcs_nil)
    (by
      refine vcs_cons (vc_c h3) ?_
      refine vcs_cons (vc_c h2) ?_
      refine vcs_cons (vc_b h4) ?_
      refine vcs_cons (vc_c h3) ?_
      refine vcs_cons (vc_c h2) ?_
      refine vcs_cons (vc_b h1) ?_
      refine vcs_cons (vc_b h0) ?_
      exact vcs_nil)
set_option maxRecDepth 100000 in
theorem b_e {a b : ByteArray} {j : Nat} (h0 : (Decidable.decide ((j : Int) < (b.data.toList.length : Int))) = false)   :
    Sx.Ends Tryz.prog 0 0 0 [] bec (beT a b j) (.exit 0) [] (mkT 30 0 []) :=
  ends_of mixed noC_gives.holds [] [] (d := [(0, .br false)]) (n := 600) (c2 := 0) (L' := []) (L := [.b ((Decidable.decide ((j : Int) < (b.data.toList.length : Int))) == false)]) (by kernel_rfl) rfl rfl (vcs_nil)
    (by
      refine vcs_cons (vc_b h0) ?_
      exact vcs_nil)
set_option maxRecDepth 100000 in
theorem be_e {a b : ByteArray} (hl : Does Tryz.prog 0 [] 0 [] (.inLoop bec (beT a b 0)) (.out (.exit 0) (mkT 30 0 []))) : Gives Tryz.prog 31 [.string a, .string b] (.bool false) := by
  obtain ⟨c1, h1, hd, _⟩ := vFar_does (n := 600) (t := .call 31 [.string a, .string b]) (d := [(0, .loop [0, 1, 5] [] 0 [] (.exit 0) (mkT 30 0 []))]) (c := 0) (h := []) (v := (.bool false)) (x := none) (L := [.p (Does Tryz.prog 0 [] 0 [] (.inLoop bec (beT a b 0)) (.out (.exit 0) (mkT 30 0 [])))]) mixed noC_gives.holds (by kernel_rfl)
    (by
      refine vcs_cons (hl) ?_
      exact vcs_nil)
  exact gives_of_does hd rfl rfl
set_option maxRecDepth 100000 in
theorem be_r {a b : ByteArray} {x : Bool} (hl : Does Tryz.prog 0 [] 0 [] (.inLoop bec (beT a b 0)) (.out .ret (mkT 30 0 [(4, .bool x)]))) : Gives Tryz.prog 31 [.string a, .string b] (.bool x) := by
  obtain ⟨c1, h1, hd, _⟩ := vFar_does (n := 600) (t := .call 31 [.string a, .string b]) (d := [(0, .loop [0, 1, 5] [] 0 [] .ret (mkT 30 0 [(4, .bool x)]))]) (c := 0) (h := []) (v := (.bool x)) (x := none) (L := [.p (Does Tryz.prog 0 [] 0 [] (.inLoop bec (beT a b 0)) (.out .ret (mkT 30 0 [(4, .bool x)])))]) mixed noC_gives.holds (by kernel_rfl)
    (by
      refine vcs_cons (hl) ?_
      exact vcs_nil)
  exact gives_of_does hd rfl rfl
def befL : List UInt8 → List UInt8 → Bool
  | _, [] => false
  | [], _ :: _ => true
  | x :: xs, y :: ys => if x = y then befL xs ys else decide (x < y)
def befB (a b : ByteArray) : Bool := befL a.data.toList b.data.toList
theorem bef_mid {a b : ByteArray} (hs : (a.data.toList.length : Int) < 4294967296) {h0 : Heap} : ∀ (k j : Nat), j + k = b.data.toList.length → j ≤ a.data.toList.length →
    (befL (a.data.toList.drop j) (b.data.toList.drop j) = false ∧ Mid Tryz.prog 0 h0 0 [] 0 [] bec (beT a b j) (.exit 0) (mkT 30 0 [])) ∨
    Mid Tryz.prog 0 h0 0 [] 0 [] bec (beT a b j) .ret (mkT 30 0 [(4, .bool (befL (a.data.toList.drop j) (b.data.toList.drop j)))]) := by
  intro k
  induction k with
  | zero =>
    intro j hj ha
    left
    rw [List.drop_of_length_le (l := b.data.toList) (by omega)]
    exact ⟨by cases a.data.toList.drop j <;> rfl, (b_e (decide_eq_false (by omega))).mid (by simp) (by decide)⟩
  | succ k ih =>
    intro j hj ha
    have hl : j < b.data.toList.length := by omega
    have b0 : Decidable.decide ((j : Int) < (b.data.toList.length : Int)) = true := decide_eq_true (by omega)
    by_cases e : j = a.data.toList.length
    · right
      rw [List.drop_of_length_le (l := a.data.toList) (by omega), drop_at hl]
      exact (b_t b0 (beq_iff_eq.2 (by omega))).mid (by simp) (by decide)
    · have b1 : ((j : Int) == (a.data.toList.length : Int)) = false := beq_eq_false_iff_ne.2 (by omega)
      have b2 : Decidable.decide (0 ≤ (j : Int) ∧ (j : Int) < (a.data.toList.length : Int)) = true := decide_eq_true (by omega)
      have b3 : Decidable.decide (0 ≤ (j : Int) ∧ (j : Int) < (b.data.toList.length : Int)) = true := decide_eq_true (by omega)
      rw [drop_at hl, drop_at (l := a.data.toList) (by omega)]
      by_cases hx : a.data.toList.getD j 0 = b.data.toList.getD j 0
      · have g := b_s (a := a) (b := b) (j := j) b0 b1 b2 b3 (by rw [Int.toNat_natCast, hx]; simp)
        rw [wrap64 (by omega) (by omega)] at g
        simp only [befL, hx, if_true]
        rcases ih (j + 1) (by omega) (by omega) with ⟨q1, q2⟩ | q
        · exact .inl ⟨q1, g.mid (by decide) (by decide) q2⟩
        · exact .inr (g.mid (by decide) (by decide) q)
      · right
        simp only [befL, hx, if_false]
        have hne : ((((a.data.toList.getD ((j : Int)).toNat 0).toNat : Nat) : Int) != (((b.data.toList.getD ((j : Int)).toNat 0).toNat : Nat) : Int)) = true := by
          rw [Int.toNat_natCast, bne_iff_ne]
          exact fun q => hx (UInt8.toNat_inj.1 (Int.ofNat_inj.1 q))
        have g := b_d (a := a) (b := b) (j := j) b0 b1 b2 b3 hne
        rw [Int.toNat_natCast, show Decidable.decide ((((a.data.toList.getD j 0).toNat : Nat) : Int) < (((b.data.toList.getD j 0).toNat : Nat) : Int)) = decide (a.data.toList.getD j 0 < b.data.toList.getD j 0) by rw [decide_eq_decide, UInt8.lt_iff_toNat_lt]; omega] at g
        exact g.mid (by simp) (by decide)
theorem bef_gives (a b : ByteArray) (hs : (a.data.toList.length : Int) < 4294967296) : Gives Tryz.prog 31 [.string a, .string b] (.bool (befB a b)) := by
  rcases bef_mid (a := a) (b := b) hs (h0 := []) b.data.toList.length 0 (by omega) (by omega) with ⟨q1, q2⟩ | q
  · rw [List.drop_zero, List.drop_zero] at q1
    rw [show befB a b = false from q1]
    exact be_e (does_of_mid0 (by decide) q2)
  · rw [List.drop_zero, List.drop_zero] at q
    exact be_r (does_of_mid0 (by decide) q)
end Go.Proofs.YtkmicbhnfochjaaGreatDoor

namespace Go.Proofs.YtkmicbhnfochjaaGreatDoor
open Go Go.Sx Go.Eng
theorem bef_com : ∀ x y : List UInt8, befL x y = if comN x y = y.length then false else if comN x y = x.length then true else decide (x.getD (comN x y) 0 < y.getD (comN x y) 0)
  | [], [] => rfl
  | _ :: _, [] => rfl
  | [], _ :: _ => rfl
  | a :: x, b :: y => by
    by_cases h : a = b
    · subst h
      have ih := bef_com x y
      simp only [befL, comN, if_true, List.length_cons, Nat.add_right_cancel_iff, List.getD_cons_succ]
      exact ih
    · simp only [befL, comN, if_neg h, List.length_cons, List.getD_cons_zero]
      rw [if_neg (by omega), if_neg (by omega)]
theorem bef_cmp (a b : ByteArray) : befB a b = decide (cmpB a b < 0) := by
  unfold befB cmpB
  rw [bef_com]
  have h0 : comB a b = (comN a.data.toList b.data.toList : Int) := rfl
  rw [h0]
  by_cases e2 : comN a.data.toList b.data.toList = b.data.toList.length
  · rw [if_pos e2, decide_eq_true (p := (comN a.data.toList b.data.toList : Int) = (b.data.toList.length : Int)) (by omega)]
    by_cases e1 : comN a.data.toList b.data.toList = a.data.toList.length
    · rw [decide_eq_true (p := (comN a.data.toList b.data.toList : Int) = (a.data.toList.length : Int)) (by omega)]
      rfl
    · rw [decide_eq_false (p := (comN a.data.toList b.data.toList : Int) = (a.data.toList.length : Int)) (by omega)]
      rfl
  · rw [if_neg e2, decide_eq_false (p := (comN a.data.toList b.data.toList : Int) = (b.data.toList.length : Int)) (by omega)]
    by_cases e1 : comN a.data.toList b.data.toList = a.data.toList.length
    · rw [if_pos e1, decide_eq_true (p := (comN a.data.toList b.data.toList : Int) = (a.data.toList.length : Int)) (by omega)]
      rfl
    · rw [if_neg e1, decide_eq_false (p := (comN a.data.toList b.data.toList : Int) = (a.data.toList.length : Int)) (by omega), Int.toNat_natCast]
      by_cases e3 : a.data.toList.getD (comN a.data.toList b.data.toList) 0 < b.data.toList.getD (comN a.data.toList b.data.toList) 0
      · have e4 := UInt8.lt_iff_toNat_lt.1 e3
        rw [decide_eq_true e3, decide_eq_true (p := ((((a.data.toList.getD (comN a.data.toList b.data.toList) 0).toNat : Nat) : Int)) < (((b.data.toList.getD (comN a.data.toList b.data.toList) 0).toNat : Nat) : Int)) (by omega)]
        rfl
      · have e4 : ¬ (a.data.toList.getD (comN a.data.toList b.data.toList) 0).toNat < (b.data.toList.getD (comN a.data.toList b.data.toList) 0).toNat := fun q => e3 (UInt8.lt_iff_toNat_lt.2 q)
        rw [decide_eq_false e3, decide_eq_false (p := ((((a.data.toList.getD (comN a.data.toList b.data.toList) 0).toNat : Nat) : Int)) < (((b.data.toList.getD (comN a.data.toList b.data.toList) 0).toNat : Nat) : Int)) (by omega)]
        rfl
end Go.Proofs.YtkmicbhnfochjaaGreatDoor

namespace Go.Proofs.YtkmicbhnfochjaaGreatDoor
open Go Go.Sx Go.Eng
set_option maxRecDepth 100000 in
theorem fits_ways_w0 {p k : ByteArray} {t : Int} (h0 : (p.data.toList.length.ble (4294967295 : Nat)) = true) (h1 : (strEq k { data := #[(116 : UInt8)] }) = true) (h2 : (numO p) = true) : Gives Tryz.prog 30 [.string p, .string k, .int .i64 t] (.bool (Decidable.decide (numN p < t))) := by
  obtain ⟨_, _, hd, _⟩ := vFar_does (n := 600) (t := .call 30 [.string p, .string k, .int .i64 t]) (d := [(0, .br true), (1, .br true), (2, .br true), (3, .br true), (4, .br true), (5, .br true)]) (c := 0) (h := []) (v := .bool (Decidable.decide (numN p < t))) (x := none) (L := [.b ((numO p) == true), .b ((numO p) == true), .b ((numO p) == true), .b ((numO p) == true), .b ((strEq k { data := #[(116 : UInt8)] }) == true), .b (p.data.toList.length.ble (4294967295 : Nat))]) mixed conE1_holds (by kernel_rfl) (vcs_cons (vc_b h2) (vcs_cons (vc_b h2) (vcs_cons (vc_b h2) (vcs_cons (vc_b h2) (vcs_cons (vc_b h1) (vcs_cons (vc_c h0) vcs_nil))))))
  exact gives_of_does hd rfl rfl
set_option maxRecDepth 100000 in
theorem fits_ways_w1 {p k : ByteArray} {t : Int} (h0 : (p.data.toList.length.ble (4294967295 : Nat)) = true) (h1 : (strEq k { data := #[(116 : UInt8)] }) = true) (h2 : (numO p) = false) : Gives Tryz.prog 30 [.string p, .string k, .int .i64 t] (.bool false) := by
  obtain ⟨_, _, hd, _⟩ := vFar_does (n := 600) (t := .call 30 [.string p, .string k, .int .i64 t]) (d := [(0, .br true), (1, .br true), (2, .br false), (3, .br false), (4, .br false), (5, .br false)]) (c := 0) (h := []) (v := .bool false) (x := none) (L := [.b ((numO p) == false), .b ((numO p) == false), .b ((numO p) == false), .b ((numO p) == false), .b ((strEq k { data := #[(116 : UInt8)] }) == true), .b (p.data.toList.length.ble (4294967295 : Nat))]) mixed conE1_holds (by kernel_rfl) (vcs_cons (vc_b h2) (vcs_cons (vc_b h2) (vcs_cons (vc_b h2) (vcs_cons (vc_b h2) (vcs_cons (vc_b h1) (vcs_cons (vc_c h0) vcs_nil))))))
  exact gives_of_does hd rfl rfl
set_option maxRecDepth 100000 in
theorem fits_ways_w2 {p k : ByteArray} {t : Int} (h0 : (p.data.toList.length.ble (4294967295 : Nat)) = true) (h1 : (strEq k { data := #[(116 : UInt8)] }) = false) (h2 : (strEq k { data := #[(120 : UInt8)] }) = true) (h3 : (numO p) = true) : Gives Tryz.prog 30 [.string p, .string k, .int .i64 t] (.bool (Decidable.decide (numN p ≤ (16384 : Int)))) := by
  obtain ⟨_, _, hd, _⟩ := vFar_does (n := 600) (t := .call 30 [.string p, .string k, .int .i64 t]) (d := [(0, .br true), (1, .br false), (2, .br true), (3, .br true), (4, .br true), (5, .br true)]) (c := 0) (h := []) (v := .bool (Decidable.decide (numN p ≤ (16384 : Int)))) (x := none) (L := [.b ((numO p) == true), .b ((numO p) == true), .b ((numO p) == true), .b ((strEq k { data := #[(120 : UInt8)] }) == true), .b ((strEq k { data := #[(116 : UInt8)] }) == false), .b (p.data.toList.length.ble (4294967295 : Nat))]) mixed conE1_holds (by kernel_rfl) (vcs_cons (vc_b h3) (vcs_cons (vc_b h3) (vcs_cons (vc_b h3) (vcs_cons (vc_b h2) (vcs_cons (vc_b h1) (vcs_cons (vc_c h0) vcs_nil))))))
  exact gives_of_does hd rfl rfl
set_option maxRecDepth 100000 in
theorem fits_ways_w3 {p k : ByteArray} {t : Int} (h0 : (p.data.toList.length.ble (4294967295 : Nat)) = true) (h1 : (strEq k { data := #[(116 : UInt8)] }) = false) (h2 : (strEq k { data := #[(120 : UInt8)] }) = true) (h3 : (numO p) = false) : Gives Tryz.prog 30 [.string p, .string k, .int .i64 t] (.bool false) := by
  obtain ⟨_, _, hd, _⟩ := vFar_does (n := 600) (t := .call 30 [.string p, .string k, .int .i64 t]) (d := [(0, .br true), (1, .br false), (2, .br true), (3, .br false), (4, .br false), (5, .br false)]) (c := 0) (h := []) (v := .bool false) (x := none) (L := [.b ((numO p) == false), .b ((numO p) == false), .b ((numO p) == false), .b ((strEq k { data := #[(120 : UInt8)] }) == true), .b ((strEq k { data := #[(116 : UInt8)] }) == false), .b (p.data.toList.length.ble (4294967295 : Nat))]) mixed conE1_holds (by kernel_rfl) (vcs_cons (vc_b h3) (vcs_cons (vc_b h3) (vcs_cons (vc_b h3) (vcs_cons (vc_b h2) (vcs_cons (vc_b h1) (vcs_cons (vc_c h0) vcs_nil))))))
  exact gives_of_does hd rfl rfl
set_option maxRecDepth 100000 in
theorem fits_ways_w4 {p k : ByteArray} {t : Int} (h0 : (p.data.toList.length.ble (4294967295 : Nat)) = true) (h1 : (strEq k { data := #[(116 : UInt8)] }) = false) (h2 : (strEq k { data := #[(120 : UInt8)] }) = false) (h3 : (strEq k { data := #[(119 : UInt8)] }) = true) : Gives Tryz.prog 30 [.string p, .string k, .int .i64 t] (.bool (wordB p)) := by
  obtain ⟨_, _, hd, _⟩ := vFar_does (n := 600) (t := .call 30 [.string p, .string k, .int .i64 t]) (d := [(0, .br true), (1, .br false), (2, .br false), (3, .br true), (4, .br true)]) (c := 0) (h := []) (v := .bool (wordB p)) (x := none) (L := [.b (p.data.toList.length.ble (4294967295 : Nat)), .b ((strEq k { data := #[(119 : UInt8)] }) == true), .b ((strEq k { data := #[(120 : UInt8)] }) == false), .b ((strEq k { data := #[(116 : UInt8)] }) == false), .b (p.data.toList.length.ble (4294967295 : Nat))]) mixed conE1_holds (by kernel_rfl) (vcs_cons (vc_c h0) (vcs_cons (vc_b h3) (vcs_cons (vc_b h2) (vcs_cons (vc_b h1) (vcs_cons (vc_c h0) vcs_nil)))))
  exact gives_of_does hd rfl rfl
set_option maxRecDepth 100000 in
theorem fits_ways_w5 {p k : ByteArray} {t : Int} (h0 : (p.data.toList.length.ble (4294967295 : Nat)) = true) (h1 : (strEq k { data := #[(116 : UInt8)] }) = false) (h2 : (strEq k { data := #[(120 : UInt8)] }) = false) (h3 : (strEq k { data := #[(119 : UInt8)] }) = false) (h4 : (strEq k { data := #[(118 : UInt8)] }) = true) (h5 : (strEq p { data := #[(45 : UInt8)] }) = true) : Gives Tryz.prog 30 [.string p, .string k, .int .i64 t] (.bool true) := by
  obtain ⟨_, _, hd, _⟩ := vFar_does (n := 600) (t := .call 30 [.string p, .string k, .int .i64 t]) (d := [(0, .br true), (1, .br false), (2, .br false), (3, .br false), (4, .br true), (5, .br true), (6, .br true), (7, .br true)]) (c := 0) (h := []) (v := .bool true) (x := none) (L := [.b ((strEq p { data := #[(45 : UInt8)] }) == true), .b ((strEq p { data := #[(45 : UInt8)] }) == true), .b ((strEq p { data := #[(45 : UInt8)] }) == true), .b ((strEq k { data := #[(118 : UInt8)] }) == true), .b ((strEq k { data := #[(119 : UInt8)] }) == false), .b ((strEq k { data := #[(120 : UInt8)] }) == false), .b ((strEq k { data := #[(116 : UInt8)] }) == false), .b (p.data.toList.length.ble (4294967295 : Nat))]) mixed conE1_holds (by kernel_rfl) (vcs_cons (vc_b h5) (vcs_cons (vc_b h5) (vcs_cons (vc_b h5) (vcs_cons (vc_b h4) (vcs_cons (vc_b h3) (vcs_cons (vc_b h2) (vcs_cons (vc_b h1) (vcs_cons (vc_c h0) vcs_nil))))))))
  exact gives_of_does hd rfl rfl
set_option maxRecDepth 100000 in
theorem fits_ways_w6 {p k : ByteArray} {t : Int} (h0 : (p.data.toList.length.ble (4294967295 : Nat)) = true) (h1 : (strEq k { data := #[(116 : UInt8)] }) = false) (h2 : (strEq k { data := #[(120 : UInt8)] }) = false) (h3 : (strEq k { data := #[(119 : UInt8)] }) = false) (h4 : (strEq k { data := #[(118 : UInt8)] }) = true) (h5 : (strEq p { data := #[(45 : UInt8)] }) = false) : Gives Tryz.prog 30 [.string p, .string k, .int .i64 t] (.bool (wordB p)) := by
  obtain ⟨_, _, hd, _⟩ := vFar_does (n := 600) (t := .call 30 [.string p, .string k, .int .i64 t]) (d := [(0, .br true), (1, .br false), (2, .br false), (3, .br false), (4, .br true), (5, .br false), (6, .br false), (7, .br true), (8, .br false)]) (c := 0) (h := []) (v := .bool (wordB p)) (x := none) (L := [.b ((strEq p { data := #[(45 : UInt8)] }) == false), .b (p.data.toList.length.ble (4294967295 : Nat)), .b ((strEq p { data := #[(45 : UInt8)] }) == false), .b ((strEq p { data := #[(45 : UInt8)] }) == false), .b ((strEq k { data := #[(118 : UInt8)] }) == true), .b ((strEq k { data := #[(119 : UInt8)] }) == false), .b ((strEq k { data := #[(120 : UInt8)] }) == false), .b ((strEq k { data := #[(116 : UInt8)] }) == false), .b (p.data.toList.length.ble (4294967295 : Nat))]) mixed conE1_holds (by kernel_rfl) (vcs_cons (vc_b h5) (vcs_cons (vc_c h0) (vcs_cons (vc_b h5) (vcs_cons (vc_b h5) (vcs_cons (vc_b h4) (vcs_cons (vc_b h3) (vcs_cons (vc_b h2) (vcs_cons (vc_b h1) (vcs_cons (vc_c h0) vcs_nil)))))))))
  exact gives_of_does hd rfl rfl
set_option maxRecDepth 100000 in
theorem fits_ways_w7 {p k : ByteArray} {t : Int} (h0 : (p.data.toList.length.ble (4294967295 : Nat)) = true) (h1 : (strEq k { data := #[(116 : UInt8)] }) = false) (h2 : (strEq k { data := #[(120 : UInt8)] }) = false) (h3 : (strEq k { data := #[(119 : UInt8)] }) = false) (h4 : (strEq k { data := #[(118 : UInt8)] }) = false) : Gives Tryz.prog 30 [.string p, .string k, .int .i64 t] (.bool (strEq p k)) := by
  obtain ⟨_, _, hd, _⟩ := vFar_does (n := 600) (t := .call 30 [.string p, .string k, .int .i64 t]) (d := [(0, .br true), (1, .br false), (2, .br false), (3, .br false), (4, .br false)]) (c := 0) (h := []) (v := .bool (strEq p k)) (x := none) (L := [.b ((strEq k { data := #[(118 : UInt8)] }) == false), .b ((strEq k { data := #[(119 : UInt8)] }) == false), .b ((strEq k { data := #[(120 : UInt8)] }) == false), .b ((strEq k { data := #[(116 : UInt8)] }) == false), .b (p.data.toList.length.ble (4294967295 : Nat))]) mixed conE1_holds (by kernel_rfl) (vcs_cons (vc_b h4) (vcs_cons (vc_b h3) (vcs_cons (vc_b h2) (vcs_cons (vc_b h1) (vcs_cons (vc_c h0) vcs_nil)))))
  exact gives_of_does hd rfl rfl
theorem fits_ways (p k : ByteArray) (t : Int) (hp : (p.data.toList.length.ble (4294967295 : Nat)) = true) : Gives Tryz.prog 30 [.string p, .string k, .int .i64 t] ((bif (strEq k { data := #[(116 : UInt8)] }) then ((bif (numO p) then (.bool (Decidable.decide (numN p < t))) else (.bool false))) else ((bif (strEq k { data := #[(120 : UInt8)] }) then ((bif (numO p) then (.bool (Decidable.decide (numN p ≤ (16384 : Int)))) else (.bool false))) else ((bif (strEq k { data := #[(119 : UInt8)] }) then (.bool (wordB p)) else ((bif (strEq k { data := #[(118 : UInt8)] }) then ((bif (strEq p { data := #[(45 : UInt8)] }) then (.bool true) else (.bool (wordB p)))) else (.bool (strEq p k)))))))))) := by
  have q0 : (p.data.toList.length.ble (4294967295 : Nat)) = true := hp
  cases q1 : (strEq k { data := #[(116 : UInt8)] }) with
  | false =>
    cases q2 : (strEq k { data := #[(120 : UInt8)] }) with
    | false =>
      cases q3 : (strEq k { data := #[(119 : UInt8)] }) with
      | false =>
        cases q4 : (strEq k { data := #[(118 : UInt8)] }) with
        | false =>
          exact fits_ways_w7 q0 q1 q2 q3 q4
        | true =>
          cases q5 : (strEq p { data := #[(45 : UInt8)] }) with
          | false =>
            exact fits_ways_w6 q0 q1 q2 q3 q4 q5
          | true =>
            exact fits_ways_w5 q0 q1 q2 q3 q4 q5
      | true =>
        exact fits_ways_w4 q0 q1 q2 q3
    | true =>
      cases q3 : (numO p) with
      | false =>
        exact fits_ways_w3 q0 q1 q2 q3
      | true =>
        exact fits_ways_w2 q0 q1 q2 q3
  | true =>
    cases q2 : (numO p) with
    | false =>
      exact fits_ways_w1 q0 q1 q2
    | true =>
      exact fits_ways_w0 q0 q1 q2

theorem strEq_dec (a b : ByteArray) : strEq a b = decide (a = b) := by
  unfold strEq
  rw [bytesEq_iff]
  by_cases h : a = b
  · subst h; simp
  · rw [decide_eq_false h, beq_eq_false_iff_ne]
    intro e
    obtain ⟨⟨a⟩⟩ := a
    obtain ⟨⟨b⟩⟩ := b
    exact h (by simpa using e)
theorem fits_gives (p k : ByteArray) (t : Int) (hp : p.data.toList.length ≤ 4294967295) : Gives Tryz.prog 30 [.string p, .string k, .int .i64 t] (.bool (fitsB t p k)) := by
  have h := fits_ways p k t (Nat.ble_eq_true_of_le hp)
  simp only [strEq_dec] at h
  change Gives Tryz.prog 30 [.string p, .string k, .int .i64 t] (bif decide (k = k_t) then (bif numO p then _ else _) else bif decide (k = k_x) then (bif numO p then _ else _) else bif decide (k = k_w) then _ else bif decide (k = k_v) then (bif decide (p = s_dash) then _ else _) else _) at h
  unfold fitsB
  by_cases h1 : k = k_t
  · rw [if_pos h1]
    rw [decide_eq_true h1] at h
    unfold thrB
    unfold numO numN at h
    cases e : numB p <;> simpa [e] using h
  · rw [if_neg h1]
    rw [decide_eq_false h1] at h
    by_cases h2 : k = k_x
    · rw [if_pos h2]
      rw [decide_eq_true h2] at h
      unfold timB
      unfold numO numN at h
      cases e : numB p <;> simpa [e] using h
    · rw [if_neg h2]
      rw [decide_eq_false h2] at h
      by_cases h3 : k = k_w
      · rw [if_pos h3]
        rw [decide_eq_true h3] at h
        exact h
      · rw [if_neg h3]
        rw [decide_eq_false h3] at h
        by_cases h4 : k = k_v
        · rw [if_pos h4]
          rw [decide_eq_true h4] at h
          unfold valB
          by_cases h5 : p = s_dash
          · rw [decide_eq_true h5] at h ⊢; exact h
          · rw [decide_eq_false h5] at h ⊢; exact h
        · rw [if_neg h4]
          rw [decide_eq_false h4] at h
          exact h
end Go.Proofs.YtkmicbhnfochjaaGreatDoor
