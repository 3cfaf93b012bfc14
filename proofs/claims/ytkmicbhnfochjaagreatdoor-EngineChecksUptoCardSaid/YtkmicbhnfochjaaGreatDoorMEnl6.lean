/- The document's Lines: rounds behind the limits. No condition. -/
import Derived.Test.YtkmicbhnfochjaaGreatDoorMLns2
import Derived.Test.YtkmicbhnfochjaaGreatDoorMEnl5

namespace Go.Proofs.YtkmicbhnfochjaaGreatDoor
open Go Go.Sx Go.Eng
set_option maxRecDepth 100000 in
theorem ln1_s0 {B : Nat} {w0 : World} {each : List ByteArray} {s : Nat} {b c d e g : Int} {m j : Nat} {ok : Bool} (h0 : (decide ((↑j : Int) < (↑each.length : Int))) = true) (h1 : (decide ((0 : Int) ≤ (↑j : Int) ∧ (↑j : Int) < (↑each.length : Int))) = true) (h2 : (strEq (each.getD j default) { data := #[] }) = true)  : Sx.Goes Tryz.prog 25 26 80 (lnH B w0 each (l6 s b c d e g) m) lnc (lnT each j) (lnH B w0 each (l6 s b c d e g) m) (mkT 94 0 [(2, .pointer (some ⟨1, 0, none⟩)), (6, .slice (some ⟨2, 0, none⟩) each.length 0), (7, .pointer (some ⟨3, 0, none⟩)), (8, .pointer (some ⟨4, 0, none⟩)), (9, .chan (some 25)), (10, .slice (some ⟨24, 0, none⟩) 19 0), (11, .int .i64 (IntKind.i64.wrap ((j : Int) + 1)))]) :=
  goes_of mixed conE5_holds [(25, 25)] [(0, false), (1, false), (2, true), (3, false), (4, false), (25, false), (5, false), (6, false), (7, false), (8, false), (9, false), (10, false), (11, false), (12, false), (13, false), (14, false), (15, false), (16, false), (17, false), (18, false), (19, false), (20, false), (21, false), (22, false), (23, false), (24, false)] (d := [(0, .br true), (1, .br true), (2, .cell (.tuple ⟨[Value.string (each.getD j default)]⟩)), (3, .br true), (4, .br true), (5, .br true), (6, .br true), (7, .br true), (8, .br true), (9, .br true)]) (n := 600) (c2 := 26) (L' := [.p (Cover (each.map Value.string) ((each.map Value.string).map (renV (nameOf [(25, 25)] 25 80) 9)))]) (L := [.b ((strEq (each.getD j default) { data := #[] }) == true), .b ((strEq (each.getD j default) { data := #[] }) == true), .b ((strEq (each.getD j default) { data := #[] }) == true), .b ((strEq (each.getD j default) { data := #[] }) == true), .b ((strEq (each.getD j default) { data := #[] }) == true), .b ((strEq (each.getD j default) { data := #[] }) == true), .b ((strEq (each.getD j default) { data := #[] }) == true), .p (List.take (1 : Nat) (List.drop ((0 : Nat) + j * (1 : Nat)) (List.map Value.string each)) = [Value.string (each.getD j default)] ∧ [Value.string (each.getD j default)].length = (1 : Nat)), .b (decide ((0 : Int) ≤ (↑j : Int) ∧ (↑j : Int) < (↑each.length : Int))), .b ((decide ((↑j : Int) < (↑each.length : Int))) == true)]) (by kernel_rfl) rfl rfl (vcs_cons cover_str vcs_nil) (vcs_cons (vc_b h2) (vcs_cons (vc_b h2) (vcs_cons (vc_b h2) (vcs_cons (vc_b h2) (vcs_cons (vc_b h2) (vcs_cons (vc_b h2) (vcs_cons (vc_b h2) (vcs_cons ((rd_map1 (by omega) (by simp only [decide_eq_true_eq, decide_eq_false_iff_not] at *; omega))) (vcs_cons (vc_c h1) (vcs_cons (vc_b h0) vcs_nil))))))))))
set_option maxRecDepth 100000 in
theorem ln1_s1 {B : Nat} {w0 : World} {each : List ByteArray} {s : Nat} {b c d e g : Int} {m j : Nat} {ok : Bool} (h0 : (decide ((↑j : Int) < (↑each.length : Int))) = true) (h1 : (decide ((0 : Int) ≤ (↑j : Int) ∧ (↑j : Int) < (↑each.length : Int))) = true) (h2 : (strEq (each.getD j default) { data := #[] }) = false) (h3 : (decide ((0 : Int) ≤ (0 : Int) ∧ (0 : Int) < (↑(each.getD j default).data.toList.length : Int))) = true) (h4 : ((↑((each.getD j default).data.toList.getD (0 : Nat) (0 : UInt8)).toNat : Int) == (35 : Int)) = true)  : Sx.Goes Tryz.prog 25 26 80 (lnH B w0 each (l6 s b c d e g) m) lnc (lnT each j) (lnH B w0 each (l6 s b c d e g) m) (mkT 94 0 [(2, .pointer (some ⟨1, 0, none⟩)), (6, .slice (some ⟨2, 0, none⟩) each.length 0), (7, .pointer (some ⟨3, 0, none⟩)), (8, .pointer (some ⟨4, 0, none⟩)), (9, .chan (some 25)), (10, .slice (some ⟨24, 0, none⟩) 19 0), (11, .int .i64 (IntKind.i64.wrap ((j : Int) + 1)))]) :=
  goes_of mixed conE5_holds [(25, 25)] [(0, false), (1, false), (2, true), (3, false), (4, false), (25, false), (5, false), (6, false), (7, false), (8, false), (9, false), (10, false), (11, false), (12, false), (13, false), (14, false), (15, false), (16, false), (17, false), (18, false), (19, false), (20, false), (21, false), (22, false), (23, false), (24, false)] (d := [(0, .br true), (1, .br true), (2, .cell (.tuple ⟨[Value.string (each.getD j default)]⟩)), (3, .br false), (4, .br false), (5, .br false), (6, .br true), (7, .br false), (8, .cell (.tuple ⟨[Value.string (each.getD j default)]⟩)), (9, .br false), (10, .br true), (11, .br false), (12, .br false), (13, .br true)]) (n := 600) (c2 := 26) (L' := [.p (Cover (each.map Value.string) ((each.map Value.string).map (renV (nameOf [(25, 25)] 25 80) 9)))]) (L := [.b (((↑((each.getD j default).data.toList.getD (0 : Nat) (0 : UInt8)).toNat : Int) == (35 : Int)) == true), .b ((strEq (each.getD j default) { data := #[] }) == false), .b ((strEq (each.getD j default) { data := #[] }) == false), .b (decide ((0 : Int) ≤ (0 : Int) ∧ (0 : Int) < (↑(each.getD j default).data.toList.length : Int))), .b ((strEq (each.getD j default) { data := #[] }) == false), .p (List.take (1 : Nat) (List.drop ((0 : Nat) + j * (1 : Nat)) (List.map Value.string each)) = [Value.string (each.getD j default)] ∧ [Value.string (each.getD j default)].length = (1 : Nat)), .b ((strEq (each.getD j default) { data := #[] }) == false), .b (decide ((0 : Int) ≤ (↑j : Int) ∧ (↑j : Int) < (↑each.length : Int))), .b ((strEq (each.getD j default) { data := #[] }) == false), .b ((strEq (each.getD j default) { data := #[] }) == false), .b ((strEq (each.getD j default) { data := #[] }) == false), .p (List.take (1 : Nat) (List.drop ((0 : Nat) + j * (1 : Nat)) (List.map Value.string each)) = [Value.string (each.getD j default)] ∧ [Value.string (each.getD j default)].length = (1 : Nat)), .b (decide ((0 : Int) ≤ (↑j : Int) ∧ (↑j : Int) < (↑each.length : Int))), .b ((decide ((↑j : Int) < (↑each.length : Int))) == true)]) (by kernel_rfl) rfl rfl (vcs_cons cover_str vcs_nil) (vcs_cons (vc_b h4) (vcs_cons (vc_b h2) (vcs_cons (vc_b h2) (vcs_cons (vc_c h3) (vcs_cons (vc_b h2) (vcs_cons ((rd_map1 (by omega) (by simp only [decide_eq_true_eq, decide_eq_false_iff_not] at *; omega))) (vcs_cons (vc_b h2) (vcs_cons (vc_c h1) (vcs_cons (vc_b h2) (vcs_cons (vc_b h2) (vcs_cons (vc_b h2) (vcs_cons ((rd_map1 (by omega) (by simp only [decide_eq_true_eq, decide_eq_false_iff_not] at *; omega))) (vcs_cons (vc_c h1) (vcs_cons (vc_b h0) vcs_nil))))))))))))))
set_option maxRecDepth 100000 in
theorem ln1_r {B : Nat} {w0 : World} {each : List ByteArray} {s : Nat} {b c d e g : Int} {m j : Nat} {ok : Bool} (h0 : (decide ((↑j : Int) < (↑each.length : Int))) = true) (h1 : (decide ((0 : Int) ≤ (↑j : Int) ∧ (↑j : Int) < (↑each.length : Int))) = true) (h2 : (strEq (each.getD j default) { data := #[] }) = false) (h3 : (decide ((0 : Int) ≤ (0 : Int) ∧ (0 : Int) < (↑(each.getD j default).data.toList.length : Int))) = true) (h4 : ((↑((each.getD j default).data.toList.getD (0 : Nat) (0 : UInt8)).toNat : Int) == (35 : Int)) = false) (h5 : ((each.getD j default).data.toList.length.ble (4294967280 : Nat) && Nat.ble 32 (255 : Nat)) = true) (h6 : (!ok) = true) (hg : StableAt glob B ∧ glob w0) (hl : Does Tryz.prog 27 (lkH (ct each j) s b c d e g) 27 (lkH (ct each j) s b c d e g) (.inLoop lkc (lkT each.length j (ct each j).length 0 false)) (.out (.exit 2) (lkT each.length j (ct each j).length 19 ok))) : Sx.Ends Tryz.prog 25 26 80 (lnH B w0 each (l6 s b c d e g) m) lnc (lnT each j) .ret [(0, .args B w0), (1, .cells z6 30)] (mkT 94 0 [(2, .pointer (some ⟨1, 0, none⟩)), (3, .slice none 0 0), (4, .int .i64 (IntKind.i64.wrap ((j : Int) + 1))), (5, .int .i64 14)]) :=
  ends_of mixed conE5_holds [] [(0, false), (1, false)] (d := [(0, .br true), (1, .br true), (2, .cell (.tuple ⟨[Value.string (each.getD j default)]⟩)), (3, .br false), (4, .br false), (5, .br false), (6, .br true), (7, .br false), (8, .cell (.tuple ⟨[Value.string (each.getD j default)]⟩)), (9, .br false), (10, .br true), (11, .br false), (12, .br false), (13, .br false), (14, .br true), (15, .cell (.tuple ⟨[Value.string (each.getD j default)]⟩)), (16, .br true), (20, .loop [2, 6, 7, 8, 9, 10, 11, 12, 13, 14] [4, 5, 6, 7, 8, 9, 10, 11, 12, 13, 14, 15, 16, 17, 18, 19, 20, 21, 22, 23, 24, 26] 27 (lkH (ct each j) s b c d e g) (.exit 2) (lkT each.length j (ct each j).length 19 ok)), (21, .br true)]) (n := 600) (c2 := 27) (L' := []) (L := [.b ((!ok) == true), .p (Does Tryz.prog 27 (lkH (ct each j) s b c d e g) 27 (lkH (ct each j) s b c d e g) (.inLoop lkc (lkT each.length j (ct each j).length 0 false)) (.out (.exit 2) (lkT each.length j (ct each j).length 19 ok))), .b ((each.getD j default).data.toList.length.ble (4294967280 : Nat) && Nat.ble 32 (255 : Nat)), .p (StableAt glob B ∧ glob w0), .p (List.take (1 : Nat) (List.drop ((0 : Nat) + j * (1 : Nat)) (List.map Value.string each)) = [Value.string (each.getD j default)] ∧ [Value.string (each.getD j default)].length = (1 : Nat)), .b (decide ((0 : Int) ≤ (↑j : Int) ∧ (↑j : Int) < (↑each.length : Int))), .b (((↑((each.getD j default).data.toList.getD (0 : Nat) (0 : UInt8)).toNat : Int) == (35 : Int)) == false), .b ((strEq (each.getD j default) { data := #[] }) == false), .b ((strEq (each.getD j default) { data := #[] }) == false), .b (decide ((0 : Int) ≤ (0 : Int) ∧ (0 : Int) < (↑(each.getD j default).data.toList.length : Int))), .b ((strEq (each.getD j default) { data := #[] }) == false), .p (List.take (1 : Nat) (List.drop ((0 : Nat) + j * (1 : Nat)) (List.map Value.string each)) = [Value.string (each.getD j default)] ∧ [Value.string (each.getD j default)].length = (1 : Nat)), .b ((strEq (each.getD j default) { data := #[] }) == false), .b (decide ((0 : Int) ≤ (↑j : Int) ∧ (↑j : Int) < (↑each.length : Int))), .b ((strEq (each.getD j default) { data := #[] }) == false), .b ((strEq (each.getD j default) { data := #[] }) == false), .b ((strEq (each.getD j default) { data := #[] }) == false), .p (List.take (1 : Nat) (List.drop ((0 : Nat) + j * (1 : Nat)) (List.map Value.string each)) = [Value.string (each.getD j default)] ∧ [Value.string (each.getD j default)].length = (1 : Nat)), .b (decide ((0 : Int) ≤ (↑j : Int) ∧ (↑j : Int) < (↑each.length : Int))), .b ((decide ((↑j : Int) < (↑each.length : Int))) == true)]) (by kernel_rfl) rfl rfl (vcs_nil) (vcs_cons (vc_b h6) (vcs_cons (hl) (vcs_cons (vc_c h5) (vcs_cons (hg) (vcs_cons ((rd_map1 (by omega) (by simp only [decide_eq_true_eq, decide_eq_false_iff_not] at *; omega))) (vcs_cons (vc_c h1) (vcs_cons (vc_b h4) (vcs_cons (vc_b h2) (vcs_cons (vc_b h2) (vcs_cons (vc_c h3) (vcs_cons (vc_b h2) (vcs_cons ((rd_map1 (by omega) (by simp only [decide_eq_true_eq, decide_eq_false_iff_not] at *; omega))) (vcs_cons (vc_b h2) (vcs_cons (vc_c h1) (vcs_cons (vc_b h2) (vcs_cons (vc_b h2) (vcs_cons (vc_b h2) (vcs_cons ((rd_map1 (by omega) (by simp only [decide_eq_true_eq, decide_eq_false_iff_not] at *; omega))) (vcs_cons (vc_c h1) (vcs_cons (vc_b h0) vcs_nil))))))))))))))))))))
set_option maxRecDepth 100000 in
theorem ln1_g {B : Nat} {w0 : World} {each : List ByteArray} {s : Nat} {b c d e g : Int} {m j : Nat} {ok : Bool} (h0 : (decide ((↑j : Int) < (↑each.length : Int))) = true) (h1 : (decide ((0 : Int) ≤ (↑j : Int) ∧ (↑j : Int) < (↑each.length : Int))) = true) (h2 : (strEq (each.getD j default) { data := #[] }) = false) (h3 : (decide ((0 : Int) ≤ (0 : Int) ∧ (0 : Int) < (↑(each.getD j default).data.toList.length : Int))) = true) (h4 : ((↑((each.getD j default).data.toList.getD (0 : Nat) (0 : UInt8)).toNat : Int) == (35 : Int)) = false) (h5 : ((each.getD j default).data.toList.length.ble (4294967280 : Nat) && Nat.ble 32 (255 : Nat)) = true) (h6 : (!ok) = false) (h7 : (bigOk (m + (1 : Nat)) (24 : Nat)) = true) (hg : StableAt glob B ∧ glob w0) (hl : Does Tryz.prog 27 (lkH (ct each j) s b c d e g) 27 (lkH (ct each j) s b c d e g) (.inLoop lkc (lkT each.length j (ct each j).length 0 false)) (.out (.exit 2) (lkT each.length j (ct each j).length 19 ok))) : Sx.Goes Tryz.prog 25 26 80 (lnH B w0 each (l6 s b c d e g) m) lnc (lnT each j) (lnH B w0 each (l6 s b c d e g) (m + 1)) (mkT 94 0 [(2, .pointer (some ⟨1, 0, none⟩)), (6, .slice (some ⟨2, 0, none⟩) each.length 0), (7, .pointer (some ⟨3, 0, none⟩)), (8, .pointer (some ⟨4, 0, none⟩)), (9, .chan (some 25)), (10, .slice (some ⟨24, 0, none⟩) 19 0), (11, .int .i64 (IntKind.i64.wrap ((j : Int) + 1)))]) :=
  goes_of mixed conE5_holds [(25, 28)] [(0, false), (1, false), (2, true), (3, false), (4, false), (28, false), (5, false), (6, false), (7, false), (8, false), (9, false), (10, false), (11, false), (12, false), (13, false), (14, false), (15, false), (16, false), (17, false), (18, false), (19, false), (20, false), (21, false), (22, false), (23, false), (24, false)] (d := [(0, .br true), (1, .br true), (2, .cell (.tuple ⟨[Value.string (each.getD j default)]⟩)), (3, .br false), (4, .br false), (5, .br false), (6, .br true), (7, .br false), (8, .cell (.tuple ⟨[Value.string (each.getD j default)]⟩)), (9, .br false), (10, .br true), (11, .br false), (12, .br false), (13, .br false), (14, .br true), (15, .cell (.tuple ⟨[Value.string (each.getD j default)]⟩)), (16, .br true), (20, .loop [2, 6, 7, 8, 9, 10, 11, 12, 13, 14] [4, 5, 6, 7, 8, 9, 10, 11, 12, 13, 14, 15, 16, 17, 18, 19, 20, 21, 22, 23, 24, 26] 27 (lkH (ct each j) s b c d e g) (.exit 2) (lkT each.length j (ct each j).length 19 ok)), (21, .br false), (23, .br true)]) (n := 600) (c2 := 29) (L' := [.p (Cover (each.map Value.string) ((each.map Value.string).map (renV (nameOf [(25, 28)] 25 80) 9)))]) (L := [.b (bigOk (m + (1 : Nat)) (24 : Nat)), .b ((!ok) == false), .p (Does Tryz.prog 27 (lkH (ct each j) s b c d e g) 27 (lkH (ct each j) s b c d e g) (.inLoop lkc (lkT each.length j (ct each j).length 0 false)) (.out (.exit 2) (lkT each.length j (ct each j).length 19 ok))), .b ((each.getD j default).data.toList.length.ble (4294967280 : Nat) && Nat.ble 32 (255 : Nat)), .p (StableAt glob B ∧ glob w0), .p (List.take (1 : Nat) (List.drop ((0 : Nat) + j * (1 : Nat)) (List.map Value.string each)) = [Value.string (each.getD j default)] ∧ [Value.string (each.getD j default)].length = (1 : Nat)), .b (decide ((0 : Int) ≤ (↑j : Int) ∧ (↑j : Int) < (↑each.length : Int))), .b (((↑((each.getD j default).data.toList.getD (0 : Nat) (0 : UInt8)).toNat : Int) == (35 : Int)) == false), .b ((strEq (each.getD j default) { data := #[] }) == false), .b ((strEq (each.getD j default) { data := #[] }) == false), .b (decide ((0 : Int) ≤ (0 : Int) ∧ (0 : Int) < (↑(each.getD j default).data.toList.length : Int))), .b ((strEq (each.getD j default) { data := #[] }) == false), .p (List.take (1 : Nat) (List.drop ((0 : Nat) + j * (1 : Nat)) (List.map Value.string each)) = [Value.string (each.getD j default)] ∧ [Value.string (each.getD j default)].length = (1 : Nat)), .b ((strEq (each.getD j default) { data := #[] }) == false), .b (decide ((0 : Int) ≤ (↑j : Int) ∧ (↑j : Int) < (↑each.length : Int))), .b ((strEq (each.getD j default) { data := #[] }) == false), .b ((strEq (each.getD j default) { data := #[] }) == false), .b ((strEq (each.getD j default) { data := #[] }) == false), .p (List.take (1 : Nat) (List.drop ((0 : Nat) + j * (1 : Nat)) (List.map Value.string each)) = [Value.string (each.getD j default)] ∧ [Value.string (each.getD j default)].length = (1 : Nat)), .b (decide ((0 : Int) ≤ (↑j : Int) ∧ (↑j : Int) < (↑each.length : Int))), .b ((decide ((↑j : Int) < (↑each.length : Int))) == true)]) (by kernel_rfl) rfl rfl (vcs_cons cover_str vcs_nil) (vcs_cons (vc_c h7) (vcs_cons (vc_b h6) (vcs_cons (hl) (vcs_cons (vc_c h5) (vcs_cons (hg) (vcs_cons ((rd_map1 (by omega) (by simp only [decide_eq_true_eq, decide_eq_false_iff_not] at *; omega))) (vcs_cons (vc_c h1) (vcs_cons (vc_b h4) (vcs_cons (vc_b h2) (vcs_cons (vc_b h2) (vcs_cons (vc_c h3) (vcs_cons (vc_b h2) (vcs_cons ((rd_map1 (by omega) (by simp only [decide_eq_true_eq, decide_eq_false_iff_not] at *; omega))) (vcs_cons (vc_b h2) (vcs_cons (vc_c h1) (vcs_cons (vc_b h2) (vcs_cons (vc_b h2) (vcs_cons (vc_b h2) (vcs_cons ((rd_map1 (by omega) (by simp only [decide_eq_true_eq, decide_eq_false_iff_not] at *; omega))) (vcs_cons (vc_c h1) (vcs_cons (vc_b h0) vcs_nil)))))))))))))))))))))
set_option maxRecDepth 100000 in
theorem ln1_e {B : Nat} {w0 : World} {each : List ByteArray} {s : Nat} {b c d e g : Int} {m j : Nat} {ok : Bool} (h0 : (decide ((↑j : Int) < (↑each.length : Int))) = false)  : Sx.Ends Tryz.prog 25 26 80 (lnH B w0 each (l6 s b c d e g) m) lnc (lnT each j) (.exit 0) [(0, .args B w0), (1, .cells z6 30), (4, .cells [.int .i64 (Int.ofNat (s + 1)), .int .i64 (b), .int .i64 (c), .int .i64 (d), .int .i64 (e), .int .i64 (g)] 30), (25, .bag 35 m)] (mkT 94 0 [(2, .pointer (some ⟨1, 0, none⟩)), (8, .pointer (some ⟨4, 0, none⟩)), (9, .chan (some 25))]) :=
  ends_of mixed conE5_holds [(25, 25)] [(0, false), (1, false), (4, false), (25, false)] (d := [(0, .br false)]) (n := 600) (c2 := 26) (L' := []) (L := [.b ((decide ((↑j : Int) < (↑each.length : Int))) == false)]) (by kernel_rfl) rfl rfl (vcs_nil) (vcs_cons (vc_b h0) vcs_nil)
end Go.Proofs.YtkmicbhnfochjaaGreatDoor

namespace Go.Proofs.YtkmicbhnfochjaaGreatDoor
open Go Go.Sx Go.Eng
def lnX (B : Nat) (w0 : World) (l : List Value) (m : Nat) : Heap := [(0, .args B w0), (1, .cells z6 30), (4, .cells l 30), (25, .bag 35 m)]
noncomputable def lnTX : List Value := mkT 94 0 [(2, .pointer (some ⟨1, 0, none⟩)), (8, .pointer (some ⟨4, 0, none⟩)), (9, .chan (some 25))]
def lnR (B : Nat) (w0 : World) : Heap := [(0, .args B w0), (1, .cells z6 30)]
noncomputable def lnTR (n : Nat) : List Value := mkT 94 0 [(2, .pointer (some ⟨1, 0, none⟩)), (3, .slice none 0 0), (4, .int .i64 n), (5, .int .i64 14)]
def lnE0 (each : List ByteArray) (j : Nat) : Prop := (each.getD j default).data.toList.length ≤ 4294967280 ∧ okP (ct each j) ∧ 1 ≤ (ct each j).length
theorem lnE0_ble {each : List ByteArray} {j : Nat} (h : lnE0 each j) : ((each.getD j default).data.toList.length.ble (4294967280 : Nat) && Nat.ble 32 (255 : Nat)) = true := by
  rw [Nat.ble_eq_true_of_le h.1]; rfl
theorem lns_mid1 {B : Nat} {w0 : World} {each : List ByteArray} (hg : StableAt glob B ∧ glob w0) (hE : each.length ≤ 1000) (hrow : ∀ j, lnE0 each j) {s : Nat} {b c d e g : Int} {h0 : Heap} : ∀ (k j m : Nat), j + k = each.length → m ≤ j →
    (linS (some c) (each.drop j) j = none ∧ ∃ m', Mid Tryz.prog 25 h0 26 (lnH B w0 each (l6 s b c d e g) m) 80 (lnX B w0 (l6 s b c d e g) m') lnc (lnT each j) (.exit 0) lnTX) ∨
    (∃ n, linS (some c) (each.drop j) j = some n ∧ Mid Tryz.prog 25 h0 26 (lnH B w0 each (l6 s b c d e g) m) 80 (lnR B w0) lnc (lnT each j) .ret (lnTR n)) := by
  intro k
  induction k with
  | zero =>
    intro j m hj hm
    left
    rw [List.drop_of_length_le (by omega)]
    exact ⟨rfl, m, (ln1_e (ok := false) (decide_eq_false (by omega))).mid (by simp) (by decide)⟩
  | succ k ih =>
    intro j m hj hm
    have hl : j < each.length := by omega
    have b0 : decide ((j : Int) < (each.length : Int)) = true := decide_eq_true (by omega)
    have b1 : decide ((0 : Int) ≤ (j : Int) ∧ (j : Int) < (each.length : Int)) = true := decide_eq_true (by omega)
    have b5 := lnE0_ble (hrow j)
    rw [drop_in hl]
    cases h2 : strEq (each.getD j default) { data := #[] } with
    | true =>
      rw [linS_skip (skip_nil h2)]
      have q0 := ln1_s0 (ok := false) (B := B) (w0 := w0) (m := m) (s := s) (b := b) (c := c) (d := d) (e := e) (g := g) b0 b1 h2
      rw [wrap64 (by omega) (by omega)] at q0
      rcases ih (j + 1) m (by omega) (by omega) with ⟨q1, m', q2⟩ | ⟨n, q1, q2⟩
      · exact .inl ⟨q1, m', q0.mid (by decide) (by decide) q2⟩
      · exact .inr ⟨n, q1, q0.mid (by decide) (by decide) q2⟩
    | false =>
      obtain ⟨hs1, hs2⟩ := skip_cons h2
      have b3 : decide ((0 : Int) ≤ (0 : Int) ∧ (0 : Int) < ((each.getD j default).data.toList.length : Int)) = true := decide_eq_true ⟨by omega, by omega⟩
      cases h4 : skipL (each.getD j default) with
      | true =>
        rw [h4] at hs2
        rw [linS_skip h4]
        have q0 := ln1_s1 (ok := false) (B := B) (w0 := w0) (m := m) (s := s) (b := b) (c := c) (d := d) (e := e) (g := g) b0 b1 h2 b3 hs2
        rw [wrap64 (by omega) (by omega)] at q0
        rcases ih (j + 1) m (by omega) (by omega) with ⟨q1, m', q2⟩ | ⟨n, q1, q2⟩
        · exact .inl ⟨q1, m', q0.mid (by decide) (by decide) q2⟩
        · exact .inr ⟨n, q1, q0.mid (by decide) (by decide) q2⟩
      | false =>
        rw [h4] at hs2
        have lk := lk_does (x := each.length) (j := j) (ps := ct each j) (hrow j).2 (s := s) (b := b) (c := c) (d := d) (e := e) (g := g)
        cases h6 : lineR befB c (ct each j) with
        | true =>
          rw [linS_line h4 h6]
          rw [h6] at lk
          have q0 := ln1_g (B := B) (w0 := w0) (m := m) b0 b1 h2 b3 hs2 b5 (ok := true) rfl (Nat.ble_eq_true_of_le (by omega)) hg lk
          rw [wrap64 (by omega) (by omega)] at q0
          rcases ih (j + 1) (m + 1) (by omega) (by omega) with ⟨q1, m', q2⟩ | ⟨n, q1, q2⟩
          · exact .inl ⟨q1, m', q0.mid (by decide) (by decide) q2⟩
          · exact .inr ⟨n, q1, q0.mid (by decide) (by decide) q2⟩
        | false =>
          rw [linS_noline h4 h6]
          rw [h6] at lk
          have q0 := ln1_r (B := B) (w0 := w0) (m := m) b0 b1 h2 b3 hs2 b5 (ok := false) rfl hg lk
          rw [wrap64 (by omega) (by omega)] at q0
          exact .inr ⟨_, rfl, q0.mid (by simp) (by decide)⟩
def x6 (l : List ByteArray) : List Value := [.int .i64 (linX 0 l), .int .i64 (linX 1 l), .int .i64 (linX 2 l), .int .i64 (linX 3 l), .int .i64 (linX 4 l), .int .i64 (linX 5 l)]
theorem x6_skip {x : ByteArray} {l : List ByteArray} (h : skipL x = true) : x6 (x :: l) = x6 l := by unfold x6; simp only [linX_skip h]
theorem x6_lim {x : ByteArray} {l : List ByteArray} (h : skipL x = false) : x6 (x :: l) = [.int .i64 (limI 0 (cut32 x)), .int .i64 (limI 1 (cut32 x)), .int .i64 (limI 2 (cut32 x)), .int .i64 (limI 3 (cut32 x)), .int .i64 (limI 4 (cut32 x)), .int .i64 (limI 5 (cut32 x))] := by unfold x6; simp only [linX_lim h]
theorem lns_mid0 {B : Nat} {w0 : World} {each : List ByteArray} (hg : StableAt glob B ∧ glob w0) (hE : each.length ≤ 1000) (hrow : ∀ j, lnE0 each j) {h0 : Heap} : ∀ (k j : Nat), j + k = each.length →
    (linS none (each.drop j) j = none ∧ ∃ m', Mid Tryz.prog 25 h0 26 (lnH B w0 each z6 0) 80 (lnX B w0 (x6 (each.drop j)) m') lnc (lnT each j) (.exit 0) lnTX) ∨
    (∃ n, linS none (each.drop j) j = some n ∧ Mid Tryz.prog 25 h0 26 (lnH B w0 each z6 0) 80 (lnR B w0) lnc (lnT each j) .ret (lnTR n)) := by
  intro k
  induction k with
  | zero =>
    intro j hj
    left
    rw [List.drop_of_length_le (by omega)]
    exact ⟨rfl, 0, (ln0_e (decide_eq_false (by omega)) hg (hrow j).2).mid (by simp) (by decide)⟩
  | succ k ih =>
    intro j hj
    have hl : j < each.length := by omega
    have b0 : decide ((j : Int) < (each.length : Int)) = true := decide_eq_true (by omega)
    have b1 : decide ((0 : Int) ≤ (j : Int) ∧ (j : Int) < (each.length : Int)) = true := decide_eq_true (by omega)
    have b5 := lnE0_ble (hrow j)
    rw [drop_in hl]
    cases h2 : strEq (each.getD j default) { data := #[] } with
    | true =>
      rw [linS_skip (skip_nil h2), x6_skip (skip_nil h2)]
      have q0 := ln0_s0 (B := B) (w0 := w0) (m := 0) b0 b1 h2 hg (hrow j).2
      rw [wrap64 (by omega) (by omega)] at q0
      rcases ih (j + 1) (by omega) with ⟨q1, m', q2⟩ | ⟨n, q1, q2⟩
      · exact .inl ⟨q1, m', q0.mid (by decide) (by decide) q2⟩
      · exact .inr ⟨n, q1, q0.mid (by decide) (by decide) q2⟩
    | false =>
      obtain ⟨hs1, hs2⟩ := skip_cons h2
      have b3 : decide ((0 : Int) ≤ (0 : Int) ∧ (0 : Int) < ((each.getD j default).data.toList.length : Int)) = true := decide_eq_true ⟨by omega, by omega⟩
      cases h4 : skipL (each.getD j default) with
      | true =>
        rw [h4] at hs2
        rw [linS_skip h4, x6_skip h4]
        have q0 := ln0_s1 (B := B) (w0 := w0) (m := 0) b0 b1 h2 b3 hs2 hg (hrow j).2
        rw [wrap64 (by omega) (by omega)] at q0
        rcases ih (j + 1) (by omega) with ⟨q1, m', q2⟩ | ⟨n, q1, q2⟩
        · exact .inl ⟨q1, m', q0.mid (by decide) (by decide) q2⟩
        · exact .inr ⟨n, q1, q0.mid (by decide) (by decide) q2⟩
      | false =>
        rw [h4] at hs2
        cases h6 : limO (ct each j) with
        | true =>
          rw [linS_lim h4 h6]
          have q0 := ln0_l (B := B) (w0 := w0) (m := 0) b0 b1 h2 b3 hs2 b5 (by rw [pt_eq, h6]; rfl) hg (hrow j).2
          rw [wrap64 (by omega) (by omega), pt_eq] at q0
          have hp := limO_pos h6
          obtain ⟨s, hs⟩ : ∃ s : Nat, limI 0 (ct each j) = Int.ofNat (s + 1) := ⟨(limI 0 (ct each j)).toNat - 1, by
            rw [Int.ofNat_eq_natCast]; omega⟩
          rw [hs] at q0
          rcases lns_mid1 (s := s) (b := limI 1 (ct each j)) (c := limI 2 (ct each j)) (d := limI 3 (ct each j)) (e := limI 4 (ct each j)) (g := limI 5 (ct each j)) (h0 := h0) hg hE hrow k (j + 1) 0 (by omega) (by omega) with ⟨q1, m', q2⟩ | ⟨n, q1, q2⟩
          · refine .inl ⟨q1, m', ?_⟩
            rw [x6_lim h4, show limI 0 (cut32 (each.getD j default)) = Int.ofNat (s + 1) from hs]
            exact q0.mid (by decide) (by decide) q2
          · exact .inr ⟨n, q1, q0.mid (by decide) (by decide) q2⟩
        | false =>
          rw [linS_nolim h4 h6]
          have q0 := ln0_r (B := B) (w0 := w0) (m := 0) b0 b1 h2 b3 hs2 b5 (by rw [pt_eq, h6]; rfl) hg (hrow j).2
          rw [wrap64 (by omega) (by omega)] at q0
          exact .inr ⟨_, rfl, q0.mid (by simp) (by decide)⟩
end Go.Proofs.YtkmicbhnfochjaaGreatDoor

namespace Go.Proofs.YtkmicbhnfochjaaGreatDoor
open Go Go.Sx Go.Eng
theorem any2 {r : Env} {a b : Value} {l : List Value} {u : Value} (h : Rel r (.tuple ⟨a :: b :: l⟩) u) : Rel r (.tuple ⟨a :: .chan none :: l⟩) u := by
  cases h with
  | tuple hs h => exact .tuple hs fun i h1 h2 => match i with
    | 0 => h 0 h1 h2
    | 1 => .any
    | i + 2 => h (i + 2) h1 h2
theorem does_any2 {P : Program} {c0 c1 : Nat} {h0 h1 : Heap} {f : FuncId} {args : List Value} {a b : Value} {l : List Value} (h : Does P c0 h0 c1 h1 (.call f args) (.val (.tuple ⟨a :: b :: l⟩))) :
    Does P c0 h0 c1 h1 (.call f args) (.val (.tuple ⟨a :: .chan none :: l⟩)) :=
  ⟨h.1, fun r ow w hs hf us hu => Calls.mono (h.2 r ow w hs hf us hu) fun _ _ ⟨r', ow', u, he, hp, hv⟩ => ⟨r', ow', u, he, hp, any2 hv⟩⟩
def lnL (each : List ByteArray) : List (Nat × Value) := [(2, .pointer (some ⟨1, 0, none⟩)), (6, .slice (some ⟨2, 0, none⟩) each.length 0), (7, .pointer (some ⟨3, 0, none⟩)), (8, .pointer (some ⟨4, 0, none⟩)), (10, .slice (some ⟨24, 0, none⟩) 19 0), (11, .int .i64 ((0 : Nat) : Int))]
theorem lnT_0 (each : List ByteArray) : mkT 94 0 ((9, .chan (some 25)) :: lnL each) = lnT each 0 := by kernel_rfl
def lnSS : List (Nat × Bool) := [(0, false), (1, false), (2, true), (3, false), (4, false), (5, false), (6, false), (7, false), (8, false), (9, false), (10, false), (11, false), (12, false), (13, false), (14, false), (15, false), (16, false), (17, false), (18, false), (19, false), (20, false), (21, false), (22, false), (23, false), (24, false)]
theorem ln_entry (B : Nat) (w0 : World) (each : List ByteArray) : RenTo [] 25 80 (lnE B w0 each) (lnTE each) (lnE B w0 each) (mkT 94 0 ((9, .slice none 0 0) :: lnL each)) :=
  entry_of (l := (9, .slice none 0 0) :: lnL each) (len := 94) lnSS (L := [.p (Cover (each.map Value.string) ((each.map Value.string).map (renV (nameOf [] 25 80) 9)))]) (by kernel_rfl) (vcs_cons cover_str vcs_nil)
theorem ln_loop {B : Nat} {w0 : World} {each : List ByteArray} {H : Heap} {e : SExit} {T : List Value} (hm : Mid Tryz.prog 25 (lnE B w0 each) 26 (lnH B w0 each z6 0) 80 H lnc (lnT each 0) e T) :
    Does Tryz.prog 25 (lnE B w0 each) 80 H (.inLoop lnc (lnTE each)) (.out e T) := by
  refine does_of_mid (ρ := []) (cm := 25) (by decide) (by decide) (by decide) (ln_entry B w0 each) ?_
  refine mid_bagT (H := lnH B w0 each z6 0) (m := 0) (e := 35) (by decide) ?_ ?_ ?_ ?_
  · unfold lnL
    repeat' first | exact List.forall_mem_nil _ | refine List.forall_mem_cons.2 ⟨rfl, ?_⟩
  · unfold lnL
    repeat' first | exact List.forall_mem_nil _ | refine List.forall_mem_cons.2 ⟨by simp, ?_⟩
  · unfold lnH shTab
    repeat' first | exact List.forall_mem_nil _ | refine List.forall_mem_cons.2 ⟨.inr rfl, ?_⟩ | refine List.forall_mem_cons.2 ⟨.inl rfl, ?_⟩
  · rw [lnT_0]; exact hm
/-- Is a script too long? -/
def longB (s : ByteArray) : Bool := decide ((s.data.toList.length : Int) > 32768) || decide (((cutS (UInt8.ofNat 10) s).length : Int) > 200)
def linN (s : ByteArray) : Option Nat := linS none (cutS (UInt8.ofNat 10) s) 0
/-- Which line is none. -/
def lnAt (s : ByteArray) : Int := bif longB s then 0 else match linN s with
  | some n => (n : Int)
  | none => 0
def lnCode (s : ByteArray) : Int := bif longB s then 8 else match linN s with
  | some _ => 14
  | none => 0
def lnLm (i : Nat) (s : ByteArray) : Int := bif longB s then 0 else match linN s with
  | some _ => 0
  | none => linX i (cutS (UInt8.ofNat 10) s)
def lnV (s : ByteArray) : Value := .tuple ⟨[.agg ⟨[.int .i64 (lnLm 0 s), .int .i64 (lnLm 1 s), .int .i64 (lnLm 2 s), .int .i64 (lnLm 3 s), .int .i64 (lnLm 4 s), .int .i64 (lnLm 5 s)]⟩, .chan none, .int .i64 (lnAt s), .int .i64 (lnCode s)]⟩
theorem cutL_le (c : UInt8) : ∀ l : List UInt8, (cutL c l).length ≤ l.length + 1 ∧ ∀ p ∈ cutL c l, p.length ≤ l.length
  | [] => ⟨by simp [cutL], fun p h => by simp [cutL] at h; subst h; simp⟩
  | b :: r => by
    obtain ⟨h1, h2⟩ := cutL_le c r
    unfold cutL
    split
    · refine ⟨by simp; omega, fun p h => ?_⟩
      rcases List.mem_cons.1 h with rfl | h
      · simp
      · have := h2 p h; simp; omega
    · split
      · rename_i h t e
        rw [e] at h1 h2
        refine ⟨by simp at h1 ⊢; omega, fun p hp => ?_⟩
        rcases List.mem_cons.1 hp with rfl | hp
        · have := h2 h (by simp); simp; omega
        · have := h2 p (by simp [hp]); simp; omega
      · exact ⟨by simp, fun p hp => by simp at hp; subst hp; simp⟩
theorem cutS_len (c : UInt8) (s : ByteArray) : 1 ≤ (cutS c s).length ∧ (cutS c s).length ≤ s.data.toList.length + 1 := by
  unfold cutS
  rw [List.length_map]
  refine ⟨?_, (cutL_le c _).1⟩
  have := cutL_ne c s.data.toList
  cases e : cutL c s.data.toList with
  | nil => exact absurd e this
  | cons => simp
theorem cutS_part {c : UInt8} {s p : ByteArray} (h : p ∈ cutS c s) : p.data.toList.length ≤ s.data.toList.length := by
  unfold cutS at h
  obtain ⟨l, hl, rfl⟩ := List.mem_map.1 h
  exact (cutL_le c _).2 l hl
theorem okP_cut {c : UInt8} {s : ByteArray} (h : s.data.toList.length ≤ 4294967280) : okP (cutS c s) ∧ 1 ≤ (cutS c s).length :=
  ⟨⟨by have := (cutS_len c s).2; omega, fun p hp => by have := cutS_part hp; omega⟩, (cutS_len c s).1⟩
theorem getD_len {l : List ByteArray} {n : Nat} (h : ∀ p ∈ l, p.data.toList.length ≤ n) (j : Nat) : (l.getD j default).data.toList.length ≤ n := by
  by_cases hj : j < l.length
  · rw [List.getD_eq_getElem?_getD, List.getElem?_eq_getElem hj]
    exact h _ (List.getElem_mem hj)
  · rw [List.getD_eq_getElem?_getD, List.getElem?_eq_none (by omega)]
    exact Nat.zero_le _
theorem lnE0_of {s : ByteArray} (h : s.data.toList.length ≤ 4294967280) (j : Nat) : lnE0 (cutS (UInt8.ofNat 10) s) j := by
  have hp : ((cutS (UInt8.ofNat 10) s).getD j default).data.toList.length ≤ 4294967280 := getD_len (fun p hp => Nat.le_trans (cutS_part hp) h) j
  exact ⟨hp, okP_cut hp⟩
theorem lns_does {B : Nat} {w0 : World} (hg : StableAt glob B ∧ glob w0) {s : ByteArray} (hs : s.data.toList.length ≤ 4294967280) : Does Tryz.prog 1 [(0, .args B w0)] 80 [(0, .args B w0)] (.call 7 [.string s]) (.val (lnV s)) := by
  have h0 : (s.data.toList.length.ble (4294967280 : Nat) && Nat.ble 10 (255 : Nat)) = true := by rw [Nat.ble_eq_true_of_le hs]; rfl
  unfold lnV lnAt lnCode lnLm
  cases h1 : decide ((s.data.toList.length : Int) > (32768 : Int)) with
  | true =>
    rw [show longB s = true by unfold longB; rw [h1]; rfl]
    exact does_any2 (lncr_0 (n := 0) h0 h1 hg)
  | false =>
    cases h2 : decide (((cutS (UInt8.ofNat 10) s).length : Int) > (200 : Int)) with
    | true =>
      rw [show longB s = true by unfold longB; rw [h1, h2]; rfl]
      exact does_any2 (lncr_1 (n := 0) h0 h1 h2 hg)
    | false =>
      rw [show longB s = false by unfold longB; rw [h1, h2]; rfl]
      have hE : (cutS (UInt8.ofNat 10) s).length ≤ 1000 := by have := of_decide_eq_false h2; omega
      rcases lns_mid0 (h0 := lnE B w0 (cutS (UInt8.ofNat 10) s)) hg hE (lnE0_of hs) (cutS (UInt8.ofNat 10) s).length 0 (by omega) with ⟨q1, m', q2⟩ | ⟨n, q1, q2⟩
      · rw [List.drop_zero] at q1
        rw [show linN s = none from q1]
        rw [List.drop_zero] at q2
        exact does_any2 (lncx_2 h0 h1 h2 hg (ln_loop q2))
      · rw [List.drop_zero] at q1
        rw [show linN s = some n from q1]
        exact does_any2 (lncr_2 h0 h1 h2 hg (ln_loop q2))
theorem stab_at (w : World) (hw : glob w) : StableAt glob w.heap.size := glob_stable (by
  obtain ⟨⟨m, h1⟩, _⟩ := hw
  unfold World.cell? at h1
  by_cases h : 1 < w.heap.size
  · exact h
  · rw [Array.getElem?_eq_none (show w.heap.size ≤ 1 by omega)] at h1
    cases h1)
/-- What the document's Lines tell. -/
theorem lns_gives {s : ByteArray} (hs : s.data.toList.length ≤ 4294967280) : GivesW Tryz.prog glob 7 [.string s] (lnV s) :=
  givesW_of_does (c1 := 80) (h1 := argsHeap) (fun w hw => lns_does ⟨stab_at w hw, hw⟩ hs) (fun _ => rfl) rfl
end Go.Proofs.YtkmicbhnfochjaaGreatDoor

namespace Go.Proofs.YtkmicbhnfochjaaGreatDoor
open Go Go.Sx Go.Eng
noncomputable def enTX : List Value := mkT 47 0 [(6, .pointer (some ⟨2, 0, none⟩))]
noncomputable def enTR (n : Nat) : List Value := mkT 47 0 [(2, .pointer none), (3, .int .i64 n), (4, .iface 28 (.int .i64 14))]
theorem not_bne {x y : Int} {b : Bool} (h : (x == y) = b) : (x != y) = !b := by rw [bne, h]
theorem en_mid1 {B : Nat} {w0 : World} {each : List ByteArray} (hg : StableAt glob B ∧ glob w0) (hE : each.length ≤ 1000) (hrow : ∀ j, lnE0 each j) {a b c d e g : Int} {h0 : Heap} : ∀ (k j m : Nat), j + k = each.length → m ≤ j →
    (linS (some c) (each.drop j) j = none ∧ Mid Tryz.prog 3 h0 4 (enH B w0 each (en1 a b c d e g) m) 40 [(0, .args B w0)] enc (enT each j) (.exit 0) enTX) ∨
    (∃ n, linS (some c) (each.drop j) j = some n ∧ Mid Tryz.prog 3 h0 4 (enH B w0 each (en1 a b c d e g) m) 40 [(0, .args B w0)] enc (enT each j) .ret (enTR n)) := by
  intro k
  induction k with
  | zero =>
    intro j m hj hm
    left
    rw [List.drop_of_length_le (by omega)]
    exact ⟨rfl, (en1_e (decide_eq_false (by omega))).mid (by simp) (by decide)⟩
  | succ k ih =>
    intro j m hj hm
    have hl : j < each.length := by omega
    have b0 : decide ((j : Int) < (each.length : Int)) = true := decide_eq_true (by omega)
    have b1 : decide ((0 : Int) ≤ (j : Int) ∧ (j : Int) < (each.length : Int)) = true := decide_eq_true (by omega)
    have b5 : (each.getD j default).data.toList.length.ble (4294967280 : Nat) = true := Nat.ble_eq_true_of_le (hrow j).1
    rw [drop_in hl]
    cases h2 : strEq (each.getD j default) { data := #[] } with
    | true =>
      rw [linS_skip (skip_nil h2)]
      have q0 := en1_s0 (B := B) (w0 := w0) (m := m) (a := a) (b := b) (c := c) (d := d) (e := e) (g := g) b0 b1 (not_t' h2)
      rw [wrap64 (by omega) (by omega)] at q0
      rcases ih (j + 1) m (by omega) (by omega) with ⟨q1, q2⟩ | ⟨n, q1, q2⟩
      · exact .inl ⟨q1, q0.mid (by decide) (by decide) q2⟩
      · exact .inr ⟨n, q1, q0.mid (by decide) (by decide) q2⟩
    | false =>
      obtain ⟨hs1, hs2⟩ := skip_cons h2
      have b3 : decide ((0 : Int) ≤ (0 : Int) ∧ (0 : Int) < ((each.getD j default).data.toList.length : Int)) = true := decide_eq_true ⟨by omega, by omega⟩
      have b4 := not_bne hs2
      cases h4 : skipL (each.getD j default) with
      | true =>
        rw [h4] at b4
        rw [linS_skip h4]
        have q0 := en1_s1 (B := B) (w0 := w0) (m := m) (a := a) (b := b) (c := c) (d := d) (e := e) (g := g) b0 b1 (not_f' h2) b3 b4
        rw [wrap64 (by omega) (by omega)] at q0
        rcases ih (j + 1) m (by omega) (by omega) with ⟨q1, q2⟩ | ⟨n, q1, q2⟩
        · exact .inl ⟨q1, q0.mid (by decide) (by decide) q2⟩
        · exact .inr ⟨n, q1, q0.mid (by decide) (by decide) q2⟩
      | false =>
        rw [h4] at b4
        obtain ⟨g1, g2⟩ := en1_all (B := B) (w0 := w0) (m := m) (a := a) (b := b) (c := c) (d := d) (e := e) (g := g) hg (hrow j).2 (by omega) b0 b1 (not_f' h2) b3 b4 b5
        rw [readT_eq, show lineE befB c (cte each j) = lineR befB c (cut32 (each.getD j default)) from lineE_eq befB c _] at g1 g2
        cases h6 : lineR befB c (cut32 (each.getD j default)) with
        | true =>
          rw [linS_line h4 h6]
          have q0 := g1 h6
          rw [wrap64 (by omega) (by omega)] at q0
          rcases ih (j + 1) (m + 1) (by omega) (by omega) with ⟨q1, q2⟩ | ⟨n, q1, q2⟩
          · exact .inl ⟨q1, q0.mid (by decide) (by decide) q2⟩
          · exact .inr ⟨n, q1, q0.mid (by decide) (by decide) q2⟩
        | false =>
          rw [linS_noline h4 h6]
          have q0 := g2 h6
          rw [wrap64 (by omega) (by omega)] at q0
          exact .inr ⟨_, rfl, q0.mid (by simp) (by decide)⟩
theorem en_mid0 {B : Nat} {w0 : World} {each : List ByteArray} (hg : StableAt glob B ∧ glob w0) (hE : each.length ≤ 1000) (hrow : ∀ j, lnE0 each j) {h0 : Heap} : ∀ (k j : Nat), j + k = each.length →
    (linS none (each.drop j) j = none ∧ Mid Tryz.prog 3 h0 4 (enH B w0 each en0 0) 40 [(0, .args B w0)] enc (enT each j) (.exit 0) enTX) ∨
    (∃ n, linS none (each.drop j) j = some n ∧ Mid Tryz.prog 3 h0 4 (enH B w0 each en0 0) 40 [(0, .args B w0)] enc (enT each j) .ret (enTR n)) := by
  intro k
  induction k with
  | zero =>
    intro j hj
    left
    rw [List.drop_of_length_le (by omega)]
    exact ⟨rfl, (en0_e (decide_eq_false (by omega))).mid (by simp) (by decide)⟩
  | succ k ih =>
    intro j hj
    have hl : j < each.length := by omega
    have b0 : decide ((j : Int) < (each.length : Int)) = true := decide_eq_true (by omega)
    have b1 : decide ((0 : Int) ≤ (j : Int) ∧ (j : Int) < (each.length : Int)) = true := decide_eq_true (by omega)
    have b5 : (each.getD j default).data.toList.length.ble (4294967280 : Nat) = true := Nat.ble_eq_true_of_le (hrow j).1
    rw [drop_in hl]
    cases h2 : strEq (each.getD j default) { data := #[] } with
    | true =>
      rw [linS_skip (skip_nil h2)]
      have q0 := en0_s0 (B := B) (w0 := w0) (m := 0) b0 b1 (not_t' h2)
      rw [wrap64 (by omega) (by omega)] at q0
      rcases ih (j + 1) (by omega) with ⟨q1, q2⟩ | ⟨n, q1, q2⟩
      · exact .inl ⟨q1, q0.mid (by decide) (by decide) q2⟩
      · exact .inr ⟨n, q1, q0.mid (by decide) (by decide) q2⟩
    | false =>
      obtain ⟨hs1, hs2⟩ := skip_cons h2
      have b3 : decide ((0 : Int) ≤ (0 : Int) ∧ (0 : Int) < ((each.getD j default).data.toList.length : Int)) = true := decide_eq_true ⟨by omega, by omega⟩
      have b4 := not_bne hs2
      cases h4 : skipL (each.getD j default) with
      | true =>
        rw [h4] at b4
        rw [linS_skip h4]
        have q0 := en0_s1 (B := B) (w0 := w0) (m := 0) b0 b1 (not_f' h2) b3 b4
        rw [wrap64 (by omega) (by omega)] at q0
        rcases ih (j + 1) (by omega) with ⟨q1, q2⟩ | ⟨n, q1, q2⟩
        · exact .inl ⟨q1, q0.mid (by decide) (by decide) q2⟩
        · exact .inr ⟨n, q1, q0.mid (by decide) (by decide) q2⟩
      | false =>
        rw [h4] at b4
        obtain ⟨g1, g2⟩ := en0_all (B := B) (w0 := w0) (m := 0) hg (hrow j).2 (by omega) b0 b1 (not_f' h2) b3 b4 b5
        rw [limT_eq, show cte each j = cut32 (each.getD j default) from rfl] at g1 g2
        cases h6 : limO (cut32 (each.getD j default)) with
        | true =>
          rw [linS_lim h4 h6, limO_thr h6]
          have q0 := g1 h6
          rw [wrap64 (by omega) (by omega)] at q0
          rcases en_mid1 (h0 := h0) hg hE hrow k (j + 1) 0 (by omega) (by omega) with ⟨q1, q2⟩ | ⟨n, q1, q2⟩
          · exact .inl ⟨q1, q0.mid (by decide) (by decide) q2⟩
          · exact .inr ⟨n, q1, q0.mid (by decide) (by decide) q2⟩
        | false =>
          rw [linS_nolim h4 h6]
          have q0 := g2 h6
          rw [wrap64 (by omega) (by omega)] at q0
          exact .inr ⟨_, rfl, q0.mid (by simp) (by decide)⟩
theorem en_entry (B : Nat) (w0 : World) (each : List ByteArray) : RenTo [] 3 40 (enE B w0 each) (enTE each) (enE B w0 each) (enT each 0) :=
  entry_of (l := [(6, .pointer (some ⟨2, 0, none⟩)), (22, .slice (some ⟨1, 0, none⟩) each.length 0), (23, .int .i64 each.length), (24, .int .i64 ((0 : Nat) : Int))]) (len := 47) [(0, false), (1, true), (2, false)] (L := [.p (Cover (each.map Value.string) ((each.map Value.string).map (renV (nameOf [] 3 40) 9)))]) (by kernel_rfl) (vcs_cons cover_str vcs_nil)
theorem en_loop {B : Nat} {w0 : World} {each : List ByteArray} {H : Heap} {e : SExit} {T : List Value} (hm : Mid Tryz.prog 3 (enE B w0 each) 4 (enH B w0 each en0 0) 40 H enc (enT each 0) e T) :
    Does Tryz.prog 3 (enE B w0 each) 40 H (.inLoop enc (enTE each)) (.out e T) := by
  refine does_of_mid (ρ := []) (cm := 3) (by decide) (by decide) (by decide) (en_entry B w0 each) ?_
  refine mid_bag (n := 2) (p := 7) (l := en0 ++ [.slice none 0 0]) (H := enH B w0 each en0 0) (m := 0) (e := 80) (by decide) rfl rfl ?_ hm
  unfold enH
  refine List.forall_mem_cons.2 ⟨.inr (.inr rfl), List.forall_mem_cons.2 ⟨.inr (.inr rfl), List.forall_mem_cons.2 ⟨.inr (.inl rfl), List.forall_mem_cons.2 ⟨.inl rfl, List.forall_mem_nil _⟩⟩⟩⟩
theorem any1 {r : Env} {a : Value} {l : List Value} {u : Value} (h : Rel r (.tuple ⟨a :: l⟩) u) : Rel r (.tuple ⟨.chan none :: l⟩) u := by
  cases h with
  | tuple hs h => exact .tuple hs fun i h1 h2 => match i with
    | 0 => .any
    | i + 1 => h (i + 1) h1 h2
theorem does_any1 {P : Program} {c0 c1 : Nat} {h0 h1 : Heap} {f : FuncId} {args : List Value} {a : Value} {l : List Value} (h : Does P c0 h0 c1 h1 (.call f args) (.val (.tuple ⟨a :: l⟩))) :
    Does P c0 h0 c1 h1 (.call f args) (.val (.tuple ⟨.chan none :: l⟩)) :=
  ⟨h.1, fun r ow w hs hf us hu => Calls.mono (h.2 r ow w hs hf us hu) fun _ _ ⟨r', ow', u, he, hp, hv⟩ => ⟨r', ow', u, he, hp, any1 hv⟩⟩
/-- The error of a number. -/
def errV (n : Int) : Value := bif decide (n = 0) then .nilIface else .iface 28 (.int .i64 n)
def enV (s : ByteArray) : Value := .tuple ⟨[.chan none, .int .i64 (lnAt s), errV (lnCode s)]⟩
theorem enl_does {B : Nat} {w0 : World} (hg : StableAt glob B ∧ glob w0) {s : ByteArray} (hs : s.data.toList.length ≤ 4294967280) : Does Tryz.prog 1 [(0, .args B w0)] 40 [(0, .args B w0)] (.call 11 [.string s]) (.val (enV s)) := by
  have h0 : s.data.toList.length.ble (4294967280 : Nat) = true := Nat.ble_eq_true_of_le hs
  unfold enV lnAt lnCode
  cases h1 : decide ((s.data.toList.length : Int) > (32768 : Int)) with
  | true =>
    rw [show longB s = true by unfold longB; rw [h1]; rfl]
    exact does_any1 (enx_0 h0 h1 hg)
  | false =>
    cases h2 : decide (((cutS (UInt8.ofNat 10) s).length : Int) > (200 : Int)) with
    | true =>
      rw [show longB s = true by unfold longB; rw [h1, h2]; rfl]
      exact does_any1 (enx_1 h0 h1 h2 hg)
    | false =>
      rw [show longB s = false by unfold longB; rw [h1, h2]; rfl]
      have hE : (cutS (UInt8.ofNat 10) s).length ≤ 1000 := by have := of_decide_eq_false h2; omega
      rcases en_mid0 (h0 := enE B w0 (cutS (UInt8.ofNat 10) s)) hg hE (lnE0_of hs) (cutS (UInt8.ofNat 10) s).length 0 (by omega) with ⟨q1, q2⟩ | ⟨n, q1, q2⟩
      · rw [List.drop_zero] at q1
        rw [show linN s = none from q1]
        exact enx_2 h0 h1 h2 hg (en_loop q2)
      · rw [List.drop_zero] at q1
        rw [show linN s = some n from q1]
        exact does_any1 (enr_2 h0 h1 h2 hg (en_loop q2))
/-- What the engine's lines tell. -/
theorem enl_gives {s : ByteArray} (hs : s.data.toList.length ≤ 4294967280) : GivesW Tryz.prog glob 11 [.string s] (enV s) := by
  have h := givesW_of_does (c1 := 40) (h1 := argsHeap) (fun w hw => enl_does ⟨stab_at w hw, hw⟩ hs) (fun _ => rfl) rfl
  have e : renV (fun _ => none) 9 (enV s) = enV s := by
    unfold enV errV
    cases decide (lnCode s = 0) <;> rfl
  rw [e] at h
  exact h
end Go.Proofs.YtkmicbhnfochjaaGreatDoor
