/- The document's shape: rounds, ways. No condition. -/
import Derived.Test.YtkmicbhnfochjaaGreatDoorMFit
import Derived.Test.YtkmicbhnfochjaaGreatDoorMSxLib

namespace Go.Proofs.YtkmicbhnfochjaaGreatDoor
open Go Go.Sx Go.Eng
/-- The contracts, with fits and Before. -/
noncomputable def conE3 : Contracts := addK (addK conE2 30 fun xs => match xs with
  | [.string p, .string k, .int .i64 t] => some (Nat.ble p.data.toList.length 4294967295, .bool (fitsB t p k))
  | _ => none) 31 fun xs => match xs with
  | [.string a, .string b] => some (Nat.ble a.data.toList.length 4294967295, .bool (befB a b))
  | _ => none
theorem conE3_holds : Holds Tryz.prog conE3 := by
  refine (conE2_holds.addK ?_).addK ?_
  · intro xs b v h hb
    split at h
    · cases h; exact fits_gives _ _ _ (Nat.le_of_ble_eq_true hb)
    · cases h
  · intro xs b v h hb
    split at h
    · cases h; exact bef_gives _ _ (by have := Nat.le_of_ble_eq_true hb; omega)
    · cases h
/-- shape's loop. -/
noncomputable def shc : Code := subC [1, 1, 0, 1, 0, 0] (bodyC 16)
def shH (ps ks : List ByteArray) : Heap := [(0, .cells (ps.map Value.string) 9), (1, .cells (ks.map Value.string) 9)]
noncomputable def shT (ps ks : List ByteArray) (t : Int) (j : Nat) : List Value := mkT 48 0 [(0, .slice (some ⟨0, 0, none⟩) ps.length 1), (1, .slice (some ⟨1, 0, none⟩) ks.length 1), (2, .int .i64 t), (7, .int .i64 j)]
set_option maxRecDepth 100000 in
theorem sh_r {ps ks : List ByteArray} {t : Int} {j : Nat} (h0 : (decide ((↑j : Int) < (↑ps.length : Int))) = true) (h1 : (decide ((0 : Int) ≤ (↑j : Int) ∧ (↑j : Int) < (↑ps.length : Int))) = true) (h2 : (decide ((0 : Int) ≤ (↑j : Int) ∧ (↑j : Int) < (↑ks.length : Int))) = true) (h3 : ((ps.getD j default).data.toList.length.ble (4294967295 : Nat)) = true) (h4 : (!fitsB t (ps.getD j default) (ks.getD j default)) = true)  : Sx.Ends Tryz.prog 2 2 2 (shH ps ks) shc (shT ps ks t j) .ret (shH ps ks) (mkT 48 0 [(6, .bool false)]) :=
  ends_of mixed conE3_holds [] [(0, true), (1, true)] (d := [(0, .br true), (1, .br true), (2, .cell (.tuple ⟨[Go.Value.string (ps.getD j default)]⟩)), (3, .br true), (4, .cell (.tuple ⟨[Go.Value.string (ks.getD j default)]⟩)), (5, .br true), (6, .br true)]) (n := 600) (c2 := 2) (L' := [.p (Cover (ps.map Value.string) ((ps.map Value.string).map (renV (nameOf [] 2 2) 9))), .p (Cover (ks.map Value.string) ((ks.map Value.string).map (renV (nameOf [] 2 2) 9)))]) (L := [.b ((!fitsB t (ps.getD j default) (ks.getD j default)) == true), .b ((ps.getD j default).data.toList.length.ble (4294967295 : Nat)), .p (List.take (1 : Nat) (List.drop ((0 : Nat) + j * (1 : Nat)) (List.map Go.Value.string ks)) = [Go.Value.string (ks.getD j default)] ∧ [Go.Value.string (ks.getD j default)].length = (1 : Nat)), .b (decide ((0 : Int) ≤ (↑j : Int) ∧ (↑j : Int) < (↑ks.length : Int))), .p (List.take (1 : Nat) (List.drop ((0 : Nat) + j * (1 : Nat)) (List.map Go.Value.string ps)) = [Go.Value.string (ps.getD j default)] ∧ [Go.Value.string (ps.getD j default)].length = (1 : Nat)), .b (decide ((0 : Int) ≤ (↑j : Int) ∧ (↑j : Int) < (↑ps.length : Int))), .b ((decide ((↑j : Int) < (↑ps.length : Int))) == true)]) (by kernel_rfl) rfl rfl (vcs_cons cover_str (vcs_cons cover_str vcs_nil)) (vcs_cons (vc_b h4) (vcs_cons (vc_c h3) (vcs_cons ((rd_map1 (by omega) (by simp only [decide_eq_true_eq, decide_eq_false_iff_not] at *; omega))) (vcs_cons (vc_c h2) (vcs_cons ((rd_map1 (by omega) (by simp only [decide_eq_true_eq, decide_eq_false_iff_not] at *; omega))) (vcs_cons (vc_c h1) (vcs_cons (vc_b h0) vcs_nil)))))))
set_option maxRecDepth 100000 in
theorem sh_s {ps ks : List ByteArray} {t : Int} {j : Nat} (h0 : (decide ((↑j : Int) < (↑ps.length : Int))) = true) (h1 : (decide ((0 : Int) ≤ (↑j : Int) ∧ (↑j : Int) < (↑ps.length : Int))) = true) (h2 : (decide ((0 : Int) ≤ (↑j : Int) ∧ (↑j : Int) < (↑ks.length : Int))) = true) (h3 : ((ps.getD j default).data.toList.length.ble (4294967295 : Nat)) = true) (h4 : (!fitsB t (ps.getD j default) (ks.getD j default)) = false)  : Sx.Goes Tryz.prog 2 2 2 (shH ps ks) shc (shT ps ks t j) (shH ps ks) (mkT 48 0 [(0, .slice (some ⟨0, 0, none⟩) ps.length 1), (1, .slice (some ⟨1, 0, none⟩) ks.length 1), (2, .int .i64 t), (7, .int .i64 (IntKind.i64.wrap ((j : Int) + 1)))]) :=
  goes_of mixed conE3_holds [] [(0, true), (1, true)] (d := [(0, .br true), (1, .br true), (2, .cell (.tuple ⟨[Go.Value.string (ps.getD j default)]⟩)), (3, .br true), (4, .cell (.tuple ⟨[Go.Value.string (ks.getD j default)]⟩)), (5, .br true), (6, .br false)]) (n := 600) (c2 := 2) (L' := [.p (Cover (ps.map Value.string) ((ps.map Value.string).map (renV (nameOf [] 2 2) 9))), .p (Cover (ks.map Value.string) ((ks.map Value.string).map (renV (nameOf [] 2 2) 9)))]) (L := [.b ((!fitsB t (ps.getD j default) (ks.getD j default)) == false), .b ((ps.getD j default).data.toList.length.ble (4294967295 : Nat)), .p (List.take (1 : Nat) (List.drop ((0 : Nat) + j * (1 : Nat)) (List.map Go.Value.string ks)) = [Go.Value.string (ks.getD j default)] ∧ [Go.Value.string (ks.getD j default)].length = (1 : Nat)), .b (decide ((0 : Int) ≤ (↑j : Int) ∧ (↑j : Int) < (↑ks.length : Int))), .p (List.take (1 : Nat) (List.drop ((0 : Nat) + j * (1 : Nat)) (List.map Go.Value.string ps)) = [Go.Value.string (ps.getD j default)] ∧ [Go.Value.string (ps.getD j default)].length = (1 : Nat)), .b (decide ((0 : Int) ≤ (↑j : Int) ∧ (↑j : Int) < (↑ps.length : Int))), .b ((decide ((↑j : Int) < (↑ps.length : Int))) == true)]) (by kernel_rfl) rfl rfl (vcs_cons cover_str (vcs_cons cover_str vcs_nil)) (vcs_cons (vc_b h4) (vcs_cons (vc_c h3) (vcs_cons ((rd_map1 (by omega) (by simp only [decide_eq_true_eq, decide_eq_false_iff_not] at *; omega))) (vcs_cons (vc_c h2) (vcs_cons ((rd_map1 (by omega) (by simp only [decide_eq_true_eq, decide_eq_false_iff_not] at *; omega))) (vcs_cons (vc_c h1) (vcs_cons (vc_b h0) vcs_nil)))))))
set_option maxRecDepth 100000 in
theorem sh_e {ps ks : List ByteArray} {t : Int} {j : Nat} (h0 : (decide ((↑j : Int) < (↑ps.length : Int))) = false)  : Sx.Ends Tryz.prog 2 2 2 (shH ps ks) shc (shT ps ks t j) (.exit 0) (shH ps ks) (mkT 48 0 [(0, .slice (some ⟨0, 0, none⟩) ps.length 1)]) :=
  ends_of mixed conE3_holds [] [(0, true), (1, true)] (d := [(0, .br false)]) (n := 600) (c2 := 2) (L' := [.p (Cover (ps.map Value.string) ((ps.map Value.string).map (renV (nameOf [] 2 2) 9))), .p (Cover (ks.map Value.string) ((ks.map Value.string).map (renV (nameOf [] 2 2) 9)))]) (L := [.b ((decide ((↑j : Int) < (↑ps.length : Int))) == false)]) (by kernel_rfl) rfl rfl (vcs_cons cover_str (vcs_cons cover_str vcs_nil)) (vcs_cons (vc_b h0) vcs_nil)
set_option maxRecDepth 100000 in
theorem so_w0 {ps ks : List ByteArray} {t : Int} (h0 : ((↑ps.length : Int) != (↑ks.length : Int)) = true)  : Does Tryz.prog 2 (shH ps ks) 2 (shH ps ks) (.call 16 [.slice (some ⟨0, 0, none⟩) ps.length 1, .slice (some ⟨1, 0, none⟩) ks.length 1, .int .i64 t]) (.val (.bool false)) :=
  call_of mixed conE3_holds [] [(0, true), (1, true)] (d := [(0, .br true)]) (n := 600) (c2 := 2) (L' := [.p (Cover (ps.map Value.string) ((ps.map Value.string).map (renV (nameOf [] 2 2) 9))), .p (Cover (ks.map Value.string) ((ks.map Value.string).map (renV (nameOf [] 2 2) 9)))]) (L := [.b (((↑ps.length : Int) != (↑ks.length : Int)) == true)]) (by kernel_rfl) rfl rfl (vcs_cons cover_str (vcs_cons cover_str vcs_nil)) (vcs_cons (vc_b h0) vcs_nil)
set_option maxRecDepth 100000 in
theorem so_w1 {ps ks : List ByteArray} {t : Int} (h0 : ((↑ps.length : Int) != (↑ks.length : Int)) = false) (h1 : (decide ((↑ps.length : Int) < (5 : Int))) = true) (hl : Does Tryz.prog 2 (shH ps ks) 2 (shH ps ks) (.inLoop shc (shT ps ks t 0)) (.out (.exit 0) (mkT 48 0 [(0, .slice (some ⟨0, 0, none⟩) ps.length 1)]))) : Does Tryz.prog 2 (shH ps ks) 2 (shH ps ks) (.call 16 [.slice (some ⟨0, 0, none⟩) ps.length 1, .slice (some ⟨1, 0, none⟩) ks.length 1, .int .i64 t]) (.val (.bool true)) :=
  call_of mixed conE3_holds [] [(0, true), (1, true)] (d := [(0, .br false), (1, .loop [0, 1, 2, 7] [0, 1] 2 (shH ps ks) (.exit 0) (mkT 48 0 [(0, .slice (some ⟨0, 0, none⟩) ps.length 1)])), (2, .br true), (3, .br true), (4, .br true), (5, .br true), (6, .br true)]) (n := 600) (c2 := 2) (L' := [.p (Cover (ps.map Value.string) ((ps.map Value.string).map (renV (nameOf [] 2 2) 9))), .p (Cover (ks.map Value.string) ((ks.map Value.string).map (renV (nameOf [] 2 2) 9)))]) (L := [.b ((decide ((↑ps.length : Int) < (5 : Int))) == true), .b ((decide ((↑ps.length : Int) < (5 : Int))) == true), .b ((decide ((↑ps.length : Int) < (5 : Int))) == true), .b ((decide ((↑ps.length : Int) < (5 : Int))) == true), .b ((decide ((↑ps.length : Int) < (5 : Int))) == true), .p (Does Tryz.prog 2 (shH ps ks) 2 (shH ps ks) (.inLoop shc (shT ps ks t 0)) (.out (.exit 0) (mkT 48 0 [(0, .slice (some ⟨0, 0, none⟩) ps.length 1)]))), .b (((↑ps.length : Int) != (↑ks.length : Int)) == false)]) (by kernel_rfl) rfl rfl (vcs_cons cover_str (vcs_cons cover_str vcs_nil)) (vcs_cons (vc_b h1) (vcs_cons (vc_b h1) (vcs_cons (vc_b h1) (vcs_cons (vc_b h1) (vcs_cons (vc_b h1) (vcs_cons (hl) (vcs_cons (vc_b h0) vcs_nil)))))))
set_option maxRecDepth 100000 in
theorem so_w2 {ps ks : List ByteArray} {t : Int} (h0 : ((↑ps.length : Int) != (↑ks.length : Int)) = false) (h1 : (decide ((↑ps.length : Int) < (5 : Int))) = false) (h2 : (decide ((0 : Int) ≤ (2 : Int) ∧ (2 : Int) < (↑ps.length : Int))) = true) (h3 : (!strEq (ps.getD (2 : Nat) default) { data := #[(114 : UInt8), (97 : UInt8), (110 : UInt8), (103 : UInt8), (101 : UInt8)] }) = true) (hl : Does Tryz.prog 2 (shH ps ks) 2 (shH ps ks) (.inLoop shc (shT ps ks t 0)) (.out (.exit 0) (mkT 48 0 [(0, .slice (some ⟨0, 0, none⟩) ps.length 1)]))) : Does Tryz.prog 2 (shH ps ks) 2 (shH ps ks) (.call 16 [.slice (some ⟨0, 0, none⟩) ps.length 1, .slice (some ⟨1, 0, none⟩) ks.length 1, .int .i64 t]) (.val (.bool true)) :=
  call_of mixed conE3_holds [] [(0, true), (1, true)] (d := [(0, .br false), (1, .loop [0, 1, 2, 7] [0, 1] 2 (shH ps ks) (.exit 0) (mkT 48 0 [(0, .slice (some ⟨0, 0, none⟩) ps.length 1)])), (2, .br false), (3, .br false), (4, .br true), (5, .br false), (6, .cell (.tuple ⟨[Go.Value.string (ps.getD (2 : Nat) default)]⟩)), (7, .br false), (8, .br false), (9, .br true), (10, .br true), (11, .br true), (12, .br true), (13, .br true), (14, .br true), (15, .br true), (16, .br true)]) (n := 600) (c2 := 2) (L' := [.p (Cover (ps.map Value.string) ((ps.map Value.string).map (renV (nameOf [] 2 2) 9))), .p (Cover (ks.map Value.string) ((ks.map Value.string).map (renV (nameOf [] 2 2) 9)))]) (L := [.b ((!strEq (ps.getD (2 : Nat) default) { data := #[(114 : UInt8), (97 : UInt8), (110 : UInt8), (103 : UInt8), (101 : UInt8)] }) == true), .b ((!strEq (ps.getD (2 : Nat) default) { data := #[(114 : UInt8), (97 : UInt8), (110 : UInt8), (103 : UInt8), (101 : UInt8)] }) == true), .b ((!strEq (ps.getD (2 : Nat) default) { data := #[(114 : UInt8), (97 : UInt8), (110 : UInt8), (103 : UInt8), (101 : UInt8)] }) == true), .b ((!strEq (ps.getD (2 : Nat) default) { data := #[(114 : UInt8), (97 : UInt8), (110 : UInt8), (103 : UInt8), (101 : UInt8)] }) == true), .b ((!strEq (ps.getD (2 : Nat) default) { data := #[(114 : UInt8), (97 : UInt8), (110 : UInt8), (103 : UInt8), (101 : UInt8)] }) == true), .b ((!strEq (ps.getD (2 : Nat) default) { data := #[(114 : UInt8), (97 : UInt8), (110 : UInt8), (103 : UInt8), (101 : UInt8)] }) == true), .b ((!strEq (ps.getD (2 : Nat) default) { data := #[(114 : UInt8), (97 : UInt8), (110 : UInt8), (103 : UInt8), (101 : UInt8)] }) == true), .b ((!strEq (ps.getD (2 : Nat) default) { data := #[(114 : UInt8), (97 : UInt8), (110 : UInt8), (103 : UInt8), (101 : UInt8)] }) == true), .b ((decide ((↑ps.length : Int) < (5 : Int))) == false), .b ((decide ((↑ps.length : Int) < (5 : Int))) == false), .p (List.take (1 : Nat) (List.drop (2 : Nat) (List.map Go.Value.string ps)) = [Go.Value.string (ps.getD (2 : Nat) default)] ∧ [Go.Value.string (ps.getD (2 : Nat) default)].length = (1 : Nat)), .b ((decide ((↑ps.length : Int) < (5 : Int))) == false), .b (decide ((0 : Int) ≤ (2 : Int) ∧ (2 : Int) < (↑ps.length : Int))), .b ((decide ((↑ps.length : Int) < (5 : Int))) == false), .b ((decide ((↑ps.length : Int) < (5 : Int))) == false), .p (Does Tryz.prog 2 (shH ps ks) 2 (shH ps ks) (.inLoop shc (shT ps ks t 0)) (.out (.exit 0) (mkT 48 0 [(0, .slice (some ⟨0, 0, none⟩) ps.length 1)]))), .b (((↑ps.length : Int) != (↑ks.length : Int)) == false)]) (by kernel_rfl) rfl rfl (vcs_cons cover_str (vcs_cons cover_str vcs_nil)) (vcs_cons (vc_b h3) (vcs_cons (vc_b h3) (vcs_cons (vc_b h3) (vcs_cons (vc_b h3) (vcs_cons (vc_b h3) (vcs_cons (vc_b h3) (vcs_cons (vc_b h3) (vcs_cons (vc_b h3) (vcs_cons (vc_b h1) (vcs_cons (vc_b h1) (vcs_cons ((rd_map1 (by omega) (by simp only [decide_eq_true_eq, decide_eq_false_iff_not] at *; omega))) (vcs_cons (vc_b h1) (vcs_cons (vc_c h2) (vcs_cons (vc_b h1) (vcs_cons (vc_b h1) (vcs_cons (hl) (vcs_cons (vc_b h0) vcs_nil)))))))))))))))))
set_option maxRecDepth 100000 in
theorem so_w3 {ps ks : List ByteArray} {t : Int} (h0 : ((↑ps.length : Int) != (↑ks.length : Int)) = false) (h1 : (decide ((↑ps.length : Int) < (5 : Int))) = false) (h2 : (decide ((0 : Int) ≤ (2 : Int) ∧ (2 : Int) < (↑ps.length : Int))) = true) (h3 : (!strEq (ps.getD (2 : Nat) default) { data := #[(114 : UInt8), (97 : UInt8), (110 : UInt8), (103 : UInt8), (101 : UInt8)] }) = false) (h4 : (decide ((0 : Int) ≤ (3 : Int) ∧ (3 : Int) < (↑ps.length : Int))) = true) (h5 : (decide ((0 : Int) ≤ (4 : Int) ∧ (4 : Int) < (↑ps.length : Int))) = true) (h6 : ((ps.getD (3 : Nat) default).data.toList.length.ble (4294967295 : Nat)) = true) (hl : Does Tryz.prog 2 (shH ps ks) 2 (shH ps ks) (.inLoop shc (shT ps ks t 0)) (.out (.exit 0) (mkT 48 0 [(0, .slice (some ⟨0, 0, none⟩) ps.length 1)]))) : Does Tryz.prog 2 (shH ps ks) 2 (shH ps ks) (.call 16 [.slice (some ⟨0, 0, none⟩) ps.length 1, .slice (some ⟨1, 0, none⟩) ks.length 1, .int .i64 t]) (.val (.bool (befB (ps.getD (3 : Nat) default) (ps.getD (4 : Nat) default)))) :=
  call_of mixed conE3_holds [] [(0, true), (1, true)] (d := [(0, .br false), (1, .loop [0, 1, 2, 7] [0, 1] 2 (shH ps ks) (.exit 0) (mkT 48 0 [(0, .slice (some ⟨0, 0, none⟩) ps.length 1)])), (2, .br false), (3, .br false), (4, .br true), (5, .br false), (6, .cell (.tuple ⟨[Go.Value.string (ps.getD (2 : Nat) default)]⟩)), (7, .br false), (8, .br false), (9, .br false), (10, .br false), (11, .br true), (12, .br false), (13, .cell (.tuple ⟨[Go.Value.string (ps.getD (3 : Nat) default)]⟩)), (14, .br false), (15, .br false), (16, .br true), (17, .br false), (18, .cell (.tuple ⟨[Go.Value.string (ps.getD (4 : Nat) default)]⟩)), (19, .br false), (20, .br true), (21, .br false)]) (n := 600) (c2 := 2) (L' := [.p (Cover (ps.map Value.string) ((ps.map Value.string).map (renV (nameOf [] 2 2) 9))), .p (Cover (ks.map Value.string) ((ks.map Value.string).map (renV (nameOf [] 2 2) 9)))]) (L := [.b ((!strEq (ps.getD (2 : Nat) default) { data := #[(114 : UInt8), (97 : UInt8), (110 : UInt8), (103 : UInt8), (101 : UInt8)] }) == false), .b ((ps.getD (3 : Nat) default).data.toList.length.ble (4294967295 : Nat)), .b ((!strEq (ps.getD (2 : Nat) default) { data := #[(114 : UInt8), (97 : UInt8), (110 : UInt8), (103 : UInt8), (101 : UInt8)] }) == false), .p (List.take (1 : Nat) (List.drop (4 : Nat) (List.map Go.Value.string ps)) = [Go.Value.string (ps.getD (4 : Nat) default)] ∧ [Go.Value.string (ps.getD (4 : Nat) default)].length = (1 : Nat)), .b ((!strEq (ps.getD (2 : Nat) default) { data := #[(114 : UInt8), (97 : UInt8), (110 : UInt8), (103 : UInt8), (101 : UInt8)] }) == false), .b (decide ((0 : Int) ≤ (4 : Int) ∧ (4 : Int) < (↑ps.length : Int))), .b ((!strEq (ps.getD (2 : Nat) default) { data := #[(114 : UInt8), (97 : UInt8), (110 : UInt8), (103 : UInt8), (101 : UInt8)] }) == false), .b ((!strEq (ps.getD (2 : Nat) default) { data := #[(114 : UInt8), (97 : UInt8), (110 : UInt8), (103 : UInt8), (101 : UInt8)] }) == false), .p (List.take (1 : Nat) (List.drop (3 : Nat) (List.map Go.Value.string ps)) = [Go.Value.string (ps.getD (3 : Nat) default)] ∧ [Go.Value.string (ps.getD (3 : Nat) default)].length = (1 : Nat)), .b ((!strEq (ps.getD (2 : Nat) default) { data := #[(114 : UInt8), (97 : UInt8), (110 : UInt8), (103 : UInt8), (101 : UInt8)] }) == false), .b (decide ((0 : Int) ≤ (3 : Int) ∧ (3 : Int) < (↑ps.length : Int))), .b ((!strEq (ps.getD (2 : Nat) default) { data := #[(114 : UInt8), (97 : UInt8), (110 : UInt8), (103 : UInt8), (101 : UInt8)] }) == false), .b ((!strEq (ps.getD (2 : Nat) default) { data := #[(114 : UInt8), (97 : UInt8), (110 : UInt8), (103 : UInt8), (101 : UInt8)] }) == false), .b ((decide ((↑ps.length : Int) < (5 : Int))) == false), .b ((decide ((↑ps.length : Int) < (5 : Int))) == false), .p (List.take (1 : Nat) (List.drop (2 : Nat) (List.map Go.Value.string ps)) = [Go.Value.string (ps.getD (2 : Nat) default)] ∧ [Go.Value.string (ps.getD (2 : Nat) default)].length = (1 : Nat)), .b ((decide ((↑ps.length : Int) < (5 : Int))) == false), .b (decide ((0 : Int) ≤ (2 : Int) ∧ (2 : Int) < (↑ps.length : Int))), .b ((decide ((↑ps.length : Int) < (5 : Int))) == false), .b ((decide ((↑ps.length : Int) < (5 : Int))) == false), .p (Does Tryz.prog 2 (shH ps ks) 2 (shH ps ks) (.inLoop shc (shT ps ks t 0)) (.out (.exit 0) (mkT 48 0 [(0, .slice (some ⟨0, 0, none⟩) ps.length 1)]))), .b (((↑ps.length : Int) != (↑ks.length : Int)) == false)]) (by kernel_rfl) rfl rfl (vcs_cons cover_str (vcs_cons cover_str vcs_nil)) (vcs_cons (vc_b h3) (vcs_cons (vc_c h6) (vcs_cons (vc_b h3) (vcs_cons ((rd_map1 (by omega) (by simp only [decide_eq_true_eq, decide_eq_false_iff_not] at *; omega))) (vcs_cons (vc_b h3) (vcs_cons (vc_c h5) (vcs_cons (vc_b h3) (vcs_cons (vc_b h3) (vcs_cons ((rd_map1 (by omega) (by simp only [decide_eq_true_eq, decide_eq_false_iff_not] at *; omega))) (vcs_cons (vc_b h3) (vcs_cons (vc_c h4) (vcs_cons (vc_b h3) (vcs_cons (vc_b h3) (vcs_cons (vc_b h1) (vcs_cons (vc_b h1) (vcs_cons ((rd_map1 (by omega) (by simp only [decide_eq_true_eq, decide_eq_false_iff_not] at *; omega))) (vcs_cons (vc_b h1) (vcs_cons (vc_c h2) (vcs_cons (vc_b h1) (vcs_cons (vc_b h1) (vcs_cons (hl) (vcs_cons (vc_b h0) vcs_nil))))))))))))))))))))))
set_option maxRecDepth 100000 in
theorem sr_w0 {ps ks : List ByteArray} {t : Int} (h0 : ((↑ps.length : Int) != (↑ks.length : Int)) = true)  : Does Tryz.prog 2 (shH ps ks) 2 (shH ps ks) (.call 16 [.slice (some ⟨0, 0, none⟩) ps.length 1, .slice (some ⟨1, 0, none⟩) ks.length 1, .int .i64 t]) (.val (.bool false)) :=
  call_of mixed conE3_holds [] [(0, true), (1, true)] (d := [(0, .br true)]) (n := 600) (c2 := 2) (L' := [.p (Cover (ps.map Value.string) ((ps.map Value.string).map (renV (nameOf [] 2 2) 9))), .p (Cover (ks.map Value.string) ((ks.map Value.string).map (renV (nameOf [] 2 2) 9)))]) (L := [.b (((↑ps.length : Int) != (↑ks.length : Int)) == true)]) (by kernel_rfl) rfl rfl (vcs_cons cover_str (vcs_cons cover_str vcs_nil)) (vcs_cons (vc_b h0) vcs_nil)
set_option maxRecDepth 100000 in
theorem sr_w1 {ps ks : List ByteArray} {t : Int} (h0 : ((↑ps.length : Int) != (↑ks.length : Int)) = false) (hl : Does Tryz.prog 2 (shH ps ks) 2 (shH ps ks) (.inLoop shc (shT ps ks t 0)) (.out .ret (mkT 48 0 [(6, .bool false)]))) : Does Tryz.prog 2 (shH ps ks) 2 (shH ps ks) (.call 16 [.slice (some ⟨0, 0, none⟩) ps.length 1, .slice (some ⟨1, 0, none⟩) ks.length 1, .int .i64 t]) (.val (.bool false)) :=
  call_of mixed conE3_holds [] [(0, true), (1, true)] (d := [(0, .br false), (1, .loop [0, 1, 2, 7] [0, 1] 2 (shH ps ks) .ret (mkT 48 0 [(6, .bool false)]))]) (n := 600) (c2 := 2) (L' := [.p (Cover (ps.map Value.string) ((ps.map Value.string).map (renV (nameOf [] 2 2) 9))), .p (Cover (ks.map Value.string) ((ks.map Value.string).map (renV (nameOf [] 2 2) 9)))]) (L := [.p (Does Tryz.prog 2 (shH ps ks) 2 (shH ps ks) (.inLoop shc (shT ps ks t 0)) (.out .ret (mkT 48 0 [(6, .bool false)]))), .b (((↑ps.length : Int) != (↑ks.length : Int)) == false)]) (by kernel_rfl) rfl rfl (vcs_cons cover_str (vcs_cons cover_str vcs_nil)) (vcs_cons (hl) (vcs_cons (vc_b h0) vcs_nil))

end Go.Proofs.YtkmicbhnfochjaaGreatDoor

namespace Go.Proofs.YtkmicbhnfochjaaGreatDoor
open Go Go.Sx Go.Eng
def okP (ps : List ByteArray) : Prop := ps.length ≤ 4294967295 ∧ ∀ p ∈ ps, p.data.toList.length ≤ 4294967295
theorem okP_at {ps : List ByteArray} (h : okP ps) {j : Nat} (hj : j < ps.length) : (ps.getD j default).data.toList.length.ble 4294967295 = true := by
  refine Nat.ble_eq_true_of_le (h.2 _ ?_)
  rw [List.getD_eq_getElem?_getD, List.getElem?_eq_getElem hj]
  exact List.getElem_mem hj
theorem drop_in {α : Type} [Inhabited α] {l : List α} {j : Nat} (h : j < l.length) : l.drop j = l.getD j default :: l.drop (j + 1) := by
  rw [List.drop_eq_getElem_cons h]
  congr 1
  simp [List.getD_eq_getElem?_getD, List.getElem?_eq_getElem h]
theorem not_t' {b : Bool} (h : b = true) : (!b) = false := by rw [h]; rfl
theorem not_f' {b : Bool} (h : b = false) : (!b) = true := by rw [h]; rfl
theorem sh_mid {ps ks : List ByteArray} {t : Int} (hp : okP ps) (hl : ps.length = ks.length) {h0 : Heap} : ∀ (k j : Nat), j + k = ps.length →
    (fitsL t (ps.drop j) (ks.drop j) = true → Mid Tryz.prog 2 h0 2 (shH ps ks) 2 (shH ps ks) shc (shT ps ks t j) (.exit 0) (mkT 48 0 [(0, .slice (some ⟨0, 0, none⟩) ps.length 1)])) ∧
    (fitsL t (ps.drop j) (ks.drop j) = false → Mid Tryz.prog 2 h0 2 (shH ps ks) 2 (shH ps ks) shc (shT ps ks t j) .ret (mkT 48 0 [(6, .bool false)])) := by
  have hps := hp.1
  intro k
  induction k with
  | zero =>
    intro j hj
    rw [List.drop_of_length_le (l := ps) (by omega), List.drop_of_length_le (l := ks) (by omega)]
    exact ⟨fun _ => (sh_e (decide_eq_false (by omega))).mid (by simp) (by decide), fun h => by cases h⟩
  | succ k ih =>
    intro j hj
    have hj1 : j < ps.length := by omega
    have hj2 : j < ks.length := by omega
    have b0 : decide ((j : Int) < (ps.length : Int)) = true := decide_eq_true (by omega)
    have b1 : decide ((0 : Int) ≤ (j : Int) ∧ (j : Int) < (ps.length : Int)) = true := decide_eq_true (by omega)
    have b2 : decide ((0 : Int) ≤ (j : Int) ∧ (j : Int) < (ks.length : Int)) = true := decide_eq_true (by omega)
    have b3 := okP_at hp hj1
    have q := ih (j + 1) (by omega)
    rw [drop_in hj1, drop_in hj2]
    simp only [fitsL]
    cases hf : fitsB t (ps.getD j default) (ks.getD j default) with
    | true =>
      have g := sh_s (t := t) b0 b1 b2 b3 (not_t' hf)
      rw [wrap64 (by omega) (by omega)] at g
      rw [Bool.true_and]
      exact ⟨fun h => g.mid (by decide) (by decide) (q.1 h), fun h => g.mid (by decide) (by decide) (q.2 h)⟩
    | false =>
      have g := sh_r (t := t) b0 b1 b2 b3 (not_f' hf)
      rw [Bool.false_and]
      exact ⟨fun h => (by cases h), fun _ => g.mid (by simp) (by decide)⟩
theorem spanB_short {ps : List ByteArray} (h : ps.length < 5) : spanB befB ps = true := by
  match ps, h with
  | [], _ => rfl
  | [_], _ => rfl
  | [_, _], _ => rfl
  | [_, _, _], _ => rfl
  | [_, _, _, _], _ => rfl
/-- At most five parts: the document has no longer shapes. -/
theorem shape_does {ps ks : List ByteArray} {t : Int} (hp : okP ps) (hk : ks.length ≤ 5) (hks : ks.length ≤ 4294967295) :
    Does Tryz.prog 2 (shH ps ks) 2 (shH ps ks) (.call 16 [.slice (some ⟨0, 0, none⟩) ps.length 1, .slice (some ⟨1, 0, none⟩) ks.length 1, .int .i64 t]) (.val (.bool (shapeB befB t ps ks))) := by
  unfold shapeB
  by_cases hl : ps.length = ks.length
  · have m := sh_mid (t := t) hp hl (h0 := shH ps ks) ps.length 0 (by omega)
    simp only [List.drop_zero] at m
    have b0 : ((ps.length : Int) != (ks.length : Int)) = false := by rw [hl]; simp
    rw [decide_eq_true hl, Bool.true_and]
    cases hf : fitsL t ps ks with
    | false =>
      rw [Bool.false_and]
      exact sr_w1 b0 (does_of_mid0 (by decide) (m.2 hf))
    | true =>
      rw [Bool.true_and]
      have d := does_of_mid0 (by decide) (m.1 hf)
      by_cases h5 : ps.length < 5
      · rw [spanB_short h5]
        exact so_w1 b0 (decide_eq_true (by omega)) d
      · rcases ps with _ | ⟨a0, _ | ⟨a1, _ | ⟨a2, _ | ⟨a3, _ | ⟨a4, _ | ⟨a5, r⟩⟩⟩⟩⟩⟩
        · simp at h5
        · simp at h5
        · simp at h5
        · simp at h5
        · simp at h5
        ·
          cases hr : strEq a2 s_range with
          | false =>
            have : spanB befB [a0, a1, a2, a3, a4] = true := by
              unfold spanB
              rw [strEq_dec] at hr
              simp only [hr, Bool.not_false, Bool.true_or]
            rw [this]
            exact so_w2 b0 (decide_eq_false (by simp)) (decide_eq_true (by simp)) (not_f' hr) d
          | true =>
            have : spanB befB [a0, a1, a2, a3, a4] = befB a3 a4 := by
              unfold spanB
              rw [strEq_dec] at hr
              simp only [hr, Bool.not_true, Bool.false_or]
            rw [this]
            exact so_w3 b0 (decide_eq_false (by simp)) (decide_eq_true (by simp)) (not_t' hr) (decide_eq_true (by simp)) (decide_eq_true (by simp)) (okP_at hp (j := 3) (by simp)) d
        · simp at hl; omega
  · rw [decide_eq_false hl, Bool.false_and, Bool.false_and]
    have b0 : ((ps.length : Int) != (ks.length : Int)) = true := by simp; omega
    exact so_w0 b0
end Go.Proofs.YtkmicbhnfochjaaGreatDoor
