/- Rounds of the loops of number and word, the engine's and the document's. No condition. -/
import Derived.Test.YtkmicbhnfochjaaGreatDoorProg
import Derived.Test.YtkmicbhnfochjaaGreatDoorMSxStr

namespace Go.Proofs.YtkmicbhnfochjaaGreatDoor
open Go Go.Sx
theorem mixed : Tryz.prog.follows .mixedOrders = true := by kernel_rfl
noncomputable def bodyC (f : Nat) : Code := match Tryz.prog.funcs[f]? with
  | some fn => (match fn.body with
    | some c => c
    | none => .skip)
  | none => .skip
def subC : List Nat → Code → Code
  | [], c => c
  | k :: p, c => match c with
    | .seq a b => (match k with
      | 0 => subC p a
      | _ => subC p b)
    | .cond _ a b => (match k with
      | 0 => subC p a
      | _ => subC p b)
    | .block _ a => subC p a
    | .loop a => subC p a
    | .scope a => subC p a
    | c => c
/-- number's loop, word's loop; the document's. -/
noncomputable def nuc : Code := subC [1, 1, 1, 0, 1, 0, 0] (bodyC 50)
noncomputable def nuT (n : Int) : List Value := mkT 43 0 [(4, .int .i64 n), (26, .pointer (some ⟨0, 0, none⟩))]
noncomputable def itH (s : ByteArray) (j : Nat) : Heap := [(0, .iter s j)]
noncomputable def woc : Code := subC [1, 0, 1, 0, 0] (bodyC 72)
noncomputable def woT (s : ByteArray) : List Value := mkT 26 0 [(0, .string s), (6, .pointer (some ⟨0, 0, none⟩))]
noncomputable def nrc : Code := subC [1, 1, 1, 0, 1, 0, 0] (bodyC 28)
noncomputable def nrT (s : ByteArray) (n : Int) (j : Nat) : List Value := mkT 49 0 [(0, .string s), (4, .int .i64 n), (5, .int .i64 j)]
noncomputable def wrc : Code := subC [1, 0, 1, 0, 0] (bodyC 53)
noncomputable def wrT (s : ByteArray) (j : Nat) : List Value := mkT 41 0 [(0, .string s), (3, .int .i64 j)]
set_option maxRecDepth 100000 in
theorem n_s {s : ByteArray} {j : Nat} {n : Int} (h0 : (Nat.blt j s.data.toList.length) = true) (h1 : (Decidable.decide (((Utf8.decode s j).1 : Int) < 48)) = false) (h2 : (Decidable.decide (((Utf8.decode s j).1 : Int) > 57)) = false)   :
    Sx.Goes Tryz.prog 1 1 1 (itH s j) nuc (nuT n) (itH s (j + (Utf8.decode s j).2)) (mkT 43 0 [(4, .int .i64 (IntKind.i64.wrap (IntKind.i64.wrap (10 * n) + IntKind.i64.wrap (IntKind.i32.wrap (((Utf8.decode s j).1 : Int) - 48))))), (26, .pointer (some ⟨0, 0, none⟩))]) :=
  goes_of mixed noC_gives.holds [] [(0, false)] (d := [(0, .br true), (2, .br false), (3, .br false), (4, .br false), (5, .br false)]) (n := 600) (c2 := 1) (L' := []) (L := [.b ((Decidable.decide (((Utf8.decode s j).1 : Int) > 57)) == false), .b ((Decidable.decide (((Utf8.decode s j).1 : Int) < 48)) == false), .b ((Decidable.decide (((Utf8.decode s j).1 : Int) < 48)) == false), .b ((Decidable.decide (((Utf8.decode s j).1 : Int) < 48)) == false), .b ((Nat.blt j s.data.toList.length) == true)]) (by kernel_rfl) rfl rfl (vcs_nil)
    (by
      refine vcs_cons (vc_b h2) ?_
      refine vcs_cons (vc_b h1) ?_
      refine vcs_cons (vc_b h1) ?_
      refine vcs_cons (vc_b h1) ?_
      refine vcs_cons (vc_b h0) ?_
      exact vcs_nil)
set_option maxRecDepth 100000 in
theorem n_lo {s : ByteArray} {j : Nat} {n : Int} (h0 : (Nat.blt j s.data.toList.length) = true) (h1 : (Decidable.decide (((Utf8.decode s j).1 : Int) < 48)) = true)   :
    Sx.Ends Tryz.prog 1 1 1 (itH s j) nuc (nuT n) .ret [] (mkT 43 0 [(2, .int .i64 0), (3, .bool false)]) :=
  ends_of mixed noC_gives.holds [] [] (d := [(0, .br true), (2, .br true), (3, .br true), (4, .br true)]) (n := 600) (c2 := 1) (L' := []) (L := [.b ((Decidable.decide (((Utf8.decode s j).1 : Int) < 48)) == true), .b ((Decidable.decide (((Utf8.decode s j).1 : Int) < 48)) == true), .b ((Decidable.decide (((Utf8.decode s j).1 : Int) < 48)) == true), .b ((Nat.blt j s.data.toList.length) == true)]) (by kernel_rfl) rfl rfl (vcs_nil)
    (by
      refine vcs_cons (vc_b h1) ?_
      refine vcs_cons (vc_b h1) ?_
      refine vcs_cons (vc_b h1) ?_
      refine vcs_cons (vc_b h0) ?_
      exact vcs_nil)
set_option maxRecDepth 100000 in
theorem n_hi {s : ByteArray} {j : Nat} {n : Int} (h0 : (Nat.blt j s.data.toList.length) = true) (h1 : (Decidable.decide (((Utf8.decode s j).1 : Int) < 48)) = false) (h2 : (Decidable.decide (((Utf8.decode s j).1 : Int) > 57)) = true)   :
    Sx.Ends Tryz.prog 1 1 1 (itH s j) nuc (nuT n) .ret [] (mkT 43 0 [(2, .int .i64 0), (3, .bool false)]) :=
  ends_of mixed noC_gives.holds [] [] (d := [(0, .br true), (2, .br false), (3, .br false), (4, .br false), (5, .br true)]) (n := 600) (c2 := 1) (L' := []) (L := [.b ((Decidable.decide (((Utf8.decode s j).1 : Int) > 57)) == true), .b ((Decidable.decide (((Utf8.decode s j).1 : Int) < 48)) == false), .b ((Decidable.decide (((Utf8.decode s j).1 : Int) < 48)) == false), .b ((Decidable.decide (((Utf8.decode s j).1 : Int) < 48)) == false), .b ((Nat.blt j s.data.toList.length) == true)]) (by kernel_rfl) rfl rfl (vcs_nil)
    (by
      refine vcs_cons (vc_b h2) ?_
      refine vcs_cons (vc_b h1) ?_
      refine vcs_cons (vc_b h1) ?_
      refine vcs_cons (vc_b h1) ?_
      refine vcs_cons (vc_b h0) ?_
      exact vcs_nil)
set_option maxRecDepth 100000 in
theorem n_e {s : ByteArray} {j : Nat} {n : Int} (h0 : (Nat.blt j s.data.toList.length) = false)   :
    Sx.Ends Tryz.prog 1 1 1 (itH s j) nuc (nuT n) (.exit 0) [] (mkT 43 0 [(4, .int .i64 n)]) :=
  ends_of mixed noC_gives.holds [] [] (d := [(0, .br false)]) (n := 600) (c2 := 1) (L' := []) (L := [.b ((Nat.blt j s.data.toList.length) == false)]) (by kernel_rfl) rfl rfl (vcs_nil)
    (by
      refine vcs_cons (vc_b h0) ?_
      exact vcs_nil)
set_option maxRecDepth 100000 in
theorem w_l {s : ByteArray} {j : Nat} (h0 : (Nat.blt j s.data.toList.length) = true) (h1 : (Decidable.decide (((Utf8.decode s j).1 : Int) < 97)) = false) (h2 : (Decidable.decide (((Utf8.decode s j).1 : Int) > 122)) = false)   :
    Sx.Goes Tryz.prog 1 1 1 (itH s j) woc (woT s) (itH s (j + (Utf8.decode s j).2)) (mkT 26 0 [(0, .string s), (6, .pointer (some ⟨0, 0, none⟩))]) :=
  goes_of mixed noC_gives.holds [] [(0, false)] (d := [(0, .br true), (2, .br false), (3, .br false), (4, .br false), (5, .br false), (6, .br false), (7, .br false), (8, .br false), (9, .br false)]) (n := 600) (c2 := 1) (L' := []) (L := [.b ((Decidable.decide (((Utf8.decode s j).1 : Int) > 122)) == false), .b ((Decidable.decide (((Utf8.decode s j).1 : Int) > 122)) == false), .b ((Decidable.decide (((Utf8.decode s j).1 : Int) > 122)) == false), .b ((Decidable.decide (((Utf8.decode s j).1 : Int) > 122)) == false), .b ((Decidable.decide (((Utf8.decode s j).1 : Int) > 122)) == false), .b ((Decidable.decide (((Utf8.decode s j).1 : Int) < 97)) == false), .b ((Decidable.decide (((Utf8.decode s j).1 : Int) < 97)) == false), .b ((Decidable.decide (((Utf8.decode s j).1 : Int) < 97)) == false), .b ((Nat.blt j s.data.toList.length) == true)]) (by kernel_rfl) rfl rfl (vcs_nil)
    (by
      refine vcs_cons (vc_b h2) ?_
      refine vcs_cons (vc_b h2) ?_
      refine vcs_cons (vc_b h2) ?_
      refine vcs_cons (vc_b h2) ?_
      refine vcs_cons (vc_b h2) ?_
      refine vcs_cons (vc_b h1) ?_
      refine vcs_cons (vc_b h1) ?_
      refine vcs_cons (vc_b h1) ?_
      refine vcs_cons (vc_b h0) ?_
      exact vcs_nil)
set_option maxRecDepth 100000 in
theorem w_d {s : ByteArray} {j : Nat} (h0 : (Nat.blt j s.data.toList.length) = true) (h1 : (Decidable.decide (((Utf8.decode s j).1 : Int) < 97)) = true) (h2 : (Decidable.decide (((Utf8.decode s j).1 : Int) < 48)) = false) (h3 : (Decidable.decide (((Utf8.decode s j).1 : Int) > 57)) = false)   :
    Sx.Goes Tryz.prog 1 1 1 (itH s j) woc (woT s) (itH s (j + (Utf8.decode s j).2)) (mkT 26 0 [(0, .string s), (6, .pointer (some ⟨0, 0, none⟩))]) :=
  goes_of mixed noC_gives.holds [] [(0, false)] (d := [(0, .br true), (2, .br true), (3, .br true), (4, .br true), (8, .br false), (9, .br false), (11, .br false), (13, .br false)]) (n := 600) (c2 := 1) (L' := []) (L := [.b ((Decidable.decide (((Utf8.decode s j).1 : Int) > 57)) == false), .b ((Decidable.decide (((Utf8.decode s j).1 : Int) < 48)) == false), .b ((Decidable.decide (((Utf8.decode s j).1 : Int) < 48)) == false), .b ((Decidable.decide (((Utf8.decode s j).1 : Int) < 48)) == false), .b ((Decidable.decide (((Utf8.decode s j).1 : Int) < 97)) == true), .b ((Decidable.decide (((Utf8.decode s j).1 : Int) < 97)) == true), .b ((Decidable.decide (((Utf8.decode s j).1 : Int) < 97)) == true), .b ((Nat.blt j s.data.toList.length) == true)]) (by kernel_rfl) rfl rfl (vcs_nil)
    (by
      refine vcs_cons (vc_b h3) ?_
      refine vcs_cons (vc_b h2) ?_
      refine vcs_cons (vc_b h2) ?_
      refine vcs_cons (vc_b h2) ?_
      refine vcs_cons (vc_b h1) ?_
      refine vcs_cons (vc_b h1) ?_
      refine vcs_cons (vc_b h1) ?_
      refine vcs_cons (vc_b h0) ?_
      exact vcs_nil)
set_option maxRecDepth 100000 in
theorem w_lo {s : ByteArray} {j : Nat} (h0 : (Nat.blt j s.data.toList.length) = true) (h1 : (Decidable.decide (((Utf8.decode s j).1 : Int) < 97)) = true) (h2 : (Decidable.decide (((Utf8.decode s j).1 : Int) < 48)) = true)   :
    Sx.Ends Tryz.prog 1 1 1 (itH s j) woc (woT s) .ret [] (mkT 26 0 [(2, .bool false)]) :=
  ends_of mixed noC_gives.holds [] [] (d := [(0, .br true), (2, .br true), (3, .br true), (4, .br true), (8, .br true), (9, .br true), (11, .br true)]) (n := 600) (c2 := 1) (L' := []) (L := [.b ((Decidable.decide (((Utf8.decode s j).1 : Int) < 48)) == true), .b ((Decidable.decide (((Utf8.decode s j).1 : Int) < 48)) == true), .b ((Decidable.decide (((Utf8.decode s j).1 : Int) < 48)) == true), .b ((Decidable.decide (((Utf8.decode s j).1 : Int) < 97)) == true), .b ((Decidable.decide (((Utf8.decode s j).1 : Int) < 97)) == true), .b ((Decidable.decide (((Utf8.decode s j).1 : Int) < 97)) == true), .b ((Nat.blt j s.data.toList.length) == true)]) (by kernel_rfl) rfl rfl (vcs_nil)
    (by
      refine vcs_cons (vc_b h2) ?_
      refine vcs_cons (vc_b h2) ?_
      refine vcs_cons (vc_b h2) ?_
      refine vcs_cons (vc_b h1) ?_
      refine vcs_cons (vc_b h1) ?_
      refine vcs_cons (vc_b h1) ?_
      refine vcs_cons (vc_b h0) ?_
      exact vcs_nil)
set_option maxRecDepth 100000 in
theorem w_mid {s : ByteArray} {j : Nat} (h0 : (Nat.blt j s.data.toList.length) = true) (h1 : (Decidable.decide (((Utf8.decode s j).1 : Int) < 97)) = true) (h2 : (Decidable.decide (((Utf8.decode s j).1 : Int) < 48)) = false) (h3 : (Decidable.decide (((Utf8.decode s j).1 : Int) > 57)) = true)   :
    Sx.Ends Tryz.prog 1 1 1 (itH s j) woc (woT s) .ret [] (mkT 26 0 [(2, .bool false)]) :=
  ends_of mixed noC_gives.holds [] [] (d := [(0, .br true), (2, .br true), (3, .br true), (4, .br true), (8, .br false), (9, .br false), (11, .br false), (13, .br true)]) (n := 600) (c2 := 1) (L' := []) (L := [.b ((Decidable.decide (((Utf8.decode s j).1 : Int) > 57)) == true), .b ((Decidable.decide (((Utf8.decode s j).1 : Int) < 48)) == false), .b ((Decidable.decide (((Utf8.decode s j).1 : Int) < 48)) == false), .b ((Decidable.decide (((Utf8.decode s j).1 : Int) < 48)) == false), .b ((Decidable.decide (((Utf8.decode s j).1 : Int) < 97)) == true), .b ((Decidable.decide (((Utf8.decode s j).1 : Int) < 97)) == true), .b ((Decidable.decide (((Utf8.decode s j).1 : Int) < 97)) == true), .b ((Nat.blt j s.data.toList.length) == true)]) (by kernel_rfl) rfl rfl (vcs_nil)
    (by
      refine vcs_cons (vc_b h3) ?_
      refine vcs_cons (vc_b h2) ?_
      refine vcs_cons (vc_b h2) ?_
      refine vcs_cons (vc_b h2) ?_
      refine vcs_cons (vc_b h1) ?_
      refine vcs_cons (vc_b h1) ?_
      refine vcs_cons (vc_b h1) ?_
      refine vcs_cons (vc_b h0) ?_
      exact vcs_nil)
set_option maxRecDepth 100000 in
theorem w_hi {s : ByteArray} {j : Nat} (h0 : (Nat.blt j s.data.toList.length) = true) (h1 : (Decidable.decide (((Utf8.decode s j).1 : Int) < 97)) = false) (h2 : (Decidable.decide (((Utf8.decode s j).1 : Int) > 122)) = true) (h3 : (Decidable.decide (((Utf8.decode s j).1 : Int) < 48)) = false) (h4 : (Decidable.decide (((Utf8.decode s j).1 : Int) > 57)) = true)   :
    Sx.Ends Tryz.prog 1 1 1 (itH s j) woc (woT s) .ret [] (mkT 26 0 [(2, .bool false)]) :=
  ends_of mixed noC_gives.holds [] [] (d := [(0, .br true), (2, .br false), (3, .br false), (4, .br false), (5, .br true), (6, .br true), (7, .br true), (8, .br false), (9, .br false), (10, .br true), (11, .br false), (12, .br true), (13, .br true)]) (n := 600) (c2 := 1) (L' := []) (L := [.b ((Decidable.decide (((Utf8.decode s j).1 : Int) > 57)) == true), .b ((Decidable.decide (((Utf8.decode s j).1 : Int) > 122)) == true), .b ((Decidable.decide (((Utf8.decode s j).1 : Int) < 48)) == false), .b ((Decidable.decide (((Utf8.decode s j).1 : Int) > 122)) == true), .b ((Decidable.decide (((Utf8.decode s j).1 : Int) < 48)) == false), .b ((Decidable.decide (((Utf8.decode s j).1 : Int) < 48)) == false), .b ((Decidable.decide (((Utf8.decode s j).1 : Int) > 122)) == true), .b ((Decidable.decide (((Utf8.decode s j).1 : Int) > 122)) == true), .b ((Decidable.decide (((Utf8.decode s j).1 : Int) > 122)) == true), .b ((Decidable.decide (((Utf8.decode s j).1 : Int) < 97)) == false), .b ((Decidable.decide (((Utf8.decode s j).1 : Int) < 97)) == false), .b ((Decidable.decide (((Utf8.decode s j).1 : Int) < 97)) == false), .b ((Nat.blt j s.data.toList.length) == true)]) (by kernel_rfl) rfl rfl (vcs_nil)
    (by
      refine vcs_cons (vc_b h4) ?_
      refine vcs_cons (vc_b h2) ?_
      refine vcs_cons (vc_b h3) ?_
      refine vcs_cons (vc_b h2) ?_
      refine vcs_cons (vc_b h3) ?_
      refine vcs_cons (vc_b h3) ?_
      refine vcs_cons (vc_b h2) ?_
      refine vcs_cons (vc_b h2) ?_
      refine vcs_cons (vc_b h2) ?_
      refine vcs_cons (vc_b h1) ?_
      refine vcs_cons (vc_b h1) ?_
      refine vcs_cons (vc_b h1) ?_
      refine vcs_cons (vc_b h0) ?_
      exact vcs_nil)
set_option maxRecDepth 100000 in
theorem w_e {s : ByteArray} {j : Nat} (h0 : (Nat.blt j s.data.toList.length) = false)   :
    Sx.Ends Tryz.prog 1 1 1 (itH s j) woc (woT s) (.exit 0) [] (mkT 26 0 [(0, .string s)]) :=
  ends_of mixed noC_gives.holds [] [] (d := [(0, .br false)]) (n := 600) (c2 := 1) (L' := []) (L := [.b ((Nat.blt j s.data.toList.length) == false)]) (by kernel_rfl) rfl rfl (vcs_nil)
    (by
      refine vcs_cons (vc_b h0) ?_
      exact vcs_nil)
set_option maxRecDepth 100000 in
theorem nr_s {s : ByteArray} {j : Nat} {n : Int} (h0 : (Decidable.decide ((j : Int) < (s.data.toList.length : Int))) = true) (h1 : (Decidable.decide (0 ≤ (j : Int) ∧ (j : Int) < (s.data.toList.length : Int))) = true) (h2 : (Decidable.decide ((((s.data.toList.getD ((j : Int)).toNat 0).toNat : Nat) : Int) < 48)) = false) (h3 : (Decidable.decide ((((s.data.toList.getD ((j : Int)).toNat 0).toNat : Nat) : Int) > 57)) = false)   :
    Sx.Goes Tryz.prog 0 0 0 [] nrc (nrT s n j) [] (mkT 49 0 [(0, .string s), (4, .int .i64 (IntKind.i64.wrap (IntKind.i64.wrap (IntKind.i64.wrap (n * 10) + IntKind.i64.wrap (((s.data.toList.getD ((j : Int)).toNat 0).toNat : Nat) : Int)) - 48))), (5, .int .i64 (IntKind.i64.wrap ((j : Int) + 1)))]) :=
  goes_of mixed noC_gives.holds [] [] (d := [(0, .br true), (1, .br true), (2, .br false), (3, .br false), (4, .br false), (5, .br true), (6, .br false), (7, .br false), (8, .br false), (9, .br true)]) (n := 600) (c2 := 0) (L' := []) (L := [.b (Decidable.decide (0 ≤ (j : Int) ∧ (j : Int) < (s.data.toList.length : Int))), .b ((Decidable.decide ((((s.data.toList.getD ((j : Int)).toNat 0).toNat : Nat) : Int) > 57)) == false), .b ((Decidable.decide ((((s.data.toList.getD ((j : Int)).toNat 0).toNat : Nat) : Int) < 48)) == false), .b ((Decidable.decide ((((s.data.toList.getD ((j : Int)).toNat 0).toNat : Nat) : Int) < 48)) == false), .b (Decidable.decide (0 ≤ (j : Int) ∧ (j : Int) < (s.data.toList.length : Int))), .b ((Decidable.decide ((((s.data.toList.getD ((j : Int)).toNat 0).toNat : Nat) : Int) < 48)) == false), .b ((Decidable.decide ((((s.data.toList.getD ((j : Int)).toNat 0).toNat : Nat) : Int) < 48)) == false), .b ((Decidable.decide ((((s.data.toList.getD ((j : Int)).toNat 0).toNat : Nat) : Int) < 48)) == false), .b (Decidable.decide (0 ≤ (j : Int) ∧ (j : Int) < (s.data.toList.length : Int))), .b ((Decidable.decide ((j : Int) < (s.data.toList.length : Int))) == true)]) (by kernel_rfl) rfl rfl (vcs_nil)
    (by
      refine vcs_cons (vc_c h1) ?_
      refine vcs_cons (vc_b h3) ?_
      refine vcs_cons (vc_b h2) ?_
      refine vcs_cons (vc_b h2) ?_
      refine vcs_cons (vc_c h1) ?_
      refine vcs_cons (vc_b h2) ?_
      refine vcs_cons (vc_b h2) ?_
      refine vcs_cons (vc_b h2) ?_
      refine vcs_cons (vc_c h1) ?_
      refine vcs_cons (vc_b h0) ?_
      exact vcs_nil)
set_option maxRecDepth 100000 in
theorem nr_lo {s : ByteArray} {j : Nat} {n : Int} (h0 : (Decidable.decide ((j : Int) < (s.data.toList.length : Int))) = true) (h1 : (Decidable.decide (0 ≤ (j : Int) ∧ (j : Int) < (s.data.toList.length : Int))) = true) (h2 : (Decidable.decide ((((s.data.toList.getD ((j : Int)).toNat 0).toNat : Nat) : Int) < 48)) = true)   :
    Sx.Ends Tryz.prog 0 0 0 [] nrc (nrT s n j) .ret [] (mkT 49 0 [(2, .int .i64 0), (3, .bool false)]) :=
  ends_of mixed noC_gives.holds [] [] (d := [(0, .br true), (1, .br true), (2, .br true), (3, .br true), (4, .br true), (5, .br true), (6, .br true)]) (n := 600) (c2 := 0) (L' := []) (L := [.b ((Decidable.decide ((((s.data.toList.getD ((j : Int)).toNat 0).toNat : Nat) : Int) < 48)) == true), .b ((Decidable.decide ((((s.data.toList.getD ((j : Int)).toNat 0).toNat : Nat) : Int) < 48)) == true), .b ((Decidable.decide ((((s.data.toList.getD ((j : Int)).toNat 0).toNat : Nat) : Int) < 48)) == true), .b ((Decidable.decide ((((s.data.toList.getD ((j : Int)).toNat 0).toNat : Nat) : Int) < 48)) == true), .b ((Decidable.decide ((((s.data.toList.getD ((j : Int)).toNat 0).toNat : Nat) : Int) < 48)) == true), .b (Decidable.decide (0 ≤ (j : Int) ∧ (j : Int) < (s.data.toList.length : Int))), .b ((Decidable.decide ((j : Int) < (s.data.toList.length : Int))) == true)]) (by kernel_rfl) rfl rfl (vcs_nil)
    (by
      refine vcs_cons (vc_b h2) ?_
      refine vcs_cons (vc_b h2) ?_
      refine vcs_cons (vc_b h2) ?_
      refine vcs_cons (vc_b h2) ?_
      refine vcs_cons (vc_b h2) ?_
      refine vcs_cons (vc_c h1) ?_
      refine vcs_cons (vc_b h0) ?_
      exact vcs_nil)
set_option maxRecDepth 100000 in
theorem nr_hi {s : ByteArray} {j : Nat} {n : Int} (h0 : (Decidable.decide ((j : Int) < (s.data.toList.length : Int))) = true) (h1 : (Decidable.decide (0 ≤ (j : Int) ∧ (j : Int) < (s.data.toList.length : Int))) = true) (h2 : (Decidable.decide ((((s.data.toList.getD ((j : Int)).toNat 0).toNat : Nat) : Int) < 48)) = false) (h3 : (Decidable.decide ((((s.data.toList.getD ((j : Int)).toNat 0).toNat : Nat) : Int) > 57)) = true)   :
    Sx.Ends Tryz.prog 0 0 0 [] nrc (nrT s n j) .ret [] (mkT 49 0 [(2, .int .i64 0), (3, .bool false)]) :=
  ends_of mixed noC_gives.holds [] [] (d := [(0, .br true), (1, .br true), (2, .br false), (3, .br false), (4, .br false), (5, .br true), (6, .br false), (7, .br false), (8, .br true)]) (n := 600) (c2 := 0) (L' := []) (L := [.b ((Decidable.decide ((((s.data.toList.getD ((j : Int)).toNat 0).toNat : Nat) : Int) > 57)) == true), .b ((Decidable.decide ((((s.data.toList.getD ((j : Int)).toNat 0).toNat : Nat) : Int) < 48)) == false), .b ((Decidable.decide ((((s.data.toList.getD ((j : Int)).toNat 0).toNat : Nat) : Int) < 48)) == false), .b (Decidable.decide (0 ≤ (j : Int) ∧ (j : Int) < (s.data.toList.length : Int))), .b ((Decidable.decide ((((s.data.toList.getD ((j : Int)).toNat 0).toNat : Nat) : Int) < 48)) == false), .b ((Decidable.decide ((((s.data.toList.getD ((j : Int)).toNat 0).toNat : Nat) : Int) < 48)) == false), .b ((Decidable.decide ((((s.data.toList.getD ((j : Int)).toNat 0).toNat : Nat) : Int) < 48)) == false), .b (Decidable.decide (0 ≤ (j : Int) ∧ (j : Int) < (s.data.toList.length : Int))), .b ((Decidable.decide ((j : Int) < (s.data.toList.length : Int))) == true)]) (by kernel_rfl) rfl rfl (vcs_nil)
    (by
      refine vcs_cons (vc_b h3) ?_
      refine vcs_cons (vc_b h2) ?_
      refine vcs_cons (vc_b h2) ?_
      refine vcs_cons (vc_c h1) ?_
      refine vcs_cons (vc_b h2) ?_
      refine vcs_cons (vc_b h2) ?_
      refine vcs_cons (vc_b h2) ?_
      refine vcs_cons (vc_c h1) ?_
      refine vcs_cons (vc_b h0) ?_
      exact vcs_nil)
set_option maxRecDepth 100000 in
theorem nr_e {s : ByteArray} {j : Nat} {n : Int} (h0 : (Decidable.decide ((j : Int) < (s.data.toList.length : Int))) = false)   :
    Sx.Ends Tryz.prog 0 0 0 [] nrc (nrT s n j) (.exit 0) [] (mkT 49 0 [(0, .string s), (4, .int .i64 n)]) :=
  ends_of mixed noC_gives.holds [] [] (d := [(0, .br false)]) (n := 600) (c2 := 0) (L' := []) (L := [.b ((Decidable.decide ((j : Int) < (s.data.toList.length : Int))) == false)]) (by kernel_rfl) rfl rfl (vcs_nil)
    (by
      refine vcs_cons (vc_b h0) ?_
      exact vcs_nil)
set_option maxRecDepth 100000 in
theorem wr_l {s : ByteArray} {j : Nat} (h0 : (Decidable.decide ((j : Int) < (s.data.toList.length : Int))) = true) (h1 : (Decidable.decide (0 ≤ (j : Int) ∧ (j : Int) < (s.data.toList.length : Int))) = true) (h2 : (Decidable.decide ((((s.data.toList.getD ((j : Int)).toNat 0).toNat : Nat) : Int) ≥ 97)) = true) (h3 : (Decidable.decide ((((s.data.toList.getD ((j : Int)).toNat 0).toNat : Nat) : Int) ≤ 122)) = true)   :
    Sx.Goes Tryz.prog 0 0 0 [] wrc (wrT s j) [] (mkT 41 0 [(0, .string s), (3, .int .i64 (IntKind.i64.wrap ((j : Int) + 1)))]) :=
  goes_of mixed noC_gives.holds [] [] (d := [(0, .br true), (1, .br true), (2, .br true), (3, .br true), (4, .br true), (5, .br true), (6, .br true), (7, .br true), (8, .br true), (9, .br true), (10, .br true), (11, .br true), (12, .br true), (13, .br true), (14, .br true)]) (n := 600) (c2 := 0) (L' := []) (L := [.b ((Decidable.decide ((((s.data.toList.getD ((j : Int)).toNat 0).toNat : Nat) : Int) ≤ 122)) == true), .b ((Decidable.decide ((((s.data.toList.getD ((j : Int)).toNat 0).toNat : Nat) : Int) ≤ 122)) == true), .b ((Decidable.decide ((((s.data.toList.getD ((j : Int)).toNat 0).toNat : Nat) : Int) ≤ 122)) == true), .b ((Decidable.decide ((((s.data.toList.getD ((j : Int)).toNat 0).toNat : Nat) : Int) ≤ 122)) == true), .b ((Decidable.decide ((((s.data.toList.getD ((j : Int)).toNat 0).toNat : Nat) : Int) ≤ 122)) == true), .b ((Decidable.decide ((((s.data.toList.getD ((j : Int)).toNat 0).toNat : Nat) : Int) ≤ 122)) == true), .b ((Decidable.decide ((((s.data.toList.getD ((j : Int)).toNat 0).toNat : Nat) : Int) ≤ 122)) == true), .b ((Decidable.decide ((((s.data.toList.getD ((j : Int)).toNat 0).toNat : Nat) : Int) ≥ 97)) == true), .b ((Decidable.decide ((((s.data.toList.getD ((j : Int)).toNat 0).toNat : Nat) : Int) ≥ 97)) == true), .b (Decidable.decide (0 ≤ (j : Int) ∧ (j : Int) < (s.data.toList.length : Int))), .b ((Decidable.decide ((((s.data.toList.getD ((j : Int)).toNat 0).toNat : Nat) : Int) ≥ 97)) == true), .b ((Decidable.decide ((((s.data.toList.getD ((j : Int)).toNat 0).toNat : Nat) : Int) ≥ 97)) == true), .b ((Decidable.decide ((((s.data.toList.getD ((j : Int)).toNat 0).toNat : Nat) : Int) ≥ 97)) == true), .b (Decidable.decide (0 ≤ (j : Int) ∧ (j : Int) < (s.data.toList.length : Int))), .b ((Decidable.decide ((j : Int) < (s.data.toList.length : Int))) == true)]) (by kernel_rfl) rfl rfl (vcs_nil)
    (by
      refine vcs_cons (vc_b h3) ?_
      refine vcs_cons (vc_b h3) ?_
      refine vcs_cons (vc_b h3) ?_
      refine vcs_cons (vc_b h3) ?_
      refine vcs_cons (vc_b h3) ?_
      refine vcs_cons (vc_b h3) ?_
      refine vcs_cons (vc_b h3) ?_
      refine vcs_cons (vc_b h2) ?_
      refine vcs_cons (vc_b h2) ?_
      refine vcs_cons (vc_c h1) ?_
      refine vcs_cons (vc_b h2) ?_
      refine vcs_cons (vc_b h2) ?_
      refine vcs_cons (vc_b h2) ?_
      refine vcs_cons (vc_c h1) ?_
      refine vcs_cons (vc_b h0) ?_
      exact vcs_nil)
set_option maxRecDepth 100000 in
theorem wr_d {s : ByteArray} {j : Nat} (h0 : (Decidable.decide ((j : Int) < (s.data.toList.length : Int))) = true) (h1 : (Decidable.decide (0 ≤ (j : Int) ∧ (j : Int) < (s.data.toList.length : Int))) = true) (h2 : (Decidable.decide ((((s.data.toList.getD ((j : Int)).toNat 0).toNat : Nat) : Int) ≥ 97)) = false) (h3 : (Decidable.decide ((((s.data.toList.getD ((j : Int)).toNat 0).toNat : Nat) : Int) ≥ 48)) = true) (h4 : (!Decidable.decide ((((s.data.toList.getD ((j : Int)).toNat 0).toNat : Nat) : Int) ≤ 57)) = false)   :
    Sx.Goes Tryz.prog 0 0 0 [] wrc (wrT s j) [] (mkT 41 0 [(0, .string s), (3, .int .i64 (IntKind.i64.wrap ((j : Int) + 1)))]) :=
  goes_of mixed noC_gives.holds [] [] (d := [(0, .br true), (1, .br true), (2, .br false), (3, .br false), (4, .br false), (5, .br false), (6, .br false), (10, .br true), (13, .br true), (14, .br true), (15, .br true), (16, .br true), (17, .br true), (19, .br true), (21, .br false)]) (n := 600) (c2 := 0) (L' := []) (L := [.b ((!Decidable.decide ((((s.data.toList.getD ((j : Int)).toNat 0).toNat : Nat) : Int) ≤ 57)) == false), .b ((Decidable.decide ((((s.data.toList.getD ((j : Int)).toNat 0).toNat : Nat) : Int) ≥ 48)) == true), .b ((Decidable.decide ((((s.data.toList.getD ((j : Int)).toNat 0).toNat : Nat) : Int) ≥ 48)) == true), .b (Decidable.decide (0 ≤ (j : Int) ∧ (j : Int) < (s.data.toList.length : Int))), .b ((Decidable.decide ((((s.data.toList.getD ((j : Int)).toNat 0).toNat : Nat) : Int) ≥ 48)) == true), .b ((Decidable.decide ((((s.data.toList.getD ((j : Int)).toNat 0).toNat : Nat) : Int) ≥ 48)) == true), .b ((Decidable.decide ((((s.data.toList.getD ((j : Int)).toNat 0).toNat : Nat) : Int) ≥ 48)) == true), .b (Decidable.decide (0 ≤ (j : Int) ∧ (j : Int) < (s.data.toList.length : Int))), .b ((Decidable.decide ((((s.data.toList.getD ((j : Int)).toNat 0).toNat : Nat) : Int) ≥ 97)) == false), .b ((Decidable.decide ((((s.data.toList.getD ((j : Int)).toNat 0).toNat : Nat) : Int) ≥ 97)) == false), .b ((Decidable.decide ((((s.data.toList.getD ((j : Int)).toNat 0).toNat : Nat) : Int) ≥ 97)) == false), .b ((Decidable.decide ((((s.data.toList.getD ((j : Int)).toNat 0).toNat : Nat) : Int) ≥ 97)) == false), .b ((Decidable.decide ((((s.data.toList.getD ((j : Int)).toNat 0).toNat : Nat) : Int) ≥ 97)) == false), .b (Decidable.decide (0 ≤ (j : Int) ∧ (j : Int) < (s.data.toList.length : Int))), .b ((Decidable.decide ((j : Int) < (s.data.toList.length : Int))) == true)]) (by kernel_rfl) rfl rfl (vcs_nil)
    (by
      refine vcs_cons (vc_b h4) ?_
      refine vcs_cons (vc_b h3) ?_
      refine vcs_cons (vc_b h3) ?_
      refine vcs_cons (vc_c h1) ?_
      refine vcs_cons (vc_b h3) ?_
      refine vcs_cons (vc_b h3) ?_
      refine vcs_cons (vc_b h3) ?_
      refine vcs_cons (vc_c h1) ?_
      refine vcs_cons (vc_b h2) ?_
      refine vcs_cons (vc_b h2) ?_
      refine vcs_cons (vc_b h2) ?_
      refine vcs_cons (vc_b h2) ?_
      refine vcs_cons (vc_b h2) ?_
      refine vcs_cons (vc_c h1) ?_
      refine vcs_cons (vc_b h0) ?_
      exact vcs_nil)
set_option maxRecDepth 100000 in
theorem wr_lo {s : ByteArray} {j : Nat} (h0 : (Decidable.decide ((j : Int) < (s.data.toList.length : Int))) = true) (h1 : (Decidable.decide (0 ≤ (j : Int) ∧ (j : Int) < (s.data.toList.length : Int))) = true) (h2 : (Decidable.decide ((((s.data.toList.getD ((j : Int)).toNat 0).toNat : Nat) : Int) ≥ 97)) = false) (h3 : (Decidable.decide ((((s.data.toList.getD ((j : Int)).toNat 0).toNat : Nat) : Int) ≥ 48)) = false)   :
    Sx.Ends Tryz.prog 0 0 0 [] wrc (wrT s j) .ret [] (mkT 41 0 [(2, .bool false)]) :=
  ends_of mixed noC_gives.holds [] [] (d := [(0, .br true), (1, .br true), (2, .br false), (3, .br false), (4, .br false), (5, .br false), (6, .br false), (10, .br true), (13, .br false), (14, .br false), (15, .br false), (16, .br false), (18, .br false)]) (n := 600) (c2 := 0) (L' := []) (L := [.b ((Decidable.decide ((((s.data.toList.getD ((j : Int)).toNat 0).toNat : Nat) : Int) ≥ 48)) == false), .b ((Decidable.decide ((((s.data.toList.getD ((j : Int)).toNat 0).toNat : Nat) : Int) ≥ 48)) == false), .b ((Decidable.decide ((((s.data.toList.getD ((j : Int)).toNat 0).toNat : Nat) : Int) ≥ 48)) == false), .b ((Decidable.decide ((((s.data.toList.getD ((j : Int)).toNat 0).toNat : Nat) : Int) ≥ 48)) == false), .b ((Decidable.decide ((((s.data.toList.getD ((j : Int)).toNat 0).toNat : Nat) : Int) ≥ 48)) == false), .b (Decidable.decide (0 ≤ (j : Int) ∧ (j : Int) < (s.data.toList.length : Int))), .b ((Decidable.decide ((((s.data.toList.getD ((j : Int)).toNat 0).toNat : Nat) : Int) ≥ 97)) == false), .b ((Decidable.decide ((((s.data.toList.getD ((j : Int)).toNat 0).toNat : Nat) : Int) ≥ 97)) == false), .b ((Decidable.decide ((((s.data.toList.getD ((j : Int)).toNat 0).toNat : Nat) : Int) ≥ 97)) == false), .b ((Decidable.decide ((((s.data.toList.getD ((j : Int)).toNat 0).toNat : Nat) : Int) ≥ 97)) == false), .b ((Decidable.decide ((((s.data.toList.getD ((j : Int)).toNat 0).toNat : Nat) : Int) ≥ 97)) == false), .b (Decidable.decide (0 ≤ (j : Int) ∧ (j : Int) < (s.data.toList.length : Int))), .b ((Decidable.decide ((j : Int) < (s.data.toList.length : Int))) == true)]) (by kernel_rfl) rfl rfl (vcs_nil)
    (by
      refine vcs_cons (vc_b h3) ?_
      refine vcs_cons (vc_b h3) ?_
      refine vcs_cons (vc_b h3) ?_
      refine vcs_cons (vc_b h3) ?_
      refine vcs_cons (vc_b h3) ?_
      refine vcs_cons (vc_c h1) ?_
      refine vcs_cons (vc_b h2) ?_
      refine vcs_cons (vc_b h2) ?_
      refine vcs_cons (vc_b h2) ?_
      refine vcs_cons (vc_b h2) ?_
      refine vcs_cons (vc_b h2) ?_
      refine vcs_cons (vc_c h1) ?_
      refine vcs_cons (vc_b h0) ?_
      exact vcs_nil)
set_option maxRecDepth 100000 in
theorem wr_mid {s : ByteArray} {j : Nat} (h0 : (Decidable.decide ((j : Int) < (s.data.toList.length : Int))) = true) (h1 : (Decidable.decide (0 ≤ (j : Int) ∧ (j : Int) < (s.data.toList.length : Int))) = true) (h2 : (Decidable.decide ((((s.data.toList.getD ((j : Int)).toNat 0).toNat : Nat) : Int) ≥ 97)) = false) (h3 : (Decidable.decide ((((s.data.toList.getD ((j : Int)).toNat 0).toNat : Nat) : Int) ≥ 48)) = true) (h4 : (!Decidable.decide ((((s.data.toList.getD ((j : Int)).toNat 0).toNat : Nat) : Int) ≤ 57)) = true)   :
    Sx.Ends Tryz.prog 0 0 0 [] wrc (wrT s j) .ret [] (mkT 41 0 [(2, .bool false)]) :=
  ends_of mixed noC_gives.holds [] [] (d := [(0, .br true), (1, .br true), (2, .br false), (3, .br false), (4, .br false), (5, .br false), (6, .br false), (10, .br true), (13, .br true), (14, .br true), (15, .br true), (16, .br true), (17, .br true), (19, .br true), (21, .br true)]) (n := 600) (c2 := 0) (L' := []) (L := [.b ((!Decidable.decide ((((s.data.toList.getD ((j : Int)).toNat 0).toNat : Nat) : Int) ≤ 57)) == true), .b ((Decidable.decide ((((s.data.toList.getD ((j : Int)).toNat 0).toNat : Nat) : Int) ≥ 48)) == true), .b ((Decidable.decide ((((s.data.toList.getD ((j : Int)).toNat 0).toNat : Nat) : Int) ≥ 48)) == true), .b (Decidable.decide (0 ≤ (j : Int) ∧ (j : Int) < (s.data.toList.length : Int))), .b ((Decidable.decide ((((s.data.toList.getD ((j : Int)).toNat 0).toNat : Nat) : Int) ≥ 48)) == true), .b ((Decidable.decide ((((s.data.toList.getD ((j : Int)).toNat 0).toNat : Nat) : Int) ≥ 48)) == true), .b ((Decidable.decide ((((s.data.toList.getD ((j : Int)).toNat 0).toNat : Nat) : Int) ≥ 48)) == true), .b (Decidable.decide (0 ≤ (j : Int) ∧ (j : Int) < (s.data.toList.length : Int))), .b ((Decidable.decide ((((s.data.toList.getD ((j : Int)).toNat 0).toNat : Nat) : Int) ≥ 97)) == false), .b ((Decidable.decide ((((s.data.toList.getD ((j : Int)).toNat 0).toNat : Nat) : Int) ≥ 97)) == false), .b ((Decidable.decide ((((s.data.toList.getD ((j : Int)).toNat 0).toNat : Nat) : Int) ≥ 97)) == false), .b ((Decidable.decide ((((s.data.toList.getD ((j : Int)).toNat 0).toNat : Nat) : Int) ≥ 97)) == false), .b ((Decidable.decide ((((s.data.toList.getD ((j : Int)).toNat 0).toNat : Nat) : Int) ≥ 97)) == false), .b (Decidable.decide (0 ≤ (j : Int) ∧ (j : Int) < (s.data.toList.length : Int))), .b ((Decidable.decide ((j : Int) < (s.data.toList.length : Int))) == true)]) (by kernel_rfl) rfl rfl (vcs_nil)
    (by
      refine vcs_cons (vc_b h4) ?_
      refine vcs_cons (vc_b h3) ?_
      refine vcs_cons (vc_b h3) ?_
      refine vcs_cons (vc_c h1) ?_
      refine vcs_cons (vc_b h3) ?_
      refine vcs_cons (vc_b h3) ?_
      refine vcs_cons (vc_b h3) ?_
      refine vcs_cons (vc_c h1) ?_
      refine vcs_cons (vc_b h2) ?_
      refine vcs_cons (vc_b h2) ?_
      refine vcs_cons (vc_b h2) ?_
      refine vcs_cons (vc_b h2) ?_
      refine vcs_cons (vc_b h2) ?_
      refine vcs_cons (vc_c h1) ?_
      refine vcs_cons (vc_b h0) ?_
      exact vcs_nil)
set_option maxRecDepth 100000 in
theorem wr_hi {s : ByteArray} {j : Nat} (h0 : (Decidable.decide ((j : Int) < (s.data.toList.length : Int))) = true) (h1 : (Decidable.decide (0 ≤ (j : Int) ∧ (j : Int) < (s.data.toList.length : Int))) = true) (h2 : (Decidable.decide ((((s.data.toList.getD ((j : Int)).toNat 0).toNat : Nat) : Int) ≥ 97)) = true) (h3 : (Decidable.decide ((((s.data.toList.getD ((j : Int)).toNat 0).toNat : Nat) : Int) ≤ 122)) = false) (h4 : (Decidable.decide ((((s.data.toList.getD ((j : Int)).toNat 0).toNat : Nat) : Int) ≥ 48)) = true) (h5 : (!Decidable.decide ((((s.data.toList.getD ((j : Int)).toNat 0).toNat : Nat) : Int) ≤ 57)) = true)   :
    Sx.Ends Tryz.prog 0 0 0 [] wrc (wrT s j) .ret [] (mkT 41 0 [(2, .bool false)]) :=
  ends_of mixed noC_gives.holds [] [] (d := [(0, .br true), (1, .br true), (2, .br true), (3, .br true), (4, .br true), (5, .br true), (6, .br true), (7, .br true), (8, .br false), (9, .br false), (10, .br false), (11, .br true), (12, .br false), (13, .br false), (14, .br true), (15, .br true), (16, .br true), (17, .br true), (18, .br true), (19, .br false), (20, .br true), (21, .br false), (22, .br true)]) (n := 600) (c2 := 0) (L' := []) (L := [.b ((!Decidable.decide ((((s.data.toList.getD ((j : Int)).toNat 0).toNat : Nat) : Int) ≤ 57)) == true), .b ((Decidable.decide ((((s.data.toList.getD ((j : Int)).toNat 0).toNat : Nat) : Int) ≤ 122)) == false), .b ((Decidable.decide ((((s.data.toList.getD ((j : Int)).toNat 0).toNat : Nat) : Int) ≥ 48)) == true), .b ((Decidable.decide ((((s.data.toList.getD ((j : Int)).toNat 0).toNat : Nat) : Int) ≤ 122)) == false), .b ((Decidable.decide ((((s.data.toList.getD ((j : Int)).toNat 0).toNat : Nat) : Int) ≥ 48)) == true), .b (Decidable.decide (0 ≤ (j : Int) ∧ (j : Int) < (s.data.toList.length : Int))), .b ((Decidable.decide ((((s.data.toList.getD ((j : Int)).toNat 0).toNat : Nat) : Int) ≥ 48)) == true), .b ((Decidable.decide ((((s.data.toList.getD ((j : Int)).toNat 0).toNat : Nat) : Int) ≥ 48)) == true), .b ((Decidable.decide ((((s.data.toList.getD ((j : Int)).toNat 0).toNat : Nat) : Int) ≥ 48)) == true), .b ((Decidable.decide ((((s.data.toList.getD ((j : Int)).toNat 0).toNat : Nat) : Int) ≤ 122)) == false), .b ((Decidable.decide ((((s.data.toList.getD ((j : Int)).toNat 0).toNat : Nat) : Int) ≤ 122)) == false), .b (Decidable.decide (0 ≤ (j : Int) ∧ (j : Int) < (s.data.toList.length : Int))), .b ((Decidable.decide ((((s.data.toList.getD ((j : Int)).toNat 0).toNat : Nat) : Int) ≤ 122)) == false), .b ((Decidable.decide ((((s.data.toList.getD ((j : Int)).toNat 0).toNat : Nat) : Int) ≤ 122)) == false), .b ((Decidable.decide ((((s.data.toList.getD ((j : Int)).toNat 0).toNat : Nat) : Int) ≤ 122)) == false), .b ((Decidable.decide ((((s.data.toList.getD ((j : Int)).toNat 0).toNat : Nat) : Int) ≥ 97)) == true), .b ((Decidable.decide ((((s.data.toList.getD ((j : Int)).toNat 0).toNat : Nat) : Int) ≥ 97)) == true), .b (Decidable.decide (0 ≤ (j : Int) ∧ (j : Int) < (s.data.toList.length : Int))), .b ((Decidable.decide ((((s.data.toList.getD ((j : Int)).toNat 0).toNat : Nat) : Int) ≥ 97)) == true), .b ((Decidable.decide ((((s.data.toList.getD ((j : Int)).toNat 0).toNat : Nat) : Int) ≥ 97)) == true), .b ((Decidable.decide ((((s.data.toList.getD ((j : Int)).toNat 0).toNat : Nat) : Int) ≥ 97)) == true), .b (Decidable.decide (0 ≤ (j : Int) ∧ (j : Int) < (s.data.toList.length : Int))), .b ((Decidable.decide ((j : Int) < (s.data.toList.length : Int))) == true)]) (by kernel_rfl) rfl rfl (vcs_nil)
    (by
      refine vcs_cons (vc_b h5) ?_
      refine vcs_cons (vc_b h3) ?_
      refine vcs_cons (vc_b h4) ?_
      refine vcs_cons (vc_b h3) ?_
      refine vcs_cons (vc_b h4) ?_
      refine vcs_cons (vc_c h1) ?_
      refine vcs_cons (vc_b h4) ?_
      refine vcs_cons (vc_b h4) ?_
      refine vcs_cons (vc_b h4) ?_
      refine vcs_cons (vc_b h3) ?_
      refine vcs_cons (vc_b h3) ?_
      refine vcs_cons (vc_c h1) ?_
      refine vcs_cons (vc_b h3) ?_
      refine vcs_cons (vc_b h3) ?_
      refine vcs_cons (vc_b h3) ?_
      refine vcs_cons (vc_b h2) ?_
      refine vcs_cons (vc_b h2) ?_
      refine vcs_cons (vc_c h1) ?_
      refine vcs_cons (vc_b h2) ?_
      refine vcs_cons (vc_b h2) ?_
      refine vcs_cons (vc_b h2) ?_
      refine vcs_cons (vc_c h1) ?_
      refine vcs_cons (vc_b h0) ?_
      exact vcs_nil)
set_option maxRecDepth 100000 in
theorem wr_e {s : ByteArray} {j : Nat} (h0 : (Decidable.decide ((j : Int) < (s.data.toList.length : Int))) = false)   :
    Sx.Ends Tryz.prog 0 0 0 [] wrc (wrT s j) (.exit 0) [] (mkT 41 0 [(0, .string s)]) :=
  ends_of mixed noC_gives.holds [] [] (d := [(0, .br false)]) (n := 600) (c2 := 0) (L' := []) (L := [.b ((Decidable.decide ((j : Int) < (s.data.toList.length : Int))) == false)]) (by kernel_rfl) rfl rfl (vcs_nil)
    (by
      refine vcs_cons (vc_b h0) ?_
      exact vcs_nil)
end Go.Proofs.YtkmicbhnfochjaaGreatDoor

namespace Go.Proofs.YtkmicbhnfochjaaGreatDoor
open Go Go.Sx
set_option maxRecDepth 100000 in
theorem nc_z {s : ByteArray} (h0 : (Decidable.decide ((s.data.toList.length : Int) < 1)) = true)  : Gives Tryz.prog 50 [.string s] (.tuple ⟨[.int .i64 0, .bool false]⟩) := by
  obtain ⟨c1, h1, hd, _⟩ := vFar_does (n := 600) (t := .call 50 [.string s]) (d := [(0, .br true), (1, .br true), (2, .br true), (3, .br true)]) (c := 0) (h := []) (v := (.tuple ⟨[.int .i64 0, .bool false]⟩)) (x := none) (L := [.b ((Decidable.decide ((s.data.toList.length : Int) < 1)) == true), .b ((Decidable.decide ((s.data.toList.length : Int) < 1)) == true), .b ((Decidable.decide ((s.data.toList.length : Int) < 1)) == true), .b ((Decidable.decide ((s.data.toList.length : Int) < 1)) == true)]) mixed noC_gives.holds (by kernel_rfl)
    (by
      refine vcs_cons (vc_b h0) ?_
      refine vcs_cons (vc_b h0) ?_
      refine vcs_cons (vc_b h0) ?_
      refine vcs_cons (vc_b h0) ?_
      exact vcs_nil)
  exact gives_of_does hd rfl rfl
set_option maxRecDepth 100000 in
theorem nc_l {s : ByteArray} (h0 : (Decidable.decide ((s.data.toList.length : Int) < 1)) = false) (h1 : (Decidable.decide ((s.data.toList.length : Int) > 13)) = true)  : Gives Tryz.prog 50 [.string s] (.tuple ⟨[.int .i64 0, .bool false]⟩) := by
  obtain ⟨c1, h1, hd, _⟩ := vFar_does (n := 600) (t := .call 50 [.string s]) (d := [(0, .br false), (1, .br false), (2, .br false), (3, .br false), (4, .br true), (5, .br true), (6, .br true), (7, .br true), (8, .br true), (9, .br true)]) (c := 0) (h := []) (v := (.tuple ⟨[.int .i64 0, .bool false]⟩)) (x := none) (L := [.b ((Decidable.decide ((s.data.toList.length : Int) > 13)) == true), .b ((Decidable.decide ((s.data.toList.length : Int) > 13)) == true), .b ((Decidable.decide ((s.data.toList.length : Int) > 13)) == true), .b ((Decidable.decide ((s.data.toList.length : Int) > 13)) == true), .b ((Decidable.decide ((s.data.toList.length : Int) > 13)) == true), .b ((Decidable.decide ((s.data.toList.length : Int) > 13)) == true), .b ((Decidable.decide ((s.data.toList.length : Int) < 1)) == false), .b ((Decidable.decide ((s.data.toList.length : Int) < 1)) == false), .b ((Decidable.decide ((s.data.toList.length : Int) < 1)) == false), .b ((Decidable.decide ((s.data.toList.length : Int) < 1)) == false)]) mixed noC_gives.holds (by kernel_rfl)
    (by
      refine vcs_cons (vc_b h1) ?_
      refine vcs_cons (vc_b h1) ?_
      refine vcs_cons (vc_b h1) ?_
      refine vcs_cons (vc_b h1) ?_
      refine vcs_cons (vc_b h1) ?_
      refine vcs_cons (vc_b h1) ?_
      refine vcs_cons (vc_b h0) ?_
      refine vcs_cons (vc_b h0) ?_
      refine vcs_cons (vc_b h0) ?_
      refine vcs_cons (vc_b h0) ?_
      exact vcs_nil)
  exact gives_of_does hd rfl rfl
set_option maxRecDepth 100000 in
theorem nc_zz {s : ByteArray} (h0 : (Decidable.decide ((s.data.toList.length : Int) < 1)) = false) (h1 : (Decidable.decide ((s.data.toList.length : Int) > 13)) = false) (h2 : (Decidable.decide ((0 : Int) ≤ 0 ∧ 0 < (s.data.toList.length : Int))) = true) (h3 : ((((s.data.toList.getD (Int.toNat 0) 0).toNat : Nat) : Int) == 48) = true) (h4 : (Decidable.decide ((s.data.toList.length : Int) > 1)) = true)  : Gives Tryz.prog 50 [.string s] (.tuple ⟨[.int .i64 0, .bool false]⟩) := by
  obtain ⟨c1, h1, hd, _⟩ := vFar_does (n := 600) (t := .call 50 [.string s]) (d := [(0, .br false), (1, .br false), (2, .br false), (3, .br false), (4, .br false), (5, .br false), (6, .br true), (7, .br false), (8, .br false), (9, .br true), (10, .br true), (11, .br true), (12, .br false), (13, .br true), (14, .br false), (15, .br true)]) (c := 0) (h := []) (v := (.tuple ⟨[.int .i64 0, .bool false]⟩)) (x := none) (L := [.b ((Decidable.decide ((s.data.toList.length : Int) > 1)) == true), .b ((Decidable.decide ((s.data.toList.length : Int) > 13)) == false), .b (((((s.data.toList.getD (Int.toNat 0) 0).toNat : Nat) : Int) == 48) == true), .b ((Decidable.decide ((s.data.toList.length : Int) > 13)) == false), .b (((((s.data.toList.getD (Int.toNat 0) 0).toNat : Nat) : Int) == 48) == true), .b (((((s.data.toList.getD (Int.toNat 0) 0).toNat : Nat) : Int) == 48) == true), .b (((((s.data.toList.getD (Int.toNat 0) 0).toNat : Nat) : Int) == 48) == true), .b ((Decidable.decide ((s.data.toList.length : Int) > 13)) == false), .b ((Decidable.decide ((s.data.toList.length : Int) > 13)) == false), .b (Decidable.decide ((0 : Int) ≤ 0 ∧ 0 < (s.data.toList.length : Int))), .b ((Decidable.decide ((s.data.toList.length : Int) > 13)) == false), .b ((Decidable.decide ((s.data.toList.length : Int) > 13)) == false), .b ((Decidable.decide ((s.data.toList.length : Int) < 1)) == false), .b ((Decidable.decide ((s.data.toList.length : Int) < 1)) == false), .b ((Decidable.decide ((s.data.toList.length : Int) < 1)) == false), .b ((Decidable.decide ((s.data.toList.length : Int) < 1)) == false)]) mixed noC_gives.holds (by kernel_rfl)
    (by
      refine vcs_cons (vc_b h4) ?_
      refine vcs_cons (vc_b h1) ?_
      refine vcs_cons (vc_b h3) ?_
      refine vcs_cons (vc_b h1) ?_
      refine vcs_cons (vc_b h3) ?_
      refine vcs_cons (vc_b h3) ?_
      refine vcs_cons (vc_b h3) ?_
      refine vcs_cons (vc_b h1) ?_
      refine vcs_cons (vc_b h1) ?_
      refine vcs_cons (vc_c h2) ?_
      refine vcs_cons (vc_b h1) ?_
      refine vcs_cons (vc_b h1) ?_
      refine vcs_cons (vc_b h0) ?_
      refine vcs_cons (vc_b h0) ?_
      refine vcs_cons (vc_b h0) ?_
      refine vcs_cons (vc_b h0) ?_
      exact vcs_nil)
  exact gives_of_does hd rfl rfl
set_option maxRecDepth 100000 in
theorem nc_o5 {s : ByteArray} {n : Int} (h0 : (Decidable.decide ((s.data.toList.length : Int) < 1)) = false) (h1 : (Decidable.decide ((s.data.toList.length : Int) > 13)) = false) (h2 : (Decidable.decide ((0 : Int) ≤ 0 ∧ 0 < (s.data.toList.length : Int))) = true) (h3 : ((((s.data.toList.getD (Int.toNat 0) 0).toNat : Nat) : Int) == 48) = false) (hl : Does Tryz.prog 1 (itH s 0) 1 [] (.inLoop nuc (nuT 0)) (.out (.exit 0) (mkT 43 0 [(4, .int .i64 n)]))) : Gives Tryz.prog 50 [.string s] (.tuple ⟨[.int .i64 n, .bool true]⟩) := by
  obtain ⟨c1, h1, hd, _⟩ := vFar_does (n := 600) (t := .call 50 [.string s]) (d := [(0, .br false), (1, .br false), (2, .br false), (3, .br false), (4, .br false), (5, .br false), (6, .br true), (7, .br false), (8, .br false), (9, .br false), (10, .br false), (11, .br false), (12, .br false), (13, .br false), (14, .br false), (16, .loop [4, 26] [0] 1 [] (.exit 0) (mkT 43 0 [(4, .int .i64 n)]))]) (c := 0) (h := []) (v := (.tuple ⟨[.int .i64 n, .bool true]⟩)) (x := none) (L := [.p (Does Tryz.prog 1 (itH s 0) 1 [] (.inLoop nuc (nuT 0)) (.out (.exit 0) (mkT 43 0 [(4, .int .i64 n)]))), .b ((Decidable.decide ((s.data.toList.length : Int) > 13)) == false), .b (((((s.data.toList.getD (Int.toNat 0) 0).toNat : Nat) : Int) == 48) == false), .b ((Decidable.decide ((s.data.toList.length : Int) > 13)) == false), .b (((((s.data.toList.getD (Int.toNat 0) 0).toNat : Nat) : Int) == 48) == false), .b (((((s.data.toList.getD (Int.toNat 0) 0).toNat : Nat) : Int) == 48) == false), .b (((((s.data.toList.getD (Int.toNat 0) 0).toNat : Nat) : Int) == 48) == false), .b ((Decidable.decide ((s.data.toList.length : Int) > 13)) == false), .b ((Decidable.decide ((s.data.toList.length : Int) > 13)) == false), .b (Decidable.decide ((0 : Int) ≤ 0 ∧ 0 < (s.data.toList.length : Int))), .b ((Decidable.decide ((s.data.toList.length : Int) > 13)) == false), .b ((Decidable.decide ((s.data.toList.length : Int) > 13)) == false), .b ((Decidable.decide ((s.data.toList.length : Int) < 1)) == false), .b ((Decidable.decide ((s.data.toList.length : Int) < 1)) == false), .b ((Decidable.decide ((s.data.toList.length : Int) < 1)) == false), .b ((Decidable.decide ((s.data.toList.length : Int) < 1)) == false)]) mixed noC_gives.holds (by kernel_rfl)
    (by
      refine vcs_cons (hl) ?_
      refine vcs_cons (vc_b h1) ?_
      refine vcs_cons (vc_b h3) ?_
      refine vcs_cons (vc_b h1) ?_
      refine vcs_cons (vc_b h3) ?_
      refine vcs_cons (vc_b h3) ?_
      refine vcs_cons (vc_b h3) ?_
      refine vcs_cons (vc_b h1) ?_
      refine vcs_cons (vc_b h1) ?_
      refine vcs_cons (vc_c h2) ?_
      refine vcs_cons (vc_b h1) ?_
      refine vcs_cons (vc_b h1) ?_
      refine vcs_cons (vc_b h0) ?_
      refine vcs_cons (vc_b h0) ?_
      refine vcs_cons (vc_b h0) ?_
      refine vcs_cons (vc_b h0) ?_
      exact vcs_nil)
  exact gives_of_does hd rfl rfl
set_option maxRecDepth 100000 in
theorem nc_b5 {s : ByteArray} (h0 : (Decidable.decide ((s.data.toList.length : Int) < 1)) = false) (h1 : (Decidable.decide ((s.data.toList.length : Int) > 13)) = false) (h2 : (Decidable.decide ((0 : Int) ≤ 0 ∧ 0 < (s.data.toList.length : Int))) = true) (h3 : ((((s.data.toList.getD (Int.toNat 0) 0).toNat : Nat) : Int) == 48) = false) (hl : Does Tryz.prog 1 (itH s 0) 1 [] (.inLoop nuc (nuT 0)) (.out .ret (mkT 43 0 [(2, .int .i64 0), (3, .bool false)]))) : Gives Tryz.prog 50 [.string s] (.tuple ⟨[.int .i64 0, .bool false]⟩) := by
  obtain ⟨c1, h1, hd, _⟩ := vFar_does (n := 600) (t := .call 50 [.string s]) (d := [(0, .br false), (1, .br false), (2, .br false), (3, .br false), (4, .br false), (5, .br false), (6, .br true), (7, .br false), (8, .br false), (9, .br false), (10, .br false), (11, .br false), (12, .br false), (13, .br false), (14, .br false), (16, .loop [4, 26] [0] 1 [] .ret (mkT 43 0 [(2, .int .i64 0), (3, .bool false)]))]) (c := 0) (h := []) (v := (.tuple ⟨[.int .i64 0, .bool false]⟩)) (x := none) (L := [.p (Does Tryz.prog 1 (itH s 0) 1 [] (.inLoop nuc (nuT 0)) (.out .ret (mkT 43 0 [(2, .int .i64 0), (3, .bool false)]))), .b ((Decidable.decide ((s.data.toList.length : Int) > 13)) == false), .b (((((s.data.toList.getD (Int.toNat 0) 0).toNat : Nat) : Int) == 48) == false), .b ((Decidable.decide ((s.data.toList.length : Int) > 13)) == false), .b (((((s.data.toList.getD (Int.toNat 0) 0).toNat : Nat) : Int) == 48) == false), .b (((((s.data.toList.getD (Int.toNat 0) 0).toNat : Nat) : Int) == 48) == false), .b (((((s.data.toList.getD (Int.toNat 0) 0).toNat : Nat) : Int) == 48) == false), .b ((Decidable.decide ((s.data.toList.length : Int) > 13)) == false), .b ((Decidable.decide ((s.data.toList.length : Int) > 13)) == false), .b (Decidable.decide ((0 : Int) ≤ 0 ∧ 0 < (s.data.toList.length : Int))), .b ((Decidable.decide ((s.data.toList.length : Int) > 13)) == false), .b ((Decidable.decide ((s.data.toList.length : Int) > 13)) == false), .b ((Decidable.decide ((s.data.toList.length : Int) < 1)) == false), .b ((Decidable.decide ((s.data.toList.length : Int) < 1)) == false), .b ((Decidable.decide ((s.data.toList.length : Int) < 1)) == false), .b ((Decidable.decide ((s.data.toList.length : Int) < 1)) == false)]) mixed noC_gives.holds (by kernel_rfl)
    (by
      refine vcs_cons (hl) ?_
      refine vcs_cons (vc_b h1) ?_
      refine vcs_cons (vc_b h3) ?_
      refine vcs_cons (vc_b h1) ?_
      refine vcs_cons (vc_b h3) ?_
      refine vcs_cons (vc_b h3) ?_
      refine vcs_cons (vc_b h3) ?_
      refine vcs_cons (vc_b h1) ?_
      refine vcs_cons (vc_b h1) ?_
      refine vcs_cons (vc_c h2) ?_
      refine vcs_cons (vc_b h1) ?_
      refine vcs_cons (vc_b h1) ?_
      refine vcs_cons (vc_b h0) ?_
      refine vcs_cons (vc_b h0) ?_
      refine vcs_cons (vc_b h0) ?_
      refine vcs_cons (vc_b h0) ?_
      exact vcs_nil)
  exact gives_of_does hd rfl rfl
set_option maxRecDepth 100000 in
theorem nc_o0 {s : ByteArray} {n : Int} (h0 : (Decidable.decide ((s.data.toList.length : Int) < 1)) = false) (h1 : (Decidable.decide ((s.data.toList.length : Int) > 13)) = false) (h2 : (Decidable.decide ((0 : Int) ≤ 0 ∧ 0 < (s.data.toList.length : Int))) = true) (h3 : ((((s.data.toList.getD (Int.toNat 0) 0).toNat : Nat) : Int) == 48) = true) (h4 : (Decidable.decide ((s.data.toList.length : Int) > 1)) = false) (hl : Does Tryz.prog 1 (itH s 0) 1 [] (.inLoop nuc (nuT 0)) (.out (.exit 0) (mkT 43 0 [(4, .int .i64 n)]))) : Gives Tryz.prog 50 [.string s] (.tuple ⟨[.int .i64 n, .bool true]⟩) := by
  obtain ⟨c1, h1, hd, _⟩ := vFar_does (n := 600) (t := .call 50 [.string s]) (d := [(0, .br false), (1, .br false), (2, .br false), (3, .br false), (4, .br false), (5, .br false), (6, .br true), (7, .br false), (8, .br false), (9, .br true), (10, .br true), (11, .br true), (12, .br false), (13, .br true), (14, .br false), (15, .br false), (16, .loop [4, 26] [0] 1 [] (.exit 0) (mkT 43 0 [(4, .int .i64 n)]))]) (c := 0) (h := []) (v := (.tuple ⟨[.int .i64 n, .bool true]⟩)) (x := none) (L := [.p (Does Tryz.prog 1 (itH s 0) 1 [] (.inLoop nuc (nuT 0)) (.out (.exit 0) (mkT 43 0 [(4, .int .i64 n)]))), .b ((Decidable.decide ((s.data.toList.length : Int) > 1)) == false), .b ((Decidable.decide ((s.data.toList.length : Int) > 13)) == false), .b (((((s.data.toList.getD (Int.toNat 0) 0).toNat : Nat) : Int) == 48) == true), .b ((Decidable.decide ((s.data.toList.length : Int) > 13)) == false), .b (((((s.data.toList.getD (Int.toNat 0) 0).toNat : Nat) : Int) == 48) == true), .b (((((s.data.toList.getD (Int.toNat 0) 0).toNat : Nat) : Int) == 48) == true), .b (((((s.data.toList.getD (Int.toNat 0) 0).toNat : Nat) : Int) == 48) == true), .b ((Decidable.decide ((s.data.toList.length : Int) > 13)) == false), .b ((Decidable.decide ((s.data.toList.length : Int) > 13)) == false), .b (Decidable.decide ((0 : Int) ≤ 0 ∧ 0 < (s.data.toList.length : Int))), .b ((Decidable.decide ((s.data.toList.length : Int) > 13)) == false), .b ((Decidable.decide ((s.data.toList.length : Int) > 13)) == false), .b ((Decidable.decide ((s.data.toList.length : Int) < 1)) == false), .b ((Decidable.decide ((s.data.toList.length : Int) < 1)) == false), .b ((Decidable.decide ((s.data.toList.length : Int) < 1)) == false), .b ((Decidable.decide ((s.data.toList.length : Int) < 1)) == false)]) mixed noC_gives.holds (by kernel_rfl)
    (by
      refine vcs_cons (hl) ?_
      refine vcs_cons (vc_b h4) ?_
      refine vcs_cons (vc_b h1) ?_
      refine vcs_cons (vc_b h3) ?_
      refine vcs_cons (vc_b h1) ?_
      refine vcs_cons (vc_b h3) ?_
      refine vcs_cons (vc_b h3) ?_
      refine vcs_cons (vc_b h3) ?_
      refine vcs_cons (vc_b h1) ?_
      refine vcs_cons (vc_b h1) ?_
      refine vcs_cons (vc_c h2) ?_
      refine vcs_cons (vc_b h1) ?_
      refine vcs_cons (vc_b h1) ?_
      refine vcs_cons (vc_b h0) ?_
      refine vcs_cons (vc_b h0) ?_
      refine vcs_cons (vc_b h0) ?_
      refine vcs_cons (vc_b h0) ?_
      exact vcs_nil)
  exact gives_of_does hd rfl rfl
set_option maxRecDepth 100000 in
theorem nc_b0 {s : ByteArray} (h0 : (Decidable.decide ((s.data.toList.length : Int) < 1)) = false) (h1 : (Decidable.decide ((s.data.toList.length : Int) > 13)) = false) (h2 : (Decidable.decide ((0 : Int) ≤ 0 ∧ 0 < (s.data.toList.length : Int))) = true) (h3 : ((((s.data.toList.getD (Int.toNat 0) 0).toNat : Nat) : Int) == 48) = true) (h4 : (Decidable.decide ((s.data.toList.length : Int) > 1)) = false) (hl : Does Tryz.prog 1 (itH s 0) 1 [] (.inLoop nuc (nuT 0)) (.out .ret (mkT 43 0 [(2, .int .i64 0), (3, .bool false)]))) : Gives Tryz.prog 50 [.string s] (.tuple ⟨[.int .i64 0, .bool false]⟩) := by
  obtain ⟨c1, h1, hd, _⟩ := vFar_does (n := 600) (t := .call 50 [.string s]) (d := [(0, .br false), (1, .br false), (2, .br false), (3, .br false), (4, .br false), (5, .br false), (6, .br true), (7, .br false), (8, .br false), (9, .br true), (10, .br true), (11, .br true), (12, .br false), (13, .br true), (14, .br false), (15, .br false), (16, .loop [4, 26] [0] 1 [] .ret (mkT 43 0 [(2, .int .i64 0), (3, .bool false)]))]) (c := 0) (h := []) (v := (.tuple ⟨[.int .i64 0, .bool false]⟩)) (x := none) (L := [.p (Does Tryz.prog 1 (itH s 0) 1 [] (.inLoop nuc (nuT 0)) (.out .ret (mkT 43 0 [(2, .int .i64 0), (3, .bool false)]))), .b ((Decidable.decide ((s.data.toList.length : Int) > 1)) == false), .b ((Decidable.decide ((s.data.toList.length : Int) > 13)) == false), .b (((((s.data.toList.getD (Int.toNat 0) 0).toNat : Nat) : Int) == 48) == true), .b ((Decidable.decide ((s.data.toList.length : Int) > 13)) == false), .b (((((s.data.toList.getD (Int.toNat 0) 0).toNat : Nat) : Int) == 48) == true), .b (((((s.data.toList.getD (Int.toNat 0) 0).toNat : Nat) : Int) == 48) == true), .b (((((s.data.toList.getD (Int.toNat 0) 0).toNat : Nat) : Int) == 48) == true), .b ((Decidable.decide ((s.data.toList.length : Int) > 13)) == false), .b ((Decidable.decide ((s.data.toList.length : Int) > 13)) == false), .b (Decidable.decide ((0 : Int) ≤ 0 ∧ 0 < (s.data.toList.length : Int))), .b ((Decidable.decide ((s.data.toList.length : Int) > 13)) == false), .b ((Decidable.decide ((s.data.toList.length : Int) > 13)) == false), .b ((Decidable.decide ((s.data.toList.length : Int) < 1)) == false), .b ((Decidable.decide ((s.data.toList.length : Int) < 1)) == false), .b ((Decidable.decide ((s.data.toList.length : Int) < 1)) == false), .b ((Decidable.decide ((s.data.toList.length : Int) < 1)) == false)]) mixed noC_gives.holds (by kernel_rfl)
    (by
      refine vcs_cons (hl) ?_
      refine vcs_cons (vc_b h4) ?_
      refine vcs_cons (vc_b h1) ?_
      refine vcs_cons (vc_b h3) ?_
      refine vcs_cons (vc_b h1) ?_
      refine vcs_cons (vc_b h3) ?_
      refine vcs_cons (vc_b h3) ?_
      refine vcs_cons (vc_b h3) ?_
      refine vcs_cons (vc_b h1) ?_
      refine vcs_cons (vc_b h1) ?_
      refine vcs_cons (vc_c h2) ?_
      refine vcs_cons (vc_b h1) ?_
      refine vcs_cons (vc_b h1) ?_
      refine vcs_cons (vc_b h0) ?_
      refine vcs_cons (vc_b h0) ?_
      refine vcs_cons (vc_b h0) ?_
      refine vcs_cons (vc_b h0) ?_
      exact vcs_nil)
  exact gives_of_does hd rfl rfl
set_option maxRecDepth 100000 in
theorem nk_z {s : ByteArray} (h0 : ((s.data.toList.length : Int) == 0) = true)  : Gives Tryz.prog 28 [.string s] (.tuple ⟨[.int .i64 0, .bool false]⟩) := by
  obtain ⟨c1, h1, hd, _⟩ := vFar_does (n := 600) (t := .call 28 [.string s]) (d := [(0, .br true), (1, .br true), (2, .br true), (3, .br true)]) (c := 0) (h := []) (v := (.tuple ⟨[.int .i64 0, .bool false]⟩)) (x := none) (L := [.b (((s.data.toList.length : Int) == 0) == true), .b (((s.data.toList.length : Int) == 0) == true), .b (((s.data.toList.length : Int) == 0) == true), .b (((s.data.toList.length : Int) == 0) == true)]) mixed noC_gives.holds (by kernel_rfl)
    (by
      refine vcs_cons (vc_b h0) ?_
      refine vcs_cons (vc_b h0) ?_
      refine vcs_cons (vc_b h0) ?_
      refine vcs_cons (vc_b h0) ?_
      exact vcs_nil)
  exact gives_of_does hd rfl rfl
set_option maxRecDepth 100000 in
theorem nk_l {s : ByteArray} (h0 : ((s.data.toList.length : Int) == 0) = false) (h1 : (Decidable.decide ((s.data.toList.length : Int) > 13)) = true)  : Gives Tryz.prog 28 [.string s] (.tuple ⟨[.int .i64 0, .bool false]⟩) := by
  obtain ⟨c1, h1, hd, _⟩ := vFar_does (n := 600) (t := .call 28 [.string s]) (d := [(0, .br false), (1, .br false), (2, .br false), (3, .br false), (4, .br true), (5, .br true), (6, .br true), (7, .br true), (8, .br true), (9, .br true)]) (c := 0) (h := []) (v := (.tuple ⟨[.int .i64 0, .bool false]⟩)) (x := none) (L := [.b ((Decidable.decide ((s.data.toList.length : Int) > 13)) == true), .b ((Decidable.decide ((s.data.toList.length : Int) > 13)) == true), .b ((Decidable.decide ((s.data.toList.length : Int) > 13)) == true), .b ((Decidable.decide ((s.data.toList.length : Int) > 13)) == true), .b ((Decidable.decide ((s.data.toList.length : Int) > 13)) == true), .b ((Decidable.decide ((s.data.toList.length : Int) > 13)) == true), .b (((s.data.toList.length : Int) == 0) == false), .b (((s.data.toList.length : Int) == 0) == false), .b (((s.data.toList.length : Int) == 0) == false), .b (((s.data.toList.length : Int) == 0) == false)]) mixed noC_gives.holds (by kernel_rfl)
    (by
      refine vcs_cons (vc_b h1) ?_
      refine vcs_cons (vc_b h1) ?_
      refine vcs_cons (vc_b h1) ?_
      refine vcs_cons (vc_b h1) ?_
      refine vcs_cons (vc_b h1) ?_
      refine vcs_cons (vc_b h1) ?_
      refine vcs_cons (vc_b h0) ?_
      refine vcs_cons (vc_b h0) ?_
      refine vcs_cons (vc_b h0) ?_
      refine vcs_cons (vc_b h0) ?_
      exact vcs_nil)
  exact gives_of_does hd rfl rfl
set_option maxRecDepth 100000 in
theorem nk_zz {s : ByteArray} (h0 : ((s.data.toList.length : Int) == 0) = false) (h1 : (Decidable.decide ((s.data.toList.length : Int) > 13)) = false) (h2 : (Decidable.decide ((s.data.toList.length : Int) > 1)) = true) (h3 : (Decidable.decide ((0 : Int) ≤ 0 ∧ 0 < (s.data.toList.length : Int))) = true) (h4 : ((((s.data.toList.getD (Int.toNat 0) 0).toNat : Nat) : Int) == 48) = true)  : Gives Tryz.prog 28 [.string s] (.tuple ⟨[.int .i64 0, .bool false]⟩) := by
  obtain ⟨c1, h1, hd, _⟩ := vFar_does (n := 600) (t := .call 28 [.string s]) (d := [(0, .br false), (1, .br false), (2, .br false), (3, .br false), (4, .br false), (5, .br false), (6, .br false), (7, .br false), (8, .br true), (9, .br true), (10, .br true), (11, .br true), (12, .br false), (13, .br true), (14, .br false), (15, .br true)]) (c := 0) (h := []) (v := (.tuple ⟨[.int .i64 0, .bool false]⟩)) (x := none) (L := [.b (((((s.data.toList.getD (Int.toNat 0) 0).toNat : Nat) : Int) == 48) == true), .b ((Decidable.decide ((s.data.toList.length : Int) > 13)) == false), .b ((Decidable.decide ((s.data.toList.length : Int) > 1)) == true), .b ((Decidable.decide ((s.data.toList.length : Int) > 13)) == false), .b ((Decidable.decide ((s.data.toList.length : Int) > 1)) == true), .b (Decidable.decide ((0 : Int) ≤ 0 ∧ 0 < (s.data.toList.length : Int))), .b ((Decidable.decide ((s.data.toList.length : Int) > 1)) == true), .b ((Decidable.decide ((s.data.toList.length : Int) > 1)) == true), .b ((Decidable.decide ((s.data.toList.length : Int) > 13)) == false), .b ((Decidable.decide ((s.data.toList.length : Int) > 13)) == false), .b ((Decidable.decide ((s.data.toList.length : Int) > 13)) == false), .b ((Decidable.decide ((s.data.toList.length : Int) > 13)) == false), .b (((s.data.toList.length : Int) == 0) == false), .b (((s.data.toList.length : Int) == 0) == false), .b (((s.data.toList.length : Int) == 0) == false), .b (((s.data.toList.length : Int) == 0) == false)]) mixed noC_gives.holds (by kernel_rfl)
    (by
      refine vcs_cons (vc_b h4) ?_
      refine vcs_cons (vc_b h1) ?_
      refine vcs_cons (vc_b h2) ?_
      refine vcs_cons (vc_b h1) ?_
      refine vcs_cons (vc_b h2) ?_
      refine vcs_cons (vc_c h3) ?_
      refine vcs_cons (vc_b h2) ?_
      refine vcs_cons (vc_b h2) ?_
      refine vcs_cons (vc_b h1) ?_
      refine vcs_cons (vc_b h1) ?_
      refine vcs_cons (vc_b h1) ?_
      refine vcs_cons (vc_b h1) ?_
      refine vcs_cons (vc_b h0) ?_
      refine vcs_cons (vc_b h0) ?_
      refine vcs_cons (vc_b h0) ?_
      refine vcs_cons (vc_b h0) ?_
      exact vcs_nil)
  exact gives_of_does hd rfl rfl
set_option maxRecDepth 100000 in
theorem nk_o5 {s : ByteArray} {n : Int} (h0 : ((s.data.toList.length : Int) == 0) = false) (h1 : (Decidable.decide ((s.data.toList.length : Int) > 13)) = false) (h2 : (Decidable.decide ((s.data.toList.length : Int) > 1)) = false) (hl : Does Tryz.prog 0 [] 0 [] (.inLoop nrc (nrT s 0 0)) (.out (.exit 0) (mkT 49 0 [(0, .string s), (4, .int .i64 n)]))) : Gives Tryz.prog 28 [.string s] (.tuple ⟨[.int .i64 n, .bool true]⟩) := by
  obtain ⟨c1, h1, hd, _⟩ := vFar_does (n := 600) (t := .call 28 [.string s]) (d := [(0, .br false), (1, .br false), (2, .br false), (3, .br false), (4, .br false), (5, .br false), (6, .br false), (7, .br false), (8, .br false), (9, .br false), (10, .br false), (11, .br false), (12, .br false), (13, .br false), (15, .loop [0, 4, 5] [] 0 [] (.exit 0) (mkT 49 0 [(0, .string s), (4, .int .i64 n)]))]) (c := 0) (h := []) (v := (.tuple ⟨[.int .i64 n, .bool true]⟩)) (x := none) (L := [.p (Does Tryz.prog 0 [] 0 [] (.inLoop nrc (nrT s 0 0)) (.out (.exit 0) (mkT 49 0 [(0, .string s), (4, .int .i64 n)]))), .b ((Decidable.decide ((s.data.toList.length : Int) > 13)) == false), .b ((Decidable.decide ((s.data.toList.length : Int) > 1)) == false), .b ((Decidable.decide ((s.data.toList.length : Int) > 13)) == false), .b ((Decidable.decide ((s.data.toList.length : Int) > 1)) == false), .b ((Decidable.decide ((s.data.toList.length : Int) > 1)) == false), .b ((Decidable.decide ((s.data.toList.length : Int) > 1)) == false), .b ((Decidable.decide ((s.data.toList.length : Int) > 13)) == false), .b ((Decidable.decide ((s.data.toList.length : Int) > 13)) == false), .b ((Decidable.decide ((s.data.toList.length : Int) > 13)) == false), .b ((Decidable.decide ((s.data.toList.length : Int) > 13)) == false), .b (((s.data.toList.length : Int) == 0) == false), .b (((s.data.toList.length : Int) == 0) == false), .b (((s.data.toList.length : Int) == 0) == false), .b (((s.data.toList.length : Int) == 0) == false)]) mixed noC_gives.holds (by kernel_rfl)
    (by
      refine vcs_cons (hl) ?_
      refine vcs_cons (vc_b h1) ?_
      refine vcs_cons (vc_b h2) ?_
      refine vcs_cons (vc_b h1) ?_
      refine vcs_cons (vc_b h2) ?_
      refine vcs_cons (vc_b h2) ?_
      refine vcs_cons (vc_b h2) ?_
      refine vcs_cons (vc_b h1) ?_
      refine vcs_cons (vc_b h1) ?_
      refine vcs_cons (vc_b h1) ?_
      refine vcs_cons (vc_b h1) ?_
      refine vcs_cons (vc_b h0) ?_
      refine vcs_cons (vc_b h0) ?_
      refine vcs_cons (vc_b h0) ?_
      refine vcs_cons (vc_b h0) ?_
      exact vcs_nil)
  exact gives_of_does hd rfl rfl
set_option maxRecDepth 100000 in
theorem nk_b5 {s : ByteArray} (h0 : ((s.data.toList.length : Int) == 0) = false) (h1 : (Decidable.decide ((s.data.toList.length : Int) > 13)) = false) (h2 : (Decidable.decide ((s.data.toList.length : Int) > 1)) = false) (hl : Does Tryz.prog 0 [] 0 [] (.inLoop nrc (nrT s 0 0)) (.out .ret (mkT 49 0 [(2, .int .i64 0), (3, .bool false)]))) : Gives Tryz.prog 28 [.string s] (.tuple ⟨[.int .i64 0, .bool false]⟩) := by
  obtain ⟨c1, h1, hd, _⟩ := vFar_does (n := 600) (t := .call 28 [.string s]) (d := [(0, .br false), (1, .br false), (2, .br false), (3, .br false), (4, .br false), (5, .br false), (6, .br false), (7, .br false), (8, .br false), (9, .br false), (10, .br false), (11, .br false), (12, .br false), (13, .br false), (15, .loop [0, 4, 5] [] 0 [] .ret (mkT 49 0 [(2, .int .i64 0), (3, .bool false)]))]) (c := 0) (h := []) (v := (.tuple ⟨[.int .i64 0, .bool false]⟩)) (x := none) (L := [.p (Does Tryz.prog 0 [] 0 [] (.inLoop nrc (nrT s 0 0)) (.out .ret (mkT 49 0 [(2, .int .i64 0), (3, .bool false)]))), .b ((Decidable.decide ((s.data.toList.length : Int) > 13)) == false), .b ((Decidable.decide ((s.data.toList.length : Int) > 1)) == false), .b ((Decidable.decide ((s.data.toList.length : Int) > 13)) == false), .b ((Decidable.decide ((s.data.toList.length : Int) > 1)) == false), .b ((Decidable.decide ((s.data.toList.length : Int) > 1)) == false), .b ((Decidable.decide ((s.data.toList.length : Int) > 1)) == false), .b ((Decidable.decide ((s.data.toList.length : Int) > 13)) == false), .b ((Decidable.decide ((s.data.toList.length : Int) > 13)) == false), .b ((Decidable.decide ((s.data.toList.length : Int) > 13)) == false), .b ((Decidable.decide ((s.data.toList.length : Int) > 13)) == false), .b (((s.data.toList.length : Int) == 0) == false), .b (((s.data.toList.length : Int) == 0) == false), .b (((s.data.toList.length : Int) == 0) == false), .b (((s.data.toList.length : Int) == 0) == false)]) mixed noC_gives.holds (by kernel_rfl)
    (by
      refine vcs_cons (hl) ?_
      refine vcs_cons (vc_b h1) ?_
      refine vcs_cons (vc_b h2) ?_
      refine vcs_cons (vc_b h1) ?_
      refine vcs_cons (vc_b h2) ?_
      refine vcs_cons (vc_b h2) ?_
      refine vcs_cons (vc_b h2) ?_
      refine vcs_cons (vc_b h1) ?_
      refine vcs_cons (vc_b h1) ?_
      refine vcs_cons (vc_b h1) ?_
      refine vcs_cons (vc_b h1) ?_
      refine vcs_cons (vc_b h0) ?_
      refine vcs_cons (vc_b h0) ?_
      refine vcs_cons (vc_b h0) ?_
      refine vcs_cons (vc_b h0) ?_
      exact vcs_nil)
  exact gives_of_does hd rfl rfl
set_option maxRecDepth 100000 in
theorem nk_o0 {s : ByteArray} {n : Int} (h0 : ((s.data.toList.length : Int) == 0) = false) (h1 : (Decidable.decide ((s.data.toList.length : Int) > 13)) = false) (h2 : (Decidable.decide ((s.data.toList.length : Int) > 1)) = false) (hl : Does Tryz.prog 0 [] 0 [] (.inLoop nrc (nrT s 0 0)) (.out (.exit 0) (mkT 49 0 [(0, .string s), (4, .int .i64 n)]))) : Gives Tryz.prog 28 [.string s] (.tuple ⟨[.int .i64 n, .bool true]⟩) := by
  obtain ⟨c1, h1, hd, _⟩ := vFar_does (n := 600) (t := .call 28 [.string s]) (d := [(0, .br false), (1, .br false), (2, .br false), (3, .br false), (4, .br false), (5, .br false), (6, .br false), (7, .br false), (8, .br false), (9, .br false), (10, .br false), (11, .br false), (12, .br false), (13, .br false), (15, .loop [0, 4, 5] [] 0 [] (.exit 0) (mkT 49 0 [(0, .string s), (4, .int .i64 n)]))]) (c := 0) (h := []) (v := (.tuple ⟨[.int .i64 n, .bool true]⟩)) (x := none) (L := [.p (Does Tryz.prog 0 [] 0 [] (.inLoop nrc (nrT s 0 0)) (.out (.exit 0) (mkT 49 0 [(0, .string s), (4, .int .i64 n)]))), .b ((Decidable.decide ((s.data.toList.length : Int) > 13)) == false), .b ((Decidable.decide ((s.data.toList.length : Int) > 1)) == false), .b ((Decidable.decide ((s.data.toList.length : Int) > 13)) == false), .b ((Decidable.decide ((s.data.toList.length : Int) > 1)) == false), .b ((Decidable.decide ((s.data.toList.length : Int) > 1)) == false), .b ((Decidable.decide ((s.data.toList.length : Int) > 1)) == false), .b ((Decidable.decide ((s.data.toList.length : Int) > 13)) == false), .b ((Decidable.decide ((s.data.toList.length : Int) > 13)) == false), .b ((Decidable.decide ((s.data.toList.length : Int) > 13)) == false), .b ((Decidable.decide ((s.data.toList.length : Int) > 13)) == false), .b (((s.data.toList.length : Int) == 0) == false), .b (((s.data.toList.length : Int) == 0) == false), .b (((s.data.toList.length : Int) == 0) == false), .b (((s.data.toList.length : Int) == 0) == false)]) mixed noC_gives.holds (by kernel_rfl)
    (by
      refine vcs_cons (hl) ?_
      refine vcs_cons (vc_b h1) ?_
      refine vcs_cons (vc_b h2) ?_
      refine vcs_cons (vc_b h1) ?_
      refine vcs_cons (vc_b h2) ?_
      refine vcs_cons (vc_b h2) ?_
      refine vcs_cons (vc_b h2) ?_
      refine vcs_cons (vc_b h1) ?_
      refine vcs_cons (vc_b h1) ?_
      refine vcs_cons (vc_b h1) ?_
      refine vcs_cons (vc_b h1) ?_
      refine vcs_cons (vc_b h0) ?_
      refine vcs_cons (vc_b h0) ?_
      refine vcs_cons (vc_b h0) ?_
      refine vcs_cons (vc_b h0) ?_
      exact vcs_nil)
  exact gives_of_does hd rfl rfl
set_option maxRecDepth 100000 in
theorem nk_b0 {s : ByteArray} (h0 : ((s.data.toList.length : Int) == 0) = false) (h1 : (Decidable.decide ((s.data.toList.length : Int) > 13)) = false) (h2 : (Decidable.decide ((s.data.toList.length : Int) > 1)) = false) (hl : Does Tryz.prog 0 [] 0 [] (.inLoop nrc (nrT s 0 0)) (.out .ret (mkT 49 0 [(2, .int .i64 0), (3, .bool false)]))) : Gives Tryz.prog 28 [.string s] (.tuple ⟨[.int .i64 0, .bool false]⟩) := by
  obtain ⟨c1, h1, hd, _⟩ := vFar_does (n := 600) (t := .call 28 [.string s]) (d := [(0, .br false), (1, .br false), (2, .br false), (3, .br false), (4, .br false), (5, .br false), (6, .br false), (7, .br false), (8, .br false), (9, .br false), (10, .br false), (11, .br false), (12, .br false), (13, .br false), (15, .loop [0, 4, 5] [] 0 [] .ret (mkT 49 0 [(2, .int .i64 0), (3, .bool false)]))]) (c := 0) (h := []) (v := (.tuple ⟨[.int .i64 0, .bool false]⟩)) (x := none) (L := [.p (Does Tryz.prog 0 [] 0 [] (.inLoop nrc (nrT s 0 0)) (.out .ret (mkT 49 0 [(2, .int .i64 0), (3, .bool false)]))), .b ((Decidable.decide ((s.data.toList.length : Int) > 13)) == false), .b ((Decidable.decide ((s.data.toList.length : Int) > 1)) == false), .b ((Decidable.decide ((s.data.toList.length : Int) > 13)) == false), .b ((Decidable.decide ((s.data.toList.length : Int) > 1)) == false), .b ((Decidable.decide ((s.data.toList.length : Int) > 1)) == false), .b ((Decidable.decide ((s.data.toList.length : Int) > 1)) == false), .b ((Decidable.decide ((s.data.toList.length : Int) > 13)) == false), .b ((Decidable.decide ((s.data.toList.length : Int) > 13)) == false), .b ((Decidable.decide ((s.data.toList.length : Int) > 13)) == false), .b ((Decidable.decide ((s.data.toList.length : Int) > 13)) == false), .b (((s.data.toList.length : Int) == 0) == false), .b (((s.data.toList.length : Int) == 0) == false), .b (((s.data.toList.length : Int) == 0) == false), .b (((s.data.toList.length : Int) == 0) == false)]) mixed noC_gives.holds (by kernel_rfl)
    (by
      refine vcs_cons (hl) ?_
      refine vcs_cons (vc_b h1) ?_
      refine vcs_cons (vc_b h2) ?_
      refine vcs_cons (vc_b h1) ?_
      refine vcs_cons (vc_b h2) ?_
      refine vcs_cons (vc_b h2) ?_
      refine vcs_cons (vc_b h2) ?_
      refine vcs_cons (vc_b h1) ?_
      refine vcs_cons (vc_b h1) ?_
      refine vcs_cons (vc_b h1) ?_
      refine vcs_cons (vc_b h1) ?_
      refine vcs_cons (vc_b h0) ?_
      refine vcs_cons (vc_b h0) ?_
      refine vcs_cons (vc_b h0) ?_
      refine vcs_cons (vc_b h0) ?_
      exact vcs_nil)
  exact gives_of_does hd rfl rfl
set_option maxRecDepth 100000 in
theorem nk_om {s : ByteArray} {n : Int} (h0 : ((s.data.toList.length : Int) == 0) = false) (h1 : (Decidable.decide ((s.data.toList.length : Int) > 13)) = false) (h2 : (Decidable.decide ((s.data.toList.length : Int) > 1)) = true) (h3 : (Decidable.decide ((0 : Int) ≤ 0 ∧ 0 < (s.data.toList.length : Int))) = true) (h4 : ((((s.data.toList.getD (Int.toNat 0) 0).toNat : Nat) : Int) == 48) = false) (hl : Does Tryz.prog 0 [] 0 [] (.inLoop nrc (nrT s 0 0)) (.out (.exit 0) (mkT 49 0 [(0, .string s), (4, .int .i64 n)]))) : Gives Tryz.prog 28 [.string s] (.tuple ⟨[.int .i64 n, .bool true]⟩) := by
  obtain ⟨c1, h1, hd, _⟩ := vFar_does (n := 600) (t := .call 28 [.string s]) (d := [(0, .br false), (1, .br false), (2, .br false), (3, .br false), (4, .br false), (5, .br false), (6, .br false), (7, .br false), (8, .br true), (9, .br true), (10, .br true), (11, .br true), (12, .br false), (13, .br true), (14, .br false), (15, .br false), (16, .loop [0, 4, 5] [] 0 [] (.exit 0) (mkT 49 0 [(0, .string s), (4, .int .i64 n)]))]) (c := 0) (h := []) (v := (.tuple ⟨[.int .i64 n, .bool true]⟩)) (x := none) (L := [.p (Does Tryz.prog 0 [] 0 [] (.inLoop nrc (nrT s 0 0)) (.out (.exit 0) (mkT 49 0 [(0, .string s), (4, .int .i64 n)]))), .b (((((s.data.toList.getD (Int.toNat 0) 0).toNat : Nat) : Int) == 48) == false), .b ((Decidable.decide ((s.data.toList.length : Int) > 13)) == false), .b ((Decidable.decide ((s.data.toList.length : Int) > 1)) == true), .b ((Decidable.decide ((s.data.toList.length : Int) > 13)) == false), .b ((Decidable.decide ((s.data.toList.length : Int) > 1)) == true), .b (Decidable.decide ((0 : Int) ≤ 0 ∧ 0 < (s.data.toList.length : Int))), .b ((Decidable.decide ((s.data.toList.length : Int) > 1)) == true), .b ((Decidable.decide ((s.data.toList.length : Int) > 1)) == true), .b ((Decidable.decide ((s.data.toList.length : Int) > 13)) == false), .b ((Decidable.decide ((s.data.toList.length : Int) > 13)) == false), .b ((Decidable.decide ((s.data.toList.length : Int) > 13)) == false), .b ((Decidable.decide ((s.data.toList.length : Int) > 13)) == false), .b (((s.data.toList.length : Int) == 0) == false), .b (((s.data.toList.length : Int) == 0) == false), .b (((s.data.toList.length : Int) == 0) == false), .b (((s.data.toList.length : Int) == 0) == false)]) mixed noC_gives.holds (by kernel_rfl)
    (by
      refine vcs_cons (hl) ?_
      refine vcs_cons (vc_b h4) ?_
      refine vcs_cons (vc_b h1) ?_
      refine vcs_cons (vc_b h2) ?_
      refine vcs_cons (vc_b h1) ?_
      refine vcs_cons (vc_b h2) ?_
      refine vcs_cons (vc_c h3) ?_
      refine vcs_cons (vc_b h2) ?_
      refine vcs_cons (vc_b h2) ?_
      refine vcs_cons (vc_b h1) ?_
      refine vcs_cons (vc_b h1) ?_
      refine vcs_cons (vc_b h1) ?_
      refine vcs_cons (vc_b h1) ?_
      refine vcs_cons (vc_b h0) ?_
      refine vcs_cons (vc_b h0) ?_
      refine vcs_cons (vc_b h0) ?_
      refine vcs_cons (vc_b h0) ?_
      exact vcs_nil)
  exact gives_of_does hd rfl rfl
set_option maxRecDepth 100000 in
theorem nk_bm {s : ByteArray} (h0 : ((s.data.toList.length : Int) == 0) = false) (h1 : (Decidable.decide ((s.data.toList.length : Int) > 13)) = false) (h2 : (Decidable.decide ((s.data.toList.length : Int) > 1)) = true) (h3 : (Decidable.decide ((0 : Int) ≤ 0 ∧ 0 < (s.data.toList.length : Int))) = true) (h4 : ((((s.data.toList.getD (Int.toNat 0) 0).toNat : Nat) : Int) == 48) = false) (hl : Does Tryz.prog 0 [] 0 [] (.inLoop nrc (nrT s 0 0)) (.out .ret (mkT 49 0 [(2, .int .i64 0), (3, .bool false)]))) : Gives Tryz.prog 28 [.string s] (.tuple ⟨[.int .i64 0, .bool false]⟩) := by
  obtain ⟨c1, h1, hd, _⟩ := vFar_does (n := 600) (t := .call 28 [.string s]) (d := [(0, .br false), (1, .br false), (2, .br false), (3, .br false), (4, .br false), (5, .br false), (6, .br false), (7, .br false), (8, .br true), (9, .br true), (10, .br true), (11, .br true), (12, .br false), (13, .br true), (14, .br false), (15, .br false), (16, .loop [0, 4, 5] [] 0 [] .ret (mkT 49 0 [(2, .int .i64 0), (3, .bool false)]))]) (c := 0) (h := []) (v := (.tuple ⟨[.int .i64 0, .bool false]⟩)) (x := none) (L := [.p (Does Tryz.prog 0 [] 0 [] (.inLoop nrc (nrT s 0 0)) (.out .ret (mkT 49 0 [(2, .int .i64 0), (3, .bool false)]))), .b (((((s.data.toList.getD (Int.toNat 0) 0).toNat : Nat) : Int) == 48) == false), .b ((Decidable.decide ((s.data.toList.length : Int) > 13)) == false), .b ((Decidable.decide ((s.data.toList.length : Int) > 1)) == true), .b ((Decidable.decide ((s.data.toList.length : Int) > 13)) == false), .b ((Decidable.decide ((s.data.toList.length : Int) > 1)) == true), .b (Decidable.decide ((0 : Int) ≤ 0 ∧ 0 < (s.data.toList.length : Int))), .b ((Decidable.decide ((s.data.toList.length : Int) > 1)) == true), .b ((Decidable.decide ((s.data.toList.length : Int) > 1)) == true), .b ((Decidable.decide ((s.data.toList.length : Int) > 13)) == false), .b ((Decidable.decide ((s.data.toList.length : Int) > 13)) == false), .b ((Decidable.decide ((s.data.toList.length : Int) > 13)) == false), .b ((Decidable.decide ((s.data.toList.length : Int) > 13)) == false), .b (((s.data.toList.length : Int) == 0) == false), .b (((s.data.toList.length : Int) == 0) == false), .b (((s.data.toList.length : Int) == 0) == false), .b (((s.data.toList.length : Int) == 0) == false)]) mixed noC_gives.holds (by kernel_rfl)
    (by
      refine vcs_cons (hl) ?_
      refine vcs_cons (vc_b h4) ?_
      refine vcs_cons (vc_b h1) ?_
      refine vcs_cons (vc_b h2) ?_
      refine vcs_cons (vc_b h1) ?_
      refine vcs_cons (vc_b h2) ?_
      refine vcs_cons (vc_c h3) ?_
      refine vcs_cons (vc_b h2) ?_
      refine vcs_cons (vc_b h2) ?_
      refine vcs_cons (vc_b h1) ?_
      refine vcs_cons (vc_b h1) ?_
      refine vcs_cons (vc_b h1) ?_
      refine vcs_cons (vc_b h1) ?_
      refine vcs_cons (vc_b h0) ?_
      refine vcs_cons (vc_b h0) ?_
      refine vcs_cons (vc_b h0) ?_
      refine vcs_cons (vc_b h0) ?_
      exact vcs_nil)
  exact gives_of_does hd rfl rfl
set_option maxRecDepth 100000 in
theorem wc_o {s : ByteArray} (h0 : (Decidable.decide ((s.data.toList.length : Int) ≥ 1)) = true) (hl : Does Tryz.prog 1 (itH s 0) 1 [] (.inLoop woc (woT s)) (.out (.exit 0) (mkT 26 0 [(0, .string s)]))) : Gives Tryz.prog 72 [.string s] (.bool (Decidable.decide ((s.data.toList.length : Int) ≤ 16))) := by
  obtain ⟨c1, h1, hd, _⟩ := vFar_does (n := 600) (t := .call 72 [.string s]) (d := [(1, .br true), (2, .br true), (3, .br true), (4, .br true), (0, .loop [0, 6] [0] 1 [] (.exit 0) (mkT 26 0 [(0, .string s)]))]) (c := 0) (h := []) (v := (.bool (Decidable.decide ((s.data.toList.length : Int) ≤ 16)))) (x := none) (L := [.b ((Decidable.decide ((s.data.toList.length : Int) ≥ 1)) == true), .b ((Decidable.decide ((s.data.toList.length : Int) ≥ 1)) == true), .b ((Decidable.decide ((s.data.toList.length : Int) ≥ 1)) == true), .b ((Decidable.decide ((s.data.toList.length : Int) ≥ 1)) == true), .p (Does Tryz.prog 1 (itH s 0) 1 [] (.inLoop woc (woT s)) (.out (.exit 0) (mkT 26 0 [(0, .string s)])))]) mixed noC_gives.holds (by kernel_rfl)
    (by
      refine vcs_cons (vc_b h0) ?_
      refine vcs_cons (vc_b h0) ?_
      refine vcs_cons (vc_b h0) ?_
      refine vcs_cons (vc_b h0) ?_
      refine vcs_cons (hl) ?_
      exact vcs_nil)
  exact gives_of_does hd rfl rfl
set_option maxRecDepth 100000 in
theorem wc_z {s : ByteArray} (h0 : (Decidable.decide ((s.data.toList.length : Int) ≥ 1)) = false) (hl : Does Tryz.prog 1 (itH s 0) 1 [] (.inLoop woc (woT s)) (.out (.exit 0) (mkT 26 0 [(0, .string s)]))) : Gives Tryz.prog 72 [.string s] (.bool false) := by
  obtain ⟨c1, h1, hd, _⟩ := vFar_does (n := 600) (t := .call 72 [.string s]) (d := [(1, .br false), (2, .br false), (3, .br false), (4, .br false), (0, .loop [0, 6] [0] 1 [] (.exit 0) (mkT 26 0 [(0, .string s)]))]) (c := 0) (h := []) (v := (.bool false)) (x := none) (L := [.b ((Decidable.decide ((s.data.toList.length : Int) ≥ 1)) == false), .b ((Decidable.decide ((s.data.toList.length : Int) ≥ 1)) == false), .b ((Decidable.decide ((s.data.toList.length : Int) ≥ 1)) == false), .b ((Decidable.decide ((s.data.toList.length : Int) ≥ 1)) == false), .p (Does Tryz.prog 1 (itH s 0) 1 [] (.inLoop woc (woT s)) (.out (.exit 0) (mkT 26 0 [(0, .string s)])))]) mixed noC_gives.holds (by kernel_rfl)
    (by
      refine vcs_cons (vc_b h0) ?_
      refine vcs_cons (vc_b h0) ?_
      refine vcs_cons (vc_b h0) ?_
      refine vcs_cons (vc_b h0) ?_
      refine vcs_cons (hl) ?_
      exact vcs_nil)
  exact gives_of_does hd rfl rfl
set_option maxRecDepth 100000 in
theorem wc_b {s : ByteArray}  (hl : Does Tryz.prog 1 (itH s 0) 1 [] (.inLoop woc (woT s)) (.out .ret (mkT 26 0 [(2, .bool false)]))) : Gives Tryz.prog 72 [.string s] (.bool false) := by
  obtain ⟨c1, h1, hd, _⟩ := vFar_does (n := 600) (t := .call 72 [.string s]) (d := [(0, .loop [0, 6] [0] 1 [] .ret (mkT 26 0 [(2, .bool false)]))]) (c := 0) (h := []) (v := (.bool false)) (x := none) (L := [.p (Does Tryz.prog 1 (itH s 0) 1 [] (.inLoop woc (woT s)) (.out .ret (mkT 26 0 [(2, .bool false)])))]) mixed noC_gives.holds (by kernel_rfl)
    (by
      refine vcs_cons (hl) ?_
      exact vcs_nil)
  exact gives_of_does hd rfl rfl
set_option maxRecDepth 100000 in
theorem wk_o {s : ByteArray} (h0 : (Decidable.decide ((s.data.toList.length : Int) ≥ 1)) = true) (hl : Does Tryz.prog 0 [] 0 [] (.inLoop wrc (wrT s 0)) (.out (.exit 0) (mkT 41 0 [(0, .string s)]))) : Gives Tryz.prog 53 [.string s] (.bool (Decidable.decide ((s.data.toList.length : Int) ≤ 16))) := by
  obtain ⟨c1, h1, hd, _⟩ := vFar_does (n := 600) (t := .call 53 [.string s]) (d := [(1, .br true), (2, .br true), (3, .br true), (4, .br true), (0, .loop [0, 3] [] 0 [] (.exit 0) (mkT 41 0 [(0, .string s)]))]) (c := 0) (h := []) (v := (.bool (Decidable.decide ((s.data.toList.length : Int) ≤ 16)))) (x := none) (L := [.b ((Decidable.decide ((s.data.toList.length : Int) ≥ 1)) == true), .b ((Decidable.decide ((s.data.toList.length : Int) ≥ 1)) == true), .b ((Decidable.decide ((s.data.toList.length : Int) ≥ 1)) == true), .b ((Decidable.decide ((s.data.toList.length : Int) ≥ 1)) == true), .p (Does Tryz.prog 0 [] 0 [] (.inLoop wrc (wrT s 0)) (.out (.exit 0) (mkT 41 0 [(0, .string s)])))]) mixed noC_gives.holds (by kernel_rfl)
    (by
      refine vcs_cons (vc_b h0) ?_
      refine vcs_cons (vc_b h0) ?_
      refine vcs_cons (vc_b h0) ?_
      refine vcs_cons (vc_b h0) ?_
      refine vcs_cons (hl) ?_
      exact vcs_nil)
  exact gives_of_does hd rfl rfl
set_option maxRecDepth 100000 in
theorem wk_z {s : ByteArray} (h0 : (Decidable.decide ((s.data.toList.length : Int) ≥ 1)) = false) (hl : Does Tryz.prog 0 [] 0 [] (.inLoop wrc (wrT s 0)) (.out (.exit 0) (mkT 41 0 [(0, .string s)]))) : Gives Tryz.prog 53 [.string s] (.bool false) := by
  obtain ⟨c1, h1, hd, _⟩ := vFar_does (n := 600) (t := .call 53 [.string s]) (d := [(1, .br false), (2, .br false), (3, .br false), (4, .br false), (0, .loop [0, 3] [] 0 [] (.exit 0) (mkT 41 0 [(0, .string s)]))]) (c := 0) (h := []) (v := (.bool false)) (x := none) (L := [.b ((Decidable.decide ((s.data.toList.length : Int) ≥ 1)) == false), .b ((Decidable.decide ((s.data.toList.length : Int) ≥ 1)) == false), .b ((Decidable.decide ((s.data.toList.length : Int) ≥ 1)) == false), .b ((Decidable.decide ((s.data.toList.length : Int) ≥ 1)) == false), .p (Does Tryz.prog 0 [] 0 [] (.inLoop wrc (wrT s 0)) (.out (.exit 0) (mkT 41 0 [(0, .string s)])))]) mixed noC_gives.holds (by kernel_rfl)
    (by
      refine vcs_cons (vc_b h0) ?_
      refine vcs_cons (vc_b h0) ?_
      refine vcs_cons (vc_b h0) ?_
      refine vcs_cons (vc_b h0) ?_
      refine vcs_cons (hl) ?_
      exact vcs_nil)
  exact gives_of_does hd rfl rfl
set_option maxRecDepth 100000 in
theorem wk_b {s : ByteArray}  (hl : Does Tryz.prog 0 [] 0 [] (.inLoop wrc (wrT s 0)) (.out .ret (mkT 41 0 [(2, .bool false)]))) : Gives Tryz.prog 53 [.string s] (.bool false) := by
  obtain ⟨c1, h1, hd, _⟩ := vFar_does (n := 600) (t := .call 53 [.string s]) (d := [(0, .loop [0, 3] [] 0 [] .ret (mkT 41 0 [(2, .bool false)]))]) (c := 0) (h := []) (v := (.bool false)) (x := none) (L := [.p (Does Tryz.prog 0 [] 0 [] (.inLoop wrc (wrT s 0)) (.out .ret (mkT 41 0 [(2, .bool false)])))]) mixed noC_gives.holds (by kernel_rfl)
    (by
      refine vcs_cons (hl) ?_
      exact vcs_nil)
  exact gives_of_does hd rfl rfl
end Go.Proofs.YtkmicbhnfochjaaGreatDoor
