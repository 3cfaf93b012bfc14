/- The rounds of Few's inner loop. No condition. -/
import Derived.Test.YtglaapelpidfhaaGreatCon3
namespace Go.Proofs.YtglaapelpidfhaaGreat
open Go Go.Sx
noncomputable def act (kind : Int) (reads : Bool) (key value low high : ByteArray) (unb : Bool) (limit : Int) (rev : Bool) : List Value := [.int .i64 kind, .bool reads, .string key, .string value, .string low, .string high, .bool unb, .int .i64 limit, .bool rev]
/-- Few's inner loop. -/
noncomputable def fi : Code := subC [1,1,0,1,0,0,1,1,0,0,1,1,1,0,0] (bodyC 5)
noncomputable def fiT (n : Int) (ba oa M ca j : Nat) (s : Value) (i : Int) : List Value := mkT 105 0 [(1, .pointer (some ⟨2, 0, none⟩)), (3, .int .i64 n), (8, .slice (some ⟨ba, oa, some 0⟩) M ca), (9, .int .i64 M), (10, .int .i64 j), (5, s), (6, .int .i64 i)]
theorem args_sub {B : Nat} {w : World} {b off : Nat} {vs : List Value} (h : ArgCells B w b off vs) (o z : Nat) : ArgCells B w b (off + o) ((vs.drop o).take z) := by
  refine ⟨h.1, fun j v e => ?_⟩
  rw [List.getElem?_take] at e
  split at e
  · rw [List.getElem?_drop] at e
    obtain ⟨u, e1, e2⟩ := h.2 (o + j) v e
    exact ⟨u, by rw [Nat.add_assoc]; exact e1, e2⟩
  · cases e
set_option maxRecDepth 100000 in
theorem few_l1 {W : World} {n : Int} {ba oa M ca j : Nat} {blk off N cap i : Nat} {kind : Int} {reads : Bool} {key value low high : ByteArray} {unb : Bool} {limit : Int} {rev : Bool} (h0 : (Decidable.decide ((i : Int) < (N : Int))) = true) (h1 : (Decidable.decide ((i : Int) ≤ 40)) = true) (h2 : (Decidable.decide (0 ≤ (i : Int) ∧ (i : Int) < (N : Int))) = true) (h3 : (Decidable.decide ((key.data.toList.length : Int) > 100)) = true) (hc : ArgCells W.heap.size W blk (off + i * 9) (act kind reads key value low high unb limit rev))  :
    Sx.Ends Tryz.prog 3 3 3 (argsHeap W) fi (fiT n ba oa M ca j (.slice (some ⟨blk, off, some 0⟩) N cap) i) .ret (argsHeap W) (mkT 105 0 [(2, .bool false)]) :=
  ends_of mixed con3_holds [] [(0, false)] (d := [(0, .br true), (1, .br true), (2, .br true), (3, .br true), (4, .br true), (6, .br true), (7, .br true), (8, .br true), (9, .br true), (10, .br true), (11, .br true), (12, .br true), (13, .br true), (5, .cell (.tuple ⟨(((act kind reads key value low high unb limit rev).drop 2).take 1)⟩))]) (n := 600) (c2 := 3) (L' := []) (L := [.b ((Decidable.decide ((key.data.toList.length : Int) > 100)) == true), .b ((Decidable.decide ((key.data.toList.length : Int) > 100)) == true), .b ((Decidable.decide ((key.data.toList.length : Int) > 100)) == true), .b ((Decidable.decide ((key.data.toList.length : Int) > 100)) == true), .b ((Decidable.decide ((key.data.toList.length : Int) > 100)) == true), .b ((Decidable.decide ((key.data.toList.length : Int) > 100)) == true), .b ((Decidable.decide ((key.data.toList.length : Int) > 100)) == true), .b ((Decidable.decide ((key.data.toList.length : Int) > 100)) == true), .p (ArgCells W.heap.size W blk (off + i * 9 + 2) (((act kind reads key value low high unb limit rev).drop 2).take 1) ∧ (((act kind reads key value low high unb limit rev).drop 2).take 1).length = 1), .b (Decidable.decide (0 ≤ (i : Int) ∧ (i : Int) < (N : Int))), .b ((Decidable.decide ((i : Int) ≤ 40)) == true), .b ((Decidable.decide ((i : Int) < (N : Int))) == true), .b ((Decidable.decide ((i : Int) < (N : Int))) == true), .b ((Decidable.decide ((i : Int) < (N : Int))) == true)]) (by kernel_rfl) rfl rfl (vcs_nil)
    (by
      refine vcs_cons (vc_b h3) ?_
      refine vcs_cons (vc_b h3) ?_
      refine vcs_cons (vc_b h3) ?_
      refine vcs_cons (vc_b h3) ?_
      refine vcs_cons (vc_b h3) ?_
      refine vcs_cons (vc_b h3) ?_
      refine vcs_cons (vc_b h3) ?_
      refine vcs_cons (vc_b h3) ?_
      refine vcs_cons (⟨args_sub hc 2 1, rfl⟩) ?_
      refine vcs_cons (vc_c h2) ?_
      refine vcs_cons (vc_b h1) ?_
      refine vcs_cons (vc_b h0) ?_
      refine vcs_cons (vc_b h0) ?_
      refine vcs_cons (vc_b h0) ?_
      exact vcs_nil)
set_option maxRecDepth 100000 in
theorem few_l2 {W : World} {n : Int} {ba oa M ca j : Nat} {blk off N cap i : Nat} {kind : Int} {reads : Bool} {key value low high : ByteArray} {unb : Bool} {limit : Int} {rev : Bool} (h0 : (Decidable.decide ((i : Int) < (N : Int))) = true) (h1 : (Decidable.decide ((i : Int) ≤ 40)) = true) (h2 : (Decidable.decide (0 ≤ (i : Int) ∧ (i : Int) < (N : Int))) = true) (h3 : (Decidable.decide ((key.data.toList.length : Int) > 100)) = false) (h4 : (Decidable.decide ((value.data.toList.length : Int) > 100)) = true) (hc : ArgCells W.heap.size W blk (off + i * 9) (act kind reads key value low high unb limit rev))  :
    Sx.Ends Tryz.prog 3 3 3 (argsHeap W) fi (fiT n ba oa M ca j (.slice (some ⟨blk, off, some 0⟩) N cap) i) .ret (argsHeap W) (mkT 105 0 [(2, .bool false)]) :=
  ends_of mixed con3_holds [] [(0, false)] (d := [(0, .br true), (1, .br true), (2, .br true), (3, .br true), (4, .br true), (6, .br false), (7, .br false), (8, .br false), (9, .br true), (10, .br false), (11, .br false), (13, .br false), (14, .br false), (15, .br false), (16, .br true), (17, .br true), (18, .br true), (19, .br true), (20, .br true), (21, .br true), (22, .br true), (23, .br true), (24, .br true), (5, .cell (.tuple ⟨(((act kind reads key value low high unb limit rev).drop 2).take 1)⟩)), (12, .cell (.tuple ⟨(((act kind reads key value low high unb limit rev).drop 3).take 1)⟩))]) (n := 600) (c2 := 3) (L' := []) (L := [.b ((Decidable.decide ((value.data.toList.length : Int) > 100)) == true), .b ((Decidable.decide ((value.data.toList.length : Int) > 100)) == true), .b ((Decidable.decide ((value.data.toList.length : Int) > 100)) == true), .b ((Decidable.decide ((value.data.toList.length : Int) > 100)) == true), .b ((Decidable.decide ((value.data.toList.length : Int) > 100)) == true), .b ((Decidable.decide ((value.data.toList.length : Int) > 100)) == true), .b ((Decidable.decide ((value.data.toList.length : Int) > 100)) == true), .b ((Decidable.decide ((value.data.toList.length : Int) > 100)) == true), .b ((Decidable.decide ((value.data.toList.length : Int) > 100)) == true), .b ((Decidable.decide ((key.data.toList.length : Int) > 100)) == false), .b ((Decidable.decide ((key.data.toList.length : Int) > 100)) == false), .b ((Decidable.decide ((key.data.toList.length : Int) > 100)) == false), .p (ArgCells W.heap.size W blk (off + i * 9 + 3) (((act kind reads key value low high unb limit rev).drop 3).take 1) ∧ (((act kind reads key value low high unb limit rev).drop 3).take 1).length = 1), .b ((Decidable.decide ((key.data.toList.length : Int) > 100)) == false), .b ((Decidable.decide ((key.data.toList.length : Int) > 100)) == false), .b (Decidable.decide (0 ≤ (i : Int) ∧ (i : Int) < (N : Int))), .b ((Decidable.decide ((key.data.toList.length : Int) > 100)) == false), .b ((Decidable.decide ((key.data.toList.length : Int) > 100)) == false), .b ((Decidable.decide ((key.data.toList.length : Int) > 100)) == false), .p (ArgCells W.heap.size W blk (off + i * 9 + 2) (((act kind reads key value low high unb limit rev).drop 2).take 1) ∧ (((act kind reads key value low high unb limit rev).drop 2).take 1).length = 1), .b (Decidable.decide (0 ≤ (i : Int) ∧ (i : Int) < (N : Int))), .b ((Decidable.decide ((i : Int) ≤ 40)) == true), .b ((Decidable.decide ((i : Int) < (N : Int))) == true), .b ((Decidable.decide ((i : Int) < (N : Int))) == true), .b ((Decidable.decide ((i : Int) < (N : Int))) == true)]) (by kernel_rfl) rfl rfl (vcs_nil)
    (by
      refine vcs_cons (vc_b h4) ?_
      refine vcs_cons (vc_b h4) ?_
      refine vcs_cons (vc_b h4) ?_
      refine vcs_cons (vc_b h4) ?_
      refine vcs_cons (vc_b h4) ?_
      refine vcs_cons (vc_b h4) ?_
      refine vcs_cons (vc_b h4) ?_
      refine vcs_cons (vc_b h4) ?_
      refine vcs_cons (vc_b h4) ?_
      refine vcs_cons (vc_b h3) ?_
      refine vcs_cons (vc_b h3) ?_
      refine vcs_cons (vc_b h3) ?_
      refine vcs_cons (⟨args_sub hc 3 1, rfl⟩) ?_
      refine vcs_cons (vc_b h3) ?_
      refine vcs_cons (vc_b h3) ?_
      refine vcs_cons (vc_c h2) ?_
      refine vcs_cons (vc_b h3) ?_
      refine vcs_cons (vc_b h3) ?_
      refine vcs_cons (vc_b h3) ?_
      refine vcs_cons (⟨args_sub hc 2 1, rfl⟩) ?_
      refine vcs_cons (vc_c h2) ?_
      refine vcs_cons (vc_b h1) ?_
      refine vcs_cons (vc_b h0) ?_
      refine vcs_cons (vc_b h0) ?_
      refine vcs_cons (vc_b h0) ?_
      exact vcs_nil)
set_option maxRecDepth 100000 in
theorem few_l3 {W : World} {n : Int} {ba oa M ca j : Nat} {blk off N cap i : Nat} {kind : Int} {reads : Bool} {key value low high : ByteArray} {unb : Bool} {limit : Int} {rev : Bool} (h0 : (Decidable.decide ((i : Int) < (N : Int))) = true) (h1 : (Decidable.decide ((i : Int) ≤ 40)) = true) (h2 : (Decidable.decide (0 ≤ (i : Int) ∧ (i : Int) < (N : Int))) = true) (h3 : (Decidable.decide ((key.data.toList.length : Int) > 100)) = false) (h4 : (Decidable.decide ((value.data.toList.length : Int) > 100)) = false) (h5 : (Decidable.decide ((low.data.toList.length : Int) > 100)) = true) (hc : ArgCells W.heap.size W blk (off + i * 9) (act kind reads key value low high unb limit rev))  :
    Sx.Ends Tryz.prog 3 3 3 (argsHeap W) fi (fiT n ba oa M ca j (.slice (some ⟨blk, off, some 0⟩) N cap) i) .ret (argsHeap W) (mkT 105 0 [(2, .bool false)]) :=
  ends_of mixed con3_holds [] [(0, false)] (d := [(0, .br true), (1, .br true), (2, .br true), (3, .br true), (4, .br true), (6, .br false), (7, .br false), (8, .br false), (9, .br true), (10, .br false), (11, .br false), (13, .br false), (14, .br false), (15, .br false), (16, .br false), (17, .br false), (18, .br false), (19, .br true), (20, .br false), (21, .br false), (22, .br false), (24, .br false), (25, .br false), (26, .br false), (27, .br true), (28, .br true), (29, .br true), (30, .br true), (31, .br true), (32, .br true), (33, .br true), (34, .br true), (35, .br true), (5, .cell (.tuple ⟨(((act kind reads key value low high unb limit rev).drop 2).take 1)⟩)), (12, .cell (.tuple ⟨(((act kind reads key value low high unb limit rev).drop 3).take 1)⟩)), (23, .cell (.tuple ⟨(((act kind reads key value low high unb limit rev).drop 4).take 1)⟩))]) (n := 600) (c2 := 3) (L' := []) (L := [.b ((Decidable.decide ((low.data.toList.length : Int) > 100)) == true), .b ((Decidable.decide ((low.data.toList.length : Int) > 100)) == true), .b ((Decidable.decide ((low.data.toList.length : Int) > 100)) == true), .b ((Decidable.decide ((low.data.toList.length : Int) > 100)) == true), .b ((Decidable.decide ((low.data.toList.length : Int) > 100)) == true), .b ((Decidable.decide ((low.data.toList.length : Int) > 100)) == true), .b ((Decidable.decide ((low.data.toList.length : Int) > 100)) == true), .b ((Decidable.decide ((low.data.toList.length : Int) > 100)) == true), .b ((Decidable.decide ((low.data.toList.length : Int) > 100)) == true), .b ((Decidable.decide ((value.data.toList.length : Int) > 100)) == false), .b ((Decidable.decide ((value.data.toList.length : Int) > 100)) == false), .b ((Decidable.decide ((value.data.toList.length : Int) > 100)) == false), .p (ArgCells W.heap.size W blk (off + i * 9 + 4) (((act kind reads key value low high unb limit rev).drop 4).take 1) ∧ (((act kind reads key value low high unb limit rev).drop 4).take 1).length = 1), .b ((Decidable.decide ((value.data.toList.length : Int) > 100)) == false), .b ((Decidable.decide ((value.data.toList.length : Int) > 100)) == false), .b ((Decidable.decide ((value.data.toList.length : Int) > 100)) == false), .b (Decidable.decide (0 ≤ (i : Int) ∧ (i : Int) < (N : Int))), .b ((Decidable.decide ((value.data.toList.length : Int) > 100)) == false), .b ((Decidable.decide ((value.data.toList.length : Int) > 100)) == false), .b ((Decidable.decide ((value.data.toList.length : Int) > 100)) == false), .b ((Decidable.decide ((key.data.toList.length : Int) > 100)) == false), .b ((Decidable.decide ((key.data.toList.length : Int) > 100)) == false), .b ((Decidable.decide ((key.data.toList.length : Int) > 100)) == false), .p (ArgCells W.heap.size W blk (off + i * 9 + 3) (((act kind reads key value low high unb limit rev).drop 3).take 1) ∧ (((act kind reads key value low high unb limit rev).drop 3).take 1).length = 1), .b ((Decidable.decide ((key.data.toList.length : Int) > 100)) == false), .b ((Decidable.decide ((key.data.toList.length : Int) > 100)) == false), .b (Decidable.decide (0 ≤ (i : Int) ∧ (i : Int) < (N : Int))), .b ((Decidable.decide ((key.data.toList.length : Int) > 100)) == false), .b ((Decidable.decide ((key.data.toList.length : Int) > 100)) == false), .b ((Decidable.decide ((key.data.toList.length : Int) > 100)) == false), .p (ArgCells W.heap.size W blk (off + i * 9 + 2) (((act kind reads key value low high unb limit rev).drop 2).take 1) ∧ (((act kind reads key value low high unb limit rev).drop 2).take 1).length = 1), .b (Decidable.decide (0 ≤ (i : Int) ∧ (i : Int) < (N : Int))), .b ((Decidable.decide ((i : Int) ≤ 40)) == true), .b ((Decidable.decide ((i : Int) < (N : Int))) == true), .b ((Decidable.decide ((i : Int) < (N : Int))) == true), .b ((Decidable.decide ((i : Int) < (N : Int))) == true)]) (by kernel_rfl) rfl rfl (vcs_nil)
    (by
      refine vcs_cons (vc_b h5) ?_
      refine vcs_cons (vc_b h5) ?_
      refine vcs_cons (vc_b h5) ?_
      refine vcs_cons (vc_b h5) ?_
      refine vcs_cons (vc_b h5) ?_
      refine vcs_cons (vc_b h5) ?_
      refine vcs_cons (vc_b h5) ?_
      refine vcs_cons (vc_b h5) ?_
      refine vcs_cons (vc_b h5) ?_
      refine vcs_cons (vc_b h4) ?_
      refine vcs_cons (vc_b h4) ?_
      refine vcs_cons (vc_b h4) ?_
      refine vcs_cons (⟨args_sub hc 4 1, rfl⟩) ?_
      refine vcs_cons (vc_b h4) ?_
      refine vcs_cons (vc_b h4) ?_
      refine vcs_cons (vc_b h4) ?_
      refine vcs_cons (vc_c h2) ?_
      refine vcs_cons (vc_b h4) ?_
      refine vcs_cons (vc_b h4) ?_
      refine vcs_cons (vc_b h4) ?_
      refine vcs_cons (vc_b h3) ?_
      refine vcs_cons (vc_b h3) ?_
      refine vcs_cons (vc_b h3) ?_
      refine vcs_cons (⟨args_sub hc 3 1, rfl⟩) ?_
      refine vcs_cons (vc_b h3) ?_
      refine vcs_cons (vc_b h3) ?_
      refine vcs_cons (vc_c h2) ?_
      refine vcs_cons (vc_b h3) ?_
      refine vcs_cons (vc_b h3) ?_
      refine vcs_cons (vc_b h3) ?_
      refine vcs_cons (⟨args_sub hc 2 1, rfl⟩) ?_
      refine vcs_cons (vc_c h2) ?_
      refine vcs_cons (vc_b h1) ?_
      refine vcs_cons (vc_b h0) ?_
      refine vcs_cons (vc_b h0) ?_
      refine vcs_cons (vc_b h0) ?_
      exact vcs_nil)
set_option maxRecDepth 100000 in
theorem few_l4 {W : World} {n : Int} {ba oa M ca j : Nat} {blk off N cap i : Nat} {kind : Int} {reads : Bool} {key value low high : ByteArray} {unb : Bool} {limit : Int} {rev : Bool} (h0 : (Decidable.decide ((i : Int) < (N : Int))) = true) (h1 : (Decidable.decide ((i : Int) ≤ 40)) = true) (h2 : (Decidable.decide (0 ≤ (i : Int) ∧ (i : Int) < (N : Int))) = true) (h3 : (Decidable.decide ((key.data.toList.length : Int) > 100)) = false) (h4 : (Decidable.decide ((value.data.toList.length : Int) > 100)) = false) (h5 : (Decidable.decide ((low.data.toList.length : Int) > 100)) = false) (h6 : (Decidable.decide ((high.data.toList.length : Int) > 100)) = true) (hc : ArgCells W.heap.size W blk (off + i * 9) (act kind reads key value low high unb limit rev))  :
    Sx.Ends Tryz.prog 3 3 3 (argsHeap W) fi (fiT n ba oa M ca j (.slice (some ⟨blk, off, some 0⟩) N cap) i) .ret (argsHeap W) (mkT 105 0 [(2, .bool false)]) :=
  ends_of mixed con3_holds [] [(0, false)] (d := [(0, .br true), (1, .br true), (2, .br true), (3, .br true), (4, .br true), (6, .br false), (7, .br false), (8, .br false), (9, .br true), (10, .br false), (11, .br false), (13, .br false), (14, .br false), (15, .br false), (16, .br false), (17, .br false), (18, .br false), (19, .br true), (20, .br false), (21, .br false), (22, .br false), (24, .br false), (25, .br false), (26, .br false), (27, .br false), (28, .br false), (29, .br false), (30, .br true), (31, .br false), (32, .br false), (33, .br false), (35, .br false), (36, .br false), (37, .br false), (38, .br true), (5, .cell (.tuple ⟨(((act kind reads key value low high unb limit rev).drop 2).take 1)⟩)), (12, .cell (.tuple ⟨(((act kind reads key value low high unb limit rev).drop 3).take 1)⟩)), (23, .cell (.tuple ⟨(((act kind reads key value low high unb limit rev).drop 4).take 1)⟩)), (34, .cell (.tuple ⟨(((act kind reads key value low high unb limit rev).drop 5).take 1)⟩))]) (n := 600) (c2 := 3) (L' := []) (L := [.b ((Decidable.decide ((high.data.toList.length : Int) > 100)) == true), .b ((Decidable.decide ((low.data.toList.length : Int) > 100)) == false), .b ((Decidable.decide ((low.data.toList.length : Int) > 100)) == false), .b ((Decidable.decide ((low.data.toList.length : Int) > 100)) == false), .p (ArgCells W.heap.size W blk (off + i * 9 + 5) (((act kind reads key value low high unb limit rev).drop 5).take 1) ∧ (((act kind reads key value low high unb limit rev).drop 5).take 1).length = 1), .b ((Decidable.decide ((low.data.toList.length : Int) > 100)) == false), .b ((Decidable.decide ((low.data.toList.length : Int) > 100)) == false), .b ((Decidable.decide ((low.data.toList.length : Int) > 100)) == false), .b (Decidable.decide (0 ≤ (i : Int) ∧ (i : Int) < (N : Int))), .b ((Decidable.decide ((low.data.toList.length : Int) > 100)) == false), .b ((Decidable.decide ((low.data.toList.length : Int) > 100)) == false), .b ((Decidable.decide ((low.data.toList.length : Int) > 100)) == false), .b ((Decidable.decide ((value.data.toList.length : Int) > 100)) == false), .b ((Decidable.decide ((value.data.toList.length : Int) > 100)) == false), .b ((Decidable.decide ((value.data.toList.length : Int) > 100)) == false), .p (ArgCells W.heap.size W blk (off + i * 9 + 4) (((act kind reads key value low high unb limit rev).drop 4).take 1) ∧ (((act kind reads key value low high unb limit rev).drop 4).take 1).length = 1), .b ((Decidable.decide ((value.data.toList.length : Int) > 100)) == false), .b ((Decidable.decide ((value.data.toList.length : Int) > 100)) == false), .b ((Decidable.decide ((value.data.toList.length : Int) > 100)) == false), .b (Decidable.decide (0 ≤ (i : Int) ∧ (i : Int) < (N : Int))), .b ((Decidable.decide ((value.data.toList.length : Int) > 100)) == false), .b ((Decidable.decide ((value.data.toList.length : Int) > 100)) == false), .b ((Decidable.decide ((value.data.toList.length : Int) > 100)) == false), .b ((Decidable.decide ((key.data.toList.length : Int) > 100)) == false), .b ((Decidable.decide ((key.data.toList.length : Int) > 100)) == false), .b ((Decidable.decide ((key.data.toList.length : Int) > 100)) == false), .p (ArgCells W.heap.size W blk (off + i * 9 + 3) (((act kind reads key value low high unb limit rev).drop 3).take 1) ∧ (((act kind reads key value low high unb limit rev).drop 3).take 1).length = 1), .b ((Decidable.decide ((key.data.toList.length : Int) > 100)) == false), .b ((Decidable.decide ((key.data.toList.length : Int) > 100)) == false), .b (Decidable.decide (0 ≤ (i : Int) ∧ (i : Int) < (N : Int))), .b ((Decidable.decide ((key.data.toList.length : Int) > 100)) == false), .b ((Decidable.decide ((key.data.toList.length : Int) > 100)) == false), .b ((Decidable.decide ((key.data.toList.length : Int) > 100)) == false), .p (ArgCells W.heap.size W blk (off + i * 9 + 2) (((act kind reads key value low high unb limit rev).drop 2).take 1) ∧ (((act kind reads key value low high unb limit rev).drop 2).take 1).length = 1), .b (Decidable.decide (0 ≤ (i : Int) ∧ (i : Int) < (N : Int))), .b ((Decidable.decide ((i : Int) ≤ 40)) == true), .b ((Decidable.decide ((i : Int) < (N : Int))) == true), .b ((Decidable.decide ((i : Int) < (N : Int))) == true), .b ((Decidable.decide ((i : Int) < (N : Int))) == true)]) (by kernel_rfl) rfl rfl (vcs_nil)
    (by
      refine vcs_cons (vc_b h6) ?_
      refine vcs_cons (vc_b h5) ?_
      refine vcs_cons (vc_b h5) ?_
      refine vcs_cons (vc_b h5) ?_
      refine vcs_cons (⟨args_sub hc 5 1, rfl⟩) ?_
      refine vcs_cons (vc_b h5) ?_
      refine vcs_cons (vc_b h5) ?_
      refine vcs_cons (vc_b h5) ?_
      refine vcs_cons (vc_c h2) ?_
      refine vcs_cons (vc_b h5) ?_
      refine vcs_cons (vc_b h5) ?_
      refine vcs_cons (vc_b h5) ?_
      refine vcs_cons (vc_b h4) ?_
      refine vcs_cons (vc_b h4) ?_
      refine vcs_cons (vc_b h4) ?_
      refine vcs_cons (⟨args_sub hc 4 1, rfl⟩) ?_
      refine vcs_cons (vc_b h4) ?_
      refine vcs_cons (vc_b h4) ?_
      refine vcs_cons (vc_b h4) ?_
      refine vcs_cons (vc_c h2) ?_
      refine vcs_cons (vc_b h4) ?_
      refine vcs_cons (vc_b h4) ?_
      refine vcs_cons (vc_b h4) ?_
      refine vcs_cons (vc_b h3) ?_
      refine vcs_cons (vc_b h3) ?_
      refine vcs_cons (vc_b h3) ?_
      refine vcs_cons (⟨args_sub hc 3 1, rfl⟩) ?_
      refine vcs_cons (vc_b h3) ?_
      refine vcs_cons (vc_b h3) ?_
      refine vcs_cons (vc_c h2) ?_
      refine vcs_cons (vc_b h3) ?_
      refine vcs_cons (vc_b h3) ?_
      refine vcs_cons (vc_b h3) ?_
      refine vcs_cons (⟨args_sub hc 2 1, rfl⟩) ?_
      refine vcs_cons (vc_c h2) ?_
      refine vcs_cons (vc_b h1) ?_
      refine vcs_cons (vc_b h0) ?_
      refine vcs_cons (vc_b h0) ?_
      refine vcs_cons (vc_b h0) ?_
      exact vcs_nil)
set_option maxRecDepth 100000 in
theorem few_ok {W : World} {n : Int} {ba oa M ca j : Nat} {blk off N cap i : Nat} {kind : Int} {reads : Bool} {key value low high : ByteArray} {unb : Bool} {limit : Int} {rev : Bool} (h0 : (Decidable.decide ((i : Int) < (N : Int))) = true) (h1 : (Decidable.decide ((i : Int) ≤ 40)) = true) (h2 : (Decidable.decide (0 ≤ (i : Int) ∧ (i : Int) < (N : Int))) = true) (h3 : (Decidable.decide ((key.data.toList.length : Int) > 100)) = false) (h4 : (Decidable.decide ((value.data.toList.length : Int) > 100)) = false) (h5 : (Decidable.decide ((low.data.toList.length : Int) > 100)) = false) (h6 : (Decidable.decide ((high.data.toList.length : Int) > 100)) = false) (hc : ArgCells W.heap.size W blk (off + i * 9) (act kind reads key value low high unb limit rev))  :
    Sx.Goes Tryz.prog 3 3 3 (argsHeap W) fi (fiT n ba oa M ca j (.slice (some ⟨blk, off, some 0⟩) N cap) i) (argsHeap W) (mkT 105 0 [(1, .pointer (some ⟨2, 0, none⟩)), (3, .int .i64 n), (8, .slice (some ⟨ba, oa, some 0⟩) M ca), (9, .int .i64 M), (10, .int .i64 j), (5, (.slice (some ⟨blk, off, some 0⟩) N cap)), (6, .int .i64 (IntKind.i64.wrap ((i : Int) + 1)))]) :=
  goes_of mixed con3_holds [] [(0, false)] (d := [(0, .br true), (1, .br true), (2, .br true), (3, .br true), (4, .br true), (6, .br false), (7, .br false), (8, .br false), (9, .br true), (10, .br false), (11, .br false), (13, .br false), (14, .br false), (15, .br false), (16, .br false), (17, .br false), (18, .br false), (19, .br true), (20, .br false), (21, .br false), (22, .br false), (24, .br false), (25, .br false), (26, .br false), (27, .br false), (28, .br false), (29, .br false), (30, .br true), (31, .br false), (32, .br false), (33, .br false), (35, .br false), (36, .br false), (37, .br false), (38, .br false), (5, .cell (.tuple ⟨(((act kind reads key value low high unb limit rev).drop 2).take 1)⟩)), (12, .cell (.tuple ⟨(((act kind reads key value low high unb limit rev).drop 3).take 1)⟩)), (23, .cell (.tuple ⟨(((act kind reads key value low high unb limit rev).drop 4).take 1)⟩)), (34, .cell (.tuple ⟨(((act kind reads key value low high unb limit rev).drop 5).take 1)⟩))]) (n := 600) (c2 := 3) (L' := []) (L := [.b ((Decidable.decide ((high.data.toList.length : Int) > 100)) == false), .b ((Decidable.decide ((low.data.toList.length : Int) > 100)) == false), .b ((Decidable.decide ((low.data.toList.length : Int) > 100)) == false), .b ((Decidable.decide ((low.data.toList.length : Int) > 100)) == false), .p (ArgCells W.heap.size W blk (off + i * 9 + 5) (((act kind reads key value low high unb limit rev).drop 5).take 1) ∧ (((act kind reads key value low high unb limit rev).drop 5).take 1).length = 1), .b ((Decidable.decide ((low.data.toList.length : Int) > 100)) == false), .b ((Decidable.decide ((low.data.toList.length : Int) > 100)) == false), .b ((Decidable.decide ((low.data.toList.length : Int) > 100)) == false), .b (Decidable.decide (0 ≤ (i : Int) ∧ (i : Int) < (N : Int))), .b ((Decidable.decide ((low.data.toList.length : Int) > 100)) == false), .b ((Decidable.decide ((low.data.toList.length : Int) > 100)) == false), .b ((Decidable.decide ((low.data.toList.length : Int) > 100)) == false), .b ((Decidable.decide ((value.data.toList.length : Int) > 100)) == false), .b ((Decidable.decide ((value.data.toList.length : Int) > 100)) == false), .b ((Decidable.decide ((value.data.toList.length : Int) > 100)) == false), .p (ArgCells W.heap.size W blk (off + i * 9 + 4) (((act kind reads key value low high unb limit rev).drop 4).take 1) ∧ (((act kind reads key value low high unb limit rev).drop 4).take 1).length = 1), .b ((Decidable.decide ((value.data.toList.length : Int) > 100)) == false), .b ((Decidable.decide ((value.data.toList.length : Int) > 100)) == false), .b ((Decidable.decide ((value.data.toList.length : Int) > 100)) == false), .b (Decidable.decide (0 ≤ (i : Int) ∧ (i : Int) < (N : Int))), .b ((Decidable.decide ((value.data.toList.length : Int) > 100)) == false), .b ((Decidable.decide ((value.data.toList.length : Int) > 100)) == false), .b ((Decidable.decide ((value.data.toList.length : Int) > 100)) == false), .b ((Decidable.decide ((key.data.toList.length : Int) > 100)) == false), .b ((Decidable.decide ((key.data.toList.length : Int) > 100)) == false), .b ((Decidable.decide ((key.data.toList.length : Int) > 100)) == false), .p (ArgCells W.heap.size W blk (off + i * 9 + 3) (((act kind reads key value low high unb limit rev).drop 3).take 1) ∧ (((act kind reads key value low high unb limit rev).drop 3).take 1).length = 1), .b ((Decidable.decide ((key.data.toList.length : Int) > 100)) == false), .b ((Decidable.decide ((key.data.toList.length : Int) > 100)) == false), .b (Decidable.decide (0 ≤ (i : Int) ∧ (i : Int) < (N : Int))), .b ((Decidable.decide ((key.data.toList.length : Int) > 100)) == false), .b ((Decidable.decide ((key.data.toList.length : Int) > 100)) == false), .b ((Decidable.decide ((key.data.toList.length : Int) > 100)) == false), .p (ArgCells W.heap.size W blk (off + i * 9 + 2) (((act kind reads key value low high unb limit rev).drop 2).take 1) ∧ (((act kind reads key value low high unb limit rev).drop 2).take 1).length = 1), .b (Decidable.decide (0 ≤ (i : Int) ∧ (i : Int) < (N : Int))), .b ((Decidable.decide ((i : Int) ≤ 40)) == true), .b ((Decidable.decide ((i : Int) < (N : Int))) == true), .b ((Decidable.decide ((i : Int) < (N : Int))) == true), .b ((Decidable.decide ((i : Int) < (N : Int))) == true)]) (by kernel_rfl) rfl rfl (vcs_nil)
    (by
      refine vcs_cons (vc_b h6) ?_
      refine vcs_cons (vc_b h5) ?_
      refine vcs_cons (vc_b h5) ?_
      refine vcs_cons (vc_b h5) ?_
      refine vcs_cons (⟨args_sub hc 5 1, rfl⟩) ?_
      refine vcs_cons (vc_b h5) ?_
      refine vcs_cons (vc_b h5) ?_
      refine vcs_cons (vc_b h5) ?_
      refine vcs_cons (vc_c h2) ?_
      refine vcs_cons (vc_b h5) ?_
      refine vcs_cons (vc_b h5) ?_
      refine vcs_cons (vc_b h5) ?_
      refine vcs_cons (vc_b h4) ?_
      refine vcs_cons (vc_b h4) ?_
      refine vcs_cons (vc_b h4) ?_
      refine vcs_cons (⟨args_sub hc 4 1, rfl⟩) ?_
      refine vcs_cons (vc_b h4) ?_
      refine vcs_cons (vc_b h4) ?_
      refine vcs_cons (vc_b h4) ?_
      refine vcs_cons (vc_c h2) ?_
      refine vcs_cons (vc_b h4) ?_
      refine vcs_cons (vc_b h4) ?_
      refine vcs_cons (vc_b h4) ?_
      refine vcs_cons (vc_b h3) ?_
      refine vcs_cons (vc_b h3) ?_
      refine vcs_cons (vc_b h3) ?_
      refine vcs_cons (⟨args_sub hc 3 1, rfl⟩) ?_
      refine vcs_cons (vc_b h3) ?_
      refine vcs_cons (vc_b h3) ?_
      refine vcs_cons (vc_c h2) ?_
      refine vcs_cons (vc_b h3) ?_
      refine vcs_cons (vc_b h3) ?_
      refine vcs_cons (vc_b h3) ?_
      refine vcs_cons (⟨args_sub hc 2 1, rfl⟩) ?_
      refine vcs_cons (vc_c h2) ?_
      refine vcs_cons (vc_b h1) ?_
      refine vcs_cons (vc_b h0) ?_
      refine vcs_cons (vc_b h0) ?_
      refine vcs_cons (vc_b h0) ?_
      exact vcs_nil)
set_option maxRecDepth 100000 in
theorem few_end {W : World} {n : Int} {ba oa M ca j : Nat} {blk off N cap i : Nat} (h0 : (Decidable.decide ((i : Int) < (N : Int))) = false)   :
    Sx.Ends Tryz.prog 3 3 3 (argsHeap W) fi (fiT n ba oa M ca j (.slice (some ⟨blk, off, some 0⟩) N cap) i) (.exit 2) (argsHeap W) (mkT 105 0 [(1, .pointer (some ⟨2, 0, none⟩)), (3, .int .i64 n), (8, .slice (some ⟨ba, oa, some 0⟩) M ca), (9, .int .i64 M), (10, .int .i64 j)]) :=
  ends_of mixed con3_holds [] [(0, false)] (d := [(0, .br false), (1, .br false), (2, .br false)]) (n := 600) (c2 := 3) (L' := []) (L := [.b ((Decidable.decide ((i : Int) < (N : Int))) == false), .b ((Decidable.decide ((i : Int) < (N : Int))) == false), .b ((Decidable.decide ((i : Int) < (N : Int))) == false)]) (by kernel_rfl) rfl rfl (vcs_nil)
    (by
      refine vcs_cons (vc_b h0) ?_
      refine vcs_cons (vc_b h0) ?_
      refine vcs_cons (vc_b h0) ?_
      exact vcs_nil)
set_option maxRecDepth 100000 in
theorem few_far {W : World} {n : Int} {ba oa M ca j : Nat} {blk off N cap i : Nat} (h0 : (Decidable.decide ((i : Int) < (N : Int))) = true) (h1 : (Decidable.decide ((i : Int) ≤ 40)) = false)   :
    Sx.Ends Tryz.prog 3 3 3 (argsHeap W) fi (fiT n ba oa M ca j (.slice (some ⟨blk, off, some 0⟩) N cap) i) (.exit 2) (argsHeap W) (mkT 105 0 [(1, .pointer (some ⟨2, 0, none⟩)), (3, .int .i64 n), (8, .slice (some ⟨ba, oa, some 0⟩) M ca), (9, .int .i64 M), (10, .int .i64 j)]) :=
  ends_of mixed con3_holds [] [(0, false)] (d := [(0, .br true), (1, .br true), (2, .br true), (3, .br false)]) (n := 600) (c2 := 3) (L' := []) (L := [.b ((Decidable.decide ((i : Int) ≤ 40)) == false), .b ((Decidable.decide ((i : Int) < (N : Int))) == true), .b ((Decidable.decide ((i : Int) < (N : Int))) == true), .b ((Decidable.decide ((i : Int) < (N : Int))) == true)]) (by kernel_rfl) rfl rfl (vcs_nil)
    (by
      refine vcs_cons (vc_b h1) ?_
      refine vcs_cons (vc_b h0) ?_
      refine vcs_cons (vc_b h0) ?_
      refine vcs_cons (vc_b h0) ?_
      exact vcs_nil)
set_option maxRecDepth 100000 in
theorem few_nil {W : World} {n : Int} {ba oa M ca j : Nat}    :
    Sx.Ends Tryz.prog 3 3 3 (argsHeap W) fi (fiT n ba oa M ca j (.slice none 0 0) 0) (.exit 2) (argsHeap W) (mkT 105 0 [(1, .pointer (some ⟨2, 0, none⟩)), (3, .int .i64 n), (8, .slice (some ⟨ba, oa, some 0⟩) M ca), (9, .int .i64 M), (10, .int .i64 j)]) :=
  ends_of mixed con3_holds [] [(0, false)] (d := []) (n := 600) (c2 := 3) (L' := []) (L := []) (by kernel_rfl) rfl rfl (vcs_nil)
    (by
      exact vcs_nil)
end Go.Proofs.YtglaapelpidfhaaGreat
