/- Rounds of the loop over the acts. No condition. -/
import Derived.Test.YtglaapelpidfhaaGreatCmp
namespace Go.Proofs.YtglaapelpidfhaaGreat
open Go Go.Sx
/-- The loop over the acts. -/
noncomputable def al : Code := subC [1, 1, 1, 1, 1, 0, 1, 0, 0, 1, 1, 0, 0, 1, 1, 1, 1, 1, 0, 0] (bodyC 3)
def thL (k : Int) : List Value := [.int .i64 k, .slice none 0 0, .chan none, .chan none, .chan none, .chan none, .chan none, .chan none, .chan none, .chan none, .chan none, .nilFunc, .chan none, .chan none, .chan none, .chan none, .chan none, .chan none, .chan none, .chan none, .chan none, .chan none, .chan none, .chan none, .chan none, .chan none, .chan none, .chan none, .chan none, .chan none]
def clL (k : Int) (err : Value) : List Value := [.int .i64 k, .pointer (some ⟨60, 0, none⟩), .nilFunc, .bool true, .bool true, .int .i64 0, .slice none 0 0, .chan (some 80), .chan (some 81), .bool true, .string ⟨#[]⟩, .bool false, .slice none 0 0, .int .i64 0, err, .chan none]
noncomputable def alH (h0 : Heap) (s q : Nat) (c d e g now count k : Int) (m1 m2 : Nat) (err : Value) : Heap := h0 ++ (storeH s q c d e g now count ++ [(60, .cells (thL k) 156), (61, .cells (clL k err) 85), (80, .bag 9 m1), (81, .bag 46 m2)])
noncomputable def alT (p : Value) (M : Nat) (k : Int) (s : Value) (N : Nat) (i : Int) : List Value := mkT 147 0 [(1, .pointer (some ⟨1, 0, none⟩)), (3, .pointer (some ⟨25, 0, none⟩)), (5, .int .i64 1), (8, .pointer (some ⟨61, 0, none⟩)), (39, p), (40, .int .i64 M), (41, .int .i64 k), (55, s), (56, .int .i64 N), (57, .int .i64 i)]
set_option maxRecDepth 100000 in
theorem a_nil {W : World} {s q : Nat} {c d e g now count k : Int} {m1 m2 : Nat} {ba oa M ca : Nat} {blk off N cap i : Nat} {err : Value}    :
    Sx.Ends Tryz.prog 80 82 500 (alH [(0, .args W.heap.size W)] s q c d e g now count k m1 m2 err) al (alT (.slice (some ⟨ba, oa, some 0⟩) M ca) M k (.slice none 0 0) 0 0) (.exit 4) ((0, .args W.heap.size W) :: storeH s q c d e g now count) (mkT 147 0 [(1, .pointer (some ⟨1, 0, none⟩)), (3, .pointer (some ⟨25, 0, none⟩)), (5, .int .i64 1), (39, .slice (some ⟨ba, oa, some 0⟩) M ca), (40, .int .i64 M), (41, .int .i64 k)]) :=
  ends_of mixed con4_holds [] [(0, false), (6, true), (7, false), (8, true), (9, false), (10, false), (11, false), (12, false), (17, false), (18, false), (22, false), (24, false), (25, false)] (d := []) (n := 900) (c2 := 82) (L' := [.p (Cover (slotsL s) ((slotsL s).map (renV (nameOf [] 80 500) 9))), .p (Cover (pagesL q) ((pagesL q).map (renV (nameOf [] 80 500) 9)))]) (L := []) (by kernel_rfl) rfl rfl (vcs_cons (cover_slots (nm := nameOf [] 80 500) rfl rfl s) (vcs_cons (cover_pages (nm := nameOf [] 80 500) q) vcs_nil))
    (by
      exact vcs_nil)
set_option maxRecDepth 100000 in
theorem a_end {W : World} {s q : Nat} {c d e g now count k : Int} {m1 m2 : Nat} {ba oa M ca : Nat} {blk off N cap i : Nat} {err : Value} (h0 : (Decidable.decide ((i : Int) < (N : Int))) = false)   :
    Sx.Ends Tryz.prog 80 82 500 (alH [(0, .args W.heap.size W)] s q c d e g now count k m1 m2 err) al (alT (.slice (some ⟨ba, oa, some 0⟩) M ca) M k (.slice (some ⟨blk, off, some 0⟩) N cap) N i) (.exit 4) ((0, .args W.heap.size W) :: storeH s q c d e g now count) (mkT 147 0 [(1, .pointer (some ⟨1, 0, none⟩)), (3, .pointer (some ⟨25, 0, none⟩)), (5, .int .i64 1), (39, .slice (some ⟨ba, oa, some 0⟩) M ca), (40, .int .i64 M), (41, .int .i64 k)]) :=
  ends_of mixed con4_holds [] [(0, false), (6, true), (7, false), (8, true), (9, false), (10, false), (11, false), (12, false), (17, false), (18, false), (22, false), (24, false), (25, false)] (d := [(0, .br false)]) (n := 900) (c2 := 82) (L' := [.p (Cover (slotsL s) ((slotsL s).map (renV (nameOf [] 80 500) 9))), .p (Cover (pagesL q) ((pagesL q).map (renV (nameOf [] 80 500) 9)))]) (L := [.b ((Decidable.decide ((i : Int) < (N : Int))) == false)]) (by kernel_rfl) rfl rfl (vcs_cons (cover_slots (nm := nameOf [] 80 500) rfl rfl s) (vcs_cons (cover_pages (nm := nameOf [] 80 500) q) vcs_nil))
    (by
      refine vcs_cons (vc_b h0) ?_
      exact vcs_nil)
set_option maxRecDepth 100000 in
theorem a_other0 {W : World} {s q : Nat} {c d e g now count k : Int} {m1 m2 : Nat} {ba oa M ca : Nat} {blk off N cap i : Nat} {kind : Int} {reads : Bool} {key value low high : ByteArray} {unb : Bool} {limit : Int} {rev : Bool} (h0 : (Decidable.decide ((i : Int) < (N : Int))) = true) (h1 : (Decidable.decide (0 ≤ (i : Int) ∧ (i : Int) < (N : Int))) = true) (h2 : (kind == 2) = false) (h3 : (kind == 5) = false) (hc : ArgCells W.heap.size W blk (off + i * 9) (act kind reads key value low high unb limit rev))  :
    Sx.Goes Tryz.prog 80 82 500 (alH [(0, .args W.heap.size W)] s q c d e g now count k m1 m2 .nilIface) al (alT (.slice (some ⟨ba, oa, some 0⟩) M ca) M k (.slice (some ⟨blk, off, some 0⟩) N cap) N i) (alH [(0, .args W.heap.size W)] s q c d e g (now) (count) k (m1) (m2) .nilIface) (mkT 147 0 [(1, .pointer (some ⟨1, 0, none⟩)), (3, .pointer (some ⟨25, 0, none⟩)), (5, .int .i64 1), (8, .pointer (some ⟨61, 0, none⟩)), (39, .slice (some ⟨ba, oa, some 0⟩) M ca), (40, .int .i64 M), (41, .int .i64 k), (55, .slice (some ⟨blk, off, some 0⟩) N cap), (56, .int .i64 N), (57, .int .i64 (IntKind.i64.wrap ((i : Int) + 1)))]) :=
  goes_of mixed con4_holds [(80, 80), (81, 81)] [(0, false), (6, true), (7, false), (8, true), (9, false), (10, false), (11, false), (12, false), (17, false), (18, false), (22, false), (24, false), (25, false), (60, false), (61, false), (80, false), (81, false)] (d := [(0, .br true), (1, .br true), (5, .br false), (6, .br false), (2, .cell (.tuple ⟨(((act kind reads key value low high unb limit rev).drop 0).take 9)⟩))]) (n := 900) (c2 := 88) (L' := [.p (Cover (slotsL s) ((slotsL s).map (renV (nameOf [(80, 80), (81, 81)] 80 500) 9))), .p (Cover (pagesL q) ((pagesL q).map (renV (nameOf [(80, 80), (81, 81)] 80 500) 9)))]) (L := [.b ((kind == 5) == false), .b ((kind == 2) == false), .p (ArgCells W.heap.size W blk (off + i * 9 + 0) (((act kind reads key value low high unb limit rev).drop 0).take 9) ∧ (((act kind reads key value low high unb limit rev).drop 0).take 9).length = 9), .b (Decidable.decide (0 ≤ (i : Int) ∧ (i : Int) < (N : Int))), .b ((Decidable.decide ((i : Int) < (N : Int))) == true)]) (by kernel_rfl) rfl rfl (vcs_cons (cover_slots (nm := nameOf [(80, 80), (81, 81)] 80 500) rfl rfl s) (vcs_cons (cover_pages (nm := nameOf [(80, 80), (81, 81)] 80 500) q) vcs_nil))
    (by
      refine vcs_cons (vc_b h3) ?_
      refine vcs_cons (vc_b h2) ?_
      refine vcs_cons (⟨args_sub hc 0 9, rfl⟩) ?_
      refine vcs_cons (vc_c h1) ?_
      refine vcs_cons (vc_b h0) ?_
      exact vcs_nil)
set_option maxRecDepth 100000 in
theorem a_other1 {W : World} {s q : Nat} {c d e g now count k : Int} {m1 m2 : Nat} {ba oa M ca : Nat} {blk off N cap i : Nat} {kind : Int} {reads : Bool} {key value low high : ByteArray} {unb : Bool} {limit : Int} {rev : Bool} (h0 : (Decidable.decide ((i : Int) < (N : Int))) = true) (h1 : (Decidable.decide (0 ≤ (i : Int) ∧ (i : Int) < (N : Int))) = true) (h2 : (kind == 2) = false) (h3 : (kind == 5) = false) (hc : ArgCells W.heap.size W blk (off + i * 9) (act kind reads key value low high unb limit rev))  :
    Sx.Goes Tryz.prog 80 82 500 (alH [(0, .args W.heap.size W)] s q c d e g now count k m1 m2 (.iface 234 (.chan none))) al (alT (.slice (some ⟨ba, oa, some 0⟩) M ca) M k (.slice (some ⟨blk, off, some 0⟩) N cap) N i) (alH [(0, .args W.heap.size W)] s q c d e g (now) (count) k (m1) (m2) (.iface 234 (.chan none))) (mkT 147 0 [(1, .pointer (some ⟨1, 0, none⟩)), (3, .pointer (some ⟨25, 0, none⟩)), (5, .int .i64 1), (8, .pointer (some ⟨61, 0, none⟩)), (39, .slice (some ⟨ba, oa, some 0⟩) M ca), (40, .int .i64 M), (41, .int .i64 k), (55, .slice (some ⟨blk, off, some 0⟩) N cap), (56, .int .i64 N), (57, .int .i64 (IntKind.i64.wrap ((i : Int) + 1)))]) :=
  goes_of mixed con4_holds [(80, 80), (81, 81)] [(0, false), (6, true), (7, false), (8, true), (9, false), (10, false), (11, false), (12, false), (17, false), (18, false), (22, false), (24, false), (25, false), (60, false), (61, false), (80, false), (81, false)] (d := [(0, .br true), (1, .br true), (5, .br false), (6, .br false), (2, .cell (.tuple ⟨(((act kind reads key value low high unb limit rev).drop 0).take 9)⟩))]) (n := 900) (c2 := 88) (L' := [.p (Cover (slotsL s) ((slotsL s).map (renV (nameOf [(80, 80), (81, 81)] 80 500) 9))), .p (Cover (pagesL q) ((pagesL q).map (renV (nameOf [(80, 80), (81, 81)] 80 500) 9)))]) (L := [.b ((kind == 5) == false), .b ((kind == 2) == false), .p (ArgCells W.heap.size W blk (off + i * 9 + 0) (((act kind reads key value low high unb limit rev).drop 0).take 9) ∧ (((act kind reads key value low high unb limit rev).drop 0).take 9).length = 9), .b (Decidable.decide (0 ≤ (i : Int) ∧ (i : Int) < (N : Int))), .b ((Decidable.decide ((i : Int) < (N : Int))) == true)]) (by kernel_rfl) rfl rfl (vcs_cons (cover_slots (nm := nameOf [(80, 80), (81, 81)] 80 500) rfl rfl s) (vcs_cons (cover_pages (nm := nameOf [(80, 80), (81, 81)] 80 500) q) vcs_nil))
    (by
      refine vcs_cons (vc_b h3) ?_
      refine vcs_cons (vc_b h2) ?_
      refine vcs_cons (⟨args_sub hc 0 9, rfl⟩) ?_
      refine vcs_cons (vc_c h1) ?_
      refine vcs_cons (vc_b h0) ?_
      exact vcs_nil)
set_option maxRecDepth 100000 in
theorem a_g_z0 {W : World} {s q : Nat} {c d e g now count k : Int} {m1 m2 : Nat} {ba oa M ca : Nat} {blk off N cap i : Nat} {kind : Int} {reads : Bool} {key value low high : ByteArray} {unb : Bool} {limit : Int} {rev : Bool} (h0 : (Decidable.decide ((i : Int) < (N : Int))) = true) (h1 : (Decidable.decide (0 ≤ (i : Int) ∧ (i : Int) < (N : Int))) = true) (h2 : (kind == 2) = true) (h3 : (Decidable.decide ((key.data.toList.length : Int) ≥ 1)) = false) (hc : ArgCells W.heap.size W blk (off + i * 9) (act kind reads key value low high unb limit rev))  :
    Sx.Goes Tryz.prog 80 82 500 (alH [(0, .args W.heap.size W)] s q c d e g now count k m1 m2 .nilIface) al (alT (.slice (some ⟨ba, oa, some 0⟩) M ca) M k (.slice (some ⟨blk, off, some 0⟩) N cap) N i) (alH [(0, .args W.heap.size W)] s q c d e g (now) (count) k (m1) (m2) .nilIface) (mkT 147 0 [(1, .pointer (some ⟨1, 0, none⟩)), (3, .pointer (some ⟨25, 0, none⟩)), (5, .int .i64 1), (8, .pointer (some ⟨61, 0, none⟩)), (39, .slice (some ⟨ba, oa, some 0⟩) M ca), (40, .int .i64 M), (41, .int .i64 k), (55, .slice (some ⟨blk, off, some 0⟩) N cap), (56, .int .i64 N), (57, .int .i64 (IntKind.i64.wrap ((i : Int) + 1)))]) :=
  goes_of mixed con4_holds [(80, 80), (81, 81)] [(0, false), (6, true), (7, false), (8, true), (9, false), (10, false), (11, false), (12, false), (17, false), (18, false), (22, false), (24, false), (25, false), (60, false), (61, false), (80, false), (81, false)] (d := [(0, .br true), (1, .br true), (5, .br true), (21, .br false), (22, .br false), (23, .br false), (24, .br false), (2, .cell (.tuple ⟨(((act kind reads key value low high unb limit rev).drop 0).take 9)⟩))]) (n := 900) (c2 := 90) (L' := [.p (Cover (slotsL s) ((slotsL s).map (renV (nameOf [(80, 80), (81, 81)] 80 500) 9))), .p (Cover (pagesL q) ((pagesL q).map (renV (nameOf [(80, 80), (81, 81)] 80 500) 9)))]) (L := [.b ((Decidable.decide ((key.data.toList.length : Int) ≥ 1)) == false), .b ((Decidable.decide ((key.data.toList.length : Int) ≥ 1)) == false), .b ((Decidable.decide ((key.data.toList.length : Int) ≥ 1)) == false), .b ((Decidable.decide ((key.data.toList.length : Int) ≥ 1)) == false), .b ((kind == 2) == true), .p (ArgCells W.heap.size W blk (off + i * 9 + 0) (((act kind reads key value low high unb limit rev).drop 0).take 9) ∧ (((act kind reads key value low high unb limit rev).drop 0).take 9).length = 9), .b (Decidable.decide (0 ≤ (i : Int) ∧ (i : Int) < (N : Int))), .b ((Decidable.decide ((i : Int) < (N : Int))) == true)]) (by kernel_rfl) rfl rfl (vcs_cons (cover_slots (nm := nameOf [(80, 80), (81, 81)] 80 500) rfl rfl s) (vcs_cons (cover_pages (nm := nameOf [(80, 80), (81, 81)] 80 500) q) vcs_nil))
    (by
      refine vcs_cons (vc_b h3) ?_
      refine vcs_cons (vc_b h3) ?_
      refine vcs_cons (vc_b h3) ?_
      refine vcs_cons (vc_b h3) ?_
      refine vcs_cons (vc_b h2) ?_
      refine vcs_cons (⟨args_sub hc 0 9, rfl⟩) ?_
      refine vcs_cons (vc_c h1) ?_
      refine vcs_cons (vc_b h0) ?_
      exact vcs_nil)
set_option maxRecDepth 100000 in
theorem a_g_z1 {W : World} {s q : Nat} {c d e g now count k : Int} {m1 m2 : Nat} {ba oa M ca : Nat} {blk off N cap i : Nat} {kind : Int} {reads : Bool} {key value low high : ByteArray} {unb : Bool} {limit : Int} {rev : Bool} (h0 : (Decidable.decide ((i : Int) < (N : Int))) = true) (h1 : (Decidable.decide (0 ≤ (i : Int) ∧ (i : Int) < (N : Int))) = true) (h2 : (kind == 2) = true) (h3 : (Decidable.decide ((key.data.toList.length : Int) ≥ 1)) = false) (hc : ArgCells W.heap.size W blk (off + i * 9) (act kind reads key value low high unb limit rev))  :
    Sx.Goes Tryz.prog 80 82 500 (alH [(0, .args W.heap.size W)] s q c d e g now count k m1 m2 (.iface 234 (.chan none))) al (alT (.slice (some ⟨ba, oa, some 0⟩) M ca) M k (.slice (some ⟨blk, off, some 0⟩) N cap) N i) (alH [(0, .args W.heap.size W)] s q c d e g (now) (count) k (m1) (m2) (.iface 234 (.chan none))) (mkT 147 0 [(1, .pointer (some ⟨1, 0, none⟩)), (3, .pointer (some ⟨25, 0, none⟩)), (5, .int .i64 1), (8, .pointer (some ⟨61, 0, none⟩)), (39, .slice (some ⟨ba, oa, some 0⟩) M ca), (40, .int .i64 M), (41, .int .i64 k), (55, .slice (some ⟨blk, off, some 0⟩) N cap), (56, .int .i64 N), (57, .int .i64 (IntKind.i64.wrap ((i : Int) + 1)))]) :=
  goes_of mixed con4_holds [(80, 80), (81, 81)] [(0, false), (6, true), (7, false), (8, true), (9, false), (10, false), (11, false), (12, false), (17, false), (18, false), (22, false), (24, false), (25, false), (60, false), (61, false), (80, false), (81, false)] (d := [(0, .br true), (1, .br true), (5, .br true), (21, .br false), (22, .br false), (23, .br false), (24, .br false), (2, .cell (.tuple ⟨(((act kind reads key value low high unb limit rev).drop 0).take 9)⟩))]) (n := 900) (c2 := 90) (L' := [.p (Cover (slotsL s) ((slotsL s).map (renV (nameOf [(80, 80), (81, 81)] 80 500) 9))), .p (Cover (pagesL q) ((pagesL q).map (renV (nameOf [(80, 80), (81, 81)] 80 500) 9)))]) (L := [.b ((Decidable.decide ((key.data.toList.length : Int) ≥ 1)) == false), .b ((Decidable.decide ((key.data.toList.length : Int) ≥ 1)) == false), .b ((Decidable.decide ((key.data.toList.length : Int) ≥ 1)) == false), .b ((Decidable.decide ((key.data.toList.length : Int) ≥ 1)) == false), .b ((kind == 2) == true), .p (ArgCells W.heap.size W blk (off + i * 9 + 0) (((act kind reads key value low high unb limit rev).drop 0).take 9) ∧ (((act kind reads key value low high unb limit rev).drop 0).take 9).length = 9), .b (Decidable.decide (0 ≤ (i : Int) ∧ (i : Int) < (N : Int))), .b ((Decidable.decide ((i : Int) < (N : Int))) == true)]) (by kernel_rfl) rfl rfl (vcs_cons (cover_slots (nm := nameOf [(80, 80), (81, 81)] 80 500) rfl rfl s) (vcs_cons (cover_pages (nm := nameOf [(80, 80), (81, 81)] 80 500) q) vcs_nil))
    (by
      refine vcs_cons (vc_b h3) ?_
      refine vcs_cons (vc_b h3) ?_
      refine vcs_cons (vc_b h3) ?_
      refine vcs_cons (vc_b h3) ?_
      refine vcs_cons (vc_b h2) ?_
      refine vcs_cons (⟨args_sub hc 0 9, rfl⟩) ?_
      refine vcs_cons (vc_c h1) ?_
      refine vcs_cons (vc_b h0) ?_
      exact vcs_nil)
end Go.Proofs.YtglaapelpidfhaaGreat

namespace Go.Proofs.YtglaapelpidfhaaGreat
open Go Go.Sx
set_option maxRecDepth 100000 in
theorem a_g_l0 {W : World} {s q : Nat} {c d e g now count k : Int} {m1 m2 : Nat} {ba oa M ca : Nat} {blk off N cap i : Nat} {kind : Int} {reads : Bool} {key value low high : ByteArray} {unb : Bool} {limit : Int} {rev : Bool} (h0 : (Decidable.decide ((i : Int) < (N : Int))) = true) (h1 : (Decidable.decide (0 ≤ (i : Int) ∧ (i : Int) < (N : Int))) = true) (h2 : (kind == 2) = true) (h3 : (Decidable.decide ((key.data.toList.length : Int) ≥ 1)) = true) (h4 : (!Decidable.decide ((key.data.toList.length : Int) ≤ 16)) = true) (hc : ArgCells W.heap.size W blk (off + i * 9) (act kind reads key value low high unb limit rev))  :
    Sx.Goes Tryz.prog 80 82 500 (alH [(0, .args W.heap.size W)] s q c d e g now count k m1 m2 .nilIface) al (alT (.slice (some ⟨ba, oa, some 0⟩) M ca) M k (.slice (some ⟨blk, off, some 0⟩) N cap) N i) (alH [(0, .args W.heap.size W)] s q c d e g (now) (count) k (m1) (m2) .nilIface) (mkT 147 0 [(1, .pointer (some ⟨1, 0, none⟩)), (3, .pointer (some ⟨25, 0, none⟩)), (5, .int .i64 1), (8, .pointer (some ⟨61, 0, none⟩)), (39, .slice (some ⟨ba, oa, some 0⟩) M ca), (40, .int .i64 M), (41, .int .i64 k), (55, .slice (some ⟨blk, off, some 0⟩) N cap), (56, .int .i64 N), (57, .int .i64 (IntKind.i64.wrap ((i : Int) + 1)))]) :=
  goes_of mixed con4_holds [(80, 80), (81, 81)] [(0, false), (6, true), (7, false), (8, true), (9, false), (10, false), (11, false), (12, false), (17, false), (18, false), (22, false), (24, false), (25, false), (60, false), (61, false), (80, false), (81, false)] (d := [(0, .br true), (1, .br true), (5, .br true), (21, .br true), (22, .br true), (23, .br true), (24, .br true), (25, .br true), (2, .cell (.tuple ⟨(((act kind reads key value low high unb limit rev).drop 0).take 9)⟩))]) (n := 900) (c2 := 90) (L' := [.p (Cover (slotsL s) ((slotsL s).map (renV (nameOf [(80, 80), (81, 81)] 80 500) 9))), .p (Cover (pagesL q) ((pagesL q).map (renV (nameOf [(80, 80), (81, 81)] 80 500) 9)))]) (L := [.b ((!Decidable.decide ((key.data.toList.length : Int) ≤ 16)) == true), .b ((Decidable.decide ((key.data.toList.length : Int) ≥ 1)) == true), .b ((Decidable.decide ((key.data.toList.length : Int) ≥ 1)) == true), .b ((Decidable.decide ((key.data.toList.length : Int) ≥ 1)) == true), .b ((Decidable.decide ((key.data.toList.length : Int) ≥ 1)) == true), .b ((kind == 2) == true), .p (ArgCells W.heap.size W blk (off + i * 9 + 0) (((act kind reads key value low high unb limit rev).drop 0).take 9) ∧ (((act kind reads key value low high unb limit rev).drop 0).take 9).length = 9), .b (Decidable.decide (0 ≤ (i : Int) ∧ (i : Int) < (N : Int))), .b ((Decidable.decide ((i : Int) < (N : Int))) == true)]) (by kernel_rfl) rfl rfl (vcs_cons (cover_slots (nm := nameOf [(80, 80), (81, 81)] 80 500) rfl rfl s) (vcs_cons (cover_pages (nm := nameOf [(80, 80), (81, 81)] 80 500) q) vcs_nil))
    (by
      refine vcs_cons (vc_b h4) ?_
      refine vcs_cons (vc_b h3) ?_
      refine vcs_cons (vc_b h3) ?_
      refine vcs_cons (vc_b h3) ?_
      refine vcs_cons (vc_b h3) ?_
      refine vcs_cons (vc_b h2) ?_
      refine vcs_cons (⟨args_sub hc 0 9, rfl⟩) ?_
      refine vcs_cons (vc_c h1) ?_
      refine vcs_cons (vc_b h0) ?_
      exact vcs_nil)
set_option maxRecDepth 100000 in
theorem a_r_lo0 {W : World} {s q : Nat} {c d e g now count k : Int} {m1 m2 : Nat} {ba oa M ca : Nat} {blk off N cap i : Nat} {kind : Int} {reads : Bool} {key value low high : ByteArray} {unb : Bool} {limit : Int} {rev : Bool} (h0 : (Decidable.decide ((i : Int) < (N : Int))) = true) (h1 : (Decidable.decide (0 ≤ (i : Int) ∧ (i : Int) < (N : Int))) = true) (h2 : (kind == 2) = false) (h3 : (kind == 5) = true) (h4 : (Decidable.decide ((low.data.toList.length : Int) > 16)) = true) (hc : ArgCells W.heap.size W blk (off + i * 9) (act kind reads key value low high unb limit rev))  :
    Sx.Goes Tryz.prog 80 82 500 (alH [(0, .args W.heap.size W)] s q c d e g now count k m1 m2 .nilIface) al (alT (.slice (some ⟨ba, oa, some 0⟩) M ca) M k (.slice (some ⟨blk, off, some 0⟩) N cap) N i) (alH [(0, .args W.heap.size W)] s q c d e g (now) (count) k (m1) (m2) .nilIface) (mkT 147 0 [(1, .pointer (some ⟨1, 0, none⟩)), (3, .pointer (some ⟨25, 0, none⟩)), (5, .int .i64 1), (8, .pointer (some ⟨61, 0, none⟩)), (39, .slice (some ⟨ba, oa, some 0⟩) M ca), (40, .int .i64 M), (41, .int .i64 k), (55, .slice (some ⟨blk, off, some 0⟩) N cap), (56, .int .i64 N), (57, .int .i64 (IntKind.i64.wrap ((i : Int) + 1)))]) :=
  goes_of mixed con4_holds [(80, 80), (81, 81)] [(0, false), (6, true), (7, false), (8, true), (9, false), (10, false), (11, false), (12, false), (17, false), (18, false), (22, false), (24, false), (25, false), (60, false), (61, false), (80, false), (81, false)] (d := [(0, .br true), (1, .br true), (5, .br false), (6, .br true), (32, .br true), (33, .br true), (34, .br true), (35, .br true), (36, .br true), (2, .cell (.tuple ⟨(((act kind reads key value low high unb limit rev).drop 0).take 9)⟩))]) (n := 900) (c2 := 94) (L' := [.p (Cover (slotsL s) ((slotsL s).map (renV (nameOf [(80, 80), (81, 81)] 80 500) 9))), .p (Cover (pagesL q) ((pagesL q).map (renV (nameOf [(80, 80), (81, 81)] 80 500) 9)))]) (L := [.b ((Decidable.decide ((low.data.toList.length : Int) > 16)) == true), .b ((Decidable.decide ((low.data.toList.length : Int) > 16)) == true), .b ((Decidable.decide ((low.data.toList.length : Int) > 16)) == true), .b ((Decidable.decide ((low.data.toList.length : Int) > 16)) == true), .b ((Decidable.decide ((low.data.toList.length : Int) > 16)) == true), .b ((kind == 5) == true), .b ((kind == 2) == false), .p (ArgCells W.heap.size W blk (off + i * 9 + 0) (((act kind reads key value low high unb limit rev).drop 0).take 9) ∧ (((act kind reads key value low high unb limit rev).drop 0).take 9).length = 9), .b (Decidable.decide (0 ≤ (i : Int) ∧ (i : Int) < (N : Int))), .b ((Decidable.decide ((i : Int) < (N : Int))) == true)]) (by kernel_rfl) rfl rfl (vcs_cons (cover_slots (nm := nameOf [(80, 80), (81, 81)] 80 500) rfl rfl s) (vcs_cons (cover_pages (nm := nameOf [(80, 80), (81, 81)] 80 500) q) vcs_nil))
    (by
      refine vcs_cons (vc_b h4) ?_
      refine vcs_cons (vc_b h4) ?_
      refine vcs_cons (vc_b h4) ?_
      refine vcs_cons (vc_b h4) ?_
      refine vcs_cons (vc_b h4) ?_
      refine vcs_cons (vc_b h3) ?_
      refine vcs_cons (vc_b h2) ?_
      refine vcs_cons (⟨args_sub hc 0 9, rfl⟩) ?_
      refine vcs_cons (vc_c h1) ?_
      refine vcs_cons (vc_b h0) ?_
      exact vcs_nil)
set_option maxRecDepth 100000 in
theorem a_r_hi0 {W : World} {s q : Nat} {c d e g now count k : Int} {m1 m2 : Nat} {ba oa M ca : Nat} {blk off N cap i : Nat} {kind : Int} {reads : Bool} {key value low high : ByteArray} {unb : Bool} {limit : Int} {rev : Bool} (h0 : (Decidable.decide ((i : Int) < (N : Int))) = true) (h1 : (Decidable.decide (0 ≤ (i : Int) ∧ (i : Int) < (N : Int))) = true) (h2 : (kind == 2) = false) (h3 : (kind == 5) = true) (h4 : (Decidable.decide ((low.data.toList.length : Int) > 16)) = false) (h5 : (Decidable.decide ((high.data.toList.length : Int) > 16)) = true) (hc : ArgCells W.heap.size W blk (off + i * 9) (act kind reads key value low high unb limit rev))  :
    Sx.Goes Tryz.prog 80 82 500 (alH [(0, .args W.heap.size W)] s q c d e g now count k m1 m2 .nilIface) al (alT (.slice (some ⟨ba, oa, some 0⟩) M ca) M k (.slice (some ⟨blk, off, some 0⟩) N cap) N i) (alH [(0, .args W.heap.size W)] s q c d e g (now) (count) k (m1) (m2) .nilIface) (mkT 147 0 [(1, .pointer (some ⟨1, 0, none⟩)), (3, .pointer (some ⟨25, 0, none⟩)), (5, .int .i64 1), (8, .pointer (some ⟨61, 0, none⟩)), (39, .slice (some ⟨ba, oa, some 0⟩) M ca), (40, .int .i64 M), (41, .int .i64 k), (55, .slice (some ⟨blk, off, some 0⟩) N cap), (56, .int .i64 N), (57, .int .i64 (IntKind.i64.wrap ((i : Int) + 1)))]) :=
  goes_of mixed con4_holds [(80, 80), (81, 81)] [(0, false), (6, true), (7, false), (8, true), (9, false), (10, false), (11, false), (12, false), (17, false), (18, false), (22, false), (24, false), (25, false), (60, false), (61, false), (80, false), (81, false)] (d := [(0, .br true), (1, .br true), (5, .br false), (6, .br true), (32, .br false), (33, .br false), (35, .br false), (36, .br false), (37, .br false), (38, .br true), (39, .br true), (40, .br true), (41, .br true), (42, .br true), (2, .cell (.tuple ⟨(((act kind reads key value low high unb limit rev).drop 0).take 9)⟩))]) (n := 900) (c2 := 94) (L' := [.p (Cover (slotsL s) ((slotsL s).map (renV (nameOf [(80, 80), (81, 81)] 80 500) 9))), .p (Cover (pagesL q) ((pagesL q).map (renV (nameOf [(80, 80), (81, 81)] 80 500) 9)))]) (L := [.b ((Decidable.decide ((high.data.toList.length : Int) > 16)) == true), .b ((Decidable.decide ((high.data.toList.length : Int) > 16)) == true), .b ((Decidable.decide ((high.data.toList.length : Int) > 16)) == true), .b ((Decidable.decide ((high.data.toList.length : Int) > 16)) == true), .b ((Decidable.decide ((high.data.toList.length : Int) > 16)) == true), .b ((Decidable.decide ((low.data.toList.length : Int) > 16)) == false), .b ((Decidable.decide ((low.data.toList.length : Int) > 16)) == false), .b ((Decidable.decide ((low.data.toList.length : Int) > 16)) == false), .b ((Decidable.decide ((low.data.toList.length : Int) > 16)) == false), .b ((Decidable.decide ((low.data.toList.length : Int) > 16)) == false), .b ((kind == 5) == true), .b ((kind == 2) == false), .p (ArgCells W.heap.size W blk (off + i * 9 + 0) (((act kind reads key value low high unb limit rev).drop 0).take 9) ∧ (((act kind reads key value low high unb limit rev).drop 0).take 9).length = 9), .b (Decidable.decide (0 ≤ (i : Int) ∧ (i : Int) < (N : Int))), .b ((Decidable.decide ((i : Int) < (N : Int))) == true)]) (by kernel_rfl) rfl rfl (vcs_cons (cover_slots (nm := nameOf [(80, 80), (81, 81)] 80 500) rfl rfl s) (vcs_cons (cover_pages (nm := nameOf [(80, 80), (81, 81)] 80 500) q) vcs_nil))
    (by
      refine vcs_cons (vc_b h5) ?_
      refine vcs_cons (vc_b h5) ?_
      refine vcs_cons (vc_b h5) ?_
      refine vcs_cons (vc_b h5) ?_
      refine vcs_cons (vc_b h5) ?_
      refine vcs_cons (vc_b h4) ?_
      refine vcs_cons (vc_b h4) ?_
      refine vcs_cons (vc_b h4) ?_
      refine vcs_cons (vc_b h4) ?_
      refine vcs_cons (vc_b h4) ?_
      refine vcs_cons (vc_b h3) ?_
      refine vcs_cons (vc_b h2) ?_
      refine vcs_cons (⟨args_sub hc 0 9, rfl⟩) ?_
      refine vcs_cons (vc_c h1) ?_
      refine vcs_cons (vc_b h0) ?_
      exact vcs_nil)
set_option maxRecDepth 100000 in
theorem a_r_uh0 {W : World} {s q : Nat} {c d e g now count k : Int} {m1 m2 : Nat} {ba oa M ca : Nat} {blk off N cap i : Nat} {kind : Int} {reads : Bool} {key value low high : ByteArray} {unb : Bool} {limit : Int} {rev : Bool} (h0 : (Decidable.decide ((i : Int) < (N : Int))) = true) (h1 : (Decidable.decide (0 ≤ (i : Int) ∧ (i : Int) < (N : Int))) = true) (h2 : (kind == 2) = false) (h3 : (kind == 5) = true) (h4 : (Decidable.decide ((low.data.toList.length : Int) > 16)) = false) (h5 : (Decidable.decide ((high.data.toList.length : Int) > 16)) = false) (h6 : (unb) = true) (h7 : (!strEq high { data := #[] }) = true) (hc : ArgCells W.heap.size W blk (off + i * 9) (act kind reads key value low high unb limit rev))  :
    Sx.Goes Tryz.prog 80 82 500 (alH [(0, .args W.heap.size W)] s q c d e g now count k m1 m2 .nilIface) al (alT (.slice (some ⟨ba, oa, some 0⟩) M ca) M k (.slice (some ⟨blk, off, some 0⟩) N cap) N i) (alH [(0, .args W.heap.size W)] s q c d e g (now) (count) k (m1) (m2) .nilIface) (mkT 147 0 [(1, .pointer (some ⟨1, 0, none⟩)), (3, .pointer (some ⟨25, 0, none⟩)), (5, .int .i64 1), (8, .pointer (some ⟨61, 0, none⟩)), (39, .slice (some ⟨ba, oa, some 0⟩) M ca), (40, .int .i64 M), (41, .int .i64 k), (55, .slice (some ⟨blk, off, some 0⟩) N cap), (56, .int .i64 N), (57, .int .i64 (IntKind.i64.wrap ((i : Int) + 1)))]) :=
  goes_of mixed con4_holds [(80, 80), (81, 81)] [(0, false), (6, true), (7, false), (8, true), (9, false), (10, false), (11, false), (12, false), (17, false), (18, false), (22, false), (24, false), (25, false), (60, false), (61, false), (80, false), (81, false)] (d := [(0, .br true), (1, .br true), (5, .br false), (6, .br true), (32, .br false), (33, .br false), (35, .br false), (36, .br false), (37, .br false), (38, .br false), (39, .br false), (41, .br false), (42, .br true), (43, .br true), (45, .br true), (46, .br false), (47, .br true), (48, .br false), (49, .br true), (50, .br true), (51, .br true), (52, .br true), (53, .br true), (54, .br true), (2, .cell (.tuple ⟨(((act kind reads key value low high unb limit rev).drop 0).take 9)⟩))]) (n := 900) (c2 := 94) (L' := [.p (Cover (slotsL s) ((slotsL s).map (renV (nameOf [(80, 80), (81, 81)] 80 500) 9))), .p (Cover (pagesL q) ((pagesL q).map (renV (nameOf [(80, 80), (81, 81)] 80 500) 9)))]) (L := [.b ((!strEq high { data := #[] }) == true), .b ((!strEq high { data := #[] }) == true), .b ((!strEq high { data := #[] }) == true), .b ((!strEq high { data := #[] }) == true), .b ((!strEq high { data := #[] }) == true), .b ((!strEq high { data := #[] }) == true), .b ((Decidable.decide ((high.data.toList.length : Int) > 16)) == false), .b ((unb) == true), .b ((Decidable.decide ((high.data.toList.length : Int) > 16)) == false), .b ((unb) == true), .b ((unb) == true), .b ((unb) == true), .b ((Decidable.decide ((high.data.toList.length : Int) > 16)) == false), .b ((Decidable.decide ((high.data.toList.length : Int) > 16)) == false), .b ((Decidable.decide ((high.data.toList.length : Int) > 16)) == false), .b ((Decidable.decide ((low.data.toList.length : Int) > 16)) == false), .b ((Decidable.decide ((low.data.toList.length : Int) > 16)) == false), .b ((Decidable.decide ((low.data.toList.length : Int) > 16)) == false), .b ((Decidable.decide ((low.data.toList.length : Int) > 16)) == false), .b ((Decidable.decide ((low.data.toList.length : Int) > 16)) == false), .b ((kind == 5) == true), .b ((kind == 2) == false), .p (ArgCells W.heap.size W blk (off + i * 9 + 0) (((act kind reads key value low high unb limit rev).drop 0).take 9) ∧ (((act kind reads key value low high unb limit rev).drop 0).take 9).length = 9), .b (Decidable.decide (0 ≤ (i : Int) ∧ (i : Int) < (N : Int))), .b ((Decidable.decide ((i : Int) < (N : Int))) == true)]) (by kernel_rfl) rfl rfl (vcs_cons (cover_slots (nm := nameOf [(80, 80), (81, 81)] 80 500) rfl rfl s) (vcs_cons (cover_pages (nm := nameOf [(80, 80), (81, 81)] 80 500) q) vcs_nil))
    (by
      refine vcs_cons (vc_b h7) ?_
      refine vcs_cons (vc_b h7) ?_
      refine vcs_cons (vc_b h7) ?_
      refine vcs_cons (vc_b h7) ?_
      refine vcs_cons (vc_b h7) ?_
      refine vcs_cons (vc_b h7) ?_
      refine vcs_cons (vc_b h5) ?_
      refine vcs_cons (vc_b h6) ?_
      refine vcs_cons (vc_b h5) ?_
      refine vcs_cons (vc_b h6) ?_
      refine vcs_cons (vc_b h6) ?_
      refine vcs_cons (vc_b h6) ?_
      refine vcs_cons (vc_b h5) ?_
      refine vcs_cons (vc_b h5) ?_
      refine vcs_cons (vc_b h5) ?_
      refine vcs_cons (vc_b h4) ?_
      refine vcs_cons (vc_b h4) ?_
      refine vcs_cons (vc_b h4) ?_
      refine vcs_cons (vc_b h4) ?_
      refine vcs_cons (vc_b h4) ?_
      refine vcs_cons (vc_b h3) ?_
      refine vcs_cons (vc_b h2) ?_
      refine vcs_cons (⟨args_sub hc 0 9, rfl⟩) ?_
      refine vcs_cons (vc_c h1) ?_
      refine vcs_cons (vc_b h0) ?_
      exact vcs_nil)
set_option maxRecDepth 100000 in
theorem a_r_ge0 {W : World} {s q : Nat} {c d e g now count k : Int} {m1 m2 : Nat} {ba oa M ca : Nat} {blk off N cap i : Nat} {kind : Int} {reads : Bool} {key value low high : ByteArray} {unb : Bool} {limit : Int} {rev : Bool} (h0 : (Decidable.decide ((i : Int) < (N : Int))) = true) (h1 : (Decidable.decide (0 ≤ (i : Int) ∧ (i : Int) < (N : Int))) = true) (h2 : (kind == 2) = false) (h3 : (kind == 5) = true) (h4 : (Decidable.decide ((low.data.toList.length : Int) > 16)) = false) (h5 : (Decidable.decide ((high.data.toList.length : Int) > 16)) = false) (h6 : (unb) = false) (h7 : (!unb) = true) (h8 : (low.data.toList.length.ble 4294967295) = true) (h9 : (Decidable.decide (cmpB low high ≥ 0)) = true) (hc : ArgCells W.heap.size W blk (off + i * 9) (act kind reads key value low high unb limit rev))  :
    Sx.Goes Tryz.prog 80 82 500 (alH [(0, .args W.heap.size W)] s q c d e g now count k m1 m2 .nilIface) al (alT (.slice (some ⟨ba, oa, some 0⟩) M ca) M k (.slice (some ⟨blk, off, some 0⟩) N cap) N i) (alH [(0, .args W.heap.size W)] s q c d e g (now) (count) k (m1) (m2) .nilIface) (mkT 147 0 [(1, .pointer (some ⟨1, 0, none⟩)), (3, .pointer (some ⟨25, 0, none⟩)), (5, .int .i64 1), (8, .pointer (some ⟨61, 0, none⟩)), (39, .slice (some ⟨ba, oa, some 0⟩) M ca), (40, .int .i64 M), (41, .int .i64 k), (55, .slice (some ⟨blk, off, some 0⟩) N cap), (56, .int .i64 N), (57, .int .i64 (IntKind.i64.wrap ((i : Int) + 1)))]) :=
  goes_of mixed con4_holds [(80, 80), (81, 81)] [(0, false), (6, true), (7, false), (8, true), (9, false), (10, false), (11, false), (12, false), (17, false), (18, false), (22, false), (24, false), (25, false), (60, false), (61, false), (80, false), (81, false)] (d := [(0, .br true), (1, .br true), (5, .br false), (6, .br true), (32, .br false), (33, .br false), (35, .br false), (36, .br false), (37, .br false), (38, .br false), (39, .br false), (41, .br false), (42, .br false), (43, .br false), (44, .br false), (45, .br false), (46, .br false), (47, .br false), (53, .br true), (54, .br true), (56, .br true), (57, .br true), (59, .br true), (60, .br true), (61, .br true), (63, .br true), (65, .br true), (2, .cell (.tuple ⟨(((act kind reads key value low high unb limit rev).drop 0).take 9)⟩))]) (n := 900) (c2 := 94) (L' := [.p (Cover (slotsL s) ((slotsL s).map (renV (nameOf [(80, 80), (81, 81)] 80 500) 9))), .p (Cover (pagesL q) ((pagesL q).map (renV (nameOf [(80, 80), (81, 81)] 80 500) 9)))]) (L := [.b ((Decidable.decide (cmpB low high ≥ 0)) == true), .b ((!unb) == true), .b ((!unb) == true), .b (low.data.toList.length.ble 4294967295), .b ((!unb) == true), .b ((!unb) == true), .b ((!unb) == true), .b ((!unb) == true), .b ((!unb) == true), .b ((Decidable.decide ((high.data.toList.length : Int) > 16)) == false), .b ((unb) == false), .b ((Decidable.decide ((high.data.toList.length : Int) > 16)) == false), .b ((unb) == false), .b ((unb) == false), .b ((unb) == false), .b ((Decidable.decide ((high.data.toList.length : Int) > 16)) == false), .b ((Decidable.decide ((high.data.toList.length : Int) > 16)) == false), .b ((Decidable.decide ((high.data.toList.length : Int) > 16)) == false), .b ((Decidable.decide ((low.data.toList.length : Int) > 16)) == false), .b ((Decidable.decide ((low.data.toList.length : Int) > 16)) == false), .b ((Decidable.decide ((low.data.toList.length : Int) > 16)) == false), .b ((Decidable.decide ((low.data.toList.length : Int) > 16)) == false), .b ((Decidable.decide ((low.data.toList.length : Int) > 16)) == false), .b ((kind == 5) == true), .b ((kind == 2) == false), .p (ArgCells W.heap.size W blk (off + i * 9 + 0) (((act kind reads key value low high unb limit rev).drop 0).take 9) ∧ (((act kind reads key value low high unb limit rev).drop 0).take 9).length = 9), .b (Decidable.decide (0 ≤ (i : Int) ∧ (i : Int) < (N : Int))), .b ((Decidable.decide ((i : Int) < (N : Int))) == true)]) (by kernel_rfl) rfl rfl (vcs_cons (cover_slots (nm := nameOf [(80, 80), (81, 81)] 80 500) rfl rfl s) (vcs_cons (cover_pages (nm := nameOf [(80, 80), (81, 81)] 80 500) q) vcs_nil))
    (by
      refine vcs_cons (vc_b h9) ?_
      refine vcs_cons (vc_b h7) ?_
      refine vcs_cons (vc_b h7) ?_
      refine vcs_cons (vc_c h8) ?_
      refine vcs_cons (vc_b h7) ?_
      refine vcs_cons (vc_b h7) ?_
      refine vcs_cons (vc_b h7) ?_
      refine vcs_cons (vc_b h7) ?_
      refine vcs_cons (vc_b h7) ?_
      refine vcs_cons (vc_b h5) ?_
      refine vcs_cons (vc_b h6) ?_
      refine vcs_cons (vc_b h5) ?_
      refine vcs_cons (vc_b h6) ?_
      refine vcs_cons (vc_b h6) ?_
      refine vcs_cons (vc_b h6) ?_
      refine vcs_cons (vc_b h5) ?_
      refine vcs_cons (vc_b h5) ?_
      refine vcs_cons (vc_b h5) ?_
      refine vcs_cons (vc_b h4) ?_
      refine vcs_cons (vc_b h4) ?_
      refine vcs_cons (vc_b h4) ?_
      refine vcs_cons (vc_b h4) ?_
      refine vcs_cons (vc_b h4) ?_
      refine vcs_cons (vc_b h3) ?_
      refine vcs_cons (vc_b h2) ?_
      refine vcs_cons (⟨args_sub hc 0 9, rfl⟩) ?_
      refine vcs_cons (vc_c h1) ?_
      refine vcs_cons (vc_b h0) ?_
      exact vcs_nil)
set_option maxRecDepth 100000 in
theorem a_getx {W : World} {s q : Nat} {c d e g now count k : Int} {m1 m2 : Nat} {ba oa M ca : Nat} {blk off N cap i : Nat} {kind : Int} {reads : Bool} {key value low high : ByteArray} {unb : Bool} {limit : Int} {rev : Bool} {err : Value} (h0 : (Decidable.decide ((i : Int) < (N : Int))) = true) (h1 : (Decidable.decide (0 ≤ (i : Int) ∧ (i : Int) < (N : Int))) = true) (h2 : (kind == 2) = true) (h3 : (Decidable.decide ((key.data.toList.length : Int) ≥ 1)) = true) (h4 : (!Decidable.decide ((key.data.toList.length : Int) ≤ 16)) = false) (h5 : (bigOk (m1 + (0 + 1)) 16) = true) (h6 : (now == g) = true) (hc : ArgCells W.heap.size W blk (off + i * 9) (act kind reads key value low high unb limit rev))  :
    Sx.Goes Tryz.prog 80 82 500 (alH [(0, .args W.heap.size W)] s q c d e g now count k m1 m2 err) al (alT (.slice (some ⟨ba, oa, some 0⟩) M ca) M k (.slice (some ⟨blk, off, some 0⟩) N cap) N i) (alH [(0, .args W.heap.size W)] s q c d e g (now) (IntKind.i64.wrap (count + 1)) k ((m1 + (0 + 1))) (m2) (.iface 234 (.chan none))) (mkT 147 0 [(1, .pointer (some ⟨1, 0, none⟩)), (3, .pointer (some ⟨25, 0, none⟩)), (5, .int .i64 1), (8, .pointer (some ⟨61, 0, none⟩)), (39, .slice (some ⟨ba, oa, some 0⟩) M ca), (40, .int .i64 M), (41, .int .i64 k), (55, .slice (some ⟨blk, off, some 0⟩) N cap), (56, .int .i64 N), (57, .int .i64 (IntKind.i64.wrap ((i : Int) + 1)))]) :=
  goes_of mixed con4_holds [(80, 89), (81, 81)] [(0, false), (6, true), (7, false), (8, true), (9, false), (10, false), (11, false), (12, false), (17, false), (18, false), (22, false), (24, false), (25, false), (60, false), (61, false), (89, false), (81, false)] (d := [(0, .br true), (1, .br true), (5, .br true), (21, .br true), (22, .br true), (23, .br true), (24, .br true), (25, .br false), (43, .br true), (99, .br true), (100, .br true), (101, .br true), (102, .br true), (105, .br false), (164, .br true), (2, .cell (.tuple ⟨(((act kind reads key value low high unb limit rev).drop 0).take 9)⟩))]) (n := 900) (c2 := 119) (L' := [.p (Cover (slotsL s) ((slotsL s).map (renV (nameOf [(80, 89), (81, 81)] 80 500) 9))), .p (Cover (pagesL q) ((pagesL q).map (renV (nameOf [(80, 89), (81, 81)] 80 500) 9)))]) (L := [.b ((now == g) == true), .b ((!Decidable.decide ((key.data.toList.length : Int) ≤ 16)) == false), .b ((Decidable.decide ((key.data.toList.length : Int) ≥ 1)) == true), .b ((Decidable.decide ((key.data.toList.length : Int) ≥ 1)) == true), .b ((Decidable.decide ((key.data.toList.length : Int) ≥ 1)) == true), .b ((Decidable.decide ((key.data.toList.length : Int) ≥ 1)) == true), .b (bigOk (m1 + (0 + 1)) 16), .b ((!Decidable.decide ((key.data.toList.length : Int) ≤ 16)) == false), .b ((Decidable.decide ((key.data.toList.length : Int) ≥ 1)) == true), .b ((Decidable.decide ((key.data.toList.length : Int) ≥ 1)) == true), .b ((Decidable.decide ((key.data.toList.length : Int) ≥ 1)) == true), .b ((Decidable.decide ((key.data.toList.length : Int) ≥ 1)) == true), .b ((kind == 2) == true), .p (ArgCells W.heap.size W blk (off + i * 9 + 0) (((act kind reads key value low high unb limit rev).drop 0).take 9) ∧ (((act kind reads key value low high unb limit rev).drop 0).take 9).length = 9), .b (Decidable.decide (0 ≤ (i : Int) ∧ (i : Int) < (N : Int))), .b ((Decidable.decide ((i : Int) < (N : Int))) == true)]) (by kernel_rfl) rfl rfl (vcs_cons (cover_slots (nm := nameOf [(80, 89), (81, 81)] 80 500) rfl rfl s) (vcs_cons (cover_pages (nm := nameOf [(80, 89), (81, 81)] 80 500) q) vcs_nil))
    (by
      refine vcs_cons (vc_b h6) ?_
      refine vcs_cons (vc_b h4) ?_
      refine vcs_cons (vc_b h3) ?_
      refine vcs_cons (vc_b h3) ?_
      refine vcs_cons (vc_b h3) ?_
      refine vcs_cons (vc_b h3) ?_
      refine vcs_cons (vc_c h5) ?_
      refine vcs_cons (vc_b h4) ?_
      refine vcs_cons (vc_b h3) ?_
      refine vcs_cons (vc_b h3) ?_
      refine vcs_cons (vc_b h3) ?_
      refine vcs_cons (vc_b h3) ?_
      refine vcs_cons (vc_b h2) ?_
      refine vcs_cons (⟨args_sub hc 0 9, rfl⟩) ?_
      refine vcs_cons (vc_c h1) ?_
      refine vcs_cons (vc_b h0) ?_
      exact vcs_nil)
end Go.Proofs.YtglaapelpidfhaaGreat

namespace Go.Proofs.YtglaapelpidfhaaGreat
open Go Go.Sx
set_option maxRecDepth 100000 in
theorem a_g_l1 {W : World} {s q : Nat} {c d e g now count k : Int} {m1 m2 : Nat} {ba oa M ca : Nat} {blk off N cap i : Nat} {kind : Int} {reads : Bool} {key value low high : ByteArray} {unb : Bool} {limit : Int} {rev : Bool} (h0 : (Decidable.decide ((i : Int) < (N : Int))) = true) (h1 : (Decidable.decide (0 ≤ (i : Int) ∧ (i : Int) < (N : Int))) = true) (h2 : (kind == 2) = true) (h3 : (Decidable.decide ((key.data.toList.length : Int) ≥ 1)) = true) (h4 : (!Decidable.decide ((key.data.toList.length : Int) ≤ 16)) = true) (hc : ArgCells W.heap.size W blk (off + i * 9) (act kind reads key value low high unb limit rev))  :
    Sx.Goes Tryz.prog 80 82 500 (alH [(0, .args W.heap.size W)] s q c d e g now count k m1 m2 (.iface 234 (.chan none))) al (alT (.slice (some ⟨ba, oa, some 0⟩) M ca) M k (.slice (some ⟨blk, off, some 0⟩) N cap) N i) (alH [(0, .args W.heap.size W)] s q c d e g (now) (count) k (m1) (m2) (.iface 234 (.chan none))) (mkT 147 0 [(1, .pointer (some ⟨1, 0, none⟩)), (3, .pointer (some ⟨25, 0, none⟩)), (5, .int .i64 1), (8, .pointer (some ⟨61, 0, none⟩)), (39, .slice (some ⟨ba, oa, some 0⟩) M ca), (40, .int .i64 M), (41, .int .i64 k), (55, .slice (some ⟨blk, off, some 0⟩) N cap), (56, .int .i64 N), (57, .int .i64 (IntKind.i64.wrap ((i : Int) + 1)))]) :=
  goes_of mixed con4_holds [(80, 80), (81, 81)] [(0, false), (6, true), (7, false), (8, true), (9, false), (10, false), (11, false), (12, false), (17, false), (18, false), (22, false), (24, false), (25, false), (60, false), (61, false), (80, false), (81, false)] (d := [(0, .br true), (1, .br true), (5, .br true), (21, .br true), (22, .br true), (23, .br true), (24, .br true), (25, .br true), (2, .cell (.tuple ⟨(((act kind reads key value low high unb limit rev).drop 0).take 9)⟩))]) (n := 900) (c2 := 90) (L' := [.p (Cover (slotsL s) ((slotsL s).map (renV (nameOf [(80, 80), (81, 81)] 80 500) 9))), .p (Cover (pagesL q) ((pagesL q).map (renV (nameOf [(80, 80), (81, 81)] 80 500) 9)))]) (L := [.b ((!Decidable.decide ((key.data.toList.length : Int) ≤ 16)) == true), .b ((Decidable.decide ((key.data.toList.length : Int) ≥ 1)) == true), .b ((Decidable.decide ((key.data.toList.length : Int) ≥ 1)) == true), .b ((Decidable.decide ((key.data.toList.length : Int) ≥ 1)) == true), .b ((Decidable.decide ((key.data.toList.length : Int) ≥ 1)) == true), .b ((kind == 2) == true), .p (ArgCells W.heap.size W blk (off + i * 9 + 0) (((act kind reads key value low high unb limit rev).drop 0).take 9) ∧ (((act kind reads key value low high unb limit rev).drop 0).take 9).length = 9), .b (Decidable.decide (0 ≤ (i : Int) ∧ (i : Int) < (N : Int))), .b ((Decidable.decide ((i : Int) < (N : Int))) == true)]) (by kernel_rfl) rfl rfl (vcs_cons (cover_slots (nm := nameOf [(80, 80), (81, 81)] 80 500) rfl rfl s) (vcs_cons (cover_pages (nm := nameOf [(80, 80), (81, 81)] 80 500) q) vcs_nil))
    (by
      refine vcs_cons (vc_b h4) ?_
      refine vcs_cons (vc_b h3) ?_
      refine vcs_cons (vc_b h3) ?_
      refine vcs_cons (vc_b h3) ?_
      refine vcs_cons (vc_b h3) ?_
      refine vcs_cons (vc_b h2) ?_
      refine vcs_cons (⟨args_sub hc 0 9, rfl⟩) ?_
      refine vcs_cons (vc_c h1) ?_
      refine vcs_cons (vc_b h0) ?_
      exact vcs_nil)
set_option maxRecDepth 100000 in
theorem a_r_lo1 {W : World} {s q : Nat} {c d e g now count k : Int} {m1 m2 : Nat} {ba oa M ca : Nat} {blk off N cap i : Nat} {kind : Int} {reads : Bool} {key value low high : ByteArray} {unb : Bool} {limit : Int} {rev : Bool} (h0 : (Decidable.decide ((i : Int) < (N : Int))) = true) (h1 : (Decidable.decide (0 ≤ (i : Int) ∧ (i : Int) < (N : Int))) = true) (h2 : (kind == 2) = false) (h3 : (kind == 5) = true) (h4 : (Decidable.decide ((low.data.toList.length : Int) > 16)) = true) (hc : ArgCells W.heap.size W blk (off + i * 9) (act kind reads key value low high unb limit rev))  :
    Sx.Goes Tryz.prog 80 82 500 (alH [(0, .args W.heap.size W)] s q c d e g now count k m1 m2 (.iface 234 (.chan none))) al (alT (.slice (some ⟨ba, oa, some 0⟩) M ca) M k (.slice (some ⟨blk, off, some 0⟩) N cap) N i) (alH [(0, .args W.heap.size W)] s q c d e g (now) (count) k (m1) (m2) (.iface 234 (.chan none))) (mkT 147 0 [(1, .pointer (some ⟨1, 0, none⟩)), (3, .pointer (some ⟨25, 0, none⟩)), (5, .int .i64 1), (8, .pointer (some ⟨61, 0, none⟩)), (39, .slice (some ⟨ba, oa, some 0⟩) M ca), (40, .int .i64 M), (41, .int .i64 k), (55, .slice (some ⟨blk, off, some 0⟩) N cap), (56, .int .i64 N), (57, .int .i64 (IntKind.i64.wrap ((i : Int) + 1)))]) :=
  goes_of mixed con4_holds [(80, 80), (81, 81)] [(0, false), (6, true), (7, false), (8, true), (9, false), (10, false), (11, false), (12, false), (17, false), (18, false), (22, false), (24, false), (25, false), (60, false), (61, false), (80, false), (81, false)] (d := [(0, .br true), (1, .br true), (5, .br false), (6, .br true), (32, .br true), (33, .br true), (34, .br true), (35, .br true), (36, .br true), (2, .cell (.tuple ⟨(((act kind reads key value low high unb limit rev).drop 0).take 9)⟩))]) (n := 900) (c2 := 94) (L' := [.p (Cover (slotsL s) ((slotsL s).map (renV (nameOf [(80, 80), (81, 81)] 80 500) 9))), .p (Cover (pagesL q) ((pagesL q).map (renV (nameOf [(80, 80), (81, 81)] 80 500) 9)))]) (L := [.b ((Decidable.decide ((low.data.toList.length : Int) > 16)) == true), .b ((Decidable.decide ((low.data.toList.length : Int) > 16)) == true), .b ((Decidable.decide ((low.data.toList.length : Int) > 16)) == true), .b ((Decidable.decide ((low.data.toList.length : Int) > 16)) == true), .b ((Decidable.decide ((low.data.toList.length : Int) > 16)) == true), .b ((kind == 5) == true), .b ((kind == 2) == false), .p (ArgCells W.heap.size W blk (off + i * 9 + 0) (((act kind reads key value low high unb limit rev).drop 0).take 9) ∧ (((act kind reads key value low high unb limit rev).drop 0).take 9).length = 9), .b (Decidable.decide (0 ≤ (i : Int) ∧ (i : Int) < (N : Int))), .b ((Decidable.decide ((i : Int) < (N : Int))) == true)]) (by kernel_rfl) rfl rfl (vcs_cons (cover_slots (nm := nameOf [(80, 80), (81, 81)] 80 500) rfl rfl s) (vcs_cons (cover_pages (nm := nameOf [(80, 80), (81, 81)] 80 500) q) vcs_nil))
    (by
      refine vcs_cons (vc_b h4) ?_
      refine vcs_cons (vc_b h4) ?_
      refine vcs_cons (vc_b h4) ?_
      refine vcs_cons (vc_b h4) ?_
      refine vcs_cons (vc_b h4) ?_
      refine vcs_cons (vc_b h3) ?_
      refine vcs_cons (vc_b h2) ?_
      refine vcs_cons (⟨args_sub hc 0 9, rfl⟩) ?_
      refine vcs_cons (vc_c h1) ?_
      refine vcs_cons (vc_b h0) ?_
      exact vcs_nil)
set_option maxRecDepth 100000 in
theorem a_r_hi1 {W : World} {s q : Nat} {c d e g now count k : Int} {m1 m2 : Nat} {ba oa M ca : Nat} {blk off N cap i : Nat} {kind : Int} {reads : Bool} {key value low high : ByteArray} {unb : Bool} {limit : Int} {rev : Bool} (h0 : (Decidable.decide ((i : Int) < (N : Int))) = true) (h1 : (Decidable.decide (0 ≤ (i : Int) ∧ (i : Int) < (N : Int))) = true) (h2 : (kind == 2) = false) (h3 : (kind == 5) = true) (h4 : (Decidable.decide ((low.data.toList.length : Int) > 16)) = false) (h5 : (Decidable.decide ((high.data.toList.length : Int) > 16)) = true) (hc : ArgCells W.heap.size W blk (off + i * 9) (act kind reads key value low high unb limit rev))  :
    Sx.Goes Tryz.prog 80 82 500 (alH [(0, .args W.heap.size W)] s q c d e g now count k m1 m2 (.iface 234 (.chan none))) al (alT (.slice (some ⟨ba, oa, some 0⟩) M ca) M k (.slice (some ⟨blk, off, some 0⟩) N cap) N i) (alH [(0, .args W.heap.size W)] s q c d e g (now) (count) k (m1) (m2) (.iface 234 (.chan none))) (mkT 147 0 [(1, .pointer (some ⟨1, 0, none⟩)), (3, .pointer (some ⟨25, 0, none⟩)), (5, .int .i64 1), (8, .pointer (some ⟨61, 0, none⟩)), (39, .slice (some ⟨ba, oa, some 0⟩) M ca), (40, .int .i64 M), (41, .int .i64 k), (55, .slice (some ⟨blk, off, some 0⟩) N cap), (56, .int .i64 N), (57, .int .i64 (IntKind.i64.wrap ((i : Int) + 1)))]) :=
  goes_of mixed con4_holds [(80, 80), (81, 81)] [(0, false), (6, true), (7, false), (8, true), (9, false), (10, false), (11, false), (12, false), (17, false), (18, false), (22, false), (24, false), (25, false), (60, false), (61, false), (80, false), (81, false)] (d := [(0, .br true), (1, .br true), (5, .br false), (6, .br true), (32, .br false), (33, .br false), (35, .br false), (36, .br false), (37, .br false), (38, .br true), (39, .br true), (40, .br true), (41, .br true), (42, .br true), (2, .cell (.tuple ⟨(((act kind reads key value low high unb limit rev).drop 0).take 9)⟩))]) (n := 900) (c2 := 94) (L' := [.p (Cover (slotsL s) ((slotsL s).map (renV (nameOf [(80, 80), (81, 81)] 80 500) 9))), .p (Cover (pagesL q) ((pagesL q).map (renV (nameOf [(80, 80), (81, 81)] 80 500) 9)))]) (L := [.b ((Decidable.decide ((high.data.toList.length : Int) > 16)) == true), .b ((Decidable.decide ((high.data.toList.length : Int) > 16)) == true), .b ((Decidable.decide ((high.data.toList.length : Int) > 16)) == true), .b ((Decidable.decide ((high.data.toList.length : Int) > 16)) == true), .b ((Decidable.decide ((high.data.toList.length : Int) > 16)) == true), .b ((Decidable.decide ((low.data.toList.length : Int) > 16)) == false), .b ((Decidable.decide ((low.data.toList.length : Int) > 16)) == false), .b ((Decidable.decide ((low.data.toList.length : Int) > 16)) == false), .b ((Decidable.decide ((low.data.toList.length : Int) > 16)) == false), .b ((Decidable.decide ((low.data.toList.length : Int) > 16)) == false), .b ((kind == 5) == true), .b ((kind == 2) == false), .p (ArgCells W.heap.size W blk (off + i * 9 + 0) (((act kind reads key value low high unb limit rev).drop 0).take 9) ∧ (((act kind reads key value low high unb limit rev).drop 0).take 9).length = 9), .b (Decidable.decide (0 ≤ (i : Int) ∧ (i : Int) < (N : Int))), .b ((Decidable.decide ((i : Int) < (N : Int))) == true)]) (by kernel_rfl) rfl rfl (vcs_cons (cover_slots (nm := nameOf [(80, 80), (81, 81)] 80 500) rfl rfl s) (vcs_cons (cover_pages (nm := nameOf [(80, 80), (81, 81)] 80 500) q) vcs_nil))
    (by
      refine vcs_cons (vc_b h5) ?_
      refine vcs_cons (vc_b h5) ?_
      refine vcs_cons (vc_b h5) ?_
      refine vcs_cons (vc_b h5) ?_
      refine vcs_cons (vc_b h5) ?_
      refine vcs_cons (vc_b h4) ?_
      refine vcs_cons (vc_b h4) ?_
      refine vcs_cons (vc_b h4) ?_
      refine vcs_cons (vc_b h4) ?_
      refine vcs_cons (vc_b h4) ?_
      refine vcs_cons (vc_b h3) ?_
      refine vcs_cons (vc_b h2) ?_
      refine vcs_cons (⟨args_sub hc 0 9, rfl⟩) ?_
      refine vcs_cons (vc_c h1) ?_
      refine vcs_cons (vc_b h0) ?_
      exact vcs_nil)
set_option maxRecDepth 100000 in
theorem a_r_uh1 {W : World} {s q : Nat} {c d e g now count k : Int} {m1 m2 : Nat} {ba oa M ca : Nat} {blk off N cap i : Nat} {kind : Int} {reads : Bool} {key value low high : ByteArray} {unb : Bool} {limit : Int} {rev : Bool} (h0 : (Decidable.decide ((i : Int) < (N : Int))) = true) (h1 : (Decidable.decide (0 ≤ (i : Int) ∧ (i : Int) < (N : Int))) = true) (h2 : (kind == 2) = false) (h3 : (kind == 5) = true) (h4 : (Decidable.decide ((low.data.toList.length : Int) > 16)) = false) (h5 : (Decidable.decide ((high.data.toList.length : Int) > 16)) = false) (h6 : (unb) = true) (h7 : (!strEq high { data := #[] }) = true) (hc : ArgCells W.heap.size W blk (off + i * 9) (act kind reads key value low high unb limit rev))  :
    Sx.Goes Tryz.prog 80 82 500 (alH [(0, .args W.heap.size W)] s q c d e g now count k m1 m2 (.iface 234 (.chan none))) al (alT (.slice (some ⟨ba, oa, some 0⟩) M ca) M k (.slice (some ⟨blk, off, some 0⟩) N cap) N i) (alH [(0, .args W.heap.size W)] s q c d e g (now) (count) k (m1) (m2) (.iface 234 (.chan none))) (mkT 147 0 [(1, .pointer (some ⟨1, 0, none⟩)), (3, .pointer (some ⟨25, 0, none⟩)), (5, .int .i64 1), (8, .pointer (some ⟨61, 0, none⟩)), (39, .slice (some ⟨ba, oa, some 0⟩) M ca), (40, .int .i64 M), (41, .int .i64 k), (55, .slice (some ⟨blk, off, some 0⟩) N cap), (56, .int .i64 N), (57, .int .i64 (IntKind.i64.wrap ((i : Int) + 1)))]) :=
  goes_of mixed con4_holds [(80, 80), (81, 81)] [(0, false), (6, true), (7, false), (8, true), (9, false), (10, false), (11, false), (12, false), (17, false), (18, false), (22, false), (24, false), (25, false), (60, false), (61, false), (80, false), (81, false)] (d := [(0, .br true), (1, .br true), (5, .br false), (6, .br true), (32, .br false), (33, .br false), (35, .br false), (36, .br false), (37, .br false), (38, .br false), (39, .br false), (41, .br false), (42, .br true), (43, .br true), (45, .br true), (46, .br false), (47, .br true), (48, .br false), (49, .br true), (50, .br true), (51, .br true), (52, .br true), (53, .br true), (54, .br true), (2, .cell (.tuple ⟨(((act kind reads key value low high unb limit rev).drop 0).take 9)⟩))]) (n := 900) (c2 := 94) (L' := [.p (Cover (slotsL s) ((slotsL s).map (renV (nameOf [(80, 80), (81, 81)] 80 500) 9))), .p (Cover (pagesL q) ((pagesL q).map (renV (nameOf [(80, 80), (81, 81)] 80 500) 9)))]) (L := [.b ((!strEq high { data := #[] }) == true), .b ((!strEq high { data := #[] }) == true), .b ((!strEq high { data := #[] }) == true), .b ((!strEq high { data := #[] }) == true), .b ((!strEq high { data := #[] }) == true), .b ((!strEq high { data := #[] }) == true), .b ((Decidable.decide ((high.data.toList.length : Int) > 16)) == false), .b ((unb) == true), .b ((Decidable.decide ((high.data.toList.length : Int) > 16)) == false), .b ((unb) == true), .b ((unb) == true), .b ((unb) == true), .b ((Decidable.decide ((high.data.toList.length : Int) > 16)) == false), .b ((Decidable.decide ((high.data.toList.length : Int) > 16)) == false), .b ((Decidable.decide ((high.data.toList.length : Int) > 16)) == false), .b ((Decidable.decide ((low.data.toList.length : Int) > 16)) == false), .b ((Decidable.decide ((low.data.toList.length : Int) > 16)) == false), .b ((Decidable.decide ((low.data.toList.length : Int) > 16)) == false), .b ((Decidable.decide ((low.data.toList.length : Int) > 16)) == false), .b ((Decidable.decide ((low.data.toList.length : Int) > 16)) == false), .b ((kind == 5) == true), .b ((kind == 2) == false), .p (ArgCells W.heap.size W blk (off + i * 9 + 0) (((act kind reads key value low high unb limit rev).drop 0).take 9) ∧ (((act kind reads key value low high unb limit rev).drop 0).take 9).length = 9), .b (Decidable.decide (0 ≤ (i : Int) ∧ (i : Int) < (N : Int))), .b ((Decidable.decide ((i : Int) < (N : Int))) == true)]) (by kernel_rfl) rfl rfl (vcs_cons (cover_slots (nm := nameOf [(80, 80), (81, 81)] 80 500) rfl rfl s) (vcs_cons (cover_pages (nm := nameOf [(80, 80), (81, 81)] 80 500) q) vcs_nil))
    (by
      refine vcs_cons (vc_b h7) ?_
      refine vcs_cons (vc_b h7) ?_
      refine vcs_cons (vc_b h7) ?_
      refine vcs_cons (vc_b h7) ?_
      refine vcs_cons (vc_b h7) ?_
      refine vcs_cons (vc_b h7) ?_
      refine vcs_cons (vc_b h5) ?_
      refine vcs_cons (vc_b h6) ?_
      refine vcs_cons (vc_b h5) ?_
      refine vcs_cons (vc_b h6) ?_
      refine vcs_cons (vc_b h6) ?_
      refine vcs_cons (vc_b h6) ?_
      refine vcs_cons (vc_b h5) ?_
      refine vcs_cons (vc_b h5) ?_
      refine vcs_cons (vc_b h5) ?_
      refine vcs_cons (vc_b h4) ?_
      refine vcs_cons (vc_b h4) ?_
      refine vcs_cons (vc_b h4) ?_
      refine vcs_cons (vc_b h4) ?_
      refine vcs_cons (vc_b h4) ?_
      refine vcs_cons (vc_b h3) ?_
      refine vcs_cons (vc_b h2) ?_
      refine vcs_cons (⟨args_sub hc 0 9, rfl⟩) ?_
      refine vcs_cons (vc_c h1) ?_
      refine vcs_cons (vc_b h0) ?_
      exact vcs_nil)
set_option maxRecDepth 100000 in
theorem a_r_ge1 {W : World} {s q : Nat} {c d e g now count k : Int} {m1 m2 : Nat} {ba oa M ca : Nat} {blk off N cap i : Nat} {kind : Int} {reads : Bool} {key value low high : ByteArray} {unb : Bool} {limit : Int} {rev : Bool} (h0 : (Decidable.decide ((i : Int) < (N : Int))) = true) (h1 : (Decidable.decide (0 ≤ (i : Int) ∧ (i : Int) < (N : Int))) = true) (h2 : (kind == 2) = false) (h3 : (kind == 5) = true) (h4 : (Decidable.decide ((low.data.toList.length : Int) > 16)) = false) (h5 : (Decidable.decide ((high.data.toList.length : Int) > 16)) = false) (h6 : (unb) = false) (h7 : (!unb) = true) (h8 : (low.data.toList.length.ble 4294967295) = true) (h9 : (Decidable.decide (cmpB low high ≥ 0)) = true) (hc : ArgCells W.heap.size W blk (off + i * 9) (act kind reads key value low high unb limit rev))  :
    Sx.Goes Tryz.prog 80 82 500 (alH [(0, .args W.heap.size W)] s q c d e g now count k m1 m2 (.iface 234 (.chan none))) al (alT (.slice (some ⟨ba, oa, some 0⟩) M ca) M k (.slice (some ⟨blk, off, some 0⟩) N cap) N i) (alH [(0, .args W.heap.size W)] s q c d e g (now) (count) k (m1) (m2) (.iface 234 (.chan none))) (mkT 147 0 [(1, .pointer (some ⟨1, 0, none⟩)), (3, .pointer (some ⟨25, 0, none⟩)), (5, .int .i64 1), (8, .pointer (some ⟨61, 0, none⟩)), (39, .slice (some ⟨ba, oa, some 0⟩) M ca), (40, .int .i64 M), (41, .int .i64 k), (55, .slice (some ⟨blk, off, some 0⟩) N cap), (56, .int .i64 N), (57, .int .i64 (IntKind.i64.wrap ((i : Int) + 1)))]) :=
  goes_of mixed con4_holds [(80, 80), (81, 81)] [(0, false), (6, true), (7, false), (8, true), (9, false), (10, false), (11, false), (12, false), (17, false), (18, false), (22, false), (24, false), (25, false), (60, false), (61, false), (80, false), (81, false)] (d := [(0, .br true), (1, .br true), (5, .br false), (6, .br true), (32, .br false), (33, .br false), (35, .br false), (36, .br false), (37, .br false), (38, .br false), (39, .br false), (41, .br false), (42, .br false), (43, .br false), (44, .br false), (45, .br false), (46, .br false), (47, .br false), (53, .br true), (54, .br true), (56, .br true), (57, .br true), (59, .br true), (60, .br true), (61, .br true), (63, .br true), (65, .br true), (2, .cell (.tuple ⟨(((act kind reads key value low high unb limit rev).drop 0).take 9)⟩))]) (n := 900) (c2 := 94) (L' := [.p (Cover (slotsL s) ((slotsL s).map (renV (nameOf [(80, 80), (81, 81)] 80 500) 9))), .p (Cover (pagesL q) ((pagesL q).map (renV (nameOf [(80, 80), (81, 81)] 80 500) 9)))]) (L := [.b ((Decidable.decide (cmpB low high ≥ 0)) == true), .b ((!unb) == true), .b ((!unb) == true), .b (low.data.toList.length.ble 4294967295), .b ((!unb) == true), .b ((!unb) == true), .b ((!unb) == true), .b ((!unb) == true), .b ((!unb) == true), .b ((Decidable.decide ((high.data.toList.length : Int) > 16)) == false), .b ((unb) == false), .b ((Decidable.decide ((high.data.toList.length : Int) > 16)) == false), .b ((unb) == false), .b ((unb) == false), .b ((unb) == false), .b ((Decidable.decide ((high.data.toList.length : Int) > 16)) == false), .b ((Decidable.decide ((high.data.toList.length : Int) > 16)) == false), .b ((Decidable.decide ((high.data.toList.length : Int) > 16)) == false), .b ((Decidable.decide ((low.data.toList.length : Int) > 16)) == false), .b ((Decidable.decide ((low.data.toList.length : Int) > 16)) == false), .b ((Decidable.decide ((low.data.toList.length : Int) > 16)) == false), .b ((Decidable.decide ((low.data.toList.length : Int) > 16)) == false), .b ((Decidable.decide ((low.data.toList.length : Int) > 16)) == false), .b ((kind == 5) == true), .b ((kind == 2) == false), .p (ArgCells W.heap.size W blk (off + i * 9 + 0) (((act kind reads key value low high unb limit rev).drop 0).take 9) ∧ (((act kind reads key value low high unb limit rev).drop 0).take 9).length = 9), .b (Decidable.decide (0 ≤ (i : Int) ∧ (i : Int) < (N : Int))), .b ((Decidable.decide ((i : Int) < (N : Int))) == true)]) (by kernel_rfl) rfl rfl (vcs_cons (cover_slots (nm := nameOf [(80, 80), (81, 81)] 80 500) rfl rfl s) (vcs_cons (cover_pages (nm := nameOf [(80, 80), (81, 81)] 80 500) q) vcs_nil))
    (by
      refine vcs_cons (vc_b h9) ?_
      refine vcs_cons (vc_b h7) ?_
      refine vcs_cons (vc_b h7) ?_
      refine vcs_cons (vc_c h8) ?_
      refine vcs_cons (vc_b h7) ?_
      refine vcs_cons (vc_b h7) ?_
      refine vcs_cons (vc_b h7) ?_
      refine vcs_cons (vc_b h7) ?_
      refine vcs_cons (vc_b h7) ?_
      refine vcs_cons (vc_b h5) ?_
      refine vcs_cons (vc_b h6) ?_
      refine vcs_cons (vc_b h5) ?_
      refine vcs_cons (vc_b h6) ?_
      refine vcs_cons (vc_b h6) ?_
      refine vcs_cons (vc_b h6) ?_
      refine vcs_cons (vc_b h5) ?_
      refine vcs_cons (vc_b h5) ?_
      refine vcs_cons (vc_b h5) ?_
      refine vcs_cons (vc_b h4) ?_
      refine vcs_cons (vc_b h4) ?_
      refine vcs_cons (vc_b h4) ?_
      refine vcs_cons (vc_b h4) ?_
      refine vcs_cons (vc_b h4) ?_
      refine vcs_cons (vc_b h3) ?_
      refine vcs_cons (vc_b h2) ?_
      refine vcs_cons (⟨args_sub hc 0 9, rfl⟩) ?_
      refine vcs_cons (vc_c h1) ?_
      refine vcs_cons (vc_b h0) ?_
      exact vcs_nil)
end Go.Proofs.YtglaapelpidfhaaGreat

namespace Go.Proofs.YtglaapelpidfhaaGreat
open Go Go.Sx
set_option maxRecDepth 100000 in
theorem a_ranx {W : World} {s q : Nat} {c d e g now count k : Int} {m1 m2 : Nat} {ba oa M ca : Nat} {blk off N cap i : Nat} {kind : Int} {reads : Bool} {key value low high : ByteArray} {unb : Bool} {limit : Int} {rev : Bool} {err : Value} (h0 : (Decidable.decide ((i : Int) < (N : Int))) = true) (h1 : (Decidable.decide (0 ≤ (i : Int) ∧ (i : Int) < (N : Int))) = true) (h2 : (kind == 2) = false) (h3 : (kind == 5) = true) (h4 : (Decidable.decide ((low.data.toList.length : Int) > 16)) = false) (h5 : (Decidable.decide ((high.data.toList.length : Int) > 16)) = false) (h6 : (unb) = true) (h7 : (!strEq high { data := #[] }) = false) (h8 : (!unb) = false) (h9 : (bigOk (m2 + (0 + 1)) 40) = true) (h10 : (now == g) = true) (hc : ArgCells W.heap.size W blk (off + i * 9) (act kind reads key value low high unb limit rev))  :
    Sx.Goes Tryz.prog 80 82 500 (alH [(0, .args W.heap.size W)] s q c d e g now count k m1 m2 err) al (alT (.slice (some ⟨ba, oa, some 0⟩) M ca) M k (.slice (some ⟨blk, off, some 0⟩) N cap) N i) (alH [(0, .args W.heap.size W)] s q c d e g (now) (IntKind.i64.wrap (count + 1)) k (m1) ((m2 + (0 + 1))) (.iface 234 (.chan none))) (mkT 147 0 [(1, .pointer (some ⟨1, 0, none⟩)), (3, .pointer (some ⟨25, 0, none⟩)), (5, .int .i64 1), (8, .pointer (some ⟨61, 0, none⟩)), (39, .slice (some ⟨ba, oa, some 0⟩) M ca), (40, .int .i64 M), (41, .int .i64 k), (55, .slice (some ⟨blk, off, some 0⟩) N cap), (56, .int .i64 N), (57, .int .i64 (IntKind.i64.wrap ((i : Int) + 1)))]) :=
  goes_of mixed con4_holds [(80, 80), (81, 91)] [(0, false), (6, true), (7, false), (8, true), (9, false), (10, false), (11, false), (12, false), (17, false), (18, false), (22, false), (24, false), (25, false), (60, false), (61, false), (80, false), (91, false)] (d := [(0, .br true), (1, .br true), (5, .br false), (6, .br true), (32, .br false), (33, .br false), (35, .br false), (36, .br false), (37, .br false), (38, .br false), (39, .br false), (41, .br false), (42, .br true), (43, .br true), (45, .br true), (46, .br false), (47, .br true), (48, .br false), (49, .br false), (50, .br false), (52, .br false), (53, .br false), (54, .br false), (55, .br false), (56, .br false), (57, .br false), (58, .br false), (59, .br false), (60, .br false), (61, .br false), (62, .br false), (72, .br true), (138, .br false), (139, .br false), (141, .br false), (142, .br false), (143, .br false), (144, .br false), (146, .br true), (150, .br false), (184, .br true), (2, .cell (.tuple ⟨(((act kind reads key value low high unb limit rev).drop 0).take 9)⟩))]) (n := 900) (c2 := 119) (L' := [.p (Cover (slotsL s) ((slotsL s).map (renV (nameOf [(80, 80), (81, 91)] 80 500) 9))), .p (Cover (pagesL q) ((pagesL q).map (renV (nameOf [(80, 80), (81, 91)] 80 500) 9)))]) (L := [.b ((now == g) == true), .b ((!strEq high { data := #[] }) == false), .b ((unb) == true), .b ((Decidable.decide ((high.data.toList.length : Int) > 16)) == false), .b ((Decidable.decide ((low.data.toList.length : Int) > 16)) == false), .b ((Decidable.decide ((low.data.toList.length : Int) > 16)) == false), .b ((Decidable.decide ((low.data.toList.length : Int) > 16)) == false), .b ((Decidable.decide ((low.data.toList.length : Int) > 16)) == false), .b ((Decidable.decide ((low.data.toList.length : Int) > 16)) == false), .b (bigOk (m2 + (0 + 1)) 40), .b ((!strEq high { data := #[] }) == false), .b ((!unb) == false), .b ((!strEq high { data := #[] }) == false), .b ((!unb) == false), .b ((!unb) == false), .b ((!unb) == false), .b ((!unb) == false), .b ((!unb) == false), .b ((!unb) == false), .b ((!strEq high { data := #[] }) == false), .b ((!strEq high { data := #[] }) == false), .b ((!strEq high { data := #[] }) == false), .b ((!strEq high { data := #[] }) == false), .b ((Decidable.decide ((high.data.toList.length : Int) > 16)) == false), .b ((unb) == true), .b ((Decidable.decide ((high.data.toList.length : Int) > 16)) == false), .b ((unb) == true), .b ((unb) == true), .b ((unb) == true), .b ((Decidable.decide ((high.data.toList.length : Int) > 16)) == false), .b ((Decidable.decide ((high.data.toList.length : Int) > 16)) == false), .b ((Decidable.decide ((high.data.toList.length : Int) > 16)) == false), .b ((Decidable.decide ((low.data.toList.length : Int) > 16)) == false), .b ((Decidable.decide ((low.data.toList.length : Int) > 16)) == false), .b ((Decidable.decide ((low.data.toList.length : Int) > 16)) == false), .b ((Decidable.decide ((low.data.toList.length : Int) > 16)) == false), .b ((Decidable.decide ((low.data.toList.length : Int) > 16)) == false), .b ((kind == 5) == true), .b ((kind == 2) == false), .p (ArgCells W.heap.size W blk (off + i * 9 + 0) (((act kind reads key value low high unb limit rev).drop 0).take 9) ∧ (((act kind reads key value low high unb limit rev).drop 0).take 9).length = 9), .b (Decidable.decide (0 ≤ (i : Int) ∧ (i : Int) < (N : Int))), .b ((Decidable.decide ((i : Int) < (N : Int))) == true)]) (by kernel_rfl) rfl rfl (vcs_cons (cover_slots (nm := nameOf [(80, 80), (81, 91)] 80 500) rfl rfl s) (vcs_cons (cover_pages (nm := nameOf [(80, 80), (81, 91)] 80 500) q) vcs_nil))
    (by
      refine vcs_cons (vc_b h10) ?_
      refine vcs_cons (vc_b h7) ?_
      refine vcs_cons (vc_b h6) ?_
      refine vcs_cons (vc_b h5) ?_
      refine vcs_cons (vc_b h4) ?_
      refine vcs_cons (vc_b h4) ?_
      refine vcs_cons (vc_b h4) ?_
      refine vcs_cons (vc_b h4) ?_
      refine vcs_cons (vc_b h4) ?_
      refine vcs_cons (vc_c h9) ?_
      refine vcs_cons (vc_b h7) ?_
      refine vcs_cons (vc_b h8) ?_
      refine vcs_cons (vc_b h7) ?_
      refine vcs_cons (vc_b h8) ?_
      refine vcs_cons (vc_b h8) ?_
      refine vcs_cons (vc_b h8) ?_
      refine vcs_cons (vc_b h8) ?_
      refine vcs_cons (vc_b h8) ?_
      refine vcs_cons (vc_b h8) ?_
      refine vcs_cons (vc_b h7) ?_
      refine vcs_cons (vc_b h7) ?_
      refine vcs_cons (vc_b h7) ?_
      refine vcs_cons (vc_b h7) ?_
      refine vcs_cons (vc_b h5) ?_
      refine vcs_cons (vc_b h6) ?_
      refine vcs_cons (vc_b h5) ?_
      refine vcs_cons (vc_b h6) ?_
      refine vcs_cons (vc_b h6) ?_
      refine vcs_cons (vc_b h6) ?_
      refine vcs_cons (vc_b h5) ?_
      refine vcs_cons (vc_b h5) ?_
      refine vcs_cons (vc_b h5) ?_
      refine vcs_cons (vc_b h4) ?_
      refine vcs_cons (vc_b h4) ?_
      refine vcs_cons (vc_b h4) ?_
      refine vcs_cons (vc_b h4) ?_
      refine vcs_cons (vc_b h4) ?_
      refine vcs_cons (vc_b h3) ?_
      refine vcs_cons (vc_b h2) ?_
      refine vcs_cons (⟨args_sub hc 0 9, rfl⟩) ?_
      refine vcs_cons (vc_c h1) ?_
      refine vcs_cons (vc_b h0) ?_
      exact vcs_nil)
set_option maxRecDepth 100000 in
theorem a_ransx {W : World} {s q : Nat} {c d e g now count k : Int} {m1 m2 : Nat} {ba oa M ca : Nat} {blk off N cap i : Nat} {kind : Int} {reads : Bool} {key value low high : ByteArray} {unb : Bool} {limit : Int} {rev : Bool} {err : Value} (h0 : (Decidable.decide ((i : Int) < (N : Int))) = true) (h1 : (Decidable.decide (0 ≤ (i : Int) ∧ (i : Int) < (N : Int))) = true) (h2 : (kind == 2) = false) (h3 : (kind == 5) = true) (h4 : (Decidable.decide ((low.data.toList.length : Int) > 16)) = false) (h5 : (Decidable.decide ((high.data.toList.length : Int) > 16)) = false) (h6 : (unb) = false) (h7 : (!unb) = true) (h8 : (low.data.toList.length.ble 4294967295) = true) (h9 : (Decidable.decide (cmpB low high ≥ 0)) = false) (h10 : (bigOk (m2 + (0 + 1)) 40) = true) (h11 : (!Decidable.decide (cmpB low high < 0)) = false) (h12 : (now == g) = true) (hc : ArgCells W.heap.size W blk (off + i * 9) (act kind reads key value low high unb limit rev))  :
    Sx.Goes Tryz.prog 80 82 500 (alH [(0, .args W.heap.size W)] s q c d e g now count k m1 m2 err) al (alT (.slice (some ⟨ba, oa, some 0⟩) M ca) M k (.slice (some ⟨blk, off, some 0⟩) N cap) N i) (alH [(0, .args W.heap.size W)] s q c d e g (now) (IntKind.i64.wrap (count + 1)) k (m1) ((m2 + (0 + 1))) (.iface 234 (.chan none))) (mkT 147 0 [(1, .pointer (some ⟨1, 0, none⟩)), (3, .pointer (some ⟨25, 0, none⟩)), (5, .int .i64 1), (8, .pointer (some ⟨61, 0, none⟩)), (39, .slice (some ⟨ba, oa, some 0⟩) M ca), (40, .int .i64 M), (41, .int .i64 k), (55, .slice (some ⟨blk, off, some 0⟩) N cap), (56, .int .i64 N), (57, .int .i64 (IntKind.i64.wrap ((i : Int) + 1)))]) :=
  goes_of mixed con4_holds [(80, 80), (81, 91)] [(0, false), (6, true), (7, false), (8, true), (9, false), (10, false), (11, false), (12, false), (17, false), (18, false), (22, false), (24, false), (25, false), (60, false), (61, false), (80, false), (91, false)] (d := [(0, .br true), (1, .br true), (5, .br false), (6, .br true), (32, .br false), (33, .br false), (35, .br false), (36, .br false), (37, .br false), (38, .br false), (39, .br false), (41, .br false), (42, .br false), (43, .br false), (44, .br false), (45, .br false), (46, .br false), (47, .br false), (53, .br true), (54, .br true), (56, .br true), (57, .br true), (59, .br true), (60, .br true), (61, .br true), (63, .br true), (65, .br false), (74, .br true), (140, .br false), (141, .br false), (143, .br false), (144, .br false), (145, .br false), (146, .br false), (148, .br false), (151, .br true), (154, .br false), (188, .br true), (2, .cell (.tuple ⟨(((act kind reads key value low high unb limit rev).drop 0).take 9)⟩))]) (n := 900) (c2 := 119) (L' := [.p (Cover (slotsL s) ((slotsL s).map (renV (nameOf [(80, 80), (81, 91)] 80 500) 9))), .p (Cover (pagesL q) ((pagesL q).map (renV (nameOf [(80, 80), (81, 91)] 80 500) 9)))]) (L := [.b ((now == g) == true), .b ((!Decidable.decide (cmpB low high < 0)) == false), .b (low.data.toList.length.ble 4294967295), .b ((unb) == false), .b ((Decidable.decide ((high.data.toList.length : Int) > 16)) == false), .b ((Decidable.decide ((low.data.toList.length : Int) > 16)) == false), .b ((Decidable.decide ((low.data.toList.length : Int) > 16)) == false), .b ((Decidable.decide ((low.data.toList.length : Int) > 16)) == false), .b ((Decidable.decide ((low.data.toList.length : Int) > 16)) == false), .b ((Decidable.decide ((low.data.toList.length : Int) > 16)) == false), .b (bigOk (m2 + (0 + 1)) 40), .b ((Decidable.decide (cmpB low high ≥ 0)) == false), .b ((!unb) == true), .b ((!unb) == true), .b (low.data.toList.length.ble 4294967295), .b ((!unb) == true), .b ((!unb) == true), .b ((!unb) == true), .b ((!unb) == true), .b ((!unb) == true), .b ((Decidable.decide ((high.data.toList.length : Int) > 16)) == false), .b ((unb) == false), .b ((Decidable.decide ((high.data.toList.length : Int) > 16)) == false), .b ((unb) == false), .b ((unb) == false), .b ((unb) == false), .b ((Decidable.decide ((high.data.toList.length : Int) > 16)) == false), .b ((Decidable.decide ((high.data.toList.length : Int) > 16)) == false), .b ((Decidable.decide ((high.data.toList.length : Int) > 16)) == false), .b ((Decidable.decide ((low.data.toList.length : Int) > 16)) == false), .b ((Decidable.decide ((low.data.toList.length : Int) > 16)) == false), .b ((Decidable.decide ((low.data.toList.length : Int) > 16)) == false), .b ((Decidable.decide ((low.data.toList.length : Int) > 16)) == false), .b ((Decidable.decide ((low.data.toList.length : Int) > 16)) == false), .b ((kind == 5) == true), .b ((kind == 2) == false), .p (ArgCells W.heap.size W blk (off + i * 9 + 0) (((act kind reads key value low high unb limit rev).drop 0).take 9) ∧ (((act kind reads key value low high unb limit rev).drop 0).take 9).length = 9), .b (Decidable.decide (0 ≤ (i : Int) ∧ (i : Int) < (N : Int))), .b ((Decidable.decide ((i : Int) < (N : Int))) == true)]) (by kernel_rfl) rfl rfl (vcs_cons (cover_slots (nm := nameOf [(80, 80), (81, 91)] 80 500) rfl rfl s) (vcs_cons (cover_pages (nm := nameOf [(80, 80), (81, 91)] 80 500) q) vcs_nil))
    (by
      refine vcs_cons (vc_b h12) ?_
      refine vcs_cons (vc_b h11) ?_
      refine vcs_cons (vc_c h8) ?_
      refine vcs_cons (vc_b h6) ?_
      refine vcs_cons (vc_b h5) ?_
      refine vcs_cons (vc_b h4) ?_
      refine vcs_cons (vc_b h4) ?_
      refine vcs_cons (vc_b h4) ?_
      refine vcs_cons (vc_b h4) ?_
      refine vcs_cons (vc_b h4) ?_
      refine vcs_cons (vc_c h10) ?_
      refine vcs_cons (vc_b h9) ?_
      refine vcs_cons (vc_b h7) ?_
      refine vcs_cons (vc_b h7) ?_
      refine vcs_cons (vc_c h8) ?_
      refine vcs_cons (vc_b h7) ?_
      refine vcs_cons (vc_b h7) ?_
      refine vcs_cons (vc_b h7) ?_
      refine vcs_cons (vc_b h7) ?_
      refine vcs_cons (vc_b h7) ?_
      refine vcs_cons (vc_b h5) ?_
      refine vcs_cons (vc_b h6) ?_
      refine vcs_cons (vc_b h5) ?_
      refine vcs_cons (vc_b h6) ?_
      refine vcs_cons (vc_b h6) ?_
      refine vcs_cons (vc_b h6) ?_
      refine vcs_cons (vc_b h5) ?_
      refine vcs_cons (vc_b h5) ?_
      refine vcs_cons (vc_b h5) ?_
      refine vcs_cons (vc_b h4) ?_
      refine vcs_cons (vc_b h4) ?_
      refine vcs_cons (vc_b h4) ?_
      refine vcs_cons (vc_b h4) ?_
      refine vcs_cons (vc_b h4) ?_
      refine vcs_cons (vc_b h3) ?_
      refine vcs_cons (vc_b h2) ?_
      refine vcs_cons (⟨args_sub hc 0 9, rfl⟩) ?_
      refine vcs_cons (vc_c h1) ?_
      refine vcs_cons (vc_b h0) ?_
      exact vcs_nil)
end Go.Proofs.YtglaapelpidfhaaGreat
