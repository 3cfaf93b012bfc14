/- Rounds of the loop over the acts. No condition. -/
import Derived.Test.YtglaapelpidfhaaGreatAct5
namespace Go.Proofs.YtglaapelpidfhaaGreat
open Go Go.Sx
set_option maxRecDepth 100000 in
theorem a_ran {W : World} {s q : Nat} {c d e g now count k : Int} {m1 m2 : Nat} {ba oa M ca : Nat} {blk off N cap i : Nat} {kind : Int} {reads : Bool} {key value low high : ByteArray} {unb : Bool} {limit : Int} {rev : Bool} {err : Value} (h0 : (Decidable.decide ((i : Int) < (N : Int))) = true) (h1 : (Decidable.decide (0 ≤ (i : Int) ∧ (i : Int) < (N : Int))) = true) (h2 : (kind == 2) = false) (h3 : (kind == 5) = true) (h4 : (Decidable.decide ((low.data.toList.length : Int) > 16)) = false) (h5 : (Decidable.decide ((high.data.toList.length : Int) > 16)) = false) (h6 : (unb) = true) (h7 : (!strEq high { data := #[] }) = false) (h8 : (!unb) = false) (h9 : (bigOk (m2 + (0 + 1)) 40) = true) (h10 : (now == g) = false) (h11 : (Decidable.decide (k ≥ 0)) = true) (h12 : (!Decidable.decide (k < c)) = false) (h13 : (Decidable.decide (IntKind.i64.wrap (now + 1) < 1)) = false) (h14 : (Decidable.decide (IntKind.i64.wrap (now + 1) > IntKind.i64.wrap (now + 1))) = false) (h15 : (Decidable.decide ((0 : Int) ≤ 0 ∧ 0 < ((q + 1 : Nat) : Int))) = true) (h16 : (Decidable.decide (0 ≤ IntKind.i64.wrap (1 - 1) ∧ IntKind.i64.wrap (1 - 1) < ((s + 1 : Nat) : Int))) = true) (h17 : (Decidable.decide (cmpB { data := #[] } low ≤ 0)) = true) (h18 : (k == k) = true) (hc : ArgCells W.heap.size W blk (off + i * 9) (act kind reads key value low high unb limit rev))  :
    Sx.Goes Tryz.prog 80 82 500 (alH [(0, .args W.heap.size W)] s q c d e g now count k m1 m2 err) al (alT (.slice (some ⟨ba, oa, some 0⟩) M ca) M k (.slice (some ⟨blk, off, some 0⟩) N cap) N i) (alH [(0, .args W.heap.size W)] s q c d e g (IntKind.i64.wrap (now + 1)) (IntKind.i64.wrap (IntKind.i64.wrap (IntKind.i64.wrap (IntKind.i64.wrap (IntKind.i64.wrap (count + 1) + 1) + 1) + 1) + 1)) k (m1) ((m2 + (0 + 1))) .nilIface) (mkT 147 0 [(1, .pointer (some ⟨1, 0, none⟩)), (3, .pointer (some ⟨25, 0, none⟩)), (5, .int .i64 1), (8, .pointer (some ⟨61, 0, none⟩)), (39, .slice (some ⟨ba, oa, some 0⟩) M ca), (40, .int .i64 M), (41, .int .i64 k), (55, .slice (some ⟨blk, off, some 0⟩) N cap), (56, .int .i64 N), (57, .int .i64 (IntKind.i64.wrap ((i : Int) + 1)))]) :=
  goes_of mixed con4_holds [(80, 80), (81, 91)] [(0, false), (6, true), (7, false), (8, true), (9, false), (10, false), (11, false), (12, false), (17, false), (18, false), (22, false), (24, false), (25, false), (60, false), (61, false), (80, false), (91, false)] (d := [(0, .br true), (1, .br true), (5, .br false), (6, .br true), (32, .br false), (33, .br false), (35, .br false), (36, .br false), (37, .br false), (38, .br false), (39, .br false), (41, .br false), (42, .br true), (43, .br true), (45, .br true), (46, .br false), (47, .br true), (48, .br false), (49, .br false), (50, .br false), (52, .br false), (53, .br false), (54, .br false), (55, .br false), (56, .br false), (57, .br false), (58, .br false), (59, .br false), (60, .br false), (61, .br false), (62, .br false), (72, .br true), (138, .br false), (139, .br false), (141, .br false), (142, .br false), (143, .br false), (144, .br false), (146, .br true), (150, .br false), (184, .br false), (240, .br true), (241, .br true), (242, .br true), (243, .br true), (244, .br true), (246, .br true), (247, .br true), (248, .br false), (251, .br false), (252, .br false), (253, .br false), (254, .br false), (255, .br false), (257, .br false), (258, .br false), (259, .br false), (334, .br true), (440, .br true), (669, .br true), (670, .br true), (675, .br true), (677, .br true), (781, .br true), (782, .br true), (783, .br true), (784, .br true), (785, .br true), (787, .br true), (788, .br true), (789, .br false), (791, .br true), (794, .br true), (2, .cell (.tuple ⟨(((act kind reads key value low high unb limit rev).drop 0).take 9)⟩))]) (n := 900) (c2 := 210) (L' := [.p (Cover (slotsL s) ((slotsL s).map (renV (nameOf [(80, 80), (81, 91)] 80 500) 9))), .p (Cover (pagesL q) ((pagesL q).map (renV (nameOf [(80, 80), (81, 91)] 80 500) 9)))]) (L := [.b ((k == k) == true), .b ((k == k) == true), .b ((!Decidable.decide (k < c)) == false), .b ((Decidable.decide (k ≥ 0)) == true), .b ((Decidable.decide (k ≥ 0)) == true), .b ((Decidable.decide (k ≥ 0)) == true), .b ((Decidable.decide (k ≥ 0)) == true), .b ((Decidable.decide (k ≥ 0)) == true), .b ((Decidable.decide (k ≥ 0)) == true), .b ((Decidable.decide (k ≥ 0)) == true), .b ((Decidable.decide (cmpB { data := #[] } low ≤ 0)) == true), .b ((Decidable.decide (cmpB { data := #[] } low ≤ 0)) == true), .b ((Decidable.decide (cmpB { data := #[] } low ≤ 0)) == true), .b ((Decidable.decide (cmpB { data := #[] } low ≤ 0)) == true), .b (Decidable.decide (0 ≤ IntKind.i64.wrap (1 - 1) ∧ IntKind.i64.wrap (1 - 1) < ((s + 1 : Nat) : Int))), .b (Decidable.decide ((0 : Int) ≤ 0 ∧ 0 < ((q + 1 : Nat) : Int))), .b ((Decidable.decide (IntKind.i64.wrap (now + 1) > IntKind.i64.wrap (now + 1))) == false), .b ((Decidable.decide (IntKind.i64.wrap (now + 1) < 1)) == false), .b ((Decidable.decide (IntKind.i64.wrap (now + 1) < 1)) == false), .b ((Decidable.decide (IntKind.i64.wrap (now + 1) < 1)) == false), .b ((Decidable.decide (IntKind.i64.wrap (now + 1) < 1)) == false), .b ((Decidable.decide (IntKind.i64.wrap (now + 1) < 1)) == false), .b ((Decidable.decide (IntKind.i64.wrap (now + 1) < 1)) == false), .b ((Decidable.decide (IntKind.i64.wrap (now + 1) < 1)) == false), .b ((!Decidable.decide (k < c)) == false), .b ((Decidable.decide (k ≥ 0)) == true), .b ((Decidable.decide (k ≥ 0)) == true), .b ((Decidable.decide (k ≥ 0)) == true), .b ((Decidable.decide (k ≥ 0)) == true), .b ((Decidable.decide (k ≥ 0)) == true), .b ((Decidable.decide (k ≥ 0)) == true), .b ((Decidable.decide (k ≥ 0)) == true), .b ((now == g) == false), .b ((!strEq high { data := #[] }) == false), .b ((unb) == true), .b ((Decidable.decide ((high.data.toList.length : Int) > 16)) == false), .b ((Decidable.decide ((low.data.toList.length : Int) > 16)) == false), .b ((Decidable.decide ((low.data.toList.length : Int) > 16)) == false), .b ((Decidable.decide ((low.data.toList.length : Int) > 16)) == false), .b ((Decidable.decide ((low.data.toList.length : Int) > 16)) == false), .b ((Decidable.decide ((low.data.toList.length : Int) > 16)) == false), .b (bigOk (m2 + (0 + 1)) 40), .b ((!strEq high { data := #[] }) == false), .b ((!unb) == false), .b ((!strEq high { data := #[] }) == false), .b ((!unb) == false), .b ((!unb) == false), .b ((!unb) == false), .b ((!unb) == false), .b ((!unb) == false), .b ((!unb) == false), .b ((!strEq high { data := #[] }) == false), .b ((!strEq high { data := #[] }) == false), .b ((!strEq high { data := #[] }) == false), .b ((!strEq high { data := #[] }) == false), .b ((Decidable.decide ((high.data.toList.length : Int) > 16)) == false), .b ((unb) == true), .b ((Decidable.decide ((high.data.toList.length : Int) > 16)) == false), .b ((unb) == true), .b ((unb) == true), .b ((unb) == true), .b ((Decidable.decide ((high.data.toList.length : Int) > 16)) == false), .b ((Decidable.decide ((high.data.toList.length : Int) > 16)) == false), .b ((Decidable.decide ((high.data.toList.length : Int) > 16)) == false), .b ((Decidable.decide ((low.data.toList.length : Int) > 16)) == false), .b ((Decidable.decide ((low.data.toList.length : Int) > 16)) == false), .b ((Decidable.decide ((low.data.toList.length : Int) > 16)) == false), .b ((Decidable.decide ((low.data.toList.length : Int) > 16)) == false), .b ((Decidable.decide ((low.data.toList.length : Int) > 16)) == false), .b ((kind == 5) == true), .b ((kind == 2) == false), .p (ArgCells W.heap.size W blk (off + i * 9 + 0) (((act kind reads key value low high unb limit rev).drop 0).take 9) ∧ (((act kind reads key value low high unb limit rev).drop 0).take 9).length = 9), .b (Decidable.decide (0 ≤ (i : Int) ∧ (i : Int) < (N : Int))), .b ((Decidable.decide ((i : Int) < (N : Int))) == true)]) (by kernel_rfl) rfl rfl (vcs_cons (cover_slots (nm := nameOf [(80, 80), (81, 91)] 80 500) rfl rfl s) (vcs_cons (cover_pages (nm := nameOf [(80, 80), (81, 91)] 80 500) q) vcs_nil))
    (by
      refine vcs_cons (vc_b h18) ?_
      refine vcs_cons (vc_b h18) ?_
      refine vcs_cons (vc_b h12) ?_
      refine vcs_cons (vc_b h11) ?_
      refine vcs_cons (vc_b h11) ?_
      refine vcs_cons (vc_b h11) ?_
      refine vcs_cons (vc_b h11) ?_
      refine vcs_cons (vc_b h11) ?_
      refine vcs_cons (vc_b h11) ?_
      refine vcs_cons (vc_b h11) ?_
      refine vcs_cons (vc_b h17) ?_
      refine vcs_cons (vc_b h17) ?_
      refine vcs_cons (vc_b h17) ?_
      refine vcs_cons (vc_b h17) ?_
      refine vcs_cons (vc_c h16) ?_
      refine vcs_cons (vc_c h15) ?_
      refine vcs_cons (vc_b h14) ?_
      refine vcs_cons (vc_b h13) ?_
      refine vcs_cons (vc_b h13) ?_
      refine vcs_cons (vc_b h13) ?_
      refine vcs_cons (vc_b h13) ?_
      refine vcs_cons (vc_b h13) ?_
      refine vcs_cons (vc_b h13) ?_
      refine vcs_cons (vc_b h13) ?_
      refine vcs_cons (vc_b h12) ?_
      refine vcs_cons (vc_b h11) ?_
      refine vcs_cons (vc_b h11) ?_
      refine vcs_cons (vc_b h11) ?_
      refine vcs_cons (vc_b h11) ?_
      refine vcs_cons (vc_b h11) ?_
      refine vcs_cons (vc_b h11) ?_
      refine vcs_cons (vc_b h11) ?_
      refine vcs_cons (vc_b h10) ?_
      refine vcs_cons (vc_b h7) ?_
      refine vcs_cons (vc_b h6) ?_
      refine vcs_cons (vc_b h5) ?_
      refine vcs_cons (vc_b h4) ?_
      refine vcs_cons (vc_b h4) ?_
      refine vcs_cons (vc_b h4) ?_
      refine vcs_cons (vc_b h4) ?_
      refine vcs_cons (vc_b h4) ?_
      refine vcs_cons (vc_c h9) ?_
      refine vcs_cons (vc_b h7) ?_
      refine vcs_cons (vc_b h8) ?_
      refine vcs_cons (vc_b h7) ?_
      refine vcs_cons (vc_b h8) ?_
      refine vcs_cons (vc_b h8) ?_
      refine vcs_cons (vc_b h8) ?_
      refine vcs_cons (vc_b h8) ?_
      refine vcs_cons (vc_b h8) ?_
      refine vcs_cons (vc_b h8) ?_
      refine vcs_cons (vc_b h7) ?_
      refine vcs_cons (vc_b h7) ?_
      refine vcs_cons (vc_b h7) ?_
      refine vcs_cons (vc_b h7) ?_
      refine vcs_cons (vc_b h5) ?_
      refine vcs_cons (vc_b h6) ?_
      refine vcs_cons (vc_b h5) ?_
      refine vcs_cons (vc_b h6) ?_
      refine vcs_cons (vc_b h6) ?_
      refine vcs_cons (vc_b h6) ?_
      refine vcs_cons (vc_b h5) ?_
      refine vcs_cons (vc_b h5) ?_
      refine vcs_cons (vc_b h5) ?_
      refine vcs_cons (vc_b h4) ?_
      refine vcs_cons (vc_b h4) ?_
      refine vcs_cons (vc_b h4) ?_
      refine vcs_cons (vc_b h4) ?_
      refine vcs_cons (vc_b h4) ?_
      refine vcs_cons (vc_b h3) ?_
      refine vcs_cons (vc_b h2) ?_
      refine vcs_cons (⟨args_sub hc 0 9, rfl⟩) ?_
      refine vcs_cons (vc_c h1) ?_
      refine vcs_cons (vc_b h0) ?_
      exact vcs_nil)
end Go.Proofs.YtglaapelpidfhaaGreat
