/- Rounds of the loop over the acts. No condition. -/
import Derived.Test.YtglaapelpidfhaaGreatAct1
namespace Go.Proofs.YtglaapelpidfhaaGreat
open Go Go.Sx
set_option maxRecDepth 100000 in
theorem a_get {W : World} {s q : Nat} {c d e g now count k : Int} {m1 m2 : Nat} {ba oa M ca : Nat} {blk off N cap i : Nat} {kind : Int} {reads : Bool} {key value low high : ByteArray} {unb : Bool} {limit : Int} {rev : Bool} {err : Value} (h0 : (Decidable.decide ((i : Int) < (N : Int))) = true) (h1 : (Decidable.decide (0 ≤ (i : Int) ∧ (i : Int) < (N : Int))) = true) (h2 : (kind == 2) = true) (h3 : (Decidable.decide ((key.data.toList.length : Int) ≥ 1)) = true) (h4 : (!Decidable.decide ((key.data.toList.length : Int) ≤ 16)) = false) (h5 : (bigOk (m1 + (0 + 1)) 16) = true) (h6 : (now == g) = false) (h7 : (Decidable.decide (k ≥ 0)) = true) (h8 : (!Decidable.decide (k < c)) = false) (h9 : (Decidable.decide (IntKind.i64.wrap (now + 1) < 1)) = false) (h10 : (Decidable.decide (IntKind.i64.wrap (now + 1) > IntKind.i64.wrap (now + 1))) = false) (h11 : (Decidable.decide ((0 : Int) ≤ 0 ∧ 0 < ((q + 1 : Nat) : Int))) = true) (h12 : (Decidable.decide (0 ≤ IntKind.i64.wrap (1 - 1) ∧ IntKind.i64.wrap (1 - 1) < ((s + 1 : Nat) : Int))) = true) (h13 : (Decidable.decide (cmpB { data := #[] } key ≤ 0)) = true) (h14 : (k == k) = true) (hc : ArgCells W.heap.size W blk (off + i * 9) (act kind reads key value low high unb limit rev))  :
    Sx.Goes Tryz.prog 80 82 500 (alH [(0, .args W.heap.size W)] s q c d e g now count k m1 m2 err) al (alT (.slice (some ⟨ba, oa, some 0⟩) M ca) M k (.slice (some ⟨blk, off, some 0⟩) N cap) N i) (alH [(0, .args W.heap.size W)] s q c d e g (IntKind.i64.wrap (now + 1)) (IntKind.i64.wrap (IntKind.i64.wrap (IntKind.i64.wrap (IntKind.i64.wrap (IntKind.i64.wrap (count + 1) + 1) + 1) + 1) + 1)) k ((m1 + (0 + 1))) (m2) .nilIface) (mkT 147 0 [(1, .pointer (some ⟨1, 0, none⟩)), (3, .pointer (some ⟨25, 0, none⟩)), (5, .int .i64 1), (8, .pointer (some ⟨61, 0, none⟩)), (39, .slice (some ⟨ba, oa, some 0⟩) M ca), (40, .int .i64 M), (41, .int .i64 k), (55, .slice (some ⟨blk, off, some 0⟩) N cap), (56, .int .i64 N), (57, .int .i64 (IntKind.i64.wrap ((i : Int) + 1)))]) :=
  goes_of mixed con4_holds [(80, 89), (81, 81)] [(0, false), (6, true), (7, false), (8, true), (9, false), (10, false), (11, false), (12, false), (17, false), (18, false), (22, false), (24, false), (25, false), (60, false), (61, false), (89, false), (81, false)] (d := [(0, .br true), (1, .br true), (5, .br true), (21, .br true), (22, .br true), (23, .br true), (24, .br true), (25, .br false), (43, .br true), (99, .br true), (100, .br true), (101, .br true), (102, .br true), (105, .br false), (164, .br false), (210, .br true), (211, .br true), (212, .br true), (213, .br true), (214, .br true), (216, .br true), (217, .br true), (218, .br false), (221, .br false), (222, .br false), (223, .br false), (224, .br false), (225, .br false), (227, .br false), (228, .br false), (229, .br false), (294, .br true), (390, .br true), (615, .br true), (616, .br true), (621, .br true), (623, .br true), (724, .br true), (725, .br true), (726, .br true), (727, .br true), (728, .br true), (730, .br true), (731, .br true), (732, .br false), (734, .br true), (737, .br true), (2, .cell (.tuple ⟨(((act kind reads key value low high unb limit rev).drop 0).take 9)⟩))]) (n := 900) (c2 := 194) (L' := [.p (Cover (slotsL s) ((slotsL s).map (renV (nameOf [(80, 89), (81, 81)] 80 500) 9))), .p (Cover (pagesL q) ((pagesL q).map (renV (nameOf [(80, 89), (81, 81)] 80 500) 9)))]) (L := [.b ((k == k) == true), .b ((k == k) == true), .b ((!Decidable.decide (k < c)) == false), .b ((Decidable.decide (k ≥ 0)) == true), .b ((Decidable.decide (k ≥ 0)) == true), .b ((Decidable.decide (k ≥ 0)) == true), .b ((Decidable.decide (k ≥ 0)) == true), .b ((Decidable.decide (k ≥ 0)) == true), .b ((Decidable.decide (k ≥ 0)) == true), .b ((Decidable.decide (k ≥ 0)) == true), .b ((Decidable.decide (cmpB { data := #[] } key ≤ 0)) == true), .b ((Decidable.decide (cmpB { data := #[] } key ≤ 0)) == true), .b ((Decidable.decide (cmpB { data := #[] } key ≤ 0)) == true), .b ((Decidable.decide (cmpB { data := #[] } key ≤ 0)) == true), .b (Decidable.decide (0 ≤ IntKind.i64.wrap (1 - 1) ∧ IntKind.i64.wrap (1 - 1) < ((s + 1 : Nat) : Int))), .b (Decidable.decide ((0 : Int) ≤ 0 ∧ 0 < ((q + 1 : Nat) : Int))), .b ((Decidable.decide (IntKind.i64.wrap (now + 1) > IntKind.i64.wrap (now + 1))) == false), .b ((Decidable.decide (IntKind.i64.wrap (now + 1) < 1)) == false), .b ((Decidable.decide (IntKind.i64.wrap (now + 1) < 1)) == false), .b ((Decidable.decide (IntKind.i64.wrap (now + 1) < 1)) == false), .b ((Decidable.decide (IntKind.i64.wrap (now + 1) < 1)) == false), .b ((Decidable.decide (IntKind.i64.wrap (now + 1) < 1)) == false), .b ((Decidable.decide (IntKind.i64.wrap (now + 1) < 1)) == false), .b ((Decidable.decide (IntKind.i64.wrap (now + 1) < 1)) == false), .b ((!Decidable.decide (k < c)) == false), .b ((Decidable.decide (k ≥ 0)) == true), .b ((Decidable.decide (k ≥ 0)) == true), .b ((Decidable.decide (k ≥ 0)) == true), .b ((Decidable.decide (k ≥ 0)) == true), .b ((Decidable.decide (k ≥ 0)) == true), .b ((Decidable.decide (k ≥ 0)) == true), .b ((Decidable.decide (k ≥ 0)) == true), .b ((now == g) == false), .b ((!Decidable.decide ((key.data.toList.length : Int) ≤ 16)) == false), .b ((Decidable.decide ((key.data.toList.length : Int) ≥ 1)) == true), .b ((Decidable.decide ((key.data.toList.length : Int) ≥ 1)) == true), .b ((Decidable.decide ((key.data.toList.length : Int) ≥ 1)) == true), .b ((Decidable.decide ((key.data.toList.length : Int) ≥ 1)) == true), .b (bigOk (m1 + (0 + 1)) 16), .b ((!Decidable.decide ((key.data.toList.length : Int) ≤ 16)) == false), .b ((Decidable.decide ((key.data.toList.length : Int) ≥ 1)) == true), .b ((Decidable.decide ((key.data.toList.length : Int) ≥ 1)) == true), .b ((Decidable.decide ((key.data.toList.length : Int) ≥ 1)) == true), .b ((Decidable.decide ((key.data.toList.length : Int) ≥ 1)) == true), .b ((kind == 2) == true), .p (ArgCells W.heap.size W blk (off + i * 9 + 0) (((act kind reads key value low high unb limit rev).drop 0).take 9) ∧ (((act kind reads key value low high unb limit rev).drop 0).take 9).length = 9), .b (Decidable.decide (0 ≤ (i : Int) ∧ (i : Int) < (N : Int))), .b ((Decidable.decide ((i : Int) < (N : Int))) == true)]) (by kernel_rfl) rfl rfl (vcs_cons (cover_slots (nm := nameOf [(80, 89), (81, 81)] 80 500) rfl rfl s) (vcs_cons (cover_pages (nm := nameOf [(80, 89), (81, 81)] 80 500) q) vcs_nil))
    (by
      refine vcs_cons (vc_b h14) ?_
      refine vcs_cons (vc_b h14) ?_
      refine vcs_cons (vc_b h8) ?_
      refine vcs_cons (vc_b h7) ?_
      refine vcs_cons (vc_b h7) ?_
      refine vcs_cons (vc_b h7) ?_
      refine vcs_cons (vc_b h7) ?_
      refine vcs_cons (vc_b h7) ?_
      refine vcs_cons (vc_b h7) ?_
      refine vcs_cons (vc_b h7) ?_
      refine vcs_cons (vc_b h13) ?_
      refine vcs_cons (vc_b h13) ?_
      refine vcs_cons (vc_b h13) ?_
      refine vcs_cons (vc_b h13) ?_
      refine vcs_cons (vc_c h12) ?_
      refine vcs_cons (vc_c h11) ?_
      refine vcs_cons (vc_b h10) ?_
      refine vcs_cons (vc_b h9) ?_
      refine vcs_cons (vc_b h9) ?_
      refine vcs_cons (vc_b h9) ?_
      refine vcs_cons (vc_b h9) ?_
      refine vcs_cons (vc_b h9) ?_
      refine vcs_cons (vc_b h9) ?_
      refine vcs_cons (vc_b h9) ?_
      refine vcs_cons (vc_b h8) ?_
      refine vcs_cons (vc_b h7) ?_
      refine vcs_cons (vc_b h7) ?_
      refine vcs_cons (vc_b h7) ?_
      refine vcs_cons (vc_b h7) ?_
      refine vcs_cons (vc_b h7) ?_
      refine vcs_cons (vc_b h7) ?_
      refine vcs_cons (vc_b h7) ?_
      refine vcs_cons (vc_b h6) ?_
      refine vcs_cons (vc_b h4) ?_
      refine vcs_cons (vc_b h3) ?_
      refine vcs_cons (vc_b h3) ?_
      refine vcs_cons (vc_b h3) ?_
      refine vcs_cons (vc_b h3) ?_
      refine vcs_cons (vc_c h5) ?_
      refine vcs_cons (vc_b h4) ?_
      refine vcs_cons (vc_b h3) ?_
      refine vcs_cons (vc_b h3) ?_
      refine vcs_cons (vc_b h3) ?_
      refine vcs_cons (vc_b h3) ?_
      refine vcs_cons (vc_b h2) ?_
      refine vcs_cons (⟨args_sub hc 0 9, rfl⟩) ?_
      refine vcs_cons (vc_c h1) ?_
      refine vcs_cons (vc_b h0) ?_
      exact vcs_nil)
end Go.Proofs.YtglaapelpidfhaaGreat
