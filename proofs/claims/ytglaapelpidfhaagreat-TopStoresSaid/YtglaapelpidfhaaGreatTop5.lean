/- The pieces behind the store. No condition. -/
import Derived.Test.YtglaapelpidfhaaGreatTop4
namespace Go.Proofs.YtglaapelpidfhaaGreat
open Go Go.Sx
/-- The pieces behind the store. -/
noncomputable def rg6 : Code := subC [1, 1, 1, 1, 0] (bodyC 3)
noncomputable def rg7 : Code := subC [1, 1, 1, 1, 1, 0, 0] (bodyC 3)
noncomputable def rg32 : Code := subC [1, 1, 1, 1, 1, 1, 0] (bodyC 3)
noncomputable def rg33 : Code := subC [1, 1, 1, 1, 1, 1, 1] (bodyC 3)
set_option maxRecDepth 100000 in
theorem top_p3 {W : World} {s q : Nat} {c d e g : Int} {ba oa M ca : Nat}   :
    Does Tryz.prog 26 (topH W (.ofNat (s + 1)) (.ofNat (q + 1)) c d e g (.slice (some ⟨ba, oa, some 0⟩) M ca) (.chan none) ++ (storeH s q c d e g 1 0 ++ [(23, .map [])])) 26 (topH W (.ofNat (s + 1)) (.ofNat (q + 1)) c d e g (.slice (some ⟨ba, oa, some 0⟩) M ca) (.chan none) ++ (storeH s q c d e g 1 0 ++ [(23, .map [])])) (.code tp3 (mkT 147 0 [(1, .pointer (some ⟨1, 0, none⟩)), (3, .pointer (some ⟨25, 0, none⟩)), (4, .nilIface)])) (.out .normal (mkT 147 0 [(1, .pointer (some ⟨1, 0, none⟩)), (3, .pointer (some ⟨25, 0, none⟩))])) :=
  does_of mixed con4_holds [] [(0, false), (1, false), (6, true), (7, false), (8, true), (9, false), (10, false), (11, false), (12, false), (17, false), (18, false), (22, false), (24, false), (25, false), (23, false)] (d := []) (n := 900) (c2 := 26) (L' := [.p (Cover (slotsL s) ((slotsL s).map (renV (nameOf [] 26 26) 9))), .p (Cover (pagesL q) ((pagesL q).map (renV (nameOf [] 26 26) 9)))]) (L := []) (by kernel_rfl) rfl rfl (vcs_cons (cover_slots (nm := nameOf [] 26 26) rfl rfl s) (vcs_cons (cover_pages (nm := nameOf [] 26 26) q) vcs_nil))
    (by
      exact vcs_nil)
set_option maxRecDepth 100000 in
theorem top_p6 {W : World} {s q : Nat} {c d e g : Int} {ba oa M ca : Nat}  (hl : Does Tryz.prog 26 (slH s) 60 (slH s) (.inLoop lv (lvT (.slice none 0 0) s 0)) (.out (.exit 0) (mkT 30 0 [(3, .slice (some ⟨26, 0, none⟩) 1 0)]))) :
    Does Tryz.prog 26 (topH W (.ofNat (s + 1)) (.ofNat (q + 1)) c d e g (.slice (some ⟨ba, oa, some 0⟩) M ca) (.chan none) ++ (storeH s q c d e g 1 0 ++ [(23, .map [])])) 60 (topH W (.ofNat (s + 1)) (.ofNat (q + 1)) c d e g (.slice (some ⟨ba, oa, some 0⟩) M ca) (.chan none) ++ (storeH s q c d e g 1 0 ++ [(23, .map [])])) (.code rg6 (mkT 147 0 [(1, .pointer (some ⟨1, 0, none⟩)), (3, .pointer (some ⟨25, 0, none⟩))])) (.out .normal (mkT 147 0 [(1, .pointer (some ⟨1, 0, none⟩)), (3, .pointer (some ⟨25, 0, none⟩)), (5, .int .i64 1)])) :=
  does_of mixed con4_holds [] [(0, false), (1, false), (6, true), (7, false), (8, true), (9, false), (10, false), (11, false), (12, false), (17, false), (18, false), (22, false), (24, false), (25, false), (23, false)] (d := [(5, .loop [3, 11, 12, 13] [6] 60 (slH s) (.exit 0) (mkT 30 0 [(3, .slice (some ⟨26, 0, none⟩) 1 0)]))]) (n := 900) (c2 := 60) (L' := [.p (Cover (slotsL s) ((slotsL s).map (renV (nameOf [] 26 60) 9))), .p (Cover (pagesL q) ((pagesL q).map (renV (nameOf [] 26 60) 9)))]) (L := [.p (Does Tryz.prog 26 (slH s) 60 (slH s) (.inLoop lv (lvT (.slice none 0 0) s 0)) (.out (.exit 0) (mkT 30 0 [(3, .slice (some ⟨26, 0, none⟩) 1 0)])))]) (by kernel_rfl) rfl rfl (vcs_cons (cover_slots (nm := nameOf [] 26 60) rfl rfl s) (vcs_cons (cover_pages (nm := nameOf [] 26 60) q) vcs_nil))
    (by
      refine vcs_cons (hl) ?_
      exact vcs_nil)
set_option maxRecDepth 100000 in
theorem top_p7 {W : World} {s q : Nat} {c d e g : Int} {ba oa M ca : Nat}   :
    Does Tryz.prog 60 (topH W (.ofNat (s + 1)) (.ofNat (q + 1)) c d e g (.slice (some ⟨ba, oa, some 0⟩) M ca) (.chan none) ++ (storeH s q c d e g 1 0 ++ [(23, .map [])])) 60 ((0, .args W.heap.size W) :: storeH s q c d e g 1 0 ++ [(23, .map [])]) (.code rg7 (mkT 147 0 [(1, .pointer (some ⟨1, 0, none⟩)), (3, .pointer (some ⟨25, 0, none⟩)), (5, .int .i64 1)])) (.out .normal (mkT 147 0 [(1, .pointer (some ⟨1, 0, none⟩)), (3, .pointer (some ⟨25, 0, none⟩)), (5, .int .i64 1), (39, .slice (some ⟨ba, oa, some 0⟩) M ca), (40, .int .i64 M), (41, .int .i64 0)])) :=
  does_of mixed con4_holds [] [(0, false), (6, true), (7, false), (8, true), (9, false), (10, false), (11, false), (12, false), (17, false), (18, false), (22, false), (24, false), (25, false), (23, false)] (d := []) (n := 900) (c2 := 60) (L' := [.p (Cover (slotsL s) ((slotsL s).map (renV (nameOf [] 60 60) 9))), .p (Cover (pagesL q) ((pagesL q).map (renV (nameOf [] 60 60) 9)))]) (L := []) (by kernel_rfl) rfl rfl (vcs_cons (cover_slots (nm := nameOf [] 60 60) rfl rfl s) (vcs_cons (cover_pages (nm := nameOf [] 60 60) q) vcs_nil))
    (by
      exact vcs_nil)
set_option maxRecDepth 100000 in
theorem top_p32 {W : World} {s q : Nat} {c d e g now count : Int} (h0 : (Decidable.decide ((0 : Int) ≤ 0 ∧ 0 < ((q + 1 : Nat) : Int))) = true) (h1 : (Decidable.decide (0 ≤ IntKind.i64.wrap (1 - 1) ∧ IntKind.i64.wrap (1 - 1) < ((s + 1 : Nat) : Int))) = true) (hl1 : Does Tryz.prog 600 (pgH q) 610 (pgH q) (.inLoop pg (pgT (.slice none 0 0) q 0)) (.out (.exit 0) (mkT 26 0 [(3, .slice (some ⟨600, 0, none⟩) 1 0)]))) (hl2 : Does Tryz.prog 648 (pgH q) 660 (pgH q) (.inLoop pg (pgT (.slice none 0 0) q 0)) (.out (.exit 0) (mkT 26 0 [(3, .slice (some ⟨648, 0, none⟩) 1 0)]))) :
    Does Tryz.prog 600 ((0, .args W.heap.size W) :: storeH s q c d e g now count) 700 ((0, .args W.heap.size W) :: storeH s q c d e g now count) (.code rg32 (mkT 147 0 [(1, .pointer (some ⟨1, 0, none⟩)), (3, .pointer (some ⟨25, 0, none⟩)), (5, .int .i64 1)])) (.out .normal (mkT 147 0 [(1, .pointer (some ⟨1, 0, none⟩)), (3, .pointer (some ⟨25, 0, none⟩)), (5, .int .i64 1), (14, .slice none 0 0), (15, .nilIface)])) :=
  does_of mixed con4_holds [] [(0, false), (6, true), (7, false), (8, true), (9, false), (10, false), (11, false), (12, false), (17, false), (18, false), (22, false), (24, false), (25, false)] (d := [(23, .br true), (66, .br true), (252, .br true), (295, .br true), (6, .loop [3, 11, 12, 13] [8] 610 (pgH q) (.exit 0) (mkT 26 0 [(3, .slice (some ⟨600, 0, none⟩) 1 0)])), (233, .loop [3, 11, 12, 13] [8] 660 (pgH q) (.exit 0) (mkT 26 0 [(3, .slice (some ⟨648, 0, none⟩) 1 0)]))]) (n := 900) (c2 := 686) (L' := [.p (Cover (slotsL s) ((slotsL s).map (renV (nameOf [] 600 700) 9))), .p (Cover (pagesL q) ((pagesL q).map (renV (nameOf [] 600 700) 9)))]) (L := [.b (Decidable.decide (0 ≤ IntKind.i64.wrap (1 - 1) ∧ IntKind.i64.wrap (1 - 1) < ((s + 1 : Nat) : Int))), .b (Decidable.decide ((0 : Int) ≤ 0 ∧ 0 < ((q + 1 : Nat) : Int))), .p (Does Tryz.prog 648 (pgH q) 660 (pgH q) (.inLoop pg (pgT (.slice none 0 0) q 0)) (.out (.exit 0) (mkT 26 0 [(3, .slice (some ⟨648, 0, none⟩) 1 0)]))), .b (Decidable.decide (0 ≤ IntKind.i64.wrap (1 - 1) ∧ IntKind.i64.wrap (1 - 1) < ((s + 1 : Nat) : Int))), .b (Decidable.decide ((0 : Int) ≤ 0 ∧ 0 < ((q + 1 : Nat) : Int))), .p (Does Tryz.prog 600 (pgH q) 610 (pgH q) (.inLoop pg (pgT (.slice none 0 0) q 0)) (.out (.exit 0) (mkT 26 0 [(3, .slice (some ⟨600, 0, none⟩) 1 0)])))]) (by kernel_rfl) rfl rfl (vcs_cons (cover_slots (nm := nameOf [] 600 700) rfl rfl s) (vcs_cons (cover_pages (nm := nameOf [] 600 700) q) vcs_nil))
    (by
      refine vcs_cons (vc_c h1) ?_
      refine vcs_cons (vc_c h0) ?_
      refine vcs_cons (hl2) ?_
      refine vcs_cons (vc_c h1) ?_
      refine vcs_cons (vc_c h0) ?_
      refine vcs_cons (hl1) ?_
      exact vcs_nil)
set_option maxRecDepth 100000 in
theorem top_p33 {W : World} {s q : Nat} {c d e g now count : Int}  (hl : Does Tryz.prog 700 (slH s) 710 (slH s) (.inLoop lv (lvT (.slice none 0 0) s 0)) (.out (.exit 0) (mkT 30 0 [(3, .slice (some ⟨700, 0, none⟩) 1 0)]))) :
    Does Tryz.prog 700 ((0, .args W.heap.size W) :: storeH s q c d e g now count) 800 [(0, .args W.heap.size W)] (.code rg33 (mkT 147 0 [(1, .pointer (some ⟨1, 0, none⟩)), (3, .pointer (some ⟨25, 0, none⟩)), (5, .int .i64 1), (14, .slice none 0 0), (15, .nilIface)])) (.out .ret (mkT 147 0 [(2, .bool true)])) :=
  does_of mixed con4_holds [] [(0, false)] (d := [(12, .loop [3, 11, 12, 13] [6] 710 (slH s) (.exit 0) (mkT 30 0 [(3, .slice (some ⟨700, 0, none⟩) 1 0)]))]) (n := 900) (c2 := 710) (L' := []) (L := [.p (Does Tryz.prog 700 (slH s) 710 (slH s) (.inLoop lv (lvT (.slice none 0 0) s 0)) (.out (.exit 0) (mkT 30 0 [(3, .slice (some ⟨700, 0, none⟩) 1 0)])))]) (by kernel_rfl) rfl rfl (vcs_nil)
    (by
      refine vcs_cons (hl) ?_
      exact vcs_nil)
end Go.Proofs.YtglaapelpidfhaaGreat
