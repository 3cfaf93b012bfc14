/- TopStores' beginning: its box, and Few. No condition. -/
import Derived.Test.YtglaapelpidfhaaGreatFew3
import Derived.Test.YtglaapelpidfhaaGreatSxSeq
namespace Go.Proofs.YtglaapelpidfhaaGreat
open Go Go.Sx
noncomputable def playL (a b c d e g : Int) (acts turns : Value) : List Value := [.int .i64 a, .int .i64 b, .int .i64 c, .int .i64 d, .int .i64 e, .int .i64 g, acts, turns]
/-- TopStores' first pieces. -/
noncomputable def tp0 : Code := subC [0] (bodyC 3)
noncomputable def tp1 : Code := subC [1, 0] (bodyC 3)
noncomputable def topH (W : World) (a b c d e g : Int) (acts turns : Value) : Heap := [(0, .args W.heap.size W), (1, .cells (playL a b c d e g acts turns) 27)]
noncomputable def top1T : List Value := mkT 147 0 [(1, .pointer (some ⟨1, 0, none⟩))]
theorem top_0 {W : World} {a b c d e g : Int} {acts turns : Value} :
    Does Tryz.prog 1 (argsHeap W) 2 (topH W a b c d e g acts turns) (.code tp0 ([.agg ⟨playL a b c d e g acts turns⟩] ++ List.replicate 146 undef)) (.out .normal top1T) :=
  does_raw mixed con3_holds (d := []) (n := 600) (l := [(1, .pointer (some ⟨1, 0, none⟩))]) (L := []) (by kernel_rfl) vcs_nil
set_option maxRecDepth 100000 in
theorem top_few {W : World} {a b c d e g n : Int} {ba oa M ca : Nat} {pt : Option Addr} {Tn ct : Nat}  (hl : Does Tryz.prog 3 (argsHeap W) 3 (argsHeap W) (.inLoop fo (foT 0 ba oa M ca 0)) (.out .ret (mkT 105 0 [(2, .bool false)]))) :
    Does Tryz.prog 2 (topH W a b c d e g (.slice (some ⟨ba, oa, some 0⟩) M ca) (.slice pt Tn ct)) 3 (argsHeap W) (.code tp1 top1T) (.out .ret (mkT 147 0 [(2, .bool true)])) :=
  does_of mixed con3_holds [] [(0, false)] (d := [(2, .loop [1, 3, 8, 9, 10] [0] 3 (argsHeap W) .ret (mkT 105 0 [(2, .bool false)]))]) (n := 600) (c2 := 3) (L' := []) (L := [.p (Does Tryz.prog 3 (argsHeap W) 3 (argsHeap W) (.inLoop fo (foT 0 ba oa M ca 0)) (.out .ret (mkT 105 0 [(2, .bool false)])))]) (by kernel_rfl) rfl rfl (vcs_nil)
    (by
      refine vcs_cons (hl) ?_
      exact vcs_nil)
set_option maxRecDepth 100000 in
theorem top_right {W : World} {a b c d e g n : Int} {ba oa M ca : Nat} {pt : Option Addr} {Tn ct : Nat} (h0 : (Go.Proofs.YtglaapelpidfhaaGreat.rightB a b c d e g) = false) (hl : Does Tryz.prog 3 (argsHeap W) 3 (argsHeap W) (.inLoop fo (foT 0 ba oa M ca 0)) (.out (.exit 0) (mkT 105 0 [(1, .pointer (some ⟨2, 0, none⟩)), (3, .int .i64 n)]))) :
    Does Tryz.prog 2 (topH W a b c d e g (.slice (some ⟨ba, oa, some 0⟩) M ca) (.slice pt Tn ct)) 3 (argsHeap W) (.code tp1 top1T) (.out .ret (mkT 147 0 [(2, .bool true)])) :=
  does_of mixed con3_holds [] [(0, false)] (d := [(4, .br false), (5, .br false), (6, .br false), (7, .br false), (8, .br false), (2, .loop [1, 3, 8, 9, 10] [0] 3 (argsHeap W) (.exit 0) (mkT 105 0 [(1, .pointer (some ⟨2, 0, none⟩)), (3, .int .i64 n)]))]) (n := 600) (c2 := 3) (L' := []) (L := [.b ((Go.Proofs.YtglaapelpidfhaaGreat.rightB a b c d e g) == false), .b ((Go.Proofs.YtglaapelpidfhaaGreat.rightB a b c d e g) == false), .b ((Go.Proofs.YtglaapelpidfhaaGreat.rightB a b c d e g) == false), .b ((Go.Proofs.YtglaapelpidfhaaGreat.rightB a b c d e g) == false), .b ((Go.Proofs.YtglaapelpidfhaaGreat.rightB a b c d e g) == false), .p (Does Tryz.prog 3 (argsHeap W) 3 (argsHeap W) (.inLoop fo (foT 0 ba oa M ca 0)) (.out (.exit 0) (mkT 105 0 [(1, .pointer (some ⟨2, 0, none⟩)), (3, .int .i64 n)])))]) (by kernel_rfl) rfl rfl (vcs_nil)
    (by
      refine vcs_cons (vc_b h0) ?_
      refine vcs_cons (vc_b h0) ?_
      refine vcs_cons (vc_b h0) ?_
      refine vcs_cons (vc_b h0) ?_
      refine vcs_cons (vc_b h0) ?_
      refine vcs_cons (hl) ?_
      exact vcs_nil)
set_option maxRecDepth 100000 in
theorem top_s {W : World} {a b c d e g n : Int} {ba oa M ca : Nat} {pt : Option Addr} {Tn ct : Nat} (h0 : (Go.Proofs.YtglaapelpidfhaaGreat.rightB a b c d e g) = true) (h1 : (Decidable.decide (a ≤ 300)) = false) (hl : Does Tryz.prog 3 (argsHeap W) 3 (argsHeap W) (.inLoop fo (foT 0 ba oa M ca 0)) (.out (.exit 0) (mkT 105 0 [(1, .pointer (some ⟨2, 0, none⟩)), (3, .int .i64 n)]))) :
    Does Tryz.prog 2 (topH W a b c d e g (.slice (some ⟨ba, oa, some 0⟩) M ca) (.slice pt Tn ct)) 3 (argsHeap W) (.code tp1 top1T) (.out .ret (mkT 147 0 [(2, .bool true)])) :=
  does_of mixed con3_holds [] [(0, false)] (d := [(4, .br true), (5, .br true), (6, .br true), (8, .br true), (9, .br true), (10, .br false), (11, .br false), (12, .br false), (13, .br false), (14, .br false), (2, .loop [1, 3, 8, 9, 10] [0] 3 (argsHeap W) (.exit 0) (mkT 105 0 [(1, .pointer (some ⟨2, 0, none⟩)), (3, .int .i64 n)]))]) (n := 600) (c2 := 3) (L' := []) (L := [.b ((Decidable.decide (a ≤ 300)) == false), .b ((Decidable.decide (a ≤ 300)) == false), .b ((Decidable.decide (a ≤ 300)) == false), .b ((Decidable.decide (a ≤ 300)) == false), .b ((Decidable.decide (a ≤ 300)) == false), .b ((Go.Proofs.YtglaapelpidfhaaGreat.rightB a b c d e g) == true), .b ((Go.Proofs.YtglaapelpidfhaaGreat.rightB a b c d e g) == true), .b ((Go.Proofs.YtglaapelpidfhaaGreat.rightB a b c d e g) == true), .b ((Go.Proofs.YtglaapelpidfhaaGreat.rightB a b c d e g) == true), .b ((Go.Proofs.YtglaapelpidfhaaGreat.rightB a b c d e g) == true), .p (Does Tryz.prog 3 (argsHeap W) 3 (argsHeap W) (.inLoop fo (foT 0 ba oa M ca 0)) (.out (.exit 0) (mkT 105 0 [(1, .pointer (some ⟨2, 0, none⟩)), (3, .int .i64 n)])))]) (by kernel_rfl) rfl rfl (vcs_nil)
    (by
      refine vcs_cons (vc_b h1) ?_
      refine vcs_cons (vc_b h1) ?_
      refine vcs_cons (vc_b h1) ?_
      refine vcs_cons (vc_b h1) ?_
      refine vcs_cons (vc_b h1) ?_
      refine vcs_cons (vc_b h0) ?_
      refine vcs_cons (vc_b h0) ?_
      refine vcs_cons (vc_b h0) ?_
      refine vcs_cons (vc_b h0) ?_
      refine vcs_cons (vc_b h0) ?_
      refine vcs_cons (hl) ?_
      exact vcs_nil)
set_option maxRecDepth 100000 in
theorem top_q {W : World} {a b c d e g n : Int} {ba oa M ca : Nat} {pt : Option Addr} {Tn ct : Nat} (h0 : (Go.Proofs.YtglaapelpidfhaaGreat.rightB a b c d e g) = true) (h1 : (Decidable.decide (a ≤ 300)) = true) (h2 : (Decidable.decide (b ≤ 60)) = false) (hl : Does Tryz.prog 3 (argsHeap W) 3 (argsHeap W) (.inLoop fo (foT 0 ba oa M ca 0)) (.out (.exit 0) (mkT 105 0 [(1, .pointer (some ⟨2, 0, none⟩)), (3, .int .i64 n)]))) :
    Does Tryz.prog 2 (topH W a b c d e g (.slice (some ⟨ba, oa, some 0⟩) M ca) (.slice pt Tn ct)) 3 (argsHeap W) (.code tp1 top1T) (.out .ret (mkT 147 0 [(2, .bool true)])) :=
  does_of mixed con3_holds [] [(0, false)] (d := [(4, .br true), (5, .br true), (6, .br true), (8, .br true), (9, .br true), (10, .br true), (11, .br true), (12, .br true), (14, .br true), (15, .br true), (16, .br false), (17, .br false), (18, .br false), (19, .br false), (20, .br false), (2, .loop [1, 3, 8, 9, 10] [0] 3 (argsHeap W) (.exit 0) (mkT 105 0 [(1, .pointer (some ⟨2, 0, none⟩)), (3, .int .i64 n)]))]) (n := 600) (c2 := 3) (L' := []) (L := [.b ((Decidable.decide (b ≤ 60)) == false), .b ((Decidable.decide (b ≤ 60)) == false), .b ((Decidable.decide (b ≤ 60)) == false), .b ((Decidable.decide (b ≤ 60)) == false), .b ((Decidable.decide (b ≤ 60)) == false), .b ((Decidable.decide (a ≤ 300)) == true), .b ((Decidable.decide (a ≤ 300)) == true), .b ((Decidable.decide (a ≤ 300)) == true), .b ((Decidable.decide (a ≤ 300)) == true), .b ((Decidable.decide (a ≤ 300)) == true), .b ((Go.Proofs.YtglaapelpidfhaaGreat.rightB a b c d e g) == true), .b ((Go.Proofs.YtglaapelpidfhaaGreat.rightB a b c d e g) == true), .b ((Go.Proofs.YtglaapelpidfhaaGreat.rightB a b c d e g) == true), .b ((Go.Proofs.YtglaapelpidfhaaGreat.rightB a b c d e g) == true), .b ((Go.Proofs.YtglaapelpidfhaaGreat.rightB a b c d e g) == true), .p (Does Tryz.prog 3 (argsHeap W) 3 (argsHeap W) (.inLoop fo (foT 0 ba oa M ca 0)) (.out (.exit 0) (mkT 105 0 [(1, .pointer (some ⟨2, 0, none⟩)), (3, .int .i64 n)])))]) (by kernel_rfl) rfl rfl (vcs_nil)
    (by
      refine vcs_cons (vc_b h2) ?_
      refine vcs_cons (vc_b h2) ?_
      refine vcs_cons (vc_b h2) ?_
      refine vcs_cons (vc_b h2) ?_
      refine vcs_cons (vc_b h2) ?_
      refine vcs_cons (vc_b h1) ?_
      refine vcs_cons (vc_b h1) ?_
      refine vcs_cons (vc_b h1) ?_
      refine vcs_cons (vc_b h1) ?_
      refine vcs_cons (vc_b h1) ?_
      refine vcs_cons (vc_b h0) ?_
      refine vcs_cons (vc_b h0) ?_
      refine vcs_cons (vc_b h0) ?_
      refine vcs_cons (vc_b h0) ?_
      refine vcs_cons (vc_b h0) ?_
      refine vcs_cons (hl) ?_
      exact vcs_nil)
set_option maxRecDepth 100000 in
theorem top_c {W : World} {a b c d e g n : Int} {ba oa M ca : Nat} {pt : Option Addr} {Tn ct : Nat} (h0 : (Go.Proofs.YtglaapelpidfhaaGreat.rightB a b c d e g) = true) (h1 : (Decidable.decide (a ≤ 300)) = true) (h2 : (Decidable.decide (b ≤ 60)) = true) (h3 : (Decidable.decide (c ≤ 8)) = false) (hl : Does Tryz.prog 3 (argsHeap W) 3 (argsHeap W) (.inLoop fo (foT 0 ba oa M ca 0)) (.out (.exit 0) (mkT 105 0 [(1, .pointer (some ⟨2, 0, none⟩)), (3, .int .i64 n)]))) :
    Does Tryz.prog 2 (topH W a b c d e g (.slice (some ⟨ba, oa, some 0⟩) M ca) (.slice pt Tn ct)) 3 (argsHeap W) (.code tp1 top1T) (.out .ret (mkT 147 0 [(2, .bool true)])) :=
  does_of mixed con3_holds [] [(0, false)] (d := [(4, .br true), (5, .br true), (6, .br true), (8, .br true), (9, .br true), (10, .br true), (11, .br true), (12, .br true), (14, .br true), (15, .br true), (16, .br true), (17, .br true), (18, .br true), (20, .br true), (21, .br true), (22, .br false), (23, .br false), (24, .br false), (25, .br false), (26, .br false), (27, .br false), (28, .br false), (29, .br false), (2, .loop [1, 3, 8, 9, 10] [0] 3 (argsHeap W) (.exit 0) (mkT 105 0 [(1, .pointer (some ⟨2, 0, none⟩)), (3, .int .i64 n)]))]) (n := 600) (c2 := 3) (L' := []) (L := [.b ((Decidable.decide (c ≤ 8)) == false), .b ((Decidable.decide (c ≤ 8)) == false), .b ((Decidable.decide (c ≤ 8)) == false), .b ((Decidable.decide (c ≤ 8)) == false), .b ((Decidable.decide (c ≤ 8)) == false), .b ((Decidable.decide (c ≤ 8)) == false), .b ((Decidable.decide (c ≤ 8)) == false), .b ((Decidable.decide (c ≤ 8)) == false), .b ((Decidable.decide (b ≤ 60)) == true), .b ((Decidable.decide (b ≤ 60)) == true), .b ((Decidable.decide (b ≤ 60)) == true), .b ((Decidable.decide (b ≤ 60)) == true), .b ((Decidable.decide (b ≤ 60)) == true), .b ((Decidable.decide (a ≤ 300)) == true), .b ((Decidable.decide (a ≤ 300)) == true), .b ((Decidable.decide (a ≤ 300)) == true), .b ((Decidable.decide (a ≤ 300)) == true), .b ((Decidable.decide (a ≤ 300)) == true), .b ((Go.Proofs.YtglaapelpidfhaaGreat.rightB a b c d e g) == true), .b ((Go.Proofs.YtglaapelpidfhaaGreat.rightB a b c d e g) == true), .b ((Go.Proofs.YtglaapelpidfhaaGreat.rightB a b c d e g) == true), .b ((Go.Proofs.YtglaapelpidfhaaGreat.rightB a b c d e g) == true), .b ((Go.Proofs.YtglaapelpidfhaaGreat.rightB a b c d e g) == true), .p (Does Tryz.prog 3 (argsHeap W) 3 (argsHeap W) (.inLoop fo (foT 0 ba oa M ca 0)) (.out (.exit 0) (mkT 105 0 [(1, .pointer (some ⟨2, 0, none⟩)), (3, .int .i64 n)])))]) (by kernel_rfl) rfl rfl (vcs_nil)
    (by
      refine vcs_cons (vc_b h3) ?_
      refine vcs_cons (vc_b h3) ?_
      refine vcs_cons (vc_b h3) ?_
      refine vcs_cons (vc_b h3) ?_
      refine vcs_cons (vc_b h3) ?_
      refine vcs_cons (vc_b h3) ?_
      refine vcs_cons (vc_b h3) ?_
      refine vcs_cons (vc_b h3) ?_
      refine vcs_cons (vc_b h2) ?_
      refine vcs_cons (vc_b h2) ?_
      refine vcs_cons (vc_b h2) ?_
      refine vcs_cons (vc_b h2) ?_
      refine vcs_cons (vc_b h2) ?_
      refine vcs_cons (vc_b h1) ?_
      refine vcs_cons (vc_b h1) ?_
      refine vcs_cons (vc_b h1) ?_
      refine vcs_cons (vc_b h1) ?_
      refine vcs_cons (vc_b h1) ?_
      refine vcs_cons (vc_b h0) ?_
      refine vcs_cons (vc_b h0) ?_
      refine vcs_cons (vc_b h0) ?_
      refine vcs_cons (vc_b h0) ?_
      refine vcs_cons (vc_b h0) ?_
      refine vcs_cons (hl) ?_
      exact vcs_nil)
set_option maxRecDepth 100000 in
theorem top_m {W : World} {a b c d e g n : Int} {ba oa M ca : Nat} {pt : Option Addr} {Tn ct : Nat} (h0 : (Go.Proofs.YtglaapelpidfhaaGreat.rightB a b c d e g) = true) (h1 : (Decidable.decide (a ≤ 300)) = true) (h2 : (Decidable.decide (b ≤ 60)) = true) (h3 : (Decidable.decide (c ≤ 8)) = true) (h4 : (Decidable.decide ((M : Int) ≤ c)) = false) (hl : Does Tryz.prog 3 (argsHeap W) 3 (argsHeap W) (.inLoop fo (foT 0 ba oa M ca 0)) (.out (.exit 0) (mkT 105 0 [(1, .pointer (some ⟨2, 0, none⟩)), (3, .int .i64 n)]))) :
    Does Tryz.prog 2 (topH W a b c d e g (.slice (some ⟨ba, oa, some 0⟩) M ca) (.slice pt Tn ct)) 3 (argsHeap W) (.code tp1 top1T) (.out .ret (mkT 147 0 [(2, .bool true)])) :=
  does_of mixed con3_holds [] [(0, false)] (d := [(4, .br true), (5, .br true), (6, .br true), (8, .br true), (9, .br true), (10, .br true), (11, .br true), (12, .br true), (14, .br true), (15, .br true), (16, .br true), (17, .br true), (18, .br true), (20, .br true), (21, .br true), (22, .br true), (23, .br true), (25, .br true), (26, .br true), (27, .br true), (28, .br true), (30, .br true), (31, .br true), (32, .br false), (33, .br false), (34, .br false), (2, .loop [1, 3, 8, 9, 10] [0] 3 (argsHeap W) (.exit 0) (mkT 105 0 [(1, .pointer (some ⟨2, 0, none⟩)), (3, .int .i64 n)]))]) (n := 600) (c2 := 3) (L' := []) (L := [.b ((Decidable.decide ((M : Int) ≤ c)) == false), .b ((Decidable.decide ((M : Int) ≤ c)) == false), .b ((Decidable.decide ((M : Int) ≤ c)) == false), .b ((Decidable.decide (c ≤ 8)) == true), .b ((Decidable.decide (c ≤ 8)) == true), .b ((Decidable.decide (c ≤ 8)) == true), .b ((Decidable.decide (c ≤ 8)) == true), .b ((Decidable.decide (c ≤ 8)) == true), .b ((Decidable.decide (c ≤ 8)) == true), .b ((Decidable.decide (c ≤ 8)) == true), .b ((Decidable.decide (c ≤ 8)) == true), .b ((Decidable.decide (b ≤ 60)) == true), .b ((Decidable.decide (b ≤ 60)) == true), .b ((Decidable.decide (b ≤ 60)) == true), .b ((Decidable.decide (b ≤ 60)) == true), .b ((Decidable.decide (b ≤ 60)) == true), .b ((Decidable.decide (a ≤ 300)) == true), .b ((Decidable.decide (a ≤ 300)) == true), .b ((Decidable.decide (a ≤ 300)) == true), .b ((Decidable.decide (a ≤ 300)) == true), .b ((Decidable.decide (a ≤ 300)) == true), .b ((Go.Proofs.YtglaapelpidfhaaGreat.rightB a b c d e g) == true), .b ((Go.Proofs.YtglaapelpidfhaaGreat.rightB a b c d e g) == true), .b ((Go.Proofs.YtglaapelpidfhaaGreat.rightB a b c d e g) == true), .b ((Go.Proofs.YtglaapelpidfhaaGreat.rightB a b c d e g) == true), .b ((Go.Proofs.YtglaapelpidfhaaGreat.rightB a b c d e g) == true), .p (Does Tryz.prog 3 (argsHeap W) 3 (argsHeap W) (.inLoop fo (foT 0 ba oa M ca 0)) (.out (.exit 0) (mkT 105 0 [(1, .pointer (some ⟨2, 0, none⟩)), (3, .int .i64 n)])))]) (by kernel_rfl) rfl rfl (vcs_nil)
    (by
      refine vcs_cons (vc_b h4) ?_
      refine vcs_cons (vc_b h4) ?_
      refine vcs_cons (vc_b h4) ?_
      refine vcs_cons (vc_b h3) ?_
      refine vcs_cons (vc_b h3) ?_
      refine vcs_cons (vc_b h3) ?_
      refine vcs_cons (vc_b h3) ?_
      refine vcs_cons (vc_b h3) ?_
      refine vcs_cons (vc_b h3) ?_
      refine vcs_cons (vc_b h3) ?_
      refine vcs_cons (vc_b h3) ?_
      refine vcs_cons (vc_b h2) ?_
      refine vcs_cons (vc_b h2) ?_
      refine vcs_cons (vc_b h2) ?_
      refine vcs_cons (vc_b h2) ?_
      refine vcs_cons (vc_b h2) ?_
      refine vcs_cons (vc_b h1) ?_
      refine vcs_cons (vc_b h1) ?_
      refine vcs_cons (vc_b h1) ?_
      refine vcs_cons (vc_b h1) ?_
      refine vcs_cons (vc_b h1) ?_
      refine vcs_cons (vc_b h0) ?_
      refine vcs_cons (vc_b h0) ?_
      refine vcs_cons (vc_b h0) ?_
      refine vcs_cons (vc_b h0) ?_
      refine vcs_cons (vc_b h0) ?_
      refine vcs_cons (hl) ?_
      exact vcs_nil)
set_option maxRecDepth 100000 in
theorem top_n {W : World} {a b c d e g n : Int} {ba oa M ca : Nat} {pt : Option Addr} {Tn ct : Nat} (h0 : (Go.Proofs.YtglaapelpidfhaaGreat.rightB a b c d e g) = true) (h1 : (Decidable.decide (a ≤ 300)) = true) (h2 : (Decidable.decide (b ≤ 60)) = true) (h3 : (Decidable.decide (c ≤ 8)) = true) (h4 : (Decidable.decide ((M : Int) ≤ c)) = true) (h5 : (Decidable.decide (n ≤ 40)) = false) (hl : Does Tryz.prog 3 (argsHeap W) 3 (argsHeap W) (.inLoop fo (foT 0 ba oa M ca 0)) (.out (.exit 0) (mkT 105 0 [(1, .pointer (some ⟨2, 0, none⟩)), (3, .int .i64 n)]))) :
    Does Tryz.prog 2 (topH W a b c d e g (.slice (some ⟨ba, oa, some 0⟩) M ca) (.slice pt Tn ct)) 3 (argsHeap W) (.code tp1 top1T) (.out .ret (mkT 147 0 [(2, .bool true)])) :=
  does_of mixed con3_holds [] [(0, false)] (d := [(4, .br true), (5, .br true), (6, .br true), (8, .br true), (9, .br true), (10, .br true), (11, .br true), (12, .br true), (14, .br true), (15, .br true), (16, .br true), (17, .br true), (18, .br true), (20, .br true), (21, .br true), (22, .br true), (23, .br true), (25, .br true), (26, .br true), (27, .br true), (28, .br true), (30, .br true), (31, .br true), (32, .br true), (33, .br true), (34, .br true), (35, .br false), (36, .br false), (37, .br false), (38, .br false), (39, .br false), (2, .loop [1, 3, 8, 9, 10] [0] 3 (argsHeap W) (.exit 0) (mkT 105 0 [(1, .pointer (some ⟨2, 0, none⟩)), (3, .int .i64 n)]))]) (n := 600) (c2 := 3) (L' := []) (L := [.b ((Decidable.decide (n ≤ 40)) == false), .b ((Decidable.decide (n ≤ 40)) == false), .b ((Decidable.decide (n ≤ 40)) == false), .b ((Decidable.decide (n ≤ 40)) == false), .b ((Decidable.decide (n ≤ 40)) == false), .b ((Decidable.decide ((M : Int) ≤ c)) == true), .b ((Decidable.decide ((M : Int) ≤ c)) == true), .b ((Decidable.decide ((M : Int) ≤ c)) == true), .b ((Decidable.decide (c ≤ 8)) == true), .b ((Decidable.decide (c ≤ 8)) == true), .b ((Decidable.decide (c ≤ 8)) == true), .b ((Decidable.decide (c ≤ 8)) == true), .b ((Decidable.decide (c ≤ 8)) == true), .b ((Decidable.decide (c ≤ 8)) == true), .b ((Decidable.decide (c ≤ 8)) == true), .b ((Decidable.decide (c ≤ 8)) == true), .b ((Decidable.decide (b ≤ 60)) == true), .b ((Decidable.decide (b ≤ 60)) == true), .b ((Decidable.decide (b ≤ 60)) == true), .b ((Decidable.decide (b ≤ 60)) == true), .b ((Decidable.decide (b ≤ 60)) == true), .b ((Decidable.decide (a ≤ 300)) == true), .b ((Decidable.decide (a ≤ 300)) == true), .b ((Decidable.decide (a ≤ 300)) == true), .b ((Decidable.decide (a ≤ 300)) == true), .b ((Decidable.decide (a ≤ 300)) == true), .b ((Go.Proofs.YtglaapelpidfhaaGreat.rightB a b c d e g) == true), .b ((Go.Proofs.YtglaapelpidfhaaGreat.rightB a b c d e g) == true), .b ((Go.Proofs.YtglaapelpidfhaaGreat.rightB a b c d e g) == true), .b ((Go.Proofs.YtglaapelpidfhaaGreat.rightB a b c d e g) == true), .b ((Go.Proofs.YtglaapelpidfhaaGreat.rightB a b c d e g) == true), .p (Does Tryz.prog 3 (argsHeap W) 3 (argsHeap W) (.inLoop fo (foT 0 ba oa M ca 0)) (.out (.exit 0) (mkT 105 0 [(1, .pointer (some ⟨2, 0, none⟩)), (3, .int .i64 n)])))]) (by kernel_rfl) rfl rfl (vcs_nil)
    (by
      refine vcs_cons (vc_b h5) ?_
      refine vcs_cons (vc_b h5) ?_
      refine vcs_cons (vc_b h5) ?_
      refine vcs_cons (vc_b h5) ?_
      refine vcs_cons (vc_b h5) ?_
      refine vcs_cons (vc_b h4) ?_
      refine vcs_cons (vc_b h4) ?_
      refine vcs_cons (vc_b h4) ?_
      refine vcs_cons (vc_b h3) ?_
      refine vcs_cons (vc_b h3) ?_
      refine vcs_cons (vc_b h3) ?_
      refine vcs_cons (vc_b h3) ?_
      refine vcs_cons (vc_b h3) ?_
      refine vcs_cons (vc_b h3) ?_
      refine vcs_cons (vc_b h3) ?_
      refine vcs_cons (vc_b h3) ?_
      refine vcs_cons (vc_b h2) ?_
      refine vcs_cons (vc_b h2) ?_
      refine vcs_cons (vc_b h2) ?_
      refine vcs_cons (vc_b h2) ?_
      refine vcs_cons (vc_b h2) ?_
      refine vcs_cons (vc_b h1) ?_
      refine vcs_cons (vc_b h1) ?_
      refine vcs_cons (vc_b h1) ?_
      refine vcs_cons (vc_b h1) ?_
      refine vcs_cons (vc_b h1) ?_
      refine vcs_cons (vc_b h0) ?_
      refine vcs_cons (vc_b h0) ?_
      refine vcs_cons (vc_b h0) ?_
      refine vcs_cons (vc_b h0) ?_
      refine vcs_cons (vc_b h0) ?_
      refine vcs_cons (hl) ?_
      exact vcs_nil)
set_option maxRecDepth 100000 in
theorem top_t {W : World} {a b c d e g n : Int} {ba oa M ca : Nat} {pt : Option Addr} {Tn ct : Nat} (h0 : (Go.Proofs.YtglaapelpidfhaaGreat.rightB a b c d e g) = true) (h1 : (Decidable.decide (a ≤ 300)) = true) (h2 : (Decidable.decide (b ≤ 60)) = true) (h3 : (Decidable.decide (c ≤ 8)) = true) (h4 : (Decidable.decide ((M : Int) ≤ c)) = true) (h5 : (Decidable.decide (n ≤ 40)) = true) (h6 : (!Decidable.decide ((Tn : Int) ≤ 3000)) = true) (hl : Does Tryz.prog 3 (argsHeap W) 3 (argsHeap W) (.inLoop fo (foT 0 ba oa M ca 0)) (.out (.exit 0) (mkT 105 0 [(1, .pointer (some ⟨2, 0, none⟩)), (3, .int .i64 n)]))) :
    Does Tryz.prog 2 (topH W a b c d e g (.slice (some ⟨ba, oa, some 0⟩) M ca) (.slice pt Tn ct)) 3 (argsHeap W) (.code tp1 top1T) (.out .ret (mkT 147 0 [(2, .bool true)])) :=
  does_of mixed con3_holds [] [(0, false)] (d := [(4, .br true), (5, .br true), (6, .br true), (8, .br true), (9, .br true), (10, .br true), (11, .br true), (12, .br true), (14, .br true), (15, .br true), (16, .br true), (17, .br true), (18, .br true), (20, .br true), (21, .br true), (22, .br true), (23, .br true), (25, .br true), (26, .br true), (27, .br true), (28, .br true), (30, .br true), (31, .br true), (32, .br true), (33, .br true), (34, .br true), (35, .br true), (36, .br true), (38, .br true), (39, .br true), (40, .br true), (41, .br true), (42, .br true), (43, .br true), (44, .br true), (45, .br true), (2, .loop [1, 3, 8, 9, 10] [0] 3 (argsHeap W) (.exit 0) (mkT 105 0 [(1, .pointer (some ⟨2, 0, none⟩)), (3, .int .i64 n)]))]) (n := 600) (c2 := 3) (L' := []) (L := [.b ((!Decidable.decide ((Tn : Int) ≤ 3000)) == true), .b ((!Decidable.decide ((Tn : Int) ≤ 3000)) == true), .b ((!Decidable.decide ((Tn : Int) ≤ 3000)) == true), .b ((!Decidable.decide ((Tn : Int) ≤ 3000)) == true), .b ((!Decidable.decide ((Tn : Int) ≤ 3000)) == true), .b ((Decidable.decide (n ≤ 40)) == true), .b ((Decidable.decide (n ≤ 40)) == true), .b ((Decidable.decide (n ≤ 40)) == true), .b ((Decidable.decide (n ≤ 40)) == true), .b ((Decidable.decide (n ≤ 40)) == true), .b ((Decidable.decide ((M : Int) ≤ c)) == true), .b ((Decidable.decide ((M : Int) ≤ c)) == true), .b ((Decidable.decide ((M : Int) ≤ c)) == true), .b ((Decidable.decide (c ≤ 8)) == true), .b ((Decidable.decide (c ≤ 8)) == true), .b ((Decidable.decide (c ≤ 8)) == true), .b ((Decidable.decide (c ≤ 8)) == true), .b ((Decidable.decide (c ≤ 8)) == true), .b ((Decidable.decide (c ≤ 8)) == true), .b ((Decidable.decide (c ≤ 8)) == true), .b ((Decidable.decide (c ≤ 8)) == true), .b ((Decidable.decide (b ≤ 60)) == true), .b ((Decidable.decide (b ≤ 60)) == true), .b ((Decidable.decide (b ≤ 60)) == true), .b ((Decidable.decide (b ≤ 60)) == true), .b ((Decidable.decide (b ≤ 60)) == true), .b ((Decidable.decide (a ≤ 300)) == true), .b ((Decidable.decide (a ≤ 300)) == true), .b ((Decidable.decide (a ≤ 300)) == true), .b ((Decidable.decide (a ≤ 300)) == true), .b ((Decidable.decide (a ≤ 300)) == true), .b ((Go.Proofs.YtglaapelpidfhaaGreat.rightB a b c d e g) == true), .b ((Go.Proofs.YtglaapelpidfhaaGreat.rightB a b c d e g) == true), .b ((Go.Proofs.YtglaapelpidfhaaGreat.rightB a b c d e g) == true), .b ((Go.Proofs.YtglaapelpidfhaaGreat.rightB a b c d e g) == true), .b ((Go.Proofs.YtglaapelpidfhaaGreat.rightB a b c d e g) == true), .p (Does Tryz.prog 3 (argsHeap W) 3 (argsHeap W) (.inLoop fo (foT 0 ba oa M ca 0)) (.out (.exit 0) (mkT 105 0 [(1, .pointer (some ⟨2, 0, none⟩)), (3, .int .i64 n)])))]) (by kernel_rfl) rfl rfl (vcs_nil)
    (by
      refine vcs_cons (vc_b h6) ?_
      refine vcs_cons (vc_b h6) ?_
      refine vcs_cons (vc_b h6) ?_
      refine vcs_cons (vc_b h6) ?_
      refine vcs_cons (vc_b h6) ?_
      refine vcs_cons (vc_b h5) ?_
      refine vcs_cons (vc_b h5) ?_
      refine vcs_cons (vc_b h5) ?_
      refine vcs_cons (vc_b h5) ?_
      refine vcs_cons (vc_b h5) ?_
      refine vcs_cons (vc_b h4) ?_
      refine vcs_cons (vc_b h4) ?_
      refine vcs_cons (vc_b h4) ?_
      refine vcs_cons (vc_b h3) ?_
      refine vcs_cons (vc_b h3) ?_
      refine vcs_cons (vc_b h3) ?_
      refine vcs_cons (vc_b h3) ?_
      refine vcs_cons (vc_b h3) ?_
      refine vcs_cons (vc_b h3) ?_
      refine vcs_cons (vc_b h3) ?_
      refine vcs_cons (vc_b h3) ?_
      refine vcs_cons (vc_b h2) ?_
      refine vcs_cons (vc_b h2) ?_
      refine vcs_cons (vc_b h2) ?_
      refine vcs_cons (vc_b h2) ?_
      refine vcs_cons (vc_b h2) ?_
      refine vcs_cons (vc_b h1) ?_
      refine vcs_cons (vc_b h1) ?_
      refine vcs_cons (vc_b h1) ?_
      refine vcs_cons (vc_b h1) ?_
      refine vcs_cons (vc_b h1) ?_
      refine vcs_cons (vc_b h0) ?_
      refine vcs_cons (vc_b h0) ?_
      refine vcs_cons (vc_b h0) ?_
      refine vcs_cons (vc_b h0) ?_
      refine vcs_cons (vc_b h0) ?_
      refine vcs_cons (hl) ?_
      exact vcs_nil)
set_option maxRecDepth 100000 in
theorem top_ok {W : World} {a b c d e g n : Int} {ba oa M ca : Nat} {pt : Option Addr} {Tn ct : Nat} (h0 : (Go.Proofs.YtglaapelpidfhaaGreat.rightB a b c d e g) = true) (h1 : (Decidable.decide (a ≤ 300)) = true) (h2 : (Decidable.decide (b ≤ 60)) = true) (h3 : (Decidable.decide (c ≤ 8)) = true) (h4 : (Decidable.decide ((M : Int) ≤ c)) = true) (h5 : (Decidable.decide (n ≤ 40)) = true) (h6 : (!Decidable.decide ((Tn : Int) ≤ 3000)) = false) (h7 : ((M : Int) == 0) = false) (hl : Does Tryz.prog 3 (argsHeap W) 3 (argsHeap W) (.inLoop fo (foT 0 ba oa M ca 0)) (.out (.exit 0) (mkT 105 0 [(1, .pointer (some ⟨2, 0, none⟩)), (3, .int .i64 n)]))) :
    Does Tryz.prog 2 (topH W a b c d e g (.slice (some ⟨ba, oa, some 0⟩) M ca) (.slice pt Tn ct)) 3 (topH W a b c d e g (.slice (some ⟨ba, oa, some 0⟩) M ca) (.chan none)) (.code tp1 top1T) (.out .normal (mkT 147 0 [(1, .pointer (some ⟨1, 0, none⟩))])) :=
  does_of mixed con3_holds [] [(0, false), (1, false)] (d := [(4, .br true), (5, .br true), (6, .br true), (8, .br true), (9, .br true), (10, .br true), (11, .br true), (12, .br true), (14, .br true), (15, .br true), (16, .br true), (17, .br true), (18, .br true), (20, .br true), (21, .br true), (22, .br true), (23, .br true), (25, .br true), (26, .br true), (27, .br true), (28, .br true), (30, .br true), (31, .br true), (32, .br true), (33, .br true), (34, .br true), (35, .br true), (36, .br true), (38, .br true), (39, .br true), (40, .br true), (41, .br false), (42, .br false), (44, .br false), (45, .br false), (46, .br false), (47, .br false), (2, .loop [1, 3, 8, 9, 10] [0] 3 (argsHeap W) (.exit 0) (mkT 105 0 [(1, .pointer (some ⟨2, 0, none⟩)), (3, .int .i64 n)]))]) (n := 600) (c2 := 3) (L' := []) (L := [.b (((M : Int) == 0) == false), .b ((!Decidable.decide ((Tn : Int) ≤ 3000)) == false), .b ((!Decidable.decide ((Tn : Int) ≤ 3000)) == false), .b ((!Decidable.decide ((Tn : Int) ≤ 3000)) == false), .b ((!Decidable.decide ((Tn : Int) ≤ 3000)) == false), .b ((!Decidable.decide ((Tn : Int) ≤ 3000)) == false), .b ((Decidable.decide (n ≤ 40)) == true), .b ((Decidable.decide (n ≤ 40)) == true), .b ((Decidable.decide (n ≤ 40)) == true), .b ((Decidable.decide (n ≤ 40)) == true), .b ((Decidable.decide (n ≤ 40)) == true), .b ((Decidable.decide ((M : Int) ≤ c)) == true), .b ((Decidable.decide ((M : Int) ≤ c)) == true), .b ((Decidable.decide ((M : Int) ≤ c)) == true), .b ((Decidable.decide (c ≤ 8)) == true), .b ((Decidable.decide (c ≤ 8)) == true), .b ((Decidable.decide (c ≤ 8)) == true), .b ((Decidable.decide (c ≤ 8)) == true), .b ((Decidable.decide (c ≤ 8)) == true), .b ((Decidable.decide (c ≤ 8)) == true), .b ((Decidable.decide (c ≤ 8)) == true), .b ((Decidable.decide (c ≤ 8)) == true), .b ((Decidable.decide (b ≤ 60)) == true), .b ((Decidable.decide (b ≤ 60)) == true), .b ((Decidable.decide (b ≤ 60)) == true), .b ((Decidable.decide (b ≤ 60)) == true), .b ((Decidable.decide (b ≤ 60)) == true), .b ((Decidable.decide (a ≤ 300)) == true), .b ((Decidable.decide (a ≤ 300)) == true), .b ((Decidable.decide (a ≤ 300)) == true), .b ((Decidable.decide (a ≤ 300)) == true), .b ((Decidable.decide (a ≤ 300)) == true), .b ((Go.Proofs.YtglaapelpidfhaaGreat.rightB a b c d e g) == true), .b ((Go.Proofs.YtglaapelpidfhaaGreat.rightB a b c d e g) == true), .b ((Go.Proofs.YtglaapelpidfhaaGreat.rightB a b c d e g) == true), .b ((Go.Proofs.YtglaapelpidfhaaGreat.rightB a b c d e g) == true), .b ((Go.Proofs.YtglaapelpidfhaaGreat.rightB a b c d e g) == true), .p (Does Tryz.prog 3 (argsHeap W) 3 (argsHeap W) (.inLoop fo (foT 0 ba oa M ca 0)) (.out (.exit 0) (mkT 105 0 [(1, .pointer (some ⟨2, 0, none⟩)), (3, .int .i64 n)])))]) (by kernel_rfl) rfl rfl (vcs_nil)
    (by
      refine vcs_cons (vc_b h7) ?_
      refine vcs_cons (vc_b h6) ?_
      refine vcs_cons (vc_b h6) ?_
      refine vcs_cons (vc_b h6) ?_
      refine vcs_cons (vc_b h6) ?_
      refine vcs_cons (vc_b h6) ?_
      refine vcs_cons (vc_b h5) ?_
      refine vcs_cons (vc_b h5) ?_
      refine vcs_cons (vc_b h5) ?_
      refine vcs_cons (vc_b h5) ?_
      refine vcs_cons (vc_b h5) ?_
      refine vcs_cons (vc_b h4) ?_
      refine vcs_cons (vc_b h4) ?_
      refine vcs_cons (vc_b h4) ?_
      refine vcs_cons (vc_b h3) ?_
      refine vcs_cons (vc_b h3) ?_
      refine vcs_cons (vc_b h3) ?_
      refine vcs_cons (vc_b h3) ?_
      refine vcs_cons (vc_b h3) ?_
      refine vcs_cons (vc_b h3) ?_
      refine vcs_cons (vc_b h3) ?_
      refine vcs_cons (vc_b h3) ?_
      refine vcs_cons (vc_b h2) ?_
      refine vcs_cons (vc_b h2) ?_
      refine vcs_cons (vc_b h2) ?_
      refine vcs_cons (vc_b h2) ?_
      refine vcs_cons (vc_b h2) ?_
      refine vcs_cons (vc_b h1) ?_
      refine vcs_cons (vc_b h1) ?_
      refine vcs_cons (vc_b h1) ?_
      refine vcs_cons (vc_b h1) ?_
      refine vcs_cons (vc_b h1) ?_
      refine vcs_cons (vc_b h0) ?_
      refine vcs_cons (vc_b h0) ?_
      refine vcs_cons (vc_b h0) ?_
      refine vcs_cons (vc_b h0) ?_
      refine vcs_cons (vc_b h0) ?_
      refine vcs_cons (hl) ?_
      exact vcs_nil)
set_option maxRecDepth 100000 in
theorem top_zero {W : World} {a b c d e g n : Int} {ba oa M ca : Nat} {pt : Option Addr} {Tn ct : Nat} (h0 : (Go.Proofs.YtglaapelpidfhaaGreat.rightB a b c d e g) = true) (h1 : (Decidable.decide (a ≤ 300)) = true) (h2 : (Decidable.decide (b ≤ 60)) = true) (h3 : (Decidable.decide (c ≤ 8)) = true) (h4 : (Decidable.decide ((M : Int) ≤ c)) = true) (h5 : (Decidable.decide (n ≤ 40)) = true) (h6 : (!Decidable.decide ((Tn : Int) ≤ 3000)) = false) (h7 : ((M : Int) == 0) = true) (hl : Does Tryz.prog 3 (argsHeap W) 3 (argsHeap W) (.inLoop fo (foT 0 ba oa M ca 0)) (.out (.exit 0) (mkT 105 0 [(1, .pointer (some ⟨2, 0, none⟩)), (3, .int .i64 n)]))) :
    Does Tryz.prog 2 (topH W a b c d e g (.slice (some ⟨ba, oa, some 0⟩) M ca) (.slice pt Tn ct)) 3 (argsHeap W) (.code tp1 top1T) (.out .ret (mkT 147 0 [(2, .bool true)])) :=
  does_of mixed con3_holds [] [(0, false)] (d := [(4, .br true), (5, .br true), (6, .br true), (8, .br true), (9, .br true), (10, .br true), (11, .br true), (12, .br true), (14, .br true), (15, .br true), (16, .br true), (17, .br true), (18, .br true), (20, .br true), (21, .br true), (22, .br true), (23, .br true), (25, .br true), (26, .br true), (27, .br true), (28, .br true), (30, .br true), (31, .br true), (32, .br true), (33, .br true), (34, .br true), (35, .br true), (36, .br true), (38, .br true), (39, .br true), (40, .br true), (41, .br false), (42, .br false), (44, .br false), (45, .br false), (46, .br false), (47, .br true), (2, .loop [1, 3, 8, 9, 10] [0] 3 (argsHeap W) (.exit 0) (mkT 105 0 [(1, .pointer (some ⟨2, 0, none⟩)), (3, .int .i64 n)]))]) (n := 600) (c2 := 3) (L' := []) (L := [.b (((M : Int) == 0) == true), .b ((!Decidable.decide ((Tn : Int) ≤ 3000)) == false), .b ((!Decidable.decide ((Tn : Int) ≤ 3000)) == false), .b ((!Decidable.decide ((Tn : Int) ≤ 3000)) == false), .b ((!Decidable.decide ((Tn : Int) ≤ 3000)) == false), .b ((!Decidable.decide ((Tn : Int) ≤ 3000)) == false), .b ((Decidable.decide (n ≤ 40)) == true), .b ((Decidable.decide (n ≤ 40)) == true), .b ((Decidable.decide (n ≤ 40)) == true), .b ((Decidable.decide (n ≤ 40)) == true), .b ((Decidable.decide (n ≤ 40)) == true), .b ((Decidable.decide ((M : Int) ≤ c)) == true), .b ((Decidable.decide ((M : Int) ≤ c)) == true), .b ((Decidable.decide ((M : Int) ≤ c)) == true), .b ((Decidable.decide (c ≤ 8)) == true), .b ((Decidable.decide (c ≤ 8)) == true), .b ((Decidable.decide (c ≤ 8)) == true), .b ((Decidable.decide (c ≤ 8)) == true), .b ((Decidable.decide (c ≤ 8)) == true), .b ((Decidable.decide (c ≤ 8)) == true), .b ((Decidable.decide (c ≤ 8)) == true), .b ((Decidable.decide (c ≤ 8)) == true), .b ((Decidable.decide (b ≤ 60)) == true), .b ((Decidable.decide (b ≤ 60)) == true), .b ((Decidable.decide (b ≤ 60)) == true), .b ((Decidable.decide (b ≤ 60)) == true), .b ((Decidable.decide (b ≤ 60)) == true), .b ((Decidable.decide (a ≤ 300)) == true), .b ((Decidable.decide (a ≤ 300)) == true), .b ((Decidable.decide (a ≤ 300)) == true), .b ((Decidable.decide (a ≤ 300)) == true), .b ((Decidable.decide (a ≤ 300)) == true), .b ((Go.Proofs.YtglaapelpidfhaaGreat.rightB a b c d e g) == true), .b ((Go.Proofs.YtglaapelpidfhaaGreat.rightB a b c d e g) == true), .b ((Go.Proofs.YtglaapelpidfhaaGreat.rightB a b c d e g) == true), .b ((Go.Proofs.YtglaapelpidfhaaGreat.rightB a b c d e g) == true), .b ((Go.Proofs.YtglaapelpidfhaaGreat.rightB a b c d e g) == true), .p (Does Tryz.prog 3 (argsHeap W) 3 (argsHeap W) (.inLoop fo (foT 0 ba oa M ca 0)) (.out (.exit 0) (mkT 105 0 [(1, .pointer (some ⟨2, 0, none⟩)), (3, .int .i64 n)])))]) (by kernel_rfl) rfl rfl (vcs_nil)
    (by
      refine vcs_cons (vc_b h7) ?_
      refine vcs_cons (vc_b h6) ?_
      refine vcs_cons (vc_b h6) ?_
      refine vcs_cons (vc_b h6) ?_
      refine vcs_cons (vc_b h6) ?_
      refine vcs_cons (vc_b h6) ?_
      refine vcs_cons (vc_b h5) ?_
      refine vcs_cons (vc_b h5) ?_
      refine vcs_cons (vc_b h5) ?_
      refine vcs_cons (vc_b h5) ?_
      refine vcs_cons (vc_b h5) ?_
      refine vcs_cons (vc_b h4) ?_
      refine vcs_cons (vc_b h4) ?_
      refine vcs_cons (vc_b h4) ?_
      refine vcs_cons (vc_b h3) ?_
      refine vcs_cons (vc_b h3) ?_
      refine vcs_cons (vc_b h3) ?_
      refine vcs_cons (vc_b h3) ?_
      refine vcs_cons (vc_b h3) ?_
      refine vcs_cons (vc_b h3) ?_
      refine vcs_cons (vc_b h3) ?_
      refine vcs_cons (vc_b h3) ?_
      refine vcs_cons (vc_b h2) ?_
      refine vcs_cons (vc_b h2) ?_
      refine vcs_cons (vc_b h2) ?_
      refine vcs_cons (vc_b h2) ?_
      refine vcs_cons (vc_b h2) ?_
      refine vcs_cons (vc_b h1) ?_
      refine vcs_cons (vc_b h1) ?_
      refine vcs_cons (vc_b h1) ?_
      refine vcs_cons (vc_b h1) ?_
      refine vcs_cons (vc_b h1) ?_
      refine vcs_cons (vc_b h0) ?_
      refine vcs_cons (vc_b h0) ?_
      refine vcs_cons (vc_b h0) ?_
      refine vcs_cons (vc_b h0) ?_
      refine vcs_cons (vc_b h0) ?_
      refine vcs_cons (hl) ?_
      exact vcs_nil)
set_option maxRecDepth 100000 in
theorem top_nright {W : World} {a b c d e g : Int} {pt : Option Addr} {Tn ct : Nat} (h0 : (Go.Proofs.YtglaapelpidfhaaGreat.rightB a b c d e g) = false)  :
    Does Tryz.prog 2 (topH W a b c d e g (.slice none 0 0) (.slice pt Tn ct)) 3 (argsHeap W) (.code tp1 top1T) (.out .ret (mkT 147 0 [(2, .bool true)])) :=
  does_of mixed con3_holds [] [(0, false)] (d := [(5, .br false), (6, .br false), (7, .br false), (8, .br false), (9, .br false)]) (n := 600) (c2 := 3) (L' := []) (L := [.b ((Go.Proofs.YtglaapelpidfhaaGreat.rightB a b c d e g) == false), .b ((Go.Proofs.YtglaapelpidfhaaGreat.rightB a b c d e g) == false), .b ((Go.Proofs.YtglaapelpidfhaaGreat.rightB a b c d e g) == false), .b ((Go.Proofs.YtglaapelpidfhaaGreat.rightB a b c d e g) == false), .b ((Go.Proofs.YtglaapelpidfhaaGreat.rightB a b c d e g) == false)]) (by kernel_rfl) rfl rfl (vcs_nil)
    (by
      refine vcs_cons (vc_b h0) ?_
      refine vcs_cons (vc_b h0) ?_
      refine vcs_cons (vc_b h0) ?_
      refine vcs_cons (vc_b h0) ?_
      refine vcs_cons (vc_b h0) ?_
      exact vcs_nil)
set_option maxRecDepth 100000 in
theorem top_ns {W : World} {a b c d e g : Int} {pt : Option Addr} {Tn ct : Nat} (h0 : (Go.Proofs.YtglaapelpidfhaaGreat.rightB a b c d e g) = true) (h1 : (Decidable.decide (a ≤ 300)) = false)  :
    Does Tryz.prog 2 (topH W a b c d e g (.slice none 0 0) (.slice pt Tn ct)) 3 (argsHeap W) (.code tp1 top1T) (.out .ret (mkT 147 0 [(2, .bool true)])) :=
  does_of mixed con3_holds [] [(0, false)] (d := [(5, .br true), (6, .br true), (7, .br true), (9, .br true), (10, .br true), (11, .br false), (12, .br false), (13, .br false), (14, .br false), (15, .br false)]) (n := 600) (c2 := 3) (L' := []) (L := [.b ((Decidable.decide (a ≤ 300)) == false), .b ((Decidable.decide (a ≤ 300)) == false), .b ((Decidable.decide (a ≤ 300)) == false), .b ((Decidable.decide (a ≤ 300)) == false), .b ((Decidable.decide (a ≤ 300)) == false), .b ((Go.Proofs.YtglaapelpidfhaaGreat.rightB a b c d e g) == true), .b ((Go.Proofs.YtglaapelpidfhaaGreat.rightB a b c d e g) == true), .b ((Go.Proofs.YtglaapelpidfhaaGreat.rightB a b c d e g) == true), .b ((Go.Proofs.YtglaapelpidfhaaGreat.rightB a b c d e g) == true), .b ((Go.Proofs.YtglaapelpidfhaaGreat.rightB a b c d e g) == true)]) (by kernel_rfl) rfl rfl (vcs_nil)
    (by
      refine vcs_cons (vc_b h1) ?_
      refine vcs_cons (vc_b h1) ?_
      refine vcs_cons (vc_b h1) ?_
      refine vcs_cons (vc_b h1) ?_
      refine vcs_cons (vc_b h1) ?_
      refine vcs_cons (vc_b h0) ?_
      refine vcs_cons (vc_b h0) ?_
      refine vcs_cons (vc_b h0) ?_
      refine vcs_cons (vc_b h0) ?_
      refine vcs_cons (vc_b h0) ?_
      exact vcs_nil)
set_option maxRecDepth 100000 in
theorem top_nq {W : World} {a b c d e g : Int} {pt : Option Addr} {Tn ct : Nat} (h0 : (Go.Proofs.YtglaapelpidfhaaGreat.rightB a b c d e g) = true) (h1 : (Decidable.decide (a ≤ 300)) = true) (h2 : (Decidable.decide (b ≤ 60)) = false)  :
    Does Tryz.prog 2 (topH W a b c d e g (.slice none 0 0) (.slice pt Tn ct)) 3 (argsHeap W) (.code tp1 top1T) (.out .ret (mkT 147 0 [(2, .bool true)])) :=
  does_of mixed con3_holds [] [(0, false)] (d := [(5, .br true), (6, .br true), (7, .br true), (9, .br true), (10, .br true), (11, .br true), (12, .br true), (13, .br true), (15, .br true), (16, .br true), (17, .br false), (18, .br false), (19, .br false), (20, .br false), (21, .br false)]) (n := 600) (c2 := 3) (L' := []) (L := [.b ((Decidable.decide (b ≤ 60)) == false), .b ((Decidable.decide (b ≤ 60)) == false), .b ((Decidable.decide (b ≤ 60)) == false), .b ((Decidable.decide (b ≤ 60)) == false), .b ((Decidable.decide (b ≤ 60)) == false), .b ((Decidable.decide (a ≤ 300)) == true), .b ((Decidable.decide (a ≤ 300)) == true), .b ((Decidable.decide (a ≤ 300)) == true), .b ((Decidable.decide (a ≤ 300)) == true), .b ((Decidable.decide (a ≤ 300)) == true), .b ((Go.Proofs.YtglaapelpidfhaaGreat.rightB a b c d e g) == true), .b ((Go.Proofs.YtglaapelpidfhaaGreat.rightB a b c d e g) == true), .b ((Go.Proofs.YtglaapelpidfhaaGreat.rightB a b c d e g) == true), .b ((Go.Proofs.YtglaapelpidfhaaGreat.rightB a b c d e g) == true), .b ((Go.Proofs.YtglaapelpidfhaaGreat.rightB a b c d e g) == true)]) (by kernel_rfl) rfl rfl (vcs_nil)
    (by
      refine vcs_cons (vc_b h2) ?_
      refine vcs_cons (vc_b h2) ?_
      refine vcs_cons (vc_b h2) ?_
      refine vcs_cons (vc_b h2) ?_
      refine vcs_cons (vc_b h2) ?_
      refine vcs_cons (vc_b h1) ?_
      refine vcs_cons (vc_b h1) ?_
      refine vcs_cons (vc_b h1) ?_
      refine vcs_cons (vc_b h1) ?_
      refine vcs_cons (vc_b h1) ?_
      refine vcs_cons (vc_b h0) ?_
      refine vcs_cons (vc_b h0) ?_
      refine vcs_cons (vc_b h0) ?_
      refine vcs_cons (vc_b h0) ?_
      refine vcs_cons (vc_b h0) ?_
      exact vcs_nil)
set_option maxRecDepth 100000 in
theorem top_nc {W : World} {a b c d e g : Int} {pt : Option Addr} {Tn ct : Nat} (h0 : (Go.Proofs.YtglaapelpidfhaaGreat.rightB a b c d e g) = true) (h1 : (Decidable.decide (a ≤ 300)) = true) (h2 : (Decidable.decide (b ≤ 60)) = true) (h3 : (Decidable.decide (c ≤ 8)) = false)  :
    Does Tryz.prog 2 (topH W a b c d e g (.slice none 0 0) (.slice pt Tn ct)) 3 (argsHeap W) (.code tp1 top1T) (.out .ret (mkT 147 0 [(2, .bool true)])) :=
  does_of mixed con3_holds [] [(0, false)] (d := [(5, .br true), (6, .br true), (7, .br true), (9, .br true), (10, .br true), (11, .br true), (12, .br true), (13, .br true), (15, .br true), (16, .br true), (17, .br true), (18, .br true), (19, .br true), (21, .br true), (22, .br true), (23, .br false), (24, .br false), (25, .br false), (26, .br false), (27, .br false), (28, .br false), (29, .br false), (30, .br false)]) (n := 600) (c2 := 3) (L' := []) (L := [.b ((Decidable.decide (c ≤ 8)) == false), .b ((Decidable.decide (c ≤ 8)) == false), .b ((Decidable.decide (c ≤ 8)) == false), .b ((Decidable.decide (c ≤ 8)) == false), .b ((Decidable.decide (c ≤ 8)) == false), .b ((Decidable.decide (c ≤ 8)) == false), .b ((Decidable.decide (c ≤ 8)) == false), .b ((Decidable.decide (c ≤ 8)) == false), .b ((Decidable.decide (b ≤ 60)) == true), .b ((Decidable.decide (b ≤ 60)) == true), .b ((Decidable.decide (b ≤ 60)) == true), .b ((Decidable.decide (b ≤ 60)) == true), .b ((Decidable.decide (b ≤ 60)) == true), .b ((Decidable.decide (a ≤ 300)) == true), .b ((Decidable.decide (a ≤ 300)) == true), .b ((Decidable.decide (a ≤ 300)) == true), .b ((Decidable.decide (a ≤ 300)) == true), .b ((Decidable.decide (a ≤ 300)) == true), .b ((Go.Proofs.YtglaapelpidfhaaGreat.rightB a b c d e g) == true), .b ((Go.Proofs.YtglaapelpidfhaaGreat.rightB a b c d e g) == true), .b ((Go.Proofs.YtglaapelpidfhaaGreat.rightB a b c d e g) == true), .b ((Go.Proofs.YtglaapelpidfhaaGreat.rightB a b c d e g) == true), .b ((Go.Proofs.YtglaapelpidfhaaGreat.rightB a b c d e g) == true)]) (by kernel_rfl) rfl rfl (vcs_nil)
    (by
      refine vcs_cons (vc_b h3) ?_
      refine vcs_cons (vc_b h3) ?_
      refine vcs_cons (vc_b h3) ?_
      refine vcs_cons (vc_b h3) ?_
      refine vcs_cons (vc_b h3) ?_
      refine vcs_cons (vc_b h3) ?_
      refine vcs_cons (vc_b h3) ?_
      refine vcs_cons (vc_b h3) ?_
      refine vcs_cons (vc_b h2) ?_
      refine vcs_cons (vc_b h2) ?_
      refine vcs_cons (vc_b h2) ?_
      refine vcs_cons (vc_b h2) ?_
      refine vcs_cons (vc_b h2) ?_
      refine vcs_cons (vc_b h1) ?_
      refine vcs_cons (vc_b h1) ?_
      refine vcs_cons (vc_b h1) ?_
      refine vcs_cons (vc_b h1) ?_
      refine vcs_cons (vc_b h1) ?_
      refine vcs_cons (vc_b h0) ?_
      refine vcs_cons (vc_b h0) ?_
      refine vcs_cons (vc_b h0) ?_
      refine vcs_cons (vc_b h0) ?_
      refine vcs_cons (vc_b h0) ?_
      exact vcs_nil)
set_option maxRecDepth 100000 in
theorem top_nt {W : World} {a b c d e g : Int} {pt : Option Addr} {Tn ct : Nat} (h0 : (Go.Proofs.YtglaapelpidfhaaGreat.rightB a b c d e g) = true) (h1 : (Decidable.decide (a ≤ 300)) = true) (h2 : (Decidable.decide (b ≤ 60)) = true) (h3 : (Decidable.decide (c ≤ 8)) = true) (h4 : (Decidable.decide (↑0 ≤ c)) = true) (h5 : (!Decidable.decide ((Tn : Int) ≤ 3000)) = true)  :
    Does Tryz.prog 2 (topH W a b c d e g (.slice none 0 0) (.slice pt Tn ct)) 3 (argsHeap W) (.code tp1 top1T) (.out .ret (mkT 147 0 [(2, .bool true)])) :=
  does_of mixed con3_holds [] [(0, false)] (d := [(5, .br true), (6, .br true), (7, .br true), (9, .br true), (10, .br true), (11, .br true), (12, .br true), (13, .br true), (15, .br true), (16, .br true), (17, .br true), (18, .br true), (19, .br true), (21, .br true), (22, .br true), (23, .br true), (24, .br true), (26, .br true), (27, .br true), (28, .br true), (29, .br true), (31, .br true), (32, .br true), (33, .br true), (34, .br true), (35, .br true), (42, .br true), (43, .br true), (44, .br true), (45, .br true), (46, .br true)]) (n := 600) (c2 := 3) (L' := []) (L := [.b ((!Decidable.decide ((Tn : Int) ≤ 3000)) == true), .b ((!Decidable.decide ((Tn : Int) ≤ 3000)) == true), .b ((!Decidable.decide ((Tn : Int) ≤ 3000)) == true), .b ((!Decidable.decide ((Tn : Int) ≤ 3000)) == true), .b ((!Decidable.decide ((Tn : Int) ≤ 3000)) == true), .b ((Decidable.decide (↑0 ≤ c)) == true), .b ((Decidable.decide (↑0 ≤ c)) == true), .b ((Decidable.decide (↑0 ≤ c)) == true), .b ((Decidable.decide (c ≤ 8)) == true), .b ((Decidable.decide (c ≤ 8)) == true), .b ((Decidable.decide (c ≤ 8)) == true), .b ((Decidable.decide (c ≤ 8)) == true), .b ((Decidable.decide (c ≤ 8)) == true), .b ((Decidable.decide (c ≤ 8)) == true), .b ((Decidable.decide (c ≤ 8)) == true), .b ((Decidable.decide (c ≤ 8)) == true), .b ((Decidable.decide (b ≤ 60)) == true), .b ((Decidable.decide (b ≤ 60)) == true), .b ((Decidable.decide (b ≤ 60)) == true), .b ((Decidable.decide (b ≤ 60)) == true), .b ((Decidable.decide (b ≤ 60)) == true), .b ((Decidable.decide (a ≤ 300)) == true), .b ((Decidable.decide (a ≤ 300)) == true), .b ((Decidable.decide (a ≤ 300)) == true), .b ((Decidable.decide (a ≤ 300)) == true), .b ((Decidable.decide (a ≤ 300)) == true), .b ((Go.Proofs.YtglaapelpidfhaaGreat.rightB a b c d e g) == true), .b ((Go.Proofs.YtglaapelpidfhaaGreat.rightB a b c d e g) == true), .b ((Go.Proofs.YtglaapelpidfhaaGreat.rightB a b c d e g) == true), .b ((Go.Proofs.YtglaapelpidfhaaGreat.rightB a b c d e g) == true), .b ((Go.Proofs.YtglaapelpidfhaaGreat.rightB a b c d e g) == true)]) (by kernel_rfl) rfl rfl (vcs_nil)
    (by
      refine vcs_cons (vc_b h5) ?_
      refine vcs_cons (vc_b h5) ?_
      refine vcs_cons (vc_b h5) ?_
      refine vcs_cons (vc_b h5) ?_
      refine vcs_cons (vc_b h5) ?_
      refine vcs_cons (vc_b h4) ?_
      refine vcs_cons (vc_b h4) ?_
      refine vcs_cons (vc_b h4) ?_
      refine vcs_cons (vc_b h3) ?_
      refine vcs_cons (vc_b h3) ?_
      refine vcs_cons (vc_b h3) ?_
      refine vcs_cons (vc_b h3) ?_
      refine vcs_cons (vc_b h3) ?_
      refine vcs_cons (vc_b h3) ?_
      refine vcs_cons (vc_b h3) ?_
      refine vcs_cons (vc_b h3) ?_
      refine vcs_cons (vc_b h2) ?_
      refine vcs_cons (vc_b h2) ?_
      refine vcs_cons (vc_b h2) ?_
      refine vcs_cons (vc_b h2) ?_
      refine vcs_cons (vc_b h2) ?_
      refine vcs_cons (vc_b h1) ?_
      refine vcs_cons (vc_b h1) ?_
      refine vcs_cons (vc_b h1) ?_
      refine vcs_cons (vc_b h1) ?_
      refine vcs_cons (vc_b h1) ?_
      refine vcs_cons (vc_b h0) ?_
      refine vcs_cons (vc_b h0) ?_
      refine vcs_cons (vc_b h0) ?_
      refine vcs_cons (vc_b h0) ?_
      refine vcs_cons (vc_b h0) ?_
      exact vcs_nil)
set_option maxRecDepth 100000 in
theorem top_nok {W : World} {a b c d e g : Int} {pt : Option Addr} {Tn ct : Nat} (h0 : (Go.Proofs.YtglaapelpidfhaaGreat.rightB a b c d e g) = true) (h1 : (Decidable.decide (a ≤ 300)) = true) (h2 : (Decidable.decide (b ≤ 60)) = true) (h3 : (Decidable.decide (c ≤ 8)) = true) (h4 : (Decidable.decide (↑0 ≤ c)) = true) (h5 : (!Decidable.decide ((Tn : Int) ≤ 3000)) = false)  :
    Does Tryz.prog 2 (topH W a b c d e g (.slice none 0 0) (.slice pt Tn ct)) 3 (argsHeap W) (.code tp1 top1T) (.out .ret (mkT 147 0 [(2, .bool true)])) :=
  does_of mixed con3_holds [] [(0, false)] (d := [(5, .br true), (6, .br true), (7, .br true), (9, .br true), (10, .br true), (11, .br true), (12, .br true), (13, .br true), (15, .br true), (16, .br true), (17, .br true), (18, .br true), (19, .br true), (21, .br true), (22, .br true), (23, .br true), (24, .br true), (26, .br true), (27, .br true), (28, .br true), (29, .br true), (31, .br true), (32, .br true), (33, .br true), (34, .br true), (35, .br true), (42, .br false), (43, .br false), (45, .br false), (46, .br false), (47, .br false)]) (n := 600) (c2 := 3) (L' := []) (L := [.b ((!Decidable.decide ((Tn : Int) ≤ 3000)) == false), .b ((!Decidable.decide ((Tn : Int) ≤ 3000)) == false), .b ((!Decidable.decide ((Tn : Int) ≤ 3000)) == false), .b ((!Decidable.decide ((Tn : Int) ≤ 3000)) == false), .b ((!Decidable.decide ((Tn : Int) ≤ 3000)) == false), .b ((Decidable.decide (↑0 ≤ c)) == true), .b ((Decidable.decide (↑0 ≤ c)) == true), .b ((Decidable.decide (↑0 ≤ c)) == true), .b ((Decidable.decide (c ≤ 8)) == true), .b ((Decidable.decide (c ≤ 8)) == true), .b ((Decidable.decide (c ≤ 8)) == true), .b ((Decidable.decide (c ≤ 8)) == true), .b ((Decidable.decide (c ≤ 8)) == true), .b ((Decidable.decide (c ≤ 8)) == true), .b ((Decidable.decide (c ≤ 8)) == true), .b ((Decidable.decide (c ≤ 8)) == true), .b ((Decidable.decide (b ≤ 60)) == true), .b ((Decidable.decide (b ≤ 60)) == true), .b ((Decidable.decide (b ≤ 60)) == true), .b ((Decidable.decide (b ≤ 60)) == true), .b ((Decidable.decide (b ≤ 60)) == true), .b ((Decidable.decide (a ≤ 300)) == true), .b ((Decidable.decide (a ≤ 300)) == true), .b ((Decidable.decide (a ≤ 300)) == true), .b ((Decidable.decide (a ≤ 300)) == true), .b ((Decidable.decide (a ≤ 300)) == true), .b ((Go.Proofs.YtglaapelpidfhaaGreat.rightB a b c d e g) == true), .b ((Go.Proofs.YtglaapelpidfhaaGreat.rightB a b c d e g) == true), .b ((Go.Proofs.YtglaapelpidfhaaGreat.rightB a b c d e g) == true), .b ((Go.Proofs.YtglaapelpidfhaaGreat.rightB a b c d e g) == true), .b ((Go.Proofs.YtglaapelpidfhaaGreat.rightB a b c d e g) == true)]) (by kernel_rfl) rfl rfl (vcs_nil)
    (by
      refine vcs_cons (vc_b h5) ?_
      refine vcs_cons (vc_b h5) ?_
      refine vcs_cons (vc_b h5) ?_
      refine vcs_cons (vc_b h5) ?_
      refine vcs_cons (vc_b h5) ?_
      refine vcs_cons (vc_b h4) ?_
      refine vcs_cons (vc_b h4) ?_
      refine vcs_cons (vc_b h4) ?_
      refine vcs_cons (vc_b h3) ?_
      refine vcs_cons (vc_b h3) ?_
      refine vcs_cons (vc_b h3) ?_
      refine vcs_cons (vc_b h3) ?_
      refine vcs_cons (vc_b h3) ?_
      refine vcs_cons (vc_b h3) ?_
      refine vcs_cons (vc_b h3) ?_
      refine vcs_cons (vc_b h3) ?_
      refine vcs_cons (vc_b h2) ?_
      refine vcs_cons (vc_b h2) ?_
      refine vcs_cons (vc_b h2) ?_
      refine vcs_cons (vc_b h2) ?_
      refine vcs_cons (vc_b h2) ?_
      refine vcs_cons (vc_b h1) ?_
      refine vcs_cons (vc_b h1) ?_
      refine vcs_cons (vc_b h1) ?_
      refine vcs_cons (vc_b h1) ?_
      refine vcs_cons (vc_b h1) ?_
      refine vcs_cons (vc_b h0) ?_
      refine vcs_cons (vc_b h0) ?_
      refine vcs_cons (vc_b h0) ?_
      refine vcs_cons (vc_b h0) ?_
      refine vcs_cons (vc_b h0) ?_
      exact vcs_nil)
end Go.Proofs.YtglaapelpidfhaaGreat
