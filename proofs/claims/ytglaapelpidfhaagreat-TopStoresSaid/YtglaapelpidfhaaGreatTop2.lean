/- TopStores' store. No condition. -/
import Derived.Test.YtglaapelpidfhaaGreatTop1
namespace Go.Proofs.YtglaapelpidfhaaGreat
open Go Go.Sx
/-- NewStore, and its error. -/
noncomputable def tp2 : Code := subC [1, 1, 0] (bodyC 3)
noncomputable def tp3 : Code := subC [1, 1, 1, 0] (bodyC 3)
def recL (kind : Int) (unb : Bool) (rows entries : Value) : List Value := [.int .i64 kind, .string ⟨#[]⟩, .string ⟨#[]⟩, .bool unb, .int .i64 0, rows, entries, .string ⟨#[]⟩, .string ⟨#[]⟩, .int .i64 0, .int .i64 0, .int .i64 0, .string ⟨#[]⟩, .int .i64 0, .int .i64 0]
def zslot : List Value := .int .i64 0 :: .bool false :: recL 0 false (.slice none 0 0) (.slice none 0 0)
def zpage : List Value := [.bool false, .int .i64 0, .int .i64 0]
def slotsL (s : Nat) : List Value := .int .i64 1 :: .bool true :: recL 1 true (.slice (some ⟨17, 0, none⟩) 0 0) (.slice (some ⟨18, 0, none⟩) 0 0) ++ zrep zslot s
def pagesL (q : Nat) : List Value := .bool true :: .int .i64 1 :: .int .i64 1 :: zrep zpage q
/-- The store, all but the marks: slots, arena, pages, table, inside, clock, memory, the empty rows, the commits, their table, the store. -/
def storeH (s q : Nat) (c d e g now count : Int) : Heap := [(6, .cells (slotsL s) 162), (7, .cells [.slice (some ⟨6, 0, none⟩) (s + 1) 0, .int .i64 g] 160), (8, .cells (pagesL q) 214), (9, .cells [.slice (some ⟨8, 0, none⟩) (q + 1) 0] 208), (10, .map []),
  (11, .cells [.int .i64 now, .int .i64 g, .int .i64 c, .map (some 10)] 210), (12, .cells [.int .i64 count, .int .i64 (.ofNat (s + 1)), .int .i64 (.ofNat (q + 1)), .int .i64 c, .int .i64 d, .int .i64 e, .int .i64 g, .pointer (some ⟨7, 0, none⟩), .pointer (some ⟨9, 0, none⟩), .pointer (some ⟨11, 0, none⟩)] 79),
  (17, .cells [] 127), (18, .cells [] 189), (22, .map []), (24, .cells [.int .i64 c, .int .i64 g, .int .i64 0, .int .i64 0, .map (some 22), .map (some 23), .int .i64 (-1)] 124), (25, .cells [.pointer (some ⟨12, 0, none⟩), .pointer (some ⟨24, 0, none⟩)] 33)]
theorem cover_map {f : Value → Value} : ∀ {l : List Value}, (∀ v ∈ l, f v = v) → Cover l (l.map f)
  | [], _ => .nil
  | v :: l, h => .same (h v List.mem_cons_self).symm (cover_map fun x hx => h x (List.mem_cons_of_mem _ hx))
theorem zrep_mem {v : Value} {zl : List Value} : ∀ {n : Nat}, v ∈ zrep zl n → v ∈ zl
  | 0, h => by cases h
  | n + 1, h => by
    rcases List.mem_append.1 (show v ∈ zl ++ zrep zl n from h) with q | q
    · exact q
    · exact zrep_mem q
theorem cover_slots {nm : Nat → Option Nat} (h17 : nm 17 = some 17) (h18 : nm 18 = some 18) (s : Nat) : Cover (slotsL s) ((slotsL s).map (renV nm 9)) := by
  refine cover_map fun v hv => ?_
  rcases List.mem_append.1 (show v ∈ (.int .i64 1 :: .bool true :: recL 1 true (.slice (some ⟨17, 0, none⟩) 0 0) (.slice (some ⟨18, 0, none⟩) 0 0)) ++ zrep zslot s from hv) with h | h
  · simp only [recL, List.mem_cons, List.not_mem_nil, or_false] at h
    rcases h with rfl | rfl | rfl | rfl | rfl | rfl | rfl | rfl | rfl | rfl | rfl | rfl | rfl | rfl | rfl | rfl | rfl <;> first | rfl | simp only [renV, h17, h18]
  · have := zrep_mem h
    simp only [zslot, recL, List.mem_cons, List.not_mem_nil, or_false] at this
    rcases this with rfl | rfl | rfl | rfl | rfl | rfl | rfl | rfl | rfl | rfl | rfl | rfl | rfl | rfl | rfl | rfl | rfl <;> rfl
theorem cover_pages {nm : Nat → Option Nat} (q : Nat) : Cover (pagesL q) ((pagesL q).map (renV nm 9)) := by
  refine cover_map fun v hv => ?_
  rcases List.mem_append.1 (show v ∈ (.bool true :: .int .i64 1 :: .int .i64 1 :: []) ++ zrep zpage q from hv) with h | h
  · simp only [List.mem_cons, List.not_mem_nil, or_false] at h
    rcases h with rfl | rfl | rfl <;> rfl
  · have := zrep_mem h
    simp only [zpage, List.mem_cons, List.not_mem_nil, or_false] at this
    rcases this with rfl | rfl | rfl <;> rfl
set_option maxRecDepth 100000 in
theorem top_store {W : World} {s q : Nat} {c d e g : Int} {ba oa M ca : Nat} (h0 : (!Go.Proofs.YtglaapelpidfhaaGreat.rightB (Int.ofNat (s + 1)) (Int.ofNat (q + 1)) c d e g) = false) (h1 : (Decidable.decide (Int.ofNat (s + 1) > 4096)) = false) (h2 : (Decidable.decide (g < 1)) = false) (h3 : (Decidable.decide (g > 1099511627776)) = false) (h4 : (Decidable.decide (Int.ofNat (s + 1) = Int.ofNat (s + 1) ∧ 0 ≤ Int.ofNat (s + 1) ∧ (208 : Int) * Int.ofNat (s + 1) ≤ 281474976710656 ∧ Int.ofNat (s + 1) ≤ 9223372036854775807)) = true) (h5 : (Decidable.decide (Int.ofNat (q + 1) > 256)) = false) (h6 : (Decidable.decide (Int.ofNat (q + 1) = Int.ofNat (q + 1) ∧ 0 ≤ Int.ofNat (q + 1) ∧ (24 : Int) * Int.ofNat (q + 1) ≤ 281474976710656 ∧ Int.ofNat (q + 1) ≤ 9223372036854775807)) = true) (h7 : (Decidable.decide (c < 1)) = false) (h8 : (Decidable.decide (c > 64)) = false) (h9 : (Decidable.decide (0 < ((Int.ofNat (s + 1)).toNat : Int))) = true) (h10 : (Decidable.decide ((0 : Int) ≤ 0 ∧ 0 < ((Int.ofNat (s + 1)).toNat : Int))) = true) (h11 : (0 == g) = false) (h12 : (Decidable.decide (0 < ((Int.ofNat (q + 1)).toNat : Int))) = true) (h13 : (Decidable.decide ((0 : Int) ≤ 0 ∧ 0 < ((Int.ofNat (q + 1)).toNat : Int))) = true)  :
    Does Tryz.prog 3 (topH W (.ofNat (s + 1)) (.ofNat (q + 1)) c d e g (.slice (some ⟨ba, oa, some 0⟩) M ca) (.chan none)) 26 (topH W (.ofNat (s + 1)) (.ofNat (q + 1)) c d e g (.slice (some ⟨ba, oa, some 0⟩) M ca) (.chan none) ++ (storeH s q c d e g 1 0 ++ [(23, .map [])])) (.code tp2 top1T) (.out .normal (mkT 147 0 [(1, .pointer (some ⟨1, 0, none⟩)), (3, .pointer (some ⟨25, 0, none⟩)), (4, .nilIface)])) :=
  does_of mixed con3_holds [(6, 6), (7, 7), (8, 8), (9, 9), (10, 10), (11, 11), (12, 12), (17, 17), (18, 18), (22, 22), (24, 24), (25, 25), (23, 23)] [(0, false), (1, false), (6, true), (7, false), (8, true), (9, false), (10, false), (11, false), (12, false), (17, false), (18, false), (22, false), (24, false), (25, false), (23, false)] (d := [(3, .br false), (10, .br false), (11, .br false), (12, .br false), (13, .br false), (14, .br false), (15, .br false), (16, .br false), (17, .br true), (22, .br false), (23, .br true), (26, .br false), (27, .br false), (28, .br false), (29, .br false), (30, .br false), (31, .br false), (32, .br false), (33, .br false), (34, .br false), (35, .br false), (40, .br true), (42, .br true), (47, .br false), (67, .br true), (69, .br true), (73, .br true), (92, .br true), (112, .br false), (113, .br false), (114, .br false), (115, .br false), (116, .br false), (117, .br false), (118, .br false), (119, .br false), (120, .br false), (121, .br false)]) (n := 600) (c2 := 26) (L' := [.p (Cover (slotsL s) ((slotsL s).map (renV (nameOf [(6, 6), (7, 7), (8, 8), (9, 9), (10, 10), (11, 11), (12, 12), (17, 17), (18, 18), (22, 22), (24, 24), (25, 25), (23, 23)] 3 26) 9))), .p (Cover (pagesL q) ((pagesL q).map (renV (nameOf [(6, 6), (7, 7), (8, 8), (9, 9), (10, 10), (11, 11), (12, 12), (17, 17), (18, 18), (22, 22), (24, 24), (25, 25), (23, 23)] 3 26) 9)))]) (L := [.b ((Decidable.decide (g > 1099511627776)) == false), .b ((Decidable.decide (g < 1)) == false), .b ((Decidable.decide (g < 1)) == false), .b ((Decidable.decide (g < 1)) == false), .b ((Decidable.decide (c > 64)) == false), .b ((Decidable.decide (c > 64)) == false), .b ((Decidable.decide (c > 64)) == false), .b ((Decidable.decide (c < 1)) == false), .b ((Decidable.decide (c < 1)) == false), .b ((Decidable.decide (c < 1)) == false), .b (Decidable.decide ((0 : Int) ≤ 0 ∧ 0 < ((Int.ofNat (q + 1)).toNat : Int))), .b (Decidable.decide ((0 : Int) ≤ 0 ∧ 0 < ((Int.ofNat (q + 1)).toNat : Int))), .b (Decidable.decide ((0 : Int) ≤ 0 ∧ 0 < ((Int.ofNat (q + 1)).toNat : Int))), .b ((Decidable.decide (0 < ((Int.ofNat (q + 1)).toNat : Int))) == true), .b ((0 == g) == false), .b (Decidable.decide ((0 : Int) ≤ 0 ∧ 0 < ((Int.ofNat (s + 1)).toNat : Int))), .b ((Decidable.decide (0 < ((Int.ofNat (s + 1)).toNat : Int))) == true), .b ((Decidable.decide (g > 1099511627776)) == false), .b ((Decidable.decide (g < 1)) == false), .b ((Decidable.decide (g < 1)) == false), .b ((Decidable.decide (g < 1)) == false), .b ((Decidable.decide (c > 64)) == false), .b ((Decidable.decide (c > 64)) == false), .b ((Decidable.decide (c > 64)) == false), .b ((Decidable.decide (c < 1)) == false), .b ((Decidable.decide (c < 1)) == false), .b ((Decidable.decide (c < 1)) == false), .b (Decidable.decide (Int.ofNat (q + 1) = Int.ofNat (q + 1) ∧ 0 ≤ Int.ofNat (q + 1) ∧ (24 : Int) * Int.ofNat (q + 1) ≤ 281474976710656 ∧ Int.ofNat (q + 1) ≤ 9223372036854775807)), .b ((Decidable.decide (Int.ofNat (q + 1) > 256)) == false), .b (Decidable.decide (Int.ofNat (s + 1) = Int.ofNat (s + 1) ∧ 0 ≤ Int.ofNat (s + 1) ∧ (208 : Int) * Int.ofNat (s + 1) ≤ 281474976710656 ∧ Int.ofNat (s + 1) ≤ 9223372036854775807)), .b ((Decidable.decide (g > 1099511627776)) == false), .b ((Decidable.decide (g < 1)) == false), .b ((Decidable.decide (g < 1)) == false), .b ((Decidable.decide (g < 1)) == false), .b ((Decidable.decide (Int.ofNat (s + 1) > 4096)) == false), .b ((Decidable.decide (Int.ofNat (s + 1) > 4096)) == false), .b ((Decidable.decide (Int.ofNat (s + 1) > 4096)) == false), .b ((!Go.Proofs.YtglaapelpidfhaaGreat.rightB (Int.ofNat (s + 1)) (Int.ofNat (q + 1)) c d e g) == false)]) (by kernel_rfl) rfl rfl (vcs_cons (cover_slots (nm := nameOf [(6, 6), (7, 7), (8, 8), (9, 9), (10, 10), (11, 11), (12, 12), (17, 17), (18, 18), (22, 22), (24, 24), (25, 25), (23, 23)] 3 26) rfl rfl s) (vcs_cons (cover_pages (nm := nameOf [(6, 6), (7, 7), (8, 8), (9, 9), (10, 10), (11, 11), (12, 12), (17, 17), (18, 18), (22, 22), (24, 24), (25, 25), (23, 23)] 3 26) q) vcs_nil))
    (by
      refine vcs_cons (vc_b h3) ?_
      refine vcs_cons (vc_b h2) ?_
      refine vcs_cons (vc_b h2) ?_
      refine vcs_cons (vc_b h2) ?_
      refine vcs_cons (vc_b h8) ?_
      refine vcs_cons (vc_b h8) ?_
      refine vcs_cons (vc_b h8) ?_
      refine vcs_cons (vc_b h7) ?_
      refine vcs_cons (vc_b h7) ?_
      refine vcs_cons (vc_b h7) ?_
      refine vcs_cons (vc_c h13) ?_
      refine vcs_cons (vc_c h13) ?_
      refine vcs_cons (vc_c h13) ?_
      refine vcs_cons (vc_b h12) ?_
      refine vcs_cons (vc_b h11) ?_
      refine vcs_cons (vc_c h10) ?_
      refine vcs_cons (vc_b h9) ?_
      refine vcs_cons (vc_b h3) ?_
      refine vcs_cons (vc_b h2) ?_
      refine vcs_cons (vc_b h2) ?_
      refine vcs_cons (vc_b h2) ?_
      refine vcs_cons (vc_b h8) ?_
      refine vcs_cons (vc_b h8) ?_
      refine vcs_cons (vc_b h8) ?_
      refine vcs_cons (vc_b h7) ?_
      refine vcs_cons (vc_b h7) ?_
      refine vcs_cons (vc_b h7) ?_
      refine vcs_cons (vc_c h6) ?_
      refine vcs_cons (vc_b h5) ?_
      refine vcs_cons (vc_c h4) ?_
      refine vcs_cons (vc_b h3) ?_
      refine vcs_cons (vc_b h2) ?_
      refine vcs_cons (vc_b h2) ?_
      refine vcs_cons (vc_b h2) ?_
      refine vcs_cons (vc_b h1) ?_
      refine vcs_cons (vc_b h1) ?_
      refine vcs_cons (vc_b h1) ?_
      refine vcs_cons (vc_b h0) ?_
      exact vcs_nil)
end Go.Proofs.YtglaapelpidfhaaGreat
