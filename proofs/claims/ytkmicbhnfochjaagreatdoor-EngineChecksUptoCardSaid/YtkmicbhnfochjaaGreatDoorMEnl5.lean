/- What a script's lines come to: which line is none. No condition. -/
import Derived.Test.YtkmicbhnfochjaaGreatDoorMCon5
import Derived.Test.YtkmicbhnfochjaaGreatDoorMEnl3
import Derived.Test.YtkmicbhnfochjaaGreatDoorMSxTab

namespace Go.Proofs.YtkmicbhnfochjaaGreatDoor
open Go Go.Sx Go.Eng
/-- Is a line passed over? -/
def skipL (s : ByteArray) : Bool := match s.data.toList with
  | [] => true
  | c :: _ => c == 35
def cut32 (s : ByteArray) : List ByteArray := cutS (UInt8.ofNat 32) s
/-- Which line is none, if one is; with the threads, if the limits stand ahead. -/
def linS : Option Int → List ByteArray → Nat → Option Nat
  | _, [], _ => none
  | t, x :: l, j => bif skipL x then linS t l (j + 1) else match t with
    | none => bif limO (cut32 x) then linS (some (limI 2 (cut32 x))) l (j + 1) else some (j + 1)
    | some c => bif lineR befB c (cut32 x) then linS (some c) l (j + 1) else some (j + 1)
/-- The limits of a script that may be. -/
def linX (i : Nat) : List ByteArray → Int
  | [] => 0
  | x :: l => bif skipL x then linX i l else limI i (cut32 x)
theorem linX_skip {i : Nat} {x : ByteArray} {l : List ByteArray} (h : skipL x = true) : linX i (x :: l) = linX i l := by
  conv => lhs; unfold linX
  rw [h, cond_true]
theorem linX_lim {i : Nat} {x : ByteArray} {l : List ByteArray} (h : skipL x = false) : linX i (x :: l) = limI i (cut32 x) := by
  conv => lhs; unfold linX
  rw [h, cond_false]
theorem linS_skip {t : Option Int} {x : ByteArray} {l : List ByteArray} {j : Nat} (h : skipL x = true) : linS t (x :: l) j = linS t l (j + 1) := by
  conv => lhs; unfold linS
  rw [h, cond_true]
theorem linS_lim {x : ByteArray} {l : List ByteArray} {j : Nat} (h : skipL x = false) (h2 : limO (cut32 x) = true) : linS none (x :: l) j = linS (some (limI 2 (cut32 x))) l (j + 1) := by
  conv => lhs; unfold linS
  simp only [h, h2, cond_true, cond_false]
theorem linS_nolim {x : ByteArray} {l : List ByteArray} {j : Nat} (h : skipL x = false) (h2 : limO (cut32 x) = false) : linS none (x :: l) j = some (j + 1) := by
  conv => lhs; unfold linS
  simp only [h, h2, cond_false]
theorem linS_line {c : Int} {x : ByteArray} {l : List ByteArray} {j : Nat} (h : skipL x = false) (h2 : lineR befB c (cut32 x) = true) : linS (some c) (x :: l) j = linS (some c) l (j + 1) := by
  conv => lhs; unfold linS
  simp only [h, h2, cond_true, cond_false]
theorem linS_noline {c : Int} {x : ByteArray} {l : List ByteArray} {j : Nat} (h : skipL x = false) (h2 : lineR befB c (cut32 x) = false) : linS (some c) (x :: l) j = some (j + 1) := by
  conv => lhs; unfold linS
  simp only [h, h2, cond_false]
theorem skip_nil {s : ByteArray} (h : strEq s { data := #[] } = true) : skipL s = true := by
  rw [strEq_dec, decide_eq_true_eq] at h
  subst h; rfl
theorem skip_cons {s : ByteArray} (h : strEq s { data := #[] } = false) : 1 ≤ s.data.toList.length ∧ ((((s.data.toList.getD 0 0).toNat : Nat) : Int) == (35 : Int)) = skipL s := by
  rw [strEq_dec, decide_eq_false_iff_not] at h
  cases e : s.data.toList with
  | nil =>
    refine absurd ?_ h
    cases s with
    | mk d =>
      cases d with
      | mk l => simp only at e; subst e; rfl
  | cons c l =>
    refine ⟨by simp, ?_⟩
    unfold skipL
    rw [e]
    simp only [List.getD_cons_zero]
    rw [Bool.eq_iff_iff, beq_iff_eq, beq_iff_eq]
    constructor
    · intro h
      exact UInt8.toNat_inj.1 (by have : (35 : UInt8).toNat = 35 := rfl
                                  omega)
    · intro h; subst h; rfl
theorem limO_pos {ps : List ByteArray} (h : limO ps = true) : 4 ≤ limI 0 ps := by
  unfold limO at h; unfold limI
  split at h
  · rename_i a b c d e g hp
    rw [hp]
    simp only [rightB, decide_eq_true_eq] at h
    simp only [List.getD_cons_zero]
    exact h.1
  · cases h
end Go.Proofs.YtkmicbhnfochjaaGreatDoor

namespace Go.Proofs.YtkmicbhnfochjaaGreatDoor
open Go Go.Sx Go.Eng
def limT (ps : List ByteArray) : Bool := (bif ((↑ps.length : Int) != (7 : Int)) then (false) else ((bif (!strEq (ps.getD (0 : Nat) default) { data := #[(108 : UInt8), (105 : UInt8), (109 : UInt8), (105 : UInt8), (116 : UInt8), (115 : UInt8)] }) then (false) else ((bif (!numO (ps.getD (1 : Nat) default)) then (false) else ((bif (!numO (ps.getD (2 : Nat) default)) then (false) else ((bif (!numO (ps.getD (3 : Nat) default)) then (false) else ((bif (!numO (ps.getD (4 : Nat) default)) then (false) else ((bif (!numO (ps.getD (5 : Nat) default)) then (false) else ((bif (!numO (ps.getD (6 : Nat) default)) then (false) else ((bif (!rightB (numN (ps.getD (1 : Nat) default)) (numN (ps.getD (2 : Nat) default)) (numN (ps.getD (3 : Nat) default)) (numN (ps.getD (4 : Nat) default)) (numN (ps.getD (5 : Nat) default)) (numN (ps.getD (6 : Nat) default))) then (false) else (true))))))))))))))))))
def readT (ps : List ByteArray) (c : Int) : Bool := (bif (strEq (ps.getD (0 : Nat) default) { data := #[(100 : UInt8), (114 : UInt8), (97 : UInt8), (105 : UInt8), (110 : UInt8)] }) then ((bif (!(↑ps.length : Int) == (1 : Int)) then (false) else (true))) else ((bif (strEq (ps.getD (0 : Nat) default) { data := #[(115 : UInt8), (99 : UInt8), (97 : UInt8), (110 : UInt8)] }) then ((bif (!(↑ps.length : Int) == (1 : Int)) then (false) else (true))) else ((bif (strEq (ps.getD (0 : Nat) default) { data := #[(115 : UInt8), (116 : UInt8), (97 : UInt8), (116 : UInt8)] }) then ((bif (!(↑ps.length : Int) == (1 : Int)) then (false) else (true))) else ((bif (decide ((↑ps.length : Int) < (3 : Int))) then (false) else ((bif (!numO (ps.getD (1 : Nat) default)) then (false) else ((bif (decide (numN (ps.getD (1 : Nat) default) ≥ c)) then (false) else ((bif (strEq (ps.getD (0 : Nat) default) { data := #[(99 : UInt8), (97 : UInt8), (108 : UInt8), (108 : UInt8)] }) then ((bif (!strEq (ps.getD (2 : Nat) default) { data := #[(103 : UInt8), (101 : UInt8), (116 : UInt8)] }) then ((bif (!strEq (ps.getD (2 : Nat) default) { data := #[(105 : UInt8), (110 : UInt8), (115 : UInt8), (101 : UInt8), (114 : UInt8), (116 : UInt8)] }) then ((bif (!strEq (ps.getD (2 : Nat) default) { data := #[(117 : UInt8), (112 : UInt8), (100 : UInt8), (97 : UInt8), (116 : UInt8), (101 : UInt8)] }) then ((bif (!strEq (ps.getD (2 : Nat) default) { data := #[(117 : UInt8), (112 : UInt8), (115 : UInt8), (101 : UInt8), (114 : UInt8), (116 : UInt8)] }) then ((bif (!strEq (ps.getD (2 : Nat) default) { data := #[(100 : UInt8), (101 : UInt8), (108 : UInt8), (101 : UInt8), (116 : UInt8), (101 : UInt8)] }) then (false) else ((bif ((↑((↑ps.length : Int) - (2 : Int)).toNat : Int) != (2 : Int)) then (false) else ((bif (!wordB (ps.getD (3 : Nat) default)) then (false) else (true))))))) else ((bif ((↑((↑ps.length : Int) - (2 : Int)).toNat : Int) != (3 : Int)) then (false) else ((bif (!wordB (ps.getD (3 : Nat) default)) then (false) else ((bif (strEq (ps.getD (4 : Nat) default) { data := #[(45 : UInt8)] }) then (true) else ((bif (!wordB (ps.getD (4 : Nat) default)) then (false) else (true))))))))))) else ((bif ((↑((↑ps.length : Int) - (2 : Int)).toNat : Int) != (3 : Int)) then (false) else ((bif (!wordB (ps.getD (3 : Nat) default)) then (false) else ((bif (strEq (ps.getD (4 : Nat) default) { data := #[(45 : UInt8)] }) then (true) else ((bif (!wordB (ps.getD (4 : Nat) default)) then (false) else (true))))))))))) else ((bif ((↑((↑ps.length : Int) - (2 : Int)).toNat : Int) != (3 : Int)) then (false) else ((bif (!wordB (ps.getD (3 : Nat) default)) then (false) else ((bif (strEq (ps.getD (4 : Nat) default) { data := #[(45 : UInt8)] }) then (true) else ((bif (!wordB (ps.getD (4 : Nat) default)) then (false) else (true))))))))))) else ((bif ((↑((↑ps.length : Int) - (2 : Int)).toNat : Int) != (2 : Int)) then (false) else ((bif (!wordB (ps.getD (3 : Nat) default)) then (false) else (true))))))) else ((bif (strEq (ps.getD (0 : Nat) default) { data := #[(97 : UInt8), (99 : UInt8), (116 : UInt8)] }) then ((bif (strEq (ps.getD (2 : Nat) default) { data := #[(98 : UInt8), (101 : UInt8), (103 : UInt8), (105 : UInt8), (110 : UInt8)] }) then ((bif (!(↑((↑ps.length : Int) - (2 : Int)).toNat : Int) == (1 : Int)) then (false) else (true))) else ((bif (strEq (ps.getD (2 : Nat) default) { data := #[(108 : UInt8), (111 : UInt8), (111 : UInt8), (107 : UInt8)] }) then ((bif (!(↑((↑ps.length : Int) - (2 : Int)).toNat : Int) == (1 : Int)) then (false) else (true))) else ((bif (strEq (ps.getD (2 : Nat) default) { data := #[(99 : UInt8), (111 : UInt8), (109 : UInt8), (109 : UInt8), (105 : UInt8), (116 : UInt8)] }) then ((bif (!(↑((↑ps.length : Int) - (2 : Int)).toNat : Int) == (1 : Int)) then (false) else (true))) else ((bif (strEq (ps.getD (2 : Nat) default) { data := #[(97 : UInt8), (98 : UInt8), (111 : UInt8), (114 : UInt8), (116 : UInt8)] }) then ((bif (!(↑((↑ps.length : Int) - (2 : Int)).toNat : Int) == (1 : Int)) then (false) else (true))) else ((bif (strEq (ps.getD (2 : Nat) default) { data := #[(102 : UInt8), (108 : UInt8), (117 : UInt8), (115 : UInt8), (104 : UInt8)] }) then ((bif (!(↑((↑ps.length : Int) - (2 : Int)).toNat : Int) == (1 : Int)) then (false) else (true))) else ((bif (strEq (ps.getD (2 : Nat) default) { data := #[(114 : UInt8), (101 : UInt8), (97 : UInt8), (100 : UInt8)] }) then ((bif ((↑((↑ps.length : Int) - (2 : Int)).toNat : Int) == (2 : Int)) then ((bif (!wordB (ps.getD (3 : Nat) default)) then (false) else (true))) else (false))) else ((bif (strEq (ps.getD (2 : Nat) default) { data := #[(100 : UInt8), (114 : UInt8), (111 : UInt8), (112 : UInt8)] }) then ((bif ((↑((↑ps.length : Int) - (2 : Int)).toNat : Int) == (2 : Int)) then ((bif (!wordB (ps.getD (3 : Nat) default)) then (false) else (true))) else (false))) else ((bif (strEq (ps.getD (2 : Nat) default) { data := #[(112 : UInt8), (117 : UInt8), (116 : UInt8)] }) then ((bif ((↑((↑ps.length : Int) - (2 : Int)).toNat : Int) == (3 : Int)) then ((bif (strEq (ps.getD (4 : Nat) default) { data := #[(45 : UInt8)] }) then ((bif (!wordB (ps.getD (3 : Nat) default)) then (false) else (true))) else ((bif (wordB (ps.getD (4 : Nat) default)) then ((bif (!wordB (ps.getD (3 : Nat) default)) then (false) else (true))) else (false))))) else (false))) else ((bif (strEq (ps.getD (2 : Nat) default) { data := #[(114 : UInt8), (97 : UInt8), (110 : UInt8), (103 : UInt8), (101 : UInt8)] }) then ((bif ((↑((↑ps.length : Int) - (2 : Int)).toNat : Int) == (3 : Int)) then ((bif (wordB (ps.getD (3 : Nat) default)) then ((bif (wordB (ps.getD (4 : Nat) default)) then ((bif (!decide (cmpB (ps.getD (3 : Nat) default) (ps.getD (4 : Nat) default) < (0 : Int))) then (false) else (true))) else (false))) else (false))) else (false))) else (false))))))))))))))))))) else ((bif (strEq (ps.getD (0 : Nat) default) { data := #[(115 : UInt8), (116 : UInt8), (101 : UInt8), (112 : UInt8)] }) then ((bif (numO (ps.getD (2 : Nat) default)) then ((bif ((↑ps.length : Int) == (3 : Int)) then ((bif (!decide (numN (ps.getD (2 : Nat) default) ≤ (16384 : Int))) then (false) else (true))) else (false))) else (false))) else ((bif (strEq (ps.getD (0 : Nat) default) { data := #[(116 : UInt8), (117 : UInt8), (114 : UInt8), (110 : UInt8)] }) then ((bif (numO (ps.getD (2 : Nat) default)) then ((bif ((↑ps.length : Int) == (3 : Int)) then ((bif (!decide (numN (ps.getD (2 : Nat) default) ≤ (16384 : Int))) then (false) else (true))) else (false))) else (false))) else (false))))))))))))))))))))
theorem nm_s_flush : ({ data := #[(102 : UInt8), (108 : UInt8), (117 : UInt8), (115 : UInt8), (104 : UInt8)] } : ByteArray) = s_flush := rfl
theorem nm_s_stat : ({ data := #[(115 : UInt8), (116 : UInt8), (97 : UInt8), (116 : UInt8)] } : ByteArray) = s_stat := rfl
theorem nm_s_get : ({ data := #[(103 : UInt8), (101 : UInt8), (116 : UInt8)] } : ByteArray) = s_get := rfl
theorem nm_s_drain : ({ data := #[(100 : UInt8), (114 : UInt8), (97 : UInt8), (105 : UInt8), (110 : UInt8)] } : ByteArray) = s_drain := rfl
theorem nm_s_act : ({ data := #[(97 : UInt8), (99 : UInt8), (116 : UInt8)] } : ByteArray) = s_act := rfl
theorem nm_s_call : ({ data := #[(99 : UInt8), (97 : UInt8), (108 : UInt8), (108 : UInt8)] } : ByteArray) = s_call := rfl
theorem nm_s_turn : ({ data := #[(116 : UInt8), (117 : UInt8), (114 : UInt8), (110 : UInt8)] } : ByteArray) = s_turn := rfl
theorem nm_s_step : ({ data := #[(115 : UInt8), (116 : UInt8), (101 : UInt8), (112 : UInt8)] } : ByteArray) = s_step := rfl
theorem nm_s_upsert : ({ data := #[(117 : UInt8), (112 : UInt8), (115 : UInt8), (101 : UInt8), (114 : UInt8), (116 : UInt8)] } : ByteArray) = s_upsert := rfl
theorem nm_s_insert : ({ data := #[(105 : UInt8), (110 : UInt8), (115 : UInt8), (101 : UInt8), (114 : UInt8), (116 : UInt8)] } : ByteArray) = s_insert := rfl
theorem nm_s_scan : ({ data := #[(115 : UInt8), (99 : UInt8), (97 : UInt8), (110 : UInt8)] } : ByteArray) = s_scan := rfl
theorem nm_s_look : ({ data := #[(108 : UInt8), (111 : UInt8), (111 : UInt8), (107 : UInt8)] } : ByteArray) = s_look := rfl
theorem nm_s_drop : ({ data := #[(100 : UInt8), (114 : UInt8), (111 : UInt8), (112 : UInt8)] } : ByteArray) = s_drop := rfl
theorem nm_s_range : ({ data := #[(114 : UInt8), (97 : UInt8), (110 : UInt8), (103 : UInt8), (101 : UInt8)] } : ByteArray) = s_range := rfl
theorem nm_s_begin : ({ data := #[(98 : UInt8), (101 : UInt8), (103 : UInt8), (105 : UInt8), (110 : UInt8)] } : ByteArray) = s_begin := rfl
theorem nm_s_commit : ({ data := #[(99 : UInt8), (111 : UInt8), (109 : UInt8), (109 : UInt8), (105 : UInt8), (116 : UInt8)] } : ByteArray) = s_commit := rfl
theorem nm_s_read : ({ data := #[(114 : UInt8), (101 : UInt8), (97 : UInt8), (100 : UInt8)] } : ByteArray) = s_read := rfl
theorem nm_s_limits : ({ data := #[(108 : UInt8), (105 : UInt8), (109 : UInt8), (105 : UInt8), (116 : UInt8), (115 : UInt8)] } : ByteArray) = s_limits := rfl
theorem nm_s_update : ({ data := #[(117 : UInt8), (112 : UInt8), (100 : UInt8), (97 : UInt8), (116 : UInt8), (101 : UInt8)] } : ByteArray) = s_update := rfl
theorem nm_s_delete : ({ data := #[(100 : UInt8), (101 : UInt8), (108 : UInt8), (101 : UInt8), (116 : UInt8), (101 : UInt8)] } : ByteArray) = s_delete := rfl
theorem nm_s_put : ({ data := #[(112 : UInt8), (117 : UInt8), (116 : UInt8)] } : ByteArray) = s_put := rfl
theorem nm_s_dash : ({ data := #[(45 : UInt8)] } : ByteArray) = s_dash := rfl
theorem nm_s_abort : ({ data := #[(97 : UInt8), (98 : UInt8), (111 : UInt8), (114 : UInt8), (116 : UInt8)] } : ByteArray) = s_abort := rfl
theorem limT_eq (ps : List ByteArray) : limT ps = limO ps := by
  by_cases h : ps.length = 7
  · obtain ⟨a, b, c, d, e, f, g, rfl⟩ : ∃ a b c d e f g, ps = [a, b, c, d, e, f, g] := by
      match ps, h with
      | [a, b, c, d, e, f, g], _ => exact ⟨a, b, c, d, e, f, g, rfl⟩
    unfold limT limO limP
    simp only [List.getD_cons_zero, List.getD_cons_succ, nm_s_limits]
    cases numO b <;> cases numO c <;> cases numO d <;> cases numO e <;> cases numO f <;> cases numO g <;> cases strEq a s_limits <;> try rfl
    show (bif !(rightB _ _ _ _ _ _) then false else true) = rightB _ _ _ _ _ _
    cases rightB (numN b) (numN c) (numN d) (numN e) (numN f) (numN g) <;> rfl
  · have h1 : ((ps.length : Int) != (7 : Int)) = true := by rw [bne_iff_ne]; omega
    unfold limT
    rw [h1, cond_true]
    unfold limO limP
    split
    · rename_i hp
      split at hp
      · exact absurd rfl h
      · cases hp
    · rfl
theorem limO_thr {ps : List ByteArray} (h : limO ps = true) : limI 2 ps = numN (ps.getD 3 default) := by
  unfold limO at h
  split at h
  · rename_i a b c d e g hp
    unfold limI
    rw [hp]
    unfold limP at hp
    split at hp
    · rename_i x1 x2 x3 x4 x5 x6 x7
      cases hq : (numO x2 && (numO x3 && (numO x4 && (numO x5 && (numO x6 && (numO x7 && strEq x1 s_limits)))))) with
      | true =>
        rw [hq, cond_true] at hp
        simp only [Option.some.injEq, List.cons.injEq] at hp
        obtain ⟨_, _, rfl, _⟩ := hp
        rfl
      | false => rw [hq, cond_false] at hp; cases hp
    · cases hp
  · cases h
theorem numOs {s : ByteArray} {n : Int} (h : numB s = some n) : numO s = true ∧ numN s = n := by unfold numO numN; rw [h]; exact ⟨rfl, rfl⟩
theorem numOn {s : ByteArray} (h : numB s = none) : numO s = false := by unfold numO; rw [h]; rfl
def w1 : List ByteArray → Bool
  | [w] => wordB w
  | _ => false
def w2 : List ByteArray → Bool
  | [w, v] => wordB w && valB v
  | _ => false
def w3 : List ByteArray → Bool
  | [a, b] => wordB a && wordB b && befB a b
  | _ => false
theorem len_is {r : List ByteArray} {k : Nat} {x : Int} (hx : x = (k : Int) + 1) (h : r.length = k) : (((r.length : Nat) : Int) + 1 == x) = true := by rw [beq_iff_eq]; omega
theorem len_no {r : List ByteArray} {k : Nat} {x : Int} (hx : x = (k : Int) + 1) (h : r.length ≠ k) : (((r.length : Nat) : Int) + 1 == x) = false := by rw [beq_eq_false_iff_ne]; omega
theorem q_w1 (r : List ByteArray) : (bif (((r.length : Nat) : Int) + 1 == (2 : Int)) then (bif !wordB (r.getD 0 default) then false else true) else false) = w1 r := by
  match r with
  | [] => rfl
  | [x] => show (bif !wordB x then false else true) = wordB x; cases wordB x <;> rfl
  | x :: y :: t => rw [len_no (x := 2) (k := 1) rfl (by simp)]; rfl
theorem q_w1' (r : List ByteArray) : (bif (((r.length : Nat) : Int) + 1 != (2 : Int)) then false else (bif !wordB (r.getD 0 default) then false else true)) = w1 r := by
  rw [← q_w1, bne]; cases (((r.length : Nat) : Int) + 1 == (2 : Int)) <;> rfl
theorem q_w2 (r : List ByteArray) : (bif (((r.length : Nat) : Int) + 1 != (3 : Int)) then false else (bif !wordB (r.getD 0 default) then false else (bif decide (r.getD 1 default = s_dash) then true else (bif !wordB (r.getD 1 default) then false else true)))) = w2 r := by
  match r with
  | [] => rfl
  | [x] => rfl
  | [x, y] =>
    show (bif !wordB x then false else (bif decide (y = s_dash) then true else (bif !wordB y then false else true))) = (wordB x && (decide (y = s_dash) || wordB y))
    cases wordB x <;> cases wordB y <;> cases decide (y = s_dash) <;> rfl
  | x :: y :: z :: t => rw [bne, len_no (x := 3) (k := 2) rfl (by simp)]; rfl
theorem q_w2' (r : List ByteArray) : (bif (((r.length : Nat) : Int) + 1 == (3 : Int)) then (bif decide (r.getD 1 default = s_dash) then (bif !wordB (r.getD 0 default) then false else true) else (bif wordB (r.getD 1 default) then (bif !wordB (r.getD 0 default) then false else true) else false)) else false) = w2 r := by
  match r with
  | [] => rfl
  | [x] => rfl
  | [x, y] =>
    show (bif decide (y = s_dash) then (bif !wordB x then false else true) else (bif wordB y then (bif !wordB x then false else true) else false)) = (wordB x && (decide (y = s_dash) || wordB y))
    cases wordB x <;> cases wordB y <;> cases decide (y = s_dash) <;> rfl
  | x :: y :: z :: t => rw [len_no (x := 3) (k := 2) rfl (by simp)]; rfl
theorem q_w3 (r : List ByteArray) : (bif (((r.length : Nat) : Int) + 1 == (3 : Int)) then (bif wordB (r.getD 0 default) then (bif wordB (r.getD 1 default) then (bif !decide (cmpB (r.getD 0 default) (r.getD 1 default) < (0 : Int)) then false else true) else false) else false) else false) = w3 r := by
  match r with
  | [] => rfl
  | [x] => rfl
  | [x, y] =>
    show (bif wordB x then (bif wordB y then (bif !decide (cmpB x y < (0 : Int)) then false else true) else false) else false) = (wordB x && wordB y && befB x y)
    rw [bef_cmp]
    cases wordB x <;> cases wordB y <;> cases decide (cmpB x y < 0) <;> rfl
  | x :: y :: z :: t => rw [len_no (x := 3) (k := 2) rfl (by simp)]; rfl
theorem q_e (r : List ByteArray) : (bif !(((r.length : Nat) : Int) + 1 == (1 : Int)) then false else true) = r.isEmpty := by
  match r with
  | [] => rfl
  | x :: t => rw [len_no (x := 1) (k := 0) rfl (by simp)]; rfl
theorem q_t (d : ByteArray) (r : List ByteArray) : (bif numO d then (bif (((r.length : Nat) : Int) + 3 == (3 : Int)) then (bif !decide (numN d ≤ (16384 : Int)) then false else true) else false) else false) = (timB d && r.isEmpty) := by
  unfold timB
  cases hd : numB d with
  | none => rw [numOn hd]; rfl
  | some n =>
    rw [(numOs hd).1, (numOs hd).2]
    match r with
    | [] =>
      show (bif !decide (n ≤ (16384 : Int)) then false else true) = (decide (n ≤ (16384 : Int)) && true)
      cases decide (n ≤ (16384 : Int)) <;> rfl
    | x :: t =>
      rw [show ((((x :: t).length : Nat) : Int) + 3 == (3 : Int)) = false by rw [beq_eq_false_iff_ne]; simp only [List.length_cons]; omega]
      show false = (decide (n ≤ (16384 : Int)) && false)
      rw [Bool.and_false]
theorem readT_eq (ps : List ByteArray) (c : Int) : readT ps c = lineE befB c ps := by
  unfold readT
  simp only [strEq_dec, nm_s_flush, nm_s_stat, nm_s_get, nm_s_drain, nm_s_act, nm_s_call, nm_s_turn, nm_s_step, nm_s_upsert, nm_s_insert, nm_s_scan, nm_s_look, nm_s_drop, nm_s_range, nm_s_begin, nm_s_commit, nm_s_read, nm_s_limits, nm_s_update, nm_s_delete, nm_s_put, nm_s_dash, nm_s_abort]
  match ps with
  | [] => rfl
  | [a] =>
    unfold lineE
    by_cases h1 : a = s_drain
    · subst h1; rfl
    by_cases h2 : a = s_scan
    · subst h2; rfl
    by_cases h3 : a = s_stat
    · subst h3; rfl
    simp only [List.getD_cons_zero, h1, h2, h3, decide_false, cond_false, or_self, if_false]
    rfl
  | [a, b] =>
    unfold lineE
    by_cases h1 : a = s_drain
    · subst h1; rfl
    by_cases h2 : a = s_scan
    · subst h2; rfl
    by_cases h3 : a = s_stat
    · subst h3; rfl
    simp only [List.getD_cons_zero, h1, h2, h3, decide_false, cond_false, or_self, if_false]
    rfl
  | a :: b :: d :: r =>
    have n1 : ((((a :: b :: d :: r).length : Nat) : Int) == (1 : Int)) = false := by rw [beq_eq_false_iff_ne]; simp only [List.length_cons]; omega
    have n3 : decide ((((a :: b :: d :: r).length : Nat) : Int) < (3 : Int)) = false := by rw [decide_eq_false_iff_not]; simp only [List.length_cons]; omega
    have nm : ((((((a :: b :: d :: r).length : Nat) : Int) - (2 : Int)).toNat : Nat) : Int) = (r.length : Int) + 1 := by simp only [List.length_cons]; omega
    have nn : (((a :: b :: d :: r).length : Nat) : Int) = (r.length : Int) + 3 := by simp only [List.length_cons]; omega
    simp only [n1, n3, nm, List.getD_cons_zero, List.getD_cons_succ]
    simp only [nn]
    have hl : lineE befB c (a :: b :: d :: r) = if a = s_drain ∨ a = s_scan ∨ a = s_stat then false else (if thrB c b then (if a = s_call then callE d r else if a = s_act then actE befB d r else if a = s_step ∨ a = s_turn then timB d && r.isEmpty else false) else false) := rfl
    rw [hl]
    have hc : callE d r = if d = s_get ∨ d = s_delete then w1 r else if d = s_insert ∨ d = s_update ∨ d = s_upsert then w2 r else false := by
      unfold callE w1 w2; rfl
    have hx : actE befB d r = if d = s_begin ∨ d = s_look ∨ d = s_commit ∨ d = s_abort ∨ d = s_flush then r.isEmpty else if d = s_read ∨ d = s_drop then w1 r else if d = s_put then w2 r else if d = s_range then w3 r else false := by
      unfold actE w1 w2 w3; rfl
    rw [hc, hx]
    simp only [q_w1, q_w1', q_w2, q_w2', q_w3, q_e, q_t]
    generalize w1 r = x1
    generalize w2 r = x2
    generalize w3 r = x3
    generalize (timB d && r.isEmpty) = x4
    generalize r.isEmpty = x5
    by_cases h1 : a = s_drain
    · subst h1; rfl
    by_cases h2 : a = s_scan
    · subst h2; rfl
    by_cases h3 : a = s_stat
    · subst h3; rfl
    simp only [h1, h2, h3, decide_false, cond_false, or_self, if_false]
    unfold thrB
    cases hb : numB b with
    | none => rw [numOn hb]; rfl
    | some n =>
      rw [(numOs hb).1, (numOs hb).2]
      simp only [Bool.not_true, cond_false]
      by_cases hn : n < c
      · rw [show decide (n ≥ c) = false by rw [decide_eq_false_iff_not]; omega]
        simp only [hn, decide_true, if_true, cond_false]
        by_cases h4 : a = s_call
        · simp only [h4, decide_true, cond_true, if_true]
          by_cases e0 : d = s_get
          · subst e0; rfl
          by_cases e1 : d = s_insert
          · subst e1; rfl
          by_cases e2 : d = s_update
          · subst e2; rfl
          by_cases e3 : d = s_upsert
          · subst e3; rfl
          by_cases e4 : d = s_delete
          · subst e4; rfl
          simp only [e0, e1, e2, e3, e4, Bool.not_false, decide_false, Bool.not_false, cond_true, cond_false, or_self, if_false]
        by_cases h5 : a = s_act
        · subst h5
          simp only [show ¬ s_act = s_call by decide, decide_true, decide_false, cond_true, cond_false, if_true, if_false]
          by_cases e0 : d = s_begin
          · subst e0; rfl
          by_cases e1 : d = s_look
          · subst e1; rfl
          by_cases e2 : d = s_commit
          · subst e2; rfl
          by_cases e3 : d = s_abort
          · subst e3; rfl
          by_cases e4 : d = s_flush
          · subst e4; rfl
          by_cases e5 : d = s_read
          · subst e5; rfl
          by_cases e6 : d = s_drop
          · subst e6; rfl
          by_cases e7 : d = s_put
          · subst e7; rfl
          by_cases e8 : d = s_range
          · subst e8; rfl
          simp only [e0, e1, e2, e3, e4, e5, e6, e7, e8, Bool.not_false, decide_false, Bool.not_false, cond_true, cond_false, or_self, if_false]
        by_cases h6 : a = s_step
        · subst h6; rfl
        by_cases h7 : a = s_turn
        · subst h7; rfl
        simp only [h4, h5, h6, h7, decide_false, cond_false, or_self, if_false]
      · rw [show decide (n ≥ c) = true by rw [decide_eq_true_eq]; omega]
        simp only [hn, decide_false, cond_true]
        rfl
end Go.Proofs.YtkmicbhnfochjaaGreatDoor

namespace Go.Proofs.YtkmicbhnfochjaaGreatDoor
open Go Go.Sx Go.Eng
theorem okP_get {ps : List ByteArray} (h : okP ps) (i : Nat) : (ps.getD i default).data.toList.length.ble 4294967295 = true := by
  by_cases hi : i < ps.length
  · exact okP_at h hi
  · rw [List.getD_eq_getElem?_getD, List.getElem?_eq_none (by omega)]
    rfl
theorem bigOk_small {m : Nat} (h : m ≤ 4294967295) : bigOk (m + 1) 16 = true := Nat.ble_eq_true_of_le (by omega)
set_option maxHeartbeats 4000000 in
theorem en0_all {B : Nat} {w0 : World} {each : List ByteArray} {m j : Nat} (hg : StableAt glob B ∧ glob w0) (hrow : okP (cte each j) ∧ 1 ≤ (cte each j).length) (hm : m ≤ 4294967295) (p0 : (decide ((↑j : Int) < (↑each.length : Int))) = true) (p1 : (decide ((0 : Int) ≤ (↑j : Int) ∧ (↑j : Int) < (↑each.length : Int))) = true) (p2 : (!strEq (each.getD j default) { data := #[] }) = true) (p3 : (decide ((0 : Int) ≤ (0 : Int) ∧ (0 : Int) < (↑(each.getD j default).data.toList.length : Int))) = true) (p4 : ((↑((each.getD j default).data.toList.getD (0 : Nat) (0 : UInt8)).toNat : Int) != (35 : Int)) = true) (p5 : ((each.getD j default).data.toList.length.ble (4294967280 : Nat)) = true) :
    (limT (cte each j) = true → Sx.Goes Tryz.prog 3 4 40 (enH B w0 each en0 m) enc (enT each j) (enH B w0 each (en1 (numN ((cte each j).getD 1 default)) (numN ((cte each j).getD 2 default)) (numN ((cte each j).getD 3 default)) (numN ((cte each j).getD 4 default)) (numN ((cte each j).getD 5 default)) (numN ((cte each j).getD 6 default))) m) (mkT 47 0 [(6, .pointer (some ⟨2, 0, none⟩)), (22, .slice (some ⟨1, 0, none⟩) each.length 0), (23, .int .i64 each.length), (24, .int .i64 (IntKind.i64.wrap ((j : Int) + 1)))])) ∧ (limT (cte each j) = false → Sx.Ends Tryz.prog 3 4 40 (enH B w0 each en0 m) enc (enT each j) .ret [(0, .args B w0)] (mkT 47 0 [(2, .pointer none), (3, .int .i64 (IntKind.i64.wrap ((j : Int) + 1))), (4, .iface 28 (.int .i64 14))])) := by
  cases q0 : ((↑(cte each j).length : Int) != (7 : Int)) with
  | false =>
    have q1 : (decide ((0 : Int) ≤ (0 : Int) ∧ (0 : Int) < (↑(cte each j).length : Int))) = true := (by have hr2 := hrow.2; simp at *; omega)
    cases q2 : (!strEq ((cte each j).getD (0 : Nat) default) { data := #[(108 : UInt8), (105 : UInt8), (109 : UInt8), (105 : UInt8), (116 : UInt8), (115 : UInt8)] }) with
    | false =>
      have q3 : (decide ((0 : Int) ≤ (1 : Int) ∧ (1 : Int) < (↑(cte each j).length : Int))) = true := (by have hr2 := hrow.2; simp at *; omega)
      have q4 : (((cte each j).getD (1 : Nat) default).data.toList.length.ble (4294967295 : Nat)) = true := okP_get hrow.1 1
      cases q5 : (!numO ((cte each j).getD (1 : Nat) default)) with
      | false =>
        have q6 : (decide ((0 : Int) ≤ (2 : Int) ∧ (2 : Int) < (↑(cte each j).length : Int))) = true := (by have hr2 := hrow.2; simp at *; omega)
        have q7 : (((cte each j).getD (2 : Nat) default).data.toList.length.ble (4294967295 : Nat)) = true := okP_get hrow.1 2
        cases q8 : (!numO ((cte each j).getD (2 : Nat) default)) with
        | false =>
          have q9 : (decide ((0 : Int) ≤ (3 : Int) ∧ (3 : Int) < (↑(cte each j).length : Int))) = true := (by have hr2 := hrow.2; simp at *; omega)
          have q10 : (((cte each j).getD (3 : Nat) default).data.toList.length.ble (4294967295 : Nat)) = true := okP_get hrow.1 3
          cases q11 : (!numO ((cte each j).getD (3 : Nat) default)) with
          | false =>
            have q12 : (decide ((0 : Int) ≤ (4 : Int) ∧ (4 : Int) < (↑(cte each j).length : Int))) = true := (by have hr2 := hrow.2; simp at *; omega)
            have q13 : (((cte each j).getD (4 : Nat) default).data.toList.length.ble (4294967295 : Nat)) = true := okP_get hrow.1 4
            cases q14 : (!numO ((cte each j).getD (4 : Nat) default)) with
            | false =>
              have q15 : (decide ((0 : Int) ≤ (5 : Int) ∧ (5 : Int) < (↑(cte each j).length : Int))) = true := (by have hr2 := hrow.2; simp at *; omega)
              have q16 : (((cte each j).getD (5 : Nat) default).data.toList.length.ble (4294967295 : Nat)) = true := okP_get hrow.1 5
              cases q17 : (!numO ((cte each j).getD (5 : Nat) default)) with
              | false =>
                have q18 : (decide ((0 : Int) ≤ (6 : Int) ∧ (6 : Int) < (↑(cte each j).length : Int))) = true := (by have hr2 := hrow.2; simp at *; omega)
                have q19 : (((cte each j).getD (6 : Nat) default).data.toList.length.ble (4294967295 : Nat)) = true := okP_get hrow.1 6
                cases q20 : (!numO ((cte each j).getD (6 : Nat) default)) with
                | false =>
                  cases q21 : (!rightB (numN ((cte each j).getD (1 : Nat) default)) (numN ((cte each j).getD (2 : Nat) default)) (numN ((cte each j).getD (3 : Nat) default)) (numN ((cte each j).getD (4 : Nat) default)) (numN ((cte each j).getD (5 : Nat) default)) (numN ((cte each j).getD (6 : Nat) default))) with
                  | false =>
                    have hv : limT (cte each j) = true := (by simp only [limT, q0, q2, q5, q8, q11, q14, q17, q20, q21, cond_true, cond_false]); exact ⟨fun _ => en0_g9 (m := m) p0 p1 p2 p3 p4 p5 q0 q1 q2 q3 q4 q5 q6 q7 q8 q9 q10 q11 q12 q13 q14 q15 q16 q17 q18 q19 q20 q21 hg, fun h => by rw [hv] at h; cases h⟩
                  | true =>
                    have hv : limT (cte each j) = false := (by simp only [limT, q0, q2, q5, q8, q11, q14, q17, q20, q21, cond_true, cond_false]); exact ⟨fun h => (by rw [hv] at h; cases h), fun _ => en0_r8 (m := m) p0 p1 p2 p3 p4 p5 q0 q1 q2 q3 q4 q5 q6 q7 q8 q9 q10 q11 q12 q13 q14 q15 q16 q17 q18 q19 q20 q21 hg⟩
                | true =>
                  have hv : limT (cte each j) = false := (by simp only [limT, q0, q2, q5, q8, q11, q14, q17, q20, cond_true, cond_false]); exact ⟨fun h => (by rw [hv] at h; cases h), fun _ => en0_r7 (m := m) p0 p1 p2 p3 p4 p5 q0 q1 q2 q3 q4 q5 q6 q7 q8 q9 q10 q11 q12 q13 q14 q15 q16 q17 q18 q19 q20 hg⟩
              | true =>
                have hv : limT (cte each j) = false := (by simp only [limT, q0, q2, q5, q8, q11, q14, q17, cond_true, cond_false]); exact ⟨fun h => (by rw [hv] at h; cases h), fun _ => en0_r6 (m := m) p0 p1 p2 p3 p4 p5 q0 q1 q2 q3 q4 q5 q6 q7 q8 q9 q10 q11 q12 q13 q14 q15 q16 q17 hg⟩
            | true =>
              have hv : limT (cte each j) = false := (by simp only [limT, q0, q2, q5, q8, q11, q14, cond_true, cond_false]); exact ⟨fun h => (by rw [hv] at h; cases h), fun _ => en0_r5 (m := m) p0 p1 p2 p3 p4 p5 q0 q1 q2 q3 q4 q5 q6 q7 q8 q9 q10 q11 q12 q13 q14 hg⟩
          | true =>
            have hv : limT (cte each j) = false := (by simp only [limT, q0, q2, q5, q8, q11, cond_true, cond_false]); exact ⟨fun h => (by rw [hv] at h; cases h), fun _ => en0_r4 (m := m) p0 p1 p2 p3 p4 p5 q0 q1 q2 q3 q4 q5 q6 q7 q8 q9 q10 q11 hg⟩
        | true =>
          have hv : limT (cte each j) = false := (by simp only [limT, q0, q2, q5, q8, cond_true, cond_false]); exact ⟨fun h => (by rw [hv] at h; cases h), fun _ => en0_r3 (m := m) p0 p1 p2 p3 p4 p5 q0 q1 q2 q3 q4 q5 q6 q7 q8 hg⟩
      | true =>
        have hv : limT (cte each j) = false := (by simp only [limT, q0, q2, q5, cond_true, cond_false]); exact ⟨fun h => (by rw [hv] at h; cases h), fun _ => en0_r2 (m := m) p0 p1 p2 p3 p4 p5 q0 q1 q2 q3 q4 q5 hg⟩
    | true =>
      have hv : limT (cte each j) = false := (by simp only [limT, q0, q2, cond_true, cond_false]); exact ⟨fun h => (by rw [hv] at h; cases h), fun _ => en0_r1 (m := m) p0 p1 p2 p3 p4 p5 q0 q1 q2 hg⟩
  | true =>
    have hv : limT (cte each j) = false := (by simp only [limT, q0, cond_true, cond_false]); exact ⟨fun h => (by rw [hv] at h; cases h), fun _ => en0_r0 (m := m) p0 p1 p2 p3 p4 p5 q0 hg⟩

set_option maxHeartbeats 4000000 in
theorem en1_all {B : Nat} {w0 : World} {each : List ByteArray} {m j : Nat} {a b c d e g : Int} (hg : StableAt glob B ∧ glob w0) (hrow : okP (cte each j) ∧ 1 ≤ (cte each j).length) (hm : m ≤ 4294967295) (p0 : (decide ((↑j : Int) < (↑each.length : Int))) = true) (p1 : (decide ((0 : Int) ≤ (↑j : Int) ∧ (↑j : Int) < (↑each.length : Int))) = true) (p2 : (!strEq (each.getD j default) { data := #[] }) = true) (p3 : (decide ((0 : Int) ≤ (0 : Int) ∧ (0 : Int) < (↑(each.getD j default).data.toList.length : Int))) = true) (p4 : ((↑((each.getD j default).data.toList.getD (0 : Nat) (0 : UInt8)).toNat : Int) != (35 : Int)) = true) (p5 : ((each.getD j default).data.toList.length.ble (4294967280 : Nat)) = true) :
    (readT (cte each j) c = true → Sx.Goes Tryz.prog 3 4 40 (enH B w0 each (en1 a b c d e g) m) enc (enT each j) (enH B w0 each (en1 a b c d e g) (m + 1)) (mkT 47 0 [(6, .pointer (some ⟨2, 0, none⟩)), (22, .slice (some ⟨1, 0, none⟩) each.length 0), (23, .int .i64 each.length), (24, .int .i64 (IntKind.i64.wrap ((j : Int) + 1)))])) ∧ (readT (cte each j) c = false → Sx.Ends Tryz.prog 3 4 40 (enH B w0 each (en1 a b c d e g) m) enc (enT each j) .ret [(0, .args B w0)] (mkT 47 0 [(2, .pointer none), (3, .int .i64 (IntKind.i64.wrap ((j : Int) + 1))), (4, .iface 28 (.int .i64 14))])) := by
  have q0 : (decide ((0 : Int) ≤ (0 : Int) ∧ (0 : Int) < (↑(cte each j).length : Int))) = true := (by have hr2 := hrow.2; simp at *; omega)
  cases q1 : (strEq ((cte each j).getD (0 : Nat) default) { data := #[(100 : UInt8), (114 : UInt8), (97 : UInt8), (105 : UInt8), (110 : UInt8)] }) with
  | false =>
    cases q2 : (strEq ((cte each j).getD (0 : Nat) default) { data := #[(115 : UInt8), (99 : UInt8), (97 : UInt8), (110 : UInt8)] }) with
    | false =>
      cases q3 : (strEq ((cte each j).getD (0 : Nat) default) { data := #[(115 : UInt8), (116 : UInt8), (97 : UInt8), (116 : UInt8)] }) with
      | false =>
        cases q4 : (decide ((↑(cte each j).length : Int) < (3 : Int))) with
        | false =>
          have q5 : (decide ((0 : Int) ≤ (1 : Int) ∧ (1 : Int) < (↑(cte each j).length : Int))) = true := (by have hr2 := hrow.2; simp at *; omega)
          have q6 : (((cte each j).getD (1 : Nat) default).data.toList.length.ble (4294967295 : Nat)) = true := okP_get hrow.1 1
          cases q7 : (!numO ((cte each j).getD (1 : Nat) default)) with
          | false =>
            cases q8 : (decide (numN ((cte each j).getD (1 : Nat) default) ≥ c)) with
            | false =>
              cases q9 : (strEq ((cte each j).getD (0 : Nat) default) { data := #[(99 : UInt8), (97 : UInt8), (108 : UInt8), (108 : UInt8)] }) with
              | false =>
                cases q10 : (strEq ((cte each j).getD (0 : Nat) default) { data := #[(97 : UInt8), (99 : UInt8), (116 : UInt8)] }) with
                | false =>
                  cases q11 : (strEq ((cte each j).getD (0 : Nat) default) { data := #[(115 : UInt8), (116 : UInt8), (101 : UInt8), (112 : UInt8)] }) with
                  | false =>
                    cases q12 : (strEq ((cte each j).getD (0 : Nat) default) { data := #[(116 : UInt8), (117 : UInt8), (114 : UInt8), (110 : UInt8)] }) with
                    | false =>
                      have hv : readT (cte each j) c = false := (by simp only [readT, q1, q2, q3, q4, q7, q8, q9, q10, q11, q12, cond_true, cond_false]); exact ⟨fun h => (by rw [hv] at h; cases h), fun _ => en1_r67 (m := m) p0 p1 p2 p3 p4 p5 q0 q1 q2 q3 q4 q5 q6 q7 q8 q9 q10 q11 q12 hg⟩
                    | true =>
                      have q13 : (decide ((0 : Int) ≤ (2 : Int) ∧ (2 : Int) < (↑(cte each j).length : Int))) = true := (by have hr2 := hrow.2; simp at *; omega)
                      have q14 : (((cte each j).getD (2 : Nat) default).data.toList.length.ble (4294967295 : Nat)) = true := okP_get hrow.1 2
                      have q15 : (bigOk (m + (1 : Nat)) (16 : Nat)) = true := bigOk_small hm
                      cases q16 : (numO ((cte each j).getD (2 : Nat) default)) with
                      | false =>
                        have hv : readT (cte each j) c = false := (by simp only [readT, q1, q2, q3, q4, q7, q8, q9, q10, q11, q12, q16, cond_true, cond_false]); exact ⟨fun h => (by rw [hv] at h; cases h), fun _ => en1_r66 (m := m) p0 p1 p2 p3 p4 p5 q0 q1 q2 q3 q4 q5 q6 q7 q8 q9 q10 q11 q12 q13 q14 q15 q16 hg⟩
                      | true =>
                        cases q17 : ((↑(cte each j).length : Int) == (3 : Int)) with
                        | false =>
                          have hv : readT (cte each j) c = false := (by simp only [readT, q1, q2, q3, q4, q7, q8, q9, q10, q11, q12, q16, q17, cond_true, cond_false]); exact ⟨fun h => (by rw [hv] at h; cases h), fun _ => en1_r65 (m := m) p0 p1 p2 p3 p4 p5 q0 q1 q2 q3 q4 q5 q6 q7 q8 q9 q10 q11 q12 q13 q14 q15 q16 q17 hg⟩
                        | true =>
                          cases q18 : (!decide (numN ((cte each j).getD (2 : Nat) default) ≤ (16384 : Int))) with
                          | false =>
                            have hv : readT (cte each j) c = true := (by simp only [readT, q1, q2, q3, q4, q7, q8, q9, q10, q11, q12, q16, q17, q18, cond_true, cond_false]); exact ⟨fun _ => en1_g64 (m := m) p0 p1 p2 p3 p4 p5 q0 q1 q2 q3 q4 q5 q6 q7 q8 q9 q10 q11 q12 q13 q14 q15 q16 q17 q18 hg, fun h => by rw [hv] at h; cases h⟩
                          | true =>
                            have hv : readT (cte each j) c = false := (by simp only [readT, q1, q2, q3, q4, q7, q8, q9, q10, q11, q12, q16, q17, q18, cond_true, cond_false]); exact ⟨fun h => (by rw [hv] at h; cases h), fun _ => en1_r63 (m := m) p0 p1 p2 p3 p4 p5 q0 q1 q2 q3 q4 q5 q6 q7 q8 q9 q10 q11 q12 q13 q14 q15 q16 q17 q18 hg⟩
                  | true =>
                    have q12 : (decide ((0 : Int) ≤ (2 : Int) ∧ (2 : Int) < (↑(cte each j).length : Int))) = true := (by have hr2 := hrow.2; simp at *; omega)
                    have q13 : (((cte each j).getD (2 : Nat) default).data.toList.length.ble (4294967295 : Nat)) = true := okP_get hrow.1 2
                    have q14 : (bigOk (m + (1 : Nat)) (16 : Nat)) = true := bigOk_small hm
                    cases q15 : (numO ((cte each j).getD (2 : Nat) default)) with
                    | false =>
                      have hv : readT (cte each j) c = false := (by simp only [readT, q1, q2, q3, q4, q7, q8, q9, q10, q11, q15, cond_true, cond_false]); exact ⟨fun h => (by rw [hv] at h; cases h), fun _ => en1_r62 (m := m) p0 p1 p2 p3 p4 p5 q0 q1 q2 q3 q4 q5 q6 q7 q8 q9 q10 q11 q12 q13 q14 q15 hg⟩
                    | true =>
                      cases q16 : ((↑(cte each j).length : Int) == (3 : Int)) with
                      | false =>
                        have hv : readT (cte each j) c = false := (by simp only [readT, q1, q2, q3, q4, q7, q8, q9, q10, q11, q15, q16, cond_true, cond_false]); exact ⟨fun h => (by rw [hv] at h; cases h), fun _ => en1_r61 (m := m) p0 p1 p2 p3 p4 p5 q0 q1 q2 q3 q4 q5 q6 q7 q8 q9 q10 q11 q12 q13 q14 q15 q16 hg⟩
                      | true =>
                        cases q17 : (!decide (numN ((cte each j).getD (2 : Nat) default) ≤ (16384 : Int))) with
                        | false =>
                          have hv : readT (cte each j) c = true := (by simp only [readT, q1, q2, q3, q4, q7, q8, q9, q10, q11, q15, q16, q17, cond_true, cond_false]); exact ⟨fun _ => en1_g60 (m := m) p0 p1 p2 p3 p4 p5 q0 q1 q2 q3 q4 q5 q6 q7 q8 q9 q10 q11 q12 q13 q14 q15 q16 q17 hg, fun h => by rw [hv] at h; cases h⟩
                        | true =>
                          have hv : readT (cte each j) c = false := (by simp only [readT, q1, q2, q3, q4, q7, q8, q9, q10, q11, q15, q16, q17, cond_true, cond_false]); exact ⟨fun h => (by rw [hv] at h; cases h), fun _ => en1_r59 (m := m) p0 p1 p2 p3 p4 p5 q0 q1 q2 q3 q4 q5 q6 q7 q8 q9 q10 q11 q12 q13 q14 q15 q16 q17 hg⟩
                | true =>
                  have q11 : (decide ((0 : Int) ≤ (2 : Int) ∧ (2 : Int) ≤ (↑(cte each j).length : Int) ∧ (↑(cte each j).length : Int) ≤ (↑(cte each j).length : Int) ∧ (↑(cte each j).length : Int) = (↑(cte each j).length : Int))) = true := (by have hr2 := hrow.2; simp at *; omega)
                  have q12 : (decide ((0 : Int) ≤ (0 : Int) ∧ (0 : Int) < (↑((↑(cte each j).length : Int) - (2 : Int)).toNat : Int))) = true := (by have hr2 := hrow.2; simp at *; omega)
                  cases q13 : (strEq ((cte each j).getD (2 : Nat) default) { data := #[(98 : UInt8), (101 : UInt8), (103 : UInt8), (105 : UInt8), (110 : UInt8)] }) with
                  | false =>
                    cases q14 : (strEq ((cte each j).getD (2 : Nat) default) { data := #[(108 : UInt8), (111 : UInt8), (111 : UInt8), (107 : UInt8)] }) with
                    | false =>
                      cases q15 : (strEq ((cte each j).getD (2 : Nat) default) { data := #[(99 : UInt8), (111 : UInt8), (109 : UInt8), (109 : UInt8), (105 : UInt8), (116 : UInt8)] }) with
                      | false =>
                        cases q16 : (strEq ((cte each j).getD (2 : Nat) default) { data := #[(97 : UInt8), (98 : UInt8), (111 : UInt8), (114 : UInt8), (116 : UInt8)] }) with
                        | false =>
                          cases q17 : (strEq ((cte each j).getD (2 : Nat) default) { data := #[(102 : UInt8), (108 : UInt8), (117 : UInt8), (115 : UInt8), (104 : UInt8)] }) with
                          | false =>
                            cases q18 : (strEq ((cte each j).getD (2 : Nat) default) { data := #[(114 : UInt8), (101 : UInt8), (97 : UInt8), (100 : UInt8)] }) with
                            | false =>
                              cases q19 : (strEq ((cte each j).getD (2 : Nat) default) { data := #[(100 : UInt8), (114 : UInt8), (111 : UInt8), (112 : UInt8)] }) with
                              | false =>
                                cases q20 : (strEq ((cte each j).getD (2 : Nat) default) { data := #[(112 : UInt8), (117 : UInt8), (116 : UInt8)] }) with
                                | false =>
                                  cases q21 : (strEq ((cte each j).getD (2 : Nat) default) { data := #[(114 : UInt8), (97 : UInt8), (110 : UInt8), (103 : UInt8), (101 : UInt8)] }) with
                                  | false =>
                                    have q22 : (bigOk (m + (1 : Nat)) (16 : Nat)) = true := bigOk_small hm
                                    have hv : readT (cte each j) c = false := (by simp only [readT, q1, q2, q3, q4, q7, q8, q9, q10, q13, q14, q15, q16, q17, q18, q19, q20, q21, cond_true, cond_false]); exact ⟨fun h => (by rw [hv] at h; cases h), fun _ => en1_r58 (m := m) p0 p1 p2 p3 p4 p5 q0 q1 q2 q3 q4 q5 q6 q7 q8 q9 q10 q11 q12 q13 q14 q15 q16 q17 q18 q19 q20 q21 q22 hg⟩
                                  | true =>
                                    cases q22 : ((↑((↑(cte each j).length : Int) - (2 : Int)).toNat : Int) == (3 : Int)) with
                                    | false =>
                                      have q23 : (bigOk (m + (1 : Nat)) (16 : Nat)) = true := bigOk_small hm
                                      have hv : readT (cte each j) c = false := (by simp only [readT, q1, q2, q3, q4, q7, q8, q9, q10, q13, q14, q15, q16, q17, q18, q19, q20, q21, q22, cond_true, cond_false]); exact ⟨fun h => (by rw [hv] at h; cases h), fun _ => en1_r57 (m := m) p0 p1 p2 p3 p4 p5 q0 q1 q2 q3 q4 q5 q6 q7 q8 q9 q10 q11 q12 q13 q14 q15 q16 q17 q18 q19 q20 q21 q22 q23 hg⟩
                                    | true =>
                                      have q23 : (decide ((0 : Int) ≤ (1 : Int) ∧ (1 : Int) < (↑((↑(cte each j).length : Int) - (2 : Int)).toNat : Int))) = true := (by have hr2 := hrow.2; simp at *; omega)
                                      have q24 : (decide ((0 : Int) ≤ (2 : Int) ∧ (2 : Int) < (↑((↑(cte each j).length : Int) - (2 : Int)).toNat : Int))) = true := (by have hr2 := hrow.2; simp at *; omega)
                                      have q25 : (((cte each j).getD (3 : Nat) default).data.toList.length.ble (4294967295 : Nat)) = true := okP_get hrow.1 3
                                      cases q26 : (wordB ((cte each j).getD (3 : Nat) default)) with
                                      | false =>
                                        have q27 : (bigOk (m + (1 : Nat)) (16 : Nat)) = true := bigOk_small hm
                                        have hv : readT (cte each j) c = false := (by simp only [readT, q1, q2, q3, q4, q7, q8, q9, q10, q13, q14, q15, q16, q17, q18, q19, q20, q21, q22, q26, cond_true, cond_false]); exact ⟨fun h => (by rw [hv] at h; cases h), fun _ => en1_r56 (m := m) p0 p1 p2 p3 p4 p5 q0 q1 q2 q3 q4 q5 q6 q7 q8 q9 q10 q11 q12 q13 q14 q15 q16 q17 q18 q19 q20 q21 q22 q23 q24 q25 q26 q27 hg⟩
                                      | true =>
                                        have q27 : (((cte each j).getD (4 : Nat) default).data.toList.length.ble (4294967295 : Nat)) = true := okP_get hrow.1 4
                                        cases q28 : (wordB ((cte each j).getD (4 : Nat) default)) with
                                        | false =>
                                          have q29 : (bigOk (m + (1 : Nat)) (16 : Nat)) = true := bigOk_small hm
                                          have hv : readT (cte each j) c = false := (by simp only [readT, q1, q2, q3, q4, q7, q8, q9, q10, q13, q14, q15, q16, q17, q18, q19, q20, q21, q22, q26, q28, cond_true, cond_false]); exact ⟨fun h => (by rw [hv] at h; cases h), fun _ => en1_r55 (m := m) p0 p1 p2 p3 p4 p5 q0 q1 q2 q3 q4 q5 q6 q7 q8 q9 q10 q11 q12 q13 q14 q15 q16 q17 q18 q19 q20 q21 q22 q23 q24 q25 q26 q27 q28 q29 hg⟩
                                        | true =>
                                          have q29 : (bigOk (m + (1 : Nat)) (16 : Nat)) = true := bigOk_small hm
                                          cases q30 : (!decide (cmpB ((cte each j).getD (3 : Nat) default) ((cte each j).getD (4 : Nat) default) < (0 : Int))) with
                                          | false =>
                                            have hv : readT (cte each j) c = true := (by simp only [readT, q1, q2, q3, q4, q7, q8, q9, q10, q13, q14, q15, q16, q17, q18, q19, q20, q21, q22, q26, q28, q30, cond_true, cond_false]); exact ⟨fun _ => en1_g54 (m := m) p0 p1 p2 p3 p4 p5 q0 q1 q2 q3 q4 q5 q6 q7 q8 q9 q10 q11 q12 q13 q14 q15 q16 q17 q18 q19 q20 q21 q22 q23 q24 q25 q26 q27 q28 q29 q30 hg, fun h => by rw [hv] at h; cases h⟩
                                          | true =>
                                            have hv : readT (cte each j) c = false := (by simp only [readT, q1, q2, q3, q4, q7, q8, q9, q10, q13, q14, q15, q16, q17, q18, q19, q20, q21, q22, q26, q28, q30, cond_true, cond_false]); exact ⟨fun h => (by rw [hv] at h; cases h), fun _ => en1_r53 (m := m) p0 p1 p2 p3 p4 p5 q0 q1 q2 q3 q4 q5 q6 q7 q8 q9 q10 q11 q12 q13 q14 q15 q16 q17 q18 q19 q20 q21 q22 q23 q24 q25 q26 q27 q28 q29 q30 hg⟩
                                | true =>
                                  cases q21 : ((↑((↑(cte each j).length : Int) - (2 : Int)).toNat : Int) == (3 : Int)) with
                                  | false =>
                                    have q22 : (bigOk (m + (1 : Nat)) (16 : Nat)) = true := bigOk_small hm
                                    have hv : readT (cte each j) c = false := (by simp only [readT, q1, q2, q3, q4, q7, q8, q9, q10, q13, q14, q15, q16, q17, q18, q19, q20, q21, cond_true, cond_false]); exact ⟨fun h => (by rw [hv] at h; cases h), fun _ => en1_r52 (m := m) p0 p1 p2 p3 p4 p5 q0 q1 q2 q3 q4 q5 q6 q7 q8 q9 q10 q11 q12 q13 q14 q15 q16 q17 q18 q19 q20 q21 q22 hg⟩
                                  | true =>
                                    have q22 : (decide ((0 : Int) ≤ (1 : Int) ∧ (1 : Int) < (↑((↑(cte each j).length : Int) - (2 : Int)).toNat : Int))) = true := (by have hr2 := hrow.2; simp at *; omega)
                                    have q23 : (decide ((0 : Int) ≤ (2 : Int) ∧ (2 : Int) < (↑((↑(cte each j).length : Int) - (2 : Int)).toNat : Int))) = true := (by have hr2 := hrow.2; simp at *; omega)
                                    cases q24 : (strEq ((cte each j).getD (4 : Nat) default) { data := #[(45 : UInt8)] }) with
                                    | false =>
                                      have q25 : (((cte each j).getD (4 : Nat) default).data.toList.length.ble (4294967295 : Nat)) = true := okP_get hrow.1 4
                                      cases q26 : (wordB ((cte each j).getD (4 : Nat) default)) with
                                      | false =>
                                        have q27 : (bigOk (m + (1 : Nat)) (16 : Nat)) = true := bigOk_small hm
                                        have hv : readT (cte each j) c = false := (by simp only [readT, q1, q2, q3, q4, q7, q8, q9, q10, q13, q14, q15, q16, q17, q18, q19, q20, q21, q24, q26, cond_true, cond_false]); exact ⟨fun h => (by rw [hv] at h; cases h), fun _ => en1_r51 (m := m) p0 p1 p2 p3 p4 p5 q0 q1 q2 q3 q4 q5 q6 q7 q8 q9 q10 q11 q12 q13 q14 q15 q16 q17 q18 q19 q20 q21 q22 q23 q24 q25 q26 q27 hg⟩
                                      | true =>
                                        have q27 : (((cte each j).getD (3 : Nat) default).data.toList.length.ble (4294967295 : Nat)) = true := okP_get hrow.1 3
                                        have q28 : (bigOk (m + (1 : Nat)) (16 : Nat)) = true := bigOk_small hm
                                        cases q29 : (!wordB ((cte each j).getD (3 : Nat) default)) with
                                        | false =>
                                          have hv : readT (cte each j) c = true := (by simp only [readT, q1, q2, q3, q4, q7, q8, q9, q10, q13, q14, q15, q16, q17, q18, q19, q20, q21, q24, q26, q29, cond_true, cond_false]); exact ⟨fun _ => en1_g50 (m := m) p0 p1 p2 p3 p4 p5 q0 q1 q2 q3 q4 q5 q6 q7 q8 q9 q10 q11 q12 q13 q14 q15 q16 q17 q18 q19 q20 q21 q22 q23 q24 q25 q26 q27 q28 q29 hg, fun h => by rw [hv] at h; cases h⟩
                                        | true =>
                                          have hv : readT (cte each j) c = false := (by simp only [readT, q1, q2, q3, q4, q7, q8, q9, q10, q13, q14, q15, q16, q17, q18, q19, q20, q21, q24, q26, q29, cond_true, cond_false]); exact ⟨fun h => (by rw [hv] at h; cases h), fun _ => en1_r49 (m := m) p0 p1 p2 p3 p4 p5 q0 q1 q2 q3 q4 q5 q6 q7 q8 q9 q10 q11 q12 q13 q14 q15 q16 q17 q18 q19 q20 q21 q22 q23 q24 q25 q26 q27 q28 q29 hg⟩
                                    | true =>
                                      have q25 : (((cte each j).getD (3 : Nat) default).data.toList.length.ble (4294967295 : Nat)) = true := okP_get hrow.1 3
                                      have q26 : (bigOk (m + (1 : Nat)) (16 : Nat)) = true := bigOk_small hm
                                      cases q27 : (!wordB ((cte each j).getD (3 : Nat) default)) with
                                      | false =>
                                        have hv : readT (cte each j) c = true := (by simp only [readT, q1, q2, q3, q4, q7, q8, q9, q10, q13, q14, q15, q16, q17, q18, q19, q20, q21, q24, q27, cond_true, cond_false]); exact ⟨fun _ => en1_g48 (m := m) p0 p1 p2 p3 p4 p5 q0 q1 q2 q3 q4 q5 q6 q7 q8 q9 q10 q11 q12 q13 q14 q15 q16 q17 q18 q19 q20 q21 q22 q23 q24 q25 q26 q27 hg, fun h => by rw [hv] at h; cases h⟩
                                      | true =>
                                        have hv : readT (cte each j) c = false := (by simp only [readT, q1, q2, q3, q4, q7, q8, q9, q10, q13, q14, q15, q16, q17, q18, q19, q20, q21, q24, q27, cond_true, cond_false]); exact ⟨fun h => (by rw [hv] at h; cases h), fun _ => en1_r47 (m := m) p0 p1 p2 p3 p4 p5 q0 q1 q2 q3 q4 q5 q6 q7 q8 q9 q10 q11 q12 q13 q14 q15 q16 q17 q18 q19 q20 q21 q22 q23 q24 q25 q26 q27 hg⟩
                              | true =>
                                cases q20 : ((↑((↑(cte each j).length : Int) - (2 : Int)).toNat : Int) == (2 : Int)) with
                                | false =>
                                  have q21 : (bigOk (m + (1 : Nat)) (16 : Nat)) = true := bigOk_small hm
                                  have hv : readT (cte each j) c = false := (by simp only [readT, q1, q2, q3, q4, q7, q8, q9, q10, q13, q14, q15, q16, q17, q18, q19, q20, cond_true, cond_false]); exact ⟨fun h => (by rw [hv] at h; cases h), fun _ => en1_r46 (m := m) p0 p1 p2 p3 p4 p5 q0 q1 q2 q3 q4 q5 q6 q7 q8 q9 q10 q11 q12 q13 q14 q15 q16 q17 q18 q19 q20 q21 hg⟩
                                | true =>
                                  have q21 : (decide ((0 : Int) ≤ (1 : Int) ∧ (1 : Int) < (↑((↑(cte each j).length : Int) - (2 : Int)).toNat : Int))) = true := (by have hr2 := hrow.2; simp at *; omega)
                                  have q22 : (((cte each j).getD (3 : Nat) default).data.toList.length.ble (4294967295 : Nat)) = true := okP_get hrow.1 3
                                  have q23 : (bigOk (m + (1 : Nat)) (16 : Nat)) = true := bigOk_small hm
                                  cases q24 : (!wordB ((cte each j).getD (3 : Nat) default)) with
                                  | false =>
                                    have hv : readT (cte each j) c = true := (by simp only [readT, q1, q2, q3, q4, q7, q8, q9, q10, q13, q14, q15, q16, q17, q18, q19, q20, q24, cond_true, cond_false]); exact ⟨fun _ => en1_g45 (m := m) p0 p1 p2 p3 p4 p5 q0 q1 q2 q3 q4 q5 q6 q7 q8 q9 q10 q11 q12 q13 q14 q15 q16 q17 q18 q19 q20 q21 q22 q23 q24 hg, fun h => by rw [hv] at h; cases h⟩
                                  | true =>
                                    have hv : readT (cte each j) c = false := (by simp only [readT, q1, q2, q3, q4, q7, q8, q9, q10, q13, q14, q15, q16, q17, q18, q19, q20, q24, cond_true, cond_false]); exact ⟨fun h => (by rw [hv] at h; cases h), fun _ => en1_r44 (m := m) p0 p1 p2 p3 p4 p5 q0 q1 q2 q3 q4 q5 q6 q7 q8 q9 q10 q11 q12 q13 q14 q15 q16 q17 q18 q19 q20 q21 q22 q23 q24 hg⟩
                            | true =>
                              cases q19 : ((↑((↑(cte each j).length : Int) - (2 : Int)).toNat : Int) == (2 : Int)) with
                              | false =>
                                have q20 : (bigOk (m + (1 : Nat)) (16 : Nat)) = true := bigOk_small hm
                                have hv : readT (cte each j) c = false := (by simp only [readT, q1, q2, q3, q4, q7, q8, q9, q10, q13, q14, q15, q16, q17, q18, q19, cond_true, cond_false]); exact ⟨fun h => (by rw [hv] at h; cases h), fun _ => en1_r43 (m := m) p0 p1 p2 p3 p4 p5 q0 q1 q2 q3 q4 q5 q6 q7 q8 q9 q10 q11 q12 q13 q14 q15 q16 q17 q18 q19 q20 hg⟩
                              | true =>
                                have q20 : (decide ((0 : Int) ≤ (1 : Int) ∧ (1 : Int) < (↑((↑(cte each j).length : Int) - (2 : Int)).toNat : Int))) = true := (by have hr2 := hrow.2; simp at *; omega)
                                have q21 : (((cte each j).getD (3 : Nat) default).data.toList.length.ble (4294967295 : Nat)) = true := okP_get hrow.1 3
                                have q22 : (bigOk (m + (1 : Nat)) (16 : Nat)) = true := bigOk_small hm
                                cases q23 : (!wordB ((cte each j).getD (3 : Nat) default)) with
                                | false =>
                                  have hv : readT (cte each j) c = true := (by simp only [readT, q1, q2, q3, q4, q7, q8, q9, q10, q13, q14, q15, q16, q17, q18, q19, q23, cond_true, cond_false]); exact ⟨fun _ => en1_g42 (m := m) p0 p1 p2 p3 p4 p5 q0 q1 q2 q3 q4 q5 q6 q7 q8 q9 q10 q11 q12 q13 q14 q15 q16 q17 q18 q19 q20 q21 q22 q23 hg, fun h => by rw [hv] at h; cases h⟩
                                | true =>
                                  have hv : readT (cte each j) c = false := (by simp only [readT, q1, q2, q3, q4, q7, q8, q9, q10, q13, q14, q15, q16, q17, q18, q19, q23, cond_true, cond_false]); exact ⟨fun h => (by rw [hv] at h; cases h), fun _ => en1_r41 (m := m) p0 p1 p2 p3 p4 p5 q0 q1 q2 q3 q4 q5 q6 q7 q8 q9 q10 q11 q12 q13 q14 q15 q16 q17 q18 q19 q20 q21 q22 q23 hg⟩
                          | true =>
                            have q18 : (bigOk (m + (1 : Nat)) (16 : Nat)) = true := bigOk_small hm
                            cases q19 : (!(↑((↑(cte each j).length : Int) - (2 : Int)).toNat : Int) == (1 : Int)) with
                            | false =>
                              have hv : readT (cte each j) c = true := (by simp only [readT, q1, q2, q3, q4, q7, q8, q9, q10, q13, q14, q15, q16, q17, q19, cond_true, cond_false]); exact ⟨fun _ => en1_g40 (m := m) p0 p1 p2 p3 p4 p5 q0 q1 q2 q3 q4 q5 q6 q7 q8 q9 q10 q11 q12 q13 q14 q15 q16 q17 q18 q19 hg, fun h => by rw [hv] at h; cases h⟩
                            | true =>
                              have hv : readT (cte each j) c = false := (by simp only [readT, q1, q2, q3, q4, q7, q8, q9, q10, q13, q14, q15, q16, q17, q19, cond_true, cond_false]); exact ⟨fun h => (by rw [hv] at h; cases h), fun _ => en1_r39 (m := m) p0 p1 p2 p3 p4 p5 q0 q1 q2 q3 q4 q5 q6 q7 q8 q9 q10 q11 q12 q13 q14 q15 q16 q17 q18 q19 hg⟩
                        | true =>
                          have q17 : (bigOk (m + (1 : Nat)) (16 : Nat)) = true := bigOk_small hm
                          cases q18 : (!(↑((↑(cte each j).length : Int) - (2 : Int)).toNat : Int) == (1 : Int)) with
                          | false =>
                            have hv : readT (cte each j) c = true := (by simp only [readT, q1, q2, q3, q4, q7, q8, q9, q10, q13, q14, q15, q16, q18, cond_true, cond_false]); exact ⟨fun _ => en1_g38 (m := m) p0 p1 p2 p3 p4 p5 q0 q1 q2 q3 q4 q5 q6 q7 q8 q9 q10 q11 q12 q13 q14 q15 q16 q17 q18 hg, fun h => by rw [hv] at h; cases h⟩
                          | true =>
                            have hv : readT (cte each j) c = false := (by simp only [readT, q1, q2, q3, q4, q7, q8, q9, q10, q13, q14, q15, q16, q18, cond_true, cond_false]); exact ⟨fun h => (by rw [hv] at h; cases h), fun _ => en1_r37 (m := m) p0 p1 p2 p3 p4 p5 q0 q1 q2 q3 q4 q5 q6 q7 q8 q9 q10 q11 q12 q13 q14 q15 q16 q17 q18 hg⟩
                      | true =>
                        have q16 : (bigOk (m + (1 : Nat)) (16 : Nat)) = true := bigOk_small hm
                        cases q17 : (!(↑((↑(cte each j).length : Int) - (2 : Int)).toNat : Int) == (1 : Int)) with
                        | false =>
                          have hv : readT (cte each j) c = true := (by simp only [readT, q1, q2, q3, q4, q7, q8, q9, q10, q13, q14, q15, q17, cond_true, cond_false]); exact ⟨fun _ => en1_g36 (m := m) p0 p1 p2 p3 p4 p5 q0 q1 q2 q3 q4 q5 q6 q7 q8 q9 q10 q11 q12 q13 q14 q15 q16 q17 hg, fun h => by rw [hv] at h; cases h⟩
                        | true =>
                          have hv : readT (cte each j) c = false := (by simp only [readT, q1, q2, q3, q4, q7, q8, q9, q10, q13, q14, q15, q17, cond_true, cond_false]); exact ⟨fun h => (by rw [hv] at h; cases h), fun _ => en1_r35 (m := m) p0 p1 p2 p3 p4 p5 q0 q1 q2 q3 q4 q5 q6 q7 q8 q9 q10 q11 q12 q13 q14 q15 q16 q17 hg⟩
                    | true =>
                      have q15 : (bigOk (m + (1 : Nat)) (16 : Nat)) = true := bigOk_small hm
                      cases q16 : (!(↑((↑(cte each j).length : Int) - (2 : Int)).toNat : Int) == (1 : Int)) with
                      | false =>
                        have hv : readT (cte each j) c = true := (by simp only [readT, q1, q2, q3, q4, q7, q8, q9, q10, q13, q14, q16, cond_true, cond_false]); exact ⟨fun _ => en1_g34 (m := m) p0 p1 p2 p3 p4 p5 q0 q1 q2 q3 q4 q5 q6 q7 q8 q9 q10 q11 q12 q13 q14 q15 q16 hg, fun h => by rw [hv] at h; cases h⟩
                      | true =>
                        have hv : readT (cte each j) c = false := (by simp only [readT, q1, q2, q3, q4, q7, q8, q9, q10, q13, q14, q16, cond_true, cond_false]); exact ⟨fun h => (by rw [hv] at h; cases h), fun _ => en1_r33 (m := m) p0 p1 p2 p3 p4 p5 q0 q1 q2 q3 q4 q5 q6 q7 q8 q9 q10 q11 q12 q13 q14 q15 q16 hg⟩
                  | true =>
                    have q14 : (bigOk (m + (1 : Nat)) (16 : Nat)) = true := bigOk_small hm
                    cases q15 : (!(↑((↑(cte each j).length : Int) - (2 : Int)).toNat : Int) == (1 : Int)) with
                    | false =>
                      have hv : readT (cte each j) c = true := (by simp only [readT, q1, q2, q3, q4, q7, q8, q9, q10, q13, q15, cond_true, cond_false]); exact ⟨fun _ => en1_g32 (m := m) p0 p1 p2 p3 p4 p5 q0 q1 q2 q3 q4 q5 q6 q7 q8 q9 q10 q11 q12 q13 q14 q15 hg, fun h => by rw [hv] at h; cases h⟩
                    | true =>
                      have hv : readT (cte each j) c = false := (by simp only [readT, q1, q2, q3, q4, q7, q8, q9, q10, q13, q15, cond_true, cond_false]); exact ⟨fun h => (by rw [hv] at h; cases h), fun _ => en1_r31 (m := m) p0 p1 p2 p3 p4 p5 q0 q1 q2 q3 q4 q5 q6 q7 q8 q9 q10 q11 q12 q13 q14 q15 hg⟩
              | true =>
                have q10 : (decide ((0 : Int) ≤ (2 : Int) ∧ (2 : Int) ≤ (↑(cte each j).length : Int) ∧ (↑(cte each j).length : Int) ≤ (↑(cte each j).length : Int) ∧ (↑(cte each j).length : Int) = (↑(cte each j).length : Int))) = true := (by have hr2 := hrow.2; simp at *; omega)
                have q11 : (decide ((0 : Int) ≤ (0 : Int) ∧ (0 : Int) < (↑((↑(cte each j).length : Int) - (2 : Int)).toNat : Int))) = true := (by have hr2 := hrow.2; simp at *; omega)
                cases q12 : (!strEq ((cte each j).getD (2 : Nat) default) { data := #[(103 : UInt8), (101 : UInt8), (116 : UInt8)] }) with
                | false =>
                  cases q13 : ((↑((↑(cte each j).length : Int) - (2 : Int)).toNat : Int) != (2 : Int)) with
                  | false =>
                    have q14 : (decide ((0 : Int) ≤ (1 : Int) ∧ (1 : Int) < (↑((↑(cte each j).length : Int) - (2 : Int)).toNat : Int))) = true := (by have hr2 := hrow.2; simp at *; omega)
                    have q15 : (((cte each j).getD (3 : Nat) default).data.toList.length.ble (4294967295 : Nat)) = true := okP_get hrow.1 3
                    cases q16 : (!wordB ((cte each j).getD (3 : Nat) default)) with
                    | false =>
                      have q17 : (bigOk (m + (1 : Nat)) (16 : Nat)) = true := bigOk_small hm
                      have hv : readT (cte each j) c = true := (by simp only [readT, q1, q2, q3, q4, q7, q8, q9, q12, q13, q16, cond_true, cond_false]); exact ⟨fun _ => en1_g30 (m := m) p0 p1 p2 p3 p4 p5 q0 q1 q2 q3 q4 q5 q6 q7 q8 q9 q10 q11 q12 q13 q14 q15 q16 q17 hg, fun h => by rw [hv] at h; cases h⟩
                    | true =>
                      have hv : readT (cte each j) c = false := (by simp only [readT, q1, q2, q3, q4, q7, q8, q9, q12, q13, q16, cond_true, cond_false]); exact ⟨fun h => (by rw [hv] at h; cases h), fun _ => en1_r29 (m := m) p0 p1 p2 p3 p4 p5 q0 q1 q2 q3 q4 q5 q6 q7 q8 q9 q10 q11 q12 q13 q14 q15 q16 hg⟩
                  | true =>
                    have hv : readT (cte each j) c = false := (by simp only [readT, q1, q2, q3, q4, q7, q8, q9, q12, q13, cond_true, cond_false]); exact ⟨fun h => (by rw [hv] at h; cases h), fun _ => en1_r28 (m := m) p0 p1 p2 p3 p4 p5 q0 q1 q2 q3 q4 q5 q6 q7 q8 q9 q10 q11 q12 q13 hg⟩
                | true =>
                  cases q13 : (!strEq ((cte each j).getD (2 : Nat) default) { data := #[(105 : UInt8), (110 : UInt8), (115 : UInt8), (101 : UInt8), (114 : UInt8), (116 : UInt8)] }) with
                  | false =>
                    cases q14 : ((↑((↑(cte each j).length : Int) - (2 : Int)).toNat : Int) != (3 : Int)) with
                    | false =>
                      have q15 : (decide ((0 : Int) ≤ (1 : Int) ∧ (1 : Int) < (↑((↑(cte each j).length : Int) - (2 : Int)).toNat : Int))) = true := (by have hr2 := hrow.2; simp at *; omega)
                      have q16 : (((cte each j).getD (3 : Nat) default).data.toList.length.ble (4294967295 : Nat)) = true := okP_get hrow.1 3
                      cases q17 : (!wordB ((cte each j).getD (3 : Nat) default)) with
                      | false =>
                        have q18 : (decide ((0 : Int) ≤ (2 : Int) ∧ (2 : Int) < (↑((↑(cte each j).length : Int) - (2 : Int)).toNat : Int))) = true := (by have hr2 := hrow.2; simp at *; omega)
                        cases q19 : (strEq ((cte each j).getD (4 : Nat) default) { data := #[(45 : UInt8)] }) with
                        | false =>
                          have q20 : (((cte each j).getD (4 : Nat) default).data.toList.length.ble (4294967295 : Nat)) = true := okP_get hrow.1 4
                          cases q21 : (!wordB ((cte each j).getD (4 : Nat) default)) with
                          | false =>
                            have q22 : (bigOk (m + (1 : Nat)) (16 : Nat)) = true := bigOk_small hm
                            have hv : readT (cte each j) c = true := (by simp only [readT, q1, q2, q3, q4, q7, q8, q9, q12, q13, q14, q17, q19, q21, cond_true, cond_false]); exact ⟨fun _ => en1_g27 (m := m) p0 p1 p2 p3 p4 p5 q0 q1 q2 q3 q4 q5 q6 q7 q8 q9 q10 q11 q12 q13 q14 q15 q16 q17 q18 q19 q20 q21 q22 hg, fun h => by rw [hv] at h; cases h⟩
                          | true =>
                            have hv : readT (cte each j) c = false := (by simp only [readT, q1, q2, q3, q4, q7, q8, q9, q12, q13, q14, q17, q19, q21, cond_true, cond_false]); exact ⟨fun h => (by rw [hv] at h; cases h), fun _ => en1_r26 (m := m) p0 p1 p2 p3 p4 p5 q0 q1 q2 q3 q4 q5 q6 q7 q8 q9 q10 q11 q12 q13 q14 q15 q16 q17 q18 q19 q20 q21 hg⟩
                        | true =>
                          have q20 : (bigOk (m + (1 : Nat)) (16 : Nat)) = true := bigOk_small hm
                          have hv : readT (cte each j) c = true := (by simp only [readT, q1, q2, q3, q4, q7, q8, q9, q12, q13, q14, q17, q19, cond_true, cond_false]); exact ⟨fun _ => en1_g25 (m := m) p0 p1 p2 p3 p4 p5 q0 q1 q2 q3 q4 q5 q6 q7 q8 q9 q10 q11 q12 q13 q14 q15 q16 q17 q18 q19 q20 hg, fun h => by rw [hv] at h; cases h⟩
                      | true =>
                        have hv : readT (cte each j) c = false := (by simp only [readT, q1, q2, q3, q4, q7, q8, q9, q12, q13, q14, q17, cond_true, cond_false]); exact ⟨fun h => (by rw [hv] at h; cases h), fun _ => en1_r24 (m := m) p0 p1 p2 p3 p4 p5 q0 q1 q2 q3 q4 q5 q6 q7 q8 q9 q10 q11 q12 q13 q14 q15 q16 q17 hg⟩
                    | true =>
                      have hv : readT (cte each j) c = false := (by simp only [readT, q1, q2, q3, q4, q7, q8, q9, q12, q13, q14, cond_true, cond_false]); exact ⟨fun h => (by rw [hv] at h; cases h), fun _ => en1_r23 (m := m) p0 p1 p2 p3 p4 p5 q0 q1 q2 q3 q4 q5 q6 q7 q8 q9 q10 q11 q12 q13 q14 hg⟩
                  | true =>
                    cases q14 : (!strEq ((cte each j).getD (2 : Nat) default) { data := #[(117 : UInt8), (112 : UInt8), (100 : UInt8), (97 : UInt8), (116 : UInt8), (101 : UInt8)] }) with
                    | false =>
                      cases q15 : ((↑((↑(cte each j).length : Int) - (2 : Int)).toNat : Int) != (3 : Int)) with
                      | false =>
                        have q16 : (decide ((0 : Int) ≤ (1 : Int) ∧ (1 : Int) < (↑((↑(cte each j).length : Int) - (2 : Int)).toNat : Int))) = true := (by have hr2 := hrow.2; simp at *; omega)
                        have q17 : (((cte each j).getD (3 : Nat) default).data.toList.length.ble (4294967295 : Nat)) = true := okP_get hrow.1 3
                        cases q18 : (!wordB ((cte each j).getD (3 : Nat) default)) with
                        | false =>
                          have q19 : (decide ((0 : Int) ≤ (2 : Int) ∧ (2 : Int) < (↑((↑(cte each j).length : Int) - (2 : Int)).toNat : Int))) = true := (by have hr2 := hrow.2; simp at *; omega)
                          cases q20 : (strEq ((cte each j).getD (4 : Nat) default) { data := #[(45 : UInt8)] }) with
                          | false =>
                            have q21 : (((cte each j).getD (4 : Nat) default).data.toList.length.ble (4294967295 : Nat)) = true := okP_get hrow.1 4
                            cases q22 : (!wordB ((cte each j).getD (4 : Nat) default)) with
                            | false =>
                              have q23 : (bigOk (m + (1 : Nat)) (16 : Nat)) = true := bigOk_small hm
                              have hv : readT (cte each j) c = true := (by simp only [readT, q1, q2, q3, q4, q7, q8, q9, q12, q13, q14, q15, q18, q20, q22, cond_true, cond_false]); exact ⟨fun _ => en1_g22 (m := m) p0 p1 p2 p3 p4 p5 q0 q1 q2 q3 q4 q5 q6 q7 q8 q9 q10 q11 q12 q13 q14 q15 q16 q17 q18 q19 q20 q21 q22 q23 hg, fun h => by rw [hv] at h; cases h⟩
                            | true =>
                              have hv : readT (cte each j) c = false := (by simp only [readT, q1, q2, q3, q4, q7, q8, q9, q12, q13, q14, q15, q18, q20, q22, cond_true, cond_false]); exact ⟨fun h => (by rw [hv] at h; cases h), fun _ => en1_r21 (m := m) p0 p1 p2 p3 p4 p5 q0 q1 q2 q3 q4 q5 q6 q7 q8 q9 q10 q11 q12 q13 q14 q15 q16 q17 q18 q19 q20 q21 q22 hg⟩
                          | true =>
                            have q21 : (bigOk (m + (1 : Nat)) (16 : Nat)) = true := bigOk_small hm
                            have hv : readT (cte each j) c = true := (by simp only [readT, q1, q2, q3, q4, q7, q8, q9, q12, q13, q14, q15, q18, q20, cond_true, cond_false]); exact ⟨fun _ => en1_g20 (m := m) p0 p1 p2 p3 p4 p5 q0 q1 q2 q3 q4 q5 q6 q7 q8 q9 q10 q11 q12 q13 q14 q15 q16 q17 q18 q19 q20 q21 hg, fun h => by rw [hv] at h; cases h⟩
                        | true =>
                          have hv : readT (cte each j) c = false := (by simp only [readT, q1, q2, q3, q4, q7, q8, q9, q12, q13, q14, q15, q18, cond_true, cond_false]); exact ⟨fun h => (by rw [hv] at h; cases h), fun _ => en1_r19 (m := m) p0 p1 p2 p3 p4 p5 q0 q1 q2 q3 q4 q5 q6 q7 q8 q9 q10 q11 q12 q13 q14 q15 q16 q17 q18 hg⟩
                      | true =>
                        have hv : readT (cte each j) c = false := (by simp only [readT, q1, q2, q3, q4, q7, q8, q9, q12, q13, q14, q15, cond_true, cond_false]); exact ⟨fun h => (by rw [hv] at h; cases h), fun _ => en1_r18 (m := m) p0 p1 p2 p3 p4 p5 q0 q1 q2 q3 q4 q5 q6 q7 q8 q9 q10 q11 q12 q13 q14 q15 hg⟩
                    | true =>
                      cases q15 : (!strEq ((cte each j).getD (2 : Nat) default) { data := #[(117 : UInt8), (112 : UInt8), (115 : UInt8), (101 : UInt8), (114 : UInt8), (116 : UInt8)] }) with
                      | false =>
                        cases q16 : ((↑((↑(cte each j).length : Int) - (2 : Int)).toNat : Int) != (3 : Int)) with
                        | false =>
                          have q17 : (decide ((0 : Int) ≤ (1 : Int) ∧ (1 : Int) < (↑((↑(cte each j).length : Int) - (2 : Int)).toNat : Int))) = true := (by have hr2 := hrow.2; simp at *; omega)
                          have q18 : (((cte each j).getD (3 : Nat) default).data.toList.length.ble (4294967295 : Nat)) = true := okP_get hrow.1 3
                          cases q19 : (!wordB ((cte each j).getD (3 : Nat) default)) with
                          | false =>
                            have q20 : (decide ((0 : Int) ≤ (2 : Int) ∧ (2 : Int) < (↑((↑(cte each j).length : Int) - (2 : Int)).toNat : Int))) = true := (by have hr2 := hrow.2; simp at *; omega)
                            cases q21 : (strEq ((cte each j).getD (4 : Nat) default) { data := #[(45 : UInt8)] }) with
                            | false =>
                              have q22 : (((cte each j).getD (4 : Nat) default).data.toList.length.ble (4294967295 : Nat)) = true := okP_get hrow.1 4
                              cases q23 : (!wordB ((cte each j).getD (4 : Nat) default)) with
                              | false =>
                                have q24 : (bigOk (m + (1 : Nat)) (16 : Nat)) = true := bigOk_small hm
                                have hv : readT (cte each j) c = true := (by simp only [readT, q1, q2, q3, q4, q7, q8, q9, q12, q13, q14, q15, q16, q19, q21, q23, cond_true, cond_false]); exact ⟨fun _ => en1_g17 (m := m) p0 p1 p2 p3 p4 p5 q0 q1 q2 q3 q4 q5 q6 q7 q8 q9 q10 q11 q12 q13 q14 q15 q16 q17 q18 q19 q20 q21 q22 q23 q24 hg, fun h => by rw [hv] at h; cases h⟩
                              | true =>
                                have hv : readT (cte each j) c = false := (by simp only [readT, q1, q2, q3, q4, q7, q8, q9, q12, q13, q14, q15, q16, q19, q21, q23, cond_true, cond_false]); exact ⟨fun h => (by rw [hv] at h; cases h), fun _ => en1_r16 (m := m) p0 p1 p2 p3 p4 p5 q0 q1 q2 q3 q4 q5 q6 q7 q8 q9 q10 q11 q12 q13 q14 q15 q16 q17 q18 q19 q20 q21 q22 q23 hg⟩
                            | true =>
                              have q22 : (bigOk (m + (1 : Nat)) (16 : Nat)) = true := bigOk_small hm
                              have hv : readT (cte each j) c = true := (by simp only [readT, q1, q2, q3, q4, q7, q8, q9, q12, q13, q14, q15, q16, q19, q21, cond_true, cond_false]); exact ⟨fun _ => en1_g15 (m := m) p0 p1 p2 p3 p4 p5 q0 q1 q2 q3 q4 q5 q6 q7 q8 q9 q10 q11 q12 q13 q14 q15 q16 q17 q18 q19 q20 q21 q22 hg, fun h => by rw [hv] at h; cases h⟩
                          | true =>
                            have hv : readT (cte each j) c = false := (by simp only [readT, q1, q2, q3, q4, q7, q8, q9, q12, q13, q14, q15, q16, q19, cond_true, cond_false]); exact ⟨fun h => (by rw [hv] at h; cases h), fun _ => en1_r14 (m := m) p0 p1 p2 p3 p4 p5 q0 q1 q2 q3 q4 q5 q6 q7 q8 q9 q10 q11 q12 q13 q14 q15 q16 q17 q18 q19 hg⟩
                        | true =>
                          have hv : readT (cte each j) c = false := (by simp only [readT, q1, q2, q3, q4, q7, q8, q9, q12, q13, q14, q15, q16, cond_true, cond_false]); exact ⟨fun h => (by rw [hv] at h; cases h), fun _ => en1_r13 (m := m) p0 p1 p2 p3 p4 p5 q0 q1 q2 q3 q4 q5 q6 q7 q8 q9 q10 q11 q12 q13 q14 q15 q16 hg⟩
                      | true =>
                        cases q16 : (!strEq ((cte each j).getD (2 : Nat) default) { data := #[(100 : UInt8), (101 : UInt8), (108 : UInt8), (101 : UInt8), (116 : UInt8), (101 : UInt8)] }) with
                        | false =>
                          cases q17 : ((↑((↑(cte each j).length : Int) - (2 : Int)).toNat : Int) != (2 : Int)) with
                          | false =>
                            have q18 : (decide ((0 : Int) ≤ (1 : Int) ∧ (1 : Int) < (↑((↑(cte each j).length : Int) - (2 : Int)).toNat : Int))) = true := (by have hr2 := hrow.2; simp at *; omega)
                            have q19 : (((cte each j).getD (3 : Nat) default).data.toList.length.ble (4294967295 : Nat)) = true := okP_get hrow.1 3
                            cases q20 : (!wordB ((cte each j).getD (3 : Nat) default)) with
                            | false =>
                              have q21 : (bigOk (m + (1 : Nat)) (16 : Nat)) = true := bigOk_small hm
                              have hv : readT (cte each j) c = true := (by simp only [readT, q1, q2, q3, q4, q7, q8, q9, q12, q13, q14, q15, q16, q17, q20, cond_true, cond_false]); exact ⟨fun _ => en1_g12 (m := m) p0 p1 p2 p3 p4 p5 q0 q1 q2 q3 q4 q5 q6 q7 q8 q9 q10 q11 q12 q13 q14 q15 q16 q17 q18 q19 q20 q21 hg, fun h => by rw [hv] at h; cases h⟩
                            | true =>
                              have hv : readT (cte each j) c = false := (by simp only [readT, q1, q2, q3, q4, q7, q8, q9, q12, q13, q14, q15, q16, q17, q20, cond_true, cond_false]); exact ⟨fun h => (by rw [hv] at h; cases h), fun _ => en1_r11 (m := m) p0 p1 p2 p3 p4 p5 q0 q1 q2 q3 q4 q5 q6 q7 q8 q9 q10 q11 q12 q13 q14 q15 q16 q17 q18 q19 q20 hg⟩
                          | true =>
                            have hv : readT (cte each j) c = false := (by simp only [readT, q1, q2, q3, q4, q7, q8, q9, q12, q13, q14, q15, q16, q17, cond_true, cond_false]); exact ⟨fun h => (by rw [hv] at h; cases h), fun _ => en1_r10 (m := m) p0 p1 p2 p3 p4 p5 q0 q1 q2 q3 q4 q5 q6 q7 q8 q9 q10 q11 q12 q13 q14 q15 q16 q17 hg⟩
                        | true =>
                          have hv : readT (cte each j) c = false := (by simp only [readT, q1, q2, q3, q4, q7, q8, q9, q12, q13, q14, q15, q16, cond_true, cond_false]); exact ⟨fun h => (by rw [hv] at h; cases h), fun _ => en1_r9 (m := m) p0 p1 p2 p3 p4 p5 q0 q1 q2 q3 q4 q5 q6 q7 q8 q9 q10 q11 q12 q13 q14 q15 q16 hg⟩
            | true =>
              have hv : readT (cte each j) c = false := (by simp only [readT, q1, q2, q3, q4, q7, q8, cond_true, cond_false]); exact ⟨fun h => (by rw [hv] at h; cases h), fun _ => en1_r8 (m := m) p0 p1 p2 p3 p4 p5 q0 q1 q2 q3 q4 q5 q6 q7 q8 hg⟩
          | true =>
            have hv : readT (cte each j) c = false := (by simp only [readT, q1, q2, q3, q4, q7, cond_true, cond_false]); exact ⟨fun h => (by rw [hv] at h; cases h), fun _ => en1_r7 (m := m) p0 p1 p2 p3 p4 p5 q0 q1 q2 q3 q4 q5 q6 q7 hg⟩
        | true =>
          have hv : readT (cte each j) c = false := (by simp only [readT, q1, q2, q3, q4, cond_true, cond_false]); exact ⟨fun h => (by rw [hv] at h; cases h), fun _ => en1_r6 (m := m) p0 p1 p2 p3 p4 p5 q0 q1 q2 q3 q4 hg⟩
      | true =>
        have q4 : (bigOk (m + (1 : Nat)) (16 : Nat)) = true := bigOk_small hm
        cases q5 : (!(↑(cte each j).length : Int) == (1 : Int)) with
        | false =>
          have hv : readT (cte each j) c = true := (by simp only [readT, q1, q2, q3, q5, cond_true, cond_false]); exact ⟨fun _ => en1_g5 (m := m) p0 p1 p2 p3 p4 p5 q0 q1 q2 q3 q4 q5 hg, fun h => by rw [hv] at h; cases h⟩
        | true =>
          have hv : readT (cte each j) c = false := (by simp only [readT, q1, q2, q3, q5, cond_true, cond_false]); exact ⟨fun h => (by rw [hv] at h; cases h), fun _ => en1_r4 (m := m) p0 p1 p2 p3 p4 p5 q0 q1 q2 q3 q4 q5 hg⟩
    | true =>
      have q3 : (bigOk (m + (1 : Nat)) (16 : Nat)) = true := bigOk_small hm
      cases q4 : (!(↑(cte each j).length : Int) == (1 : Int)) with
      | false =>
        have hv : readT (cte each j) c = true := (by simp only [readT, q1, q2, q4, cond_true, cond_false]); exact ⟨fun _ => en1_g3 (m := m) p0 p1 p2 p3 p4 p5 q0 q1 q2 q3 q4 hg, fun h => by rw [hv] at h; cases h⟩
      | true =>
        have hv : readT (cte each j) c = false := (by simp only [readT, q1, q2, q4, cond_true, cond_false]); exact ⟨fun h => (by rw [hv] at h; cases h), fun _ => en1_r2 (m := m) p0 p1 p2 p3 p4 p5 q0 q1 q2 q3 q4 hg⟩
  | true =>
    have q2 : (bigOk (m + (1 : Nat)) (16 : Nat)) = true := bigOk_small hm
    cases q3 : (!(↑(cte each j).length : Int) == (1 : Int)) with
    | false =>
      have hv : readT (cte each j) c = true := (by simp only [readT, q1, q3, cond_true, cond_false]); exact ⟨fun _ => en1_g1 (m := m) p0 p1 p2 p3 p4 p5 q0 q1 q2 q3 hg, fun h => by rw [hv] at h; cases h⟩
    | true =>
      have hv : readT (cte each j) c = false := (by simp only [readT, q1, q3, cond_true, cond_false]); exact ⟨fun h => (by rw [hv] at h; cases h), fun _ => en1_r0 (m := m) p0 p1 p2 p3 p4 p5 q0 q1 q2 q3 hg⟩

end Go.Proofs.YtkmicbhnfochjaaGreatDoor

namespace Go.Proofs.YtkmicbhnfochjaaGreatDoor
open Go Go.Sx Go.Eng
def enE (B : Nat) (w0 : World) (each : List ByteArray) : Heap := [(0, .args B w0), (1, .cells (each.map Value.string) 9), (2, .cells (en0 ++ [.slice none 0 0]) 57)]
noncomputable def enTE (each : List ByteArray) : List Value := mkT 47 0 [(6, .pointer (some ⟨2, 0, none⟩)), (22, .slice (some ⟨1, 0, none⟩) each.length 0), (23, .int .i64 each.length), (24, .int .i64 0)]
set_option maxRecDepth 100000 in
theorem enx_0 {B : Nat} {w0 : World} {s : ByteArray} (h0 : (s.data.toList.length.ble (4294967280 : Nat)) = true) (h1 : (decide ((↑s.data.toList.length : Int) > (32768 : Int))) = true) (hg : StableAt glob B ∧ glob w0) : Does Tryz.prog 1 [(0, .args B w0)] 40 [(0, .args B w0)] (.call 11 [.string s]) (.val (.tuple ⟨[.pointer none, .int .i64 0, .iface 28 (.int .i64 8)]⟩)) :=
  call_of mixed conE5_holds [] [(0, false)] (d := [(0, .br true), (1, .br true), (2, .br true), (3, .br true), (4, .br true)]) (n := 600) (c2 := 2) (L' := []) (L := [.b ((decide ((↑s.data.toList.length : Int) > (32768 : Int))) == true), .b ((decide ((↑s.data.toList.length : Int) > (32768 : Int))) == true), .b ((decide ((↑s.data.toList.length : Int) > (32768 : Int))) == true), .b ((decide ((↑s.data.toList.length : Int) > (32768 : Int))) == true), .b (s.data.toList.length.ble (4294967280 : Nat)), .p (StableAt glob B ∧ glob w0)]) (by kernel_rfl) rfl rfl (vcs_nil) (vcs_cons (vc_b h1) (vcs_cons (vc_b h1) (vcs_cons (vc_b h1) (vcs_cons (vc_b h1) (vcs_cons (vc_c h0) (vcs_cons (hg) vcs_nil))))))
set_option maxRecDepth 100000 in
theorem enx_1 {B : Nat} {w0 : World} {s : ByteArray} (h0 : (s.data.toList.length.ble (4294967280 : Nat)) = true) (h1 : (decide ((↑s.data.toList.length : Int) > (32768 : Int))) = false) (h2 : (decide ((↑(cutS (10 : UInt8) s).length : Int) > (200 : Int))) = true) (hg : StableAt glob B ∧ glob w0) : Does Tryz.prog 1 [(0, .args B w0)] 40 [(0, .args B w0)] (.call 11 [.string s]) (.val (.tuple ⟨[.pointer none, .int .i64 0, .iface 28 (.int .i64 8)]⟩)) :=
  call_of mixed conE5_holds [] [(0, false)] (d := [(0, .br true), (1, .br false), (2, .br false), (3, .br false), (4, .br false), (5, .br true)]) (n := 600) (c2 := 2) (L' := []) (L := [.b ((decide ((↑(cutS (10 : UInt8) s).length : Int) > (200 : Int))) == true), .b ((decide ((↑s.data.toList.length : Int) > (32768 : Int))) == false), .b ((decide ((↑s.data.toList.length : Int) > (32768 : Int))) == false), .b ((decide ((↑s.data.toList.length : Int) > (32768 : Int))) == false), .b ((decide ((↑s.data.toList.length : Int) > (32768 : Int))) == false), .b (s.data.toList.length.ble (4294967280 : Nat)), .p (StableAt glob B ∧ glob w0)]) (by kernel_rfl) rfl rfl (vcs_nil) (vcs_cons (vc_b h2) (vcs_cons (vc_b h1) (vcs_cons (vc_b h1) (vcs_cons (vc_b h1) (vcs_cons (vc_b h1) (vcs_cons (vc_c h0) (vcs_cons (hg) vcs_nil)))))))
set_option maxRecDepth 100000 in
theorem enx_2 {B : Nat} {w0 : World} {s : ByteArray} (h0 : (s.data.toList.length.ble (4294967280 : Nat)) = true) (h1 : (decide ((↑s.data.toList.length : Int) > (32768 : Int))) = false) (h2 : (decide ((↑(cutS (10 : UInt8) s).length : Int) > (200 : Int))) = false) (hg : StableAt glob B ∧ glob w0) (hl : Does Tryz.prog 3 (enE B w0 (cutS (UInt8.ofNat 10) s)) 40 [(0, .args B w0)] (.inLoop enc (enTE (cutS (UInt8.ofNat 10) s))) (.out (.exit 0) (mkT 47 0 [(6, .pointer (some ⟨2, 0, none⟩))]))) : Does Tryz.prog 1 [(0, .args B w0)] 40 [(0, .args B w0)] (.call 11 [.string s]) (.val (.tuple ⟨[.chan none, .int .i64 0, .nilIface]⟩)) :=
  call_of mixed conE5_holds [] [(0, false)] (d := [(0, .br true), (1, .br false), (2, .br false), (3, .br false), (4, .br false), (5, .br false), (6, .loop [6, 22, 23, 24] [0, 1, 2] 40 [(0, .args B w0)] (.exit 0) (mkT 47 0 [(6, .pointer (some ⟨2, 0, none⟩))]))]) (n := 600) (c2 := 40) (L' := []) (L := [.p (Does Tryz.prog 3 (enE B w0 (cutS (UInt8.ofNat 10) s)) 40 [(0, .args B w0)] (.inLoop enc (enTE (cutS (UInt8.ofNat 10) s))) (.out (.exit 0) (mkT 47 0 [(6, .pointer (some ⟨2, 0, none⟩))]))), .b ((decide ((↑(cutS (10 : UInt8) s).length : Int) > (200 : Int))) == false), .b ((decide ((↑s.data.toList.length : Int) > (32768 : Int))) == false), .b ((decide ((↑s.data.toList.length : Int) > (32768 : Int))) == false), .b ((decide ((↑s.data.toList.length : Int) > (32768 : Int))) == false), .b ((decide ((↑s.data.toList.length : Int) > (32768 : Int))) == false), .b (s.data.toList.length.ble (4294967280 : Nat)), .p (StableAt glob B ∧ glob w0)]) (by kernel_rfl) rfl rfl (vcs_nil) (vcs_cons (hl) (vcs_cons (vc_b h2) (vcs_cons (vc_b h1) (vcs_cons (vc_b h1) (vcs_cons (vc_b h1) (vcs_cons (vc_b h1) (vcs_cons (vc_c h0) (vcs_cons (hg) vcs_nil))))))))
set_option maxRecDepth 100000 in
theorem enr_2 {B : Nat} {w0 : World} {s : ByteArray} {n : Int} (h0 : (s.data.toList.length.ble (4294967280 : Nat)) = true) (h1 : (decide ((↑s.data.toList.length : Int) > (32768 : Int))) = false) (h2 : (decide ((↑(cutS (10 : UInt8) s).length : Int) > (200 : Int))) = false) (hg : StableAt glob B ∧ glob w0) (hl : Does Tryz.prog 3 (enE B w0 (cutS (UInt8.ofNat 10) s)) 40 [(0, .args B w0)] (.inLoop enc (enTE (cutS (UInt8.ofNat 10) s))) (.out .ret (mkT 47 0 [(2, .pointer none), (3, .int .i64 n), (4, .iface 28 (.int .i64 14))]))) : Does Tryz.prog 1 [(0, .args B w0)] 40 [(0, .args B w0)] (.call 11 [.string s]) (.val (.tuple ⟨[.pointer none, .int .i64 n, .iface 28 (.int .i64 14)]⟩)) :=
  call_of mixed conE5_holds [] [(0, false)] (d := [(0, .br true), (1, .br false), (2, .br false), (3, .br false), (4, .br false), (5, .br false), (6, .loop [6, 22, 23, 24] [0, 1, 2] 40 [(0, .args B w0)] .ret (mkT 47 0 [(2, .pointer none), (3, .int .i64 n), (4, .iface 28 (.int .i64 14))]))]) (n := 600) (c2 := 40) (L' := []) (L := [.p (Does Tryz.prog 3 (enE B w0 (cutS (UInt8.ofNat 10) s)) 40 [(0, .args B w0)] (.inLoop enc (enTE (cutS (UInt8.ofNat 10) s))) (.out .ret (mkT 47 0 [(2, .pointer none), (3, .int .i64 n), (4, .iface 28 (.int .i64 14))]))), .b ((decide ((↑(cutS (10 : UInt8) s).length : Int) > (200 : Int))) == false), .b ((decide ((↑s.data.toList.length : Int) > (32768 : Int))) == false), .b ((decide ((↑s.data.toList.length : Int) > (32768 : Int))) == false), .b ((decide ((↑s.data.toList.length : Int) > (32768 : Int))) == false), .b ((decide ((↑s.data.toList.length : Int) > (32768 : Int))) == false), .b (s.data.toList.length.ble (4294967280 : Nat)), .p (StableAt glob B ∧ glob w0)]) (by kernel_rfl) rfl rfl (vcs_nil) (vcs_cons (hl) (vcs_cons (vc_b h2) (vcs_cons (vc_b h1) (vcs_cons (vc_b h1) (vcs_cons (vc_b h1) (vcs_cons (vc_b h1) (vcs_cons (vc_c h0) (vcs_cons (hg) vcs_nil))))))))
end Go.Proofs.YtkmicbhnfochjaaGreatDoor
