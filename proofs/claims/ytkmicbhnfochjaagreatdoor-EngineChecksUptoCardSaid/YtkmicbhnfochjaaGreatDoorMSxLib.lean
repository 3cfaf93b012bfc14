/- Symbolic executor, part 30: what a call does under some names it does under others, in the midst of a greater heap. No condition. -/
import Derived.Test.YtkmicbhnfochjaaGreatDoorMSxStr
import Derived.Below

namespace Go.Sx
variable {P : Program}

/-- The place of a name in a row of names. -/
def posFrom : List Nat → Nat → Nat → Option Nat
  | [], _, _ => none
  | m :: l, i, n => match Nat.beq m n with
    | true => some i
    | false => posFrom l (i + 1) n
def back (l : List Nat) (n : Nat) : Option Nat := posFrom l 0 n
/-- A name of the call's own heap, as it is called in the greater one. -/
def fwdN (l : List Nat) (c n : Nat) : Nat := match l[n]? with
  | some m => m
  | none => c + (n - l.length)
def fwd (l : List Nat) (c k1 n : Nat) : Option Nat := match Nat.blt n k1 with
  | true => some (fwdN l c n)
  | false => none
/-- Names, each once. -/
def namesOk : List Nat → Bool
  | [] => true
  | m :: l => !hasN m l && namesOk l
theorem posFrom_some {n : Nat} : ∀ {l : List Nat} {i j : Nat}, posFrom l i n = some j → i ≤ j ∧ l[j - i]? = some n
  | [], _, _, h => by cases h
  | m :: l, i, j, h => by
    simp only [posFrom, nbeq] at h
    by_cases e : m = n
    · subst e; simp only [decide_true, Option.some.injEq] at h; subst h; simp
    · simp only [e, decide_false] at h
      obtain ⟨h1, h2⟩ := posFrom_some h
      refine ⟨by omega, ?_⟩
      rw [show j - i = (j - (i + 1)) + 1 by omega]
      simpa using h2
theorem back_some {l : List Nat} {n j : Nat} (h : back l n = some j) : l[j]? = some n := by
  have := (posFrom_some h).2
  simpa using this
theorem posFrom_none {n : Nat} : ∀ {l : List Nat} {i : Nat}, posFrom l i n = none → n ∉ l
  | [], _, _ => by simp
  | m :: l, i, h => by
    simp only [posFrom, nbeq] at h
    by_cases e : m = n
    · simp [e] at h
    · simp only [e, decide_false] at h
      simp only [List.mem_cons, not_or]
      exact ⟨fun q => e q.symm, posFrom_none h⟩
theorem back_none {l : List Nat} {n : Nat} (h : back l n = none) : n ∉ l := posFrom_none h
theorem back_at {n : Nat} : ∀ {l : List Nat} {i j : Nat}, namesOk l = true → l[j]? = some n → posFrom l i n = some (i + j)
  | [], _, _, _, h => by simp at h
  | m :: l, i, j, hk, h => by
    simp only [namesOk, Bool.and_eq_true, Bool.not_eq_true'] at hk
    cases j with
    | zero =>
      simp only [List.getElem?_cons_zero, Option.some.injEq] at h
      subst h
      simp [posFrom, nbeq]
    | succ j =>
      simp only [List.getElem?_cons_succ] at h
      have hmem : n ∈ l := List.mem_of_getElem? h
      have hne : ¬ m = n := fun e => by subst e; rw [hasN_mem.2 hmem] at hk; exact absurd hk.1 (by simp)
      simp only [posFrom, nbeq, hne, decide_false]
      rw [back_at hk.2 h]
      congr 1
      omega
theorem back_of {l : List Nat} {n j : Nat} (hk : namesOk l = true) (h : l[j]? = some n) : back l n = some j := by
  have := back_at (i := 0) hk h
  simpa [back] using this
theorem fwdN_back {l : List Nat} {c n j : Nat} (h : back l n = some j) : fwdN l c j = n := by simp [fwdN, back_some h]
theorem fwdN_low {l : List Nat} {c i : Nat} (h : i < l.length) : fwdN l c i ∈ l := by simp [fwdN, List.getElem?_eq_getElem h]
theorem fwdN_high {l : List Nat} {c i : Nat} (h : l.length ≤ i) : fwdN l c i = c + (i - l.length) := by simp [fwdN, List.getElem?_eq_none h]

/-- What the names mean under the call's own names. -/
def Env.at (r : Env) (l : List Nat) (c : Nat) : Env := ⟨fun i => r.blk (fwdN l c i), fun i => r.cap (fwdN l c i), fun i => r.val (fwdN l c i)⟩
def atO (l : List Nat) (ow : Nat → Option Nat) : Nat → Option Nat := fun b => match ow b with
  | some n => back l n
  | none => none
theorem atO_some {l : List Nat} {ow : Nat → Option Nat} {b i : Nat} : atO l ow b = some i ↔ ∃ n, ow b = some n ∧ back l n = some i := by
  unfold atO
  cases e : ow b with
  | none => simp
  | some n => simp
/-- A name of the greater heap, as the call calls it. -/
def home (l : List Nat) (c c1 n : Nat) : Option Nat := match back l n with
  | some i => some i
  | none => if c ≤ n ∧ n < c1 then some (l.length + (n - c)) else none
def Env.out (r r' : Env) (l : List Nat) (c c1 : Nat) : Env :=
  ⟨fun n => match home l c c1 n with | some i => r'.blk i | none => r.blk n,
   fun n => match home l c c1 n with | some i => r'.cap i | none => r.cap n,
   fun n => match home l c c1 n with | some i => r'.val i | none => r.val n⟩
def outO (l : List Nat) (c : Nat) (ow ow' : Nat → Option Nat) : Nat → Option Nat := fun b => match ow b with
  | some n => (match back l n with
    | some _ => (ow' b).map (fwdN l c)
    | none => some n)
  | none => (ow' b).map (fwdN l c)

theorem home_fwd {l : List Nat} {c k1 i : Nat} (hk : namesOk l = true) (hr : ∀ n ∈ l, ¬ (c ≤ n ∧ n < c + (k1 - l.length))) (hi : i < k1) (hl : l.length ≤ k1) : home l c (c + (k1 - l.length)) (fwdN l c i) = some i := by
  by_cases h : i < l.length
  · unfold home
    have e : l[i]? = some l[i] := List.getElem?_eq_getElem h
    have : fwdN l c i = l[i] := by simp [fwdN, e]
    rw [this, back_of hk e]
  · have h' : l.length ≤ i := Nat.le_of_not_lt h
    have e := fwdN_high (c := c) h'
    unfold home
    have : back l (fwdN l c i) = none := by
      cases e2 : back l (fwdN l c i) with
      | none => rfl
      | some j =>
        have := hr _ (List.mem_of_getElem? (back_some e2))
        rw [e] at this; omega
    rw [this]
    simp only
    rw [e, if_pos (by omega)]
    congr 1
    omega
/-- A piece under other names, of which less is told. -/
theorem chunk_as {nm : Nat → Option Nat} {s n : Nat} {x x' : Chunk} {r r2 : Env} {ow ow2 : Nat → Option Nat} {w : World} (hb : ∀ n m, nm n = some m → r2.blk m = r.blk n ∧ r2.cap m = r.cap n ∧ r2.val m = r.val n)
    (hO : ∀ b, ow b = some s → ow2 b = some n) (hn : nm s = some n) (h : ChunkInto (x.ren nm) x') (hs : x.sat P r ow w s) : x'.sat P r2 ow2 w n := by
  obtain ⟨e1, e2, e3⟩ := hb _ _ hn
  have hV := renV_ok (r := r) (r2 := r2) (nm := nm) hb 9
  cases x with
  | cells l t =>
    obtain ⟨b, c, h1, h2, h3, h4, h5, h6⟩ := hs
    cases h with
    | cells hcov =>
      have h7 := hcov.rel (map_relL hV h4)
      have h8 := hcov.len
      rw [List.length_map] at h8
      rw [List.take_take, Nat.min_eq_left h8] at h7
      exact ⟨b, c, e1.trans h1, hO b h2, h3, h7, Nat.le_trans h8 h5, by rw [e2]; exact h6⟩
  | map es =>
    obtain ⟨b, es2, k, h1, h2, h3, h4, h5⟩ := hs
    cases h with
    | map hl hk hv =>
      have g1 := hk.rel (us := es2.toList.map (·.key)) (by have := map_relL hV h4; rw [List.map_map] at this ⊢; exact this)
      have g2 := hv.rel (us := es2.toList.map (·.val)) (by have := map_relL hV h5; rw [List.map_map] at this ⊢; exact this)
      have hlen := h4.length
      rw [List.length_map, List.length_map] at hlen
      rw [List.length_map] at hl
      rw [List.length_map, hl, List.take_of_length_le (by rw [List.length_map]; omega)] at g1 g2
      exact ⟨b, es2, k, e1.trans h1, hO b h2, h3, g1, g2⟩
  | args B w0 =>
    cases h with
    | args => exact fun b hb => ⟨hO b (hs b hb).1, (hs b hb).2⟩
  | sem x => cases h
  | bag e m =>
    obtain ⟨a, l, c, h1, h2, h3⟩ := hs
    cases h with
    | bag hm => exact ⟨a, l, c, e3.trans h1, Nat.le_trans h2 hm, h3.imp id fun ⟨b, cs, q1, q2, q3⟩ => ⟨b, cs, q1, hO b q2, q3⟩⟩
  | iter s pos =>
    obtain ⟨b, h1, h2, h3⟩ := hs
    cases h with
    | iter => exact ⟨b, e1.trans h1, hO b h2, h3⟩

theorem at_sat {r : Env} {ow : Nat → Option Nat} {H h0 : Heap} {w : World} {l : List Nat} {c : Nat} (hs : Sat P r ow H w)
    (hin : ∀ i x, h0.get i = some x → ∃ n y, back l n = some i ∧ H.get n = some y ∧ ChunkInto (y.ren (back l)) x) : Sat P (r.at l c) (atO l ow) h0 w := by
  have hb : ∀ n m, back l n = some m → (r.at l c).blk m = r.blk n ∧ (r.at l c).cap m = r.cap n ∧ (r.at l c).val m = r.val n := fun n m h => by
    simp [Env.at, fwdN_back (c := c) h]
  refine ⟨fun i x hx => ?_, fun b i e => ?_, fun b i e => ?_⟩
  · obtain ⟨n, y, h1, h2, h3⟩ := hin i x hx
    exact chunk_as hb (fun b e => atO_some.2 ⟨n, e, h1⟩) h1 h3 (hs.chunk n y h2)
  · obtain ⟨n, h1, _⟩ := atO_some.1 e
    exact hs.bound b n h1
  · obtain ⟨n, h1, h2⟩ := atO_some.1 e
    obtain ⟨e1, _, e3⟩ := hb n i h2
    rw [e1, e3]
    exact hs.known b n h1

theorem at_post {r r' : Env} {ow ow' : Nat → Option Nat} {w w' : World} {l : List Nat} {c k1 : Nat} {H H' h0 h1 : Heap} (hk : namesOk l = true) (hr : ∀ n ∈ l, ¬ (c ≤ n ∧ n < c + (k1 - l.length))) (hl : l.length ≤ k1) (hs : Sat P r ow H w) (hf : Fresh r c (c + (k1 - l.length)))
    (hp : Post P (r.at l c) (atO l ow) w (stOf l.length h0) r' ow' w' (stOf k1 h1))
    (hout : ∀ n x, H'.get n = some x → (∃ i y, h1.get i = some y ∧ fwd l c k1 i = some n ∧ ChunkInto (y.ren (fwd l c k1)) x) ∨ (back l n = none ∧ ¬ (c ≤ n ∧ n < c + (k1 - l.length)) ∧ H.get n = some x)) :
    Post P r ow w (stOf c H) (r.out r' l c (c + (k1 - l.length))) (outO l c ow ow') w' (stOf (c + (k1 - l.length)) H') ∧
      ∀ n m, fwd l c k1 n = some m → (r.out r' l c (c + (k1 - l.length))).blk m = r'.blk n ∧ (r.out r' l c (c + (k1 - l.length))).cap m = r'.cap n ∧ (r.out r' l c (c + (k1 - l.length))).val m = r'.val n := by
  have hfw : ∀ n m, fwd l c k1 n = some m → n < k1 ∧ m = fwdN l c n := fun n m h => by
    unfold fwd at h
    cases e : Nat.blt n k1 with
    | false => simp [e] at h
    | true => simp only [e, Option.some.injEq] at h; exact ⟨Nat.le_of_ble_eq_true e, h.symm⟩
  have hb : ∀ n m, fwd l c k1 n = some m → (r.out r' l c (c + (k1 - l.length))).blk m = r'.blk n ∧ (r.out r' l c (c + (k1 - l.length))).cap m = r'.cap n ∧ (r.out r' l c (c + (k1 - l.length))).val m = r'.val n := fun n m h => by
    obtain ⟨h1, rfl⟩ := hfw n m h
    simp [Env.out, home_fwd hk hr h1 hl]
  have hhome : ∀ n i, home l c (c + (k1 - l.length)) n = some i → (back l n = some i ∧ i < l.length) ∨ (back l n = none ∧ c ≤ n ∧ n < c + (k1 - l.length) ∧ i = l.length + (n - c)) := fun n i h => by
    unfold home at h
    cases e : back l n with
    | some j =>
      simp only [e, Option.some.injEq] at h
      subst h
      exact .inl ⟨rfl, (List.getElem?_eq_some_iff.1 (back_some e)).1⟩
    | none =>
      simp only [e] at h
      split at h
      · rename_i q
        simp only [Option.some.injEq] at h
        exact .inr ⟨rfl, q.1, q.2, h.symm⟩
      · cases h
  have hgone : ∀ b m, ow b = some m → back l m = none → ow' b = none ∧ w'.heap[b]? = w.heap[b]? := fun b m e hm =>
    hp.frame.keep b (hs.bound b m e) (by unfold atO; rw [e]; exact hm)
  have hnone : ∀ b, ow b = none → atO l ow b = none := fun b e => by unfold atO; rw [e]
  have hown : ∀ b i, ow' b = some i → i < k1 := fun b i e => by
    rcases hp.own b i e with ⟨b', q⟩ | ⟨_, q⟩
    · obtain ⟨n, _, q2⟩ := atO_some.1 q
      have := (List.getElem?_eq_some_iff.1 (back_some q2)).1
      omega
    · exact q
  have hfi : ∀ i, i < k1 → fwd l c k1 i = some (fwdN l c i) := fun i h => by
    unfold fwd
    have : Nat.blt i k1 = true := Nat.ble_eq_true_of_le h
    rw [this]
  have hOut : ∀ b i, ow' b = some i → outO l c ow ow' b = some (fwdN l c i) := fun b i e => by
    unfold outO
    cases e2 : ow b with
    | none => simp [e]
    | some n =>
      simp only
      cases e3 : back l n with
      | some j => simp [e]
      | none => have := (hgone b n e2 e3).1; rw [this] at e; cases e
  have hle : r.Le (r.out r' l c (c + (k1 - l.length))) := by
    have key : ∀ n, r.blk n ≠ none ∨ r.val n ≠ none → ∀ i, home l c (c + (k1 - l.length)) n = some i → back l n = some i := fun n hn i h => by
      rcases hhome n i h with q | ⟨_, q1, q2, _⟩
      · exact q.1
      · have := hf n q1 q2
        rcases hn with x | x
        · exact absurd this.1 x
        · exact absurd this.2 x
    refine ⟨fun n b e => ?_, fun n b e => ?_, fun n v e => ?_⟩
    · show (match home l c (c + (k1 - l.length)) n with | some i => r'.blk i | none => r.blk n) = some b
      cases e2 : home l c (c + (k1 - l.length)) n with
      | none => exact e
      | some i =>
        have hb' := key n (.inl (by simp [e])) i e2
        exact hp.le.blk i b (by simp only [Env.at, fwdN_back (c := c) hb']; exact e)
    · show (match home l c (c + (k1 - l.length)) n with | some i => r'.cap i | none => r.cap n) = r.cap n
      cases e2 : home l c (c + (k1 - l.length)) n with
      | none => rfl
      | some i =>
        have hb' := key n (.inl (by simp [e])) i e2
        have := hp.le.cap i b (by simp only [Env.at, fwdN_back (c := c) hb']; exact e)
        show r'.cap i = r.cap n
        rw [this]
        simp only [Env.at, fwdN_back (c := c) hb']
    · show (match home l c (c + (k1 - l.length)) n with | some i => r'.val i | none => r.val n) = some v
      cases e2 : home l c (c + (k1 - l.length)) n with
      | none => exact e
      | some i =>
        have hb' := key n (.inr (by simp [e])) i e2
        exact hp.le.val i v (by simp only [Env.at, fwdN_back (c := c) hb']; exact e)
  refine ⟨⟨hle, ⟨fun n x hn => ?_, fun b n e => ?_, fun b n e => ?_⟩, ⟨hp.frame.os, hp.frame.tape, hp.frame.output, hp.frame.size, fun b hb' ho => ?_⟩, ⟨fun n e => ?_, fun n e => ?_⟩, Nat.le_add_right _ _, fun b n e => ?_⟩, hb⟩
  · rcases hout n x hn with ⟨i, y, h1', h2', h3'⟩ | ⟨h1', h2', h3'⟩
    · obtain ⟨hi, rfl⟩ := hfw i n h2'
      exact chunk_as hb (fun b e => hOut b i e) h2' h3' (hp.sat.chunk i y h1')
    · refine Chunk.sat_keep (w := w) (ow := ow) (fun b hb' => (hgone b n hb' h1').2) (fun b => ?_) (Chunk.sat_mono hle (hs.chunk n x h3'))
      have hno : (ow' b).map (fwdN l c) ≠ some n := fun q => by
        obtain ⟨i, q1, q2⟩ := Option.map_eq_some_iff.1 q
        by_cases hi : i < l.length
        · have := fwdN_low (c := c) hi
          rw [q2] at this
          exact back_none h1' this
        · have := fwdN_high (c := c) (Nat.le_of_not_lt hi)
          have hi1 := hown b i q1
          exact h2' ⟨by omega, by omega⟩
      unfold outO
      cases e2 : ow b with
      | none => simp only [reduceCtorEq, iff_false]; exact hno
      | some m =>
        simp only
        cases e3 : back l m with
        | some j =>
          simp only [Option.some.injEq]
          refine ⟨fun q => absurd q hno, fun q => by subst q; rw [h1'] at e3; cases e3⟩
        | none => simp
  · unfold outO at e
    cases e2 : ow b with
    | none =>
      simp only [e2] at e
      obtain ⟨i, q1, _⟩ := Option.map_eq_some_iff.1 e
      exact hp.sat.bound b i q1
    | some m => exact Nat.lt_of_lt_of_le (hs.bound b m e2) hp.frame.size
  · have key : (ow' b).map (fwdN l c) = some n → (r.out r' l c (c + (k1 - l.length))).blk n ≠ none ∨ (r.out r' l c (c + (k1 - l.length))).val n ≠ none := fun q => by
      obtain ⟨i, q1, q2⟩ := Option.map_eq_some_iff.1 q
      have hi := hown b i q1
      obtain ⟨e1, _, e3⟩ := hb i n (by rw [hfi i hi, q2])
      rw [e1, e3]
      exact hp.sat.known b i q1
    unfold outO at e
    cases e2 : ow b with
    | none => simp only [e2] at e; exact key e
    | some m =>
      simp only [e2] at e
      cases e3 : back l m with
      | some j => simp only [e3] at e; exact key e
      | none =>
        simp only [e3, Option.some.injEq] at e
        subst e
        exact hle.known (hs.known b m e2)
  · have := hp.frame.keep b hb' (hnone b ho)
    refine ⟨?_, this.2⟩
    unfold outO
    rw [ho]
    simp [this.1]
  · by_cases hin : c ≤ n ∧ n < c + (k1 - l.length)
    · exact .inr hin
    · left
      change (match home l c (c + (k1 - l.length)) n with | some i => r'.blk i | none => r.blk n) ≠ none at e
      cases e2 : home l c (c + (k1 - l.length)) n with
      | none => rw [e2] at e; exact e
      | some i =>
        rw [e2] at e
        rcases hhome n i e2 with ⟨q1, q2⟩ | ⟨_, q1, q2, _⟩
        · rcases hp.new.1 i e with x | ⟨x, _⟩
          · simpa only [Env.at, fwdN_back (c := c) q1] using x
          · exact absurd x (by show ¬ l.length ≤ i; omega)
        · exact absurd ⟨q1, q2⟩ hin
  · by_cases hin : c ≤ n ∧ n < c + (k1 - l.length)
    · exact .inr hin
    · left
      change (match home l c (c + (k1 - l.length)) n with | some i => r'.val i | none => r.val n) ≠ none at e
      cases e2 : home l c (c + (k1 - l.length)) n with
      | none => rw [e2] at e; exact e
      | some i =>
        rw [e2] at e
        rcases hhome n i e2 with ⟨q1, q2⟩ | ⟨_, q1, q2, _⟩
        · rcases hp.new.2 i e with x | ⟨x, _⟩
          · simpa only [Env.at, fwdN_back (c := c) q1] using x
          · exact absurd x (by show ¬ l.length ≤ i; omega)
        · exact absurd ⟨q1, q2⟩ hin
  · have key : (ow' b).map (fwdN l c) = some n → (∃ b', ow b' = some n) ∨ (c ≤ n ∧ n < c + (k1 - l.length)) := fun q => by
      obtain ⟨i, q1, q2⟩ := Option.map_eq_some_iff.1 q
      have hi := hown b i q1
      by_cases hil : i < l.length
      · left
        rcases hp.own b i q1 with ⟨b', x⟩ | ⟨x, _⟩
        · obtain ⟨m, x1, x2⟩ := atO_some.1 x
          exact ⟨b', by rw [x1, ← q2, fwdN_back x2]⟩
        · exact absurd x (by show ¬ l.length ≤ i; omega)
      · right
        have := fwdN_high (c := c) (Nat.le_of_not_lt hil)
        omega
    unfold outO at e
    cases e2 : ow b with
    | none => simp only [e2] at e; exact key e
    | some m =>
      simp only [e2] at e
      cases e3 : back l m with
      | some j => simp only [e3] at e; exact key e
      | none =>
        simp only [e3, Option.some.injEq] at e
        subst e
        exact .inl ⟨b, e2⟩

/-- A call under other names. -/
theorem does_at {f : FuncId} {k1 : Nat} {h0 h1 : Heap} {args0 args : List Value} {v0 v : Value} {l : List Nat} {c c1 : Nat} {H H' : Heap} (hd : Does P l.length h0 k1 h1 (.call f args0) (.val v0)) (hk : namesOk l = true) (hr : ∀ n ∈ l, ¬ (c ≤ n ∧ n < c + (k1 - l.length))) (hc : c + (k1 - l.length) ≤ c1)
    (hin : ∀ i x, h0.get i = some x → ∃ n y, back l n = some i ∧ H.get n = some y ∧ ChunkInto (y.ren (back l)) x)
    (hargs : ∀ r r2 us, (∀ n m, back l n = some m → r2.blk m = r.blk n ∧ r2.cap m = r.cap n ∧ r2.val m = r.val n) → RelL r args us → RelL r2 args0 us)
    (hout : ∀ n x, H'.get n = some x → (∃ i y, h1.get i = some y ∧ fwd l c k1 i = some n ∧ ChunkInto (y.ren (fwd l c k1)) x) ∨ (back l n = none ∧ ¬ (c ≤ n ∧ n < c + (k1 - l.length)) ∧ H.get n = some x))
    (hv : ∀ r r2 u, (∀ n m, fwd l c k1 n = some m → r2.blk m = r.blk n ∧ r2.cap m = r.cap n ∧ r2.val m = r.val n) → Rel r v0 u → Rel r2 v u) : Does P c H c1 H' (.call f args) (.val v) := by
  refine ⟨by omega, fun r ow w hs hf us hus => ?_⟩
  have hl : l.length ≤ k1 := hd.1
  have hf' : Fresh r c (c + (k1 - l.length)) := hf.sub (Nat.le_refl _) hc
  have hfa : Fresh (r.at l c) l.length k1 := fun n h1 h2 => by
    simp only [Env.at, fwdN_high (c := c) h1]
    exact hf' _ (by omega) (by omega)
  have hua := hargs r (r.at l c) us.toList (fun n m h => by simp [Env.at, fwdN_back (c := c) h]) hus
  refine Calls.mono (hd.2 (r.at l c) (atO l ow) w (at_sat hs hin) hfa us hua) fun e w' ⟨r', ow', u, he, hp, hrel⟩ => ?_
  obtain ⟨hq, hb⟩ := at_post hk hr hl hs hf' hp hout
  exact ⟨_, _, u, he, hq.upto hc, hv _ _ u hb hrel⟩
end Go.Sx

namespace Go.Sx
variable {P : Program}

/-- One contract more: a value, under a condition. -/
def addK (C : Contracts) (f : FuncId) (g : List Value → Option (Bool × Value)) : Contracts := fun t => match t with
  | .call k xs => match Nat.beq k f with
    | true => (match g xs with
      | some (b, v) => some (X.bind (chk b) fun _ => X.pure (.val v))
      | none => none)
    | false => C (.call k xs)
  | t => C t
theorem Holds.addK {C : Contracts} (h : Holds P C) {f : FuncId} {g : List Value → Option (Bool × Value)} (hg : ∀ xs b v, g xs = some (b, v) → b = true → Gives P f xs v) : Holds P (addK C f g) := by
  have key : ∀ t x, Sx.addK C f g t = some x → C t = some x ∨ ∃ xs b v, t = .call f xs ∧ g xs = some (b, v) ∧ x = X.bind (chk b) fun _ => X.pure (.val v) := by
    intro t x e
    unfold Sx.addK at e
    split at e
    · rename_i k xs
      cases hb : Nat.beq k f with
      | true =>
        simp only [hb] at e
        obtain rfl := Nat.eq_of_beq_eq_true hb
        cases hx : g xs with
        | none => simp [hx] at e
        | some q =>
          obtain ⟨b, v⟩ := q
          simp only [hx, Option.some.injEq] at e
          exact .inr ⟨_, _, _, rfl, hx, e.symm⟩
      | false =>
        simp only [hb] at e
        exact .inl e
    · exact .inl e
  refine ⟨fun t x e => ?_, fun t x e => ?_⟩
  · rcases key t x e with q | ⟨xs, b, v, rfl, hx, rfl⟩
    · exact h.loc t x q
    · exact Local.bind (Local.chk _) fun _ => Local.pure _
  · rcases key t x e with q | ⟨xs, b, v, rfl, hx, rfl⟩
    · exact h.snd t x q
    · intro d s res s' h
      obtain ⟨_, s1, h1, h2⟩ := bind_some h
      obtain ⟨cm, e⟩ := calm_chk h1
      obtain ⟨rfl, rfl⟩ := pure_some h2
      refine ⟨cm.V, fun hV r ow w hs _ us hu => ?_⟩
      exact Calls.mono (hg xs b v hx (e hV) r us w hu) fun e' w' ⟨u, he, hv, ho⟩ => ⟨r, ow, u, he, Post.of_st rfl cm.c cm.h (Post.old hs ho), hv⟩

/-- What a call comes to, its names given anew, with less told of the heap. -/
theorem call_ren {ρ : Names} {c0 c1 c2 : Nat} {h0 h2 h' : Heap} {f : FuncId} {args : List Value} {v0 v : Value} (hρ : ρ.ok c0 c1 = true) (h21 : c2 ≤ c1) (hb : Does P c0 h0 c2 h2 (.call f args) (.val v0))
    (hk : ∀ n x', h'.get n = some x' → ∃ s x, nameOf ρ c0 c1 s = some n ∧ h2.get s = some x ∧ ChunkInto (x.ren (nameOf ρ c0 c1)) x') (hv : renV (nameOf ρ c0 c1) 9 v0 = v) : Does P c0 h0 c1 h' (.call f args) (.val v) := by
  have h01 : c0 ≤ c1 := Nat.le_trans hb.1 h21
  refine ⟨h01, fun r ow w hs hf us hu => Calls.mono (hb.2 r ow w hs (hf.sub (Nat.le_refl _) h21) us hu) fun e w' ⟨r', ow', u, he, hp, hr⟩ => ?_⟩
  obtain ⟨hq, _⟩ := hp.ren hρ h01 (Nat.le_refl _) h21 hf hk
  exact ⟨_, _, u, he, hq, by subst hv; exact renV_ok (fun n m h => ren_at hρ (Nat.le_refl _) r' h) 9 _ _ hr⟩
def vOutM (nm : Nat → Option Nat) (ss : List (Nat × Bool)) (h' : Heap) : Option (ARes × St) → Option (Value × Nat × Heap × List VC × List VC)
  | some (.val v, s) => match maskH nm s.h ss h' with
    | some (g, L) => some (renV nm 9 v, s.c, g, L, s.V)
    | none => none
  | _ => none
theorem call_of (hm : P.follows .mixedOrders = true) {C : Contracts} (hC : Holds P C) (ρ : Names) {c0 c1 n : Nat} {f : FuncId} {args : List Value} {d : Advice} {h h' : Heap} (ss : List (Nat × Bool)) {v : Value} {c2 : Nat} {L L' : List VC}
    (e0 : vOutM (nameOf ρ c0 c1) ss h' (exF P C n (.call f args) d (stOf c0 h)) = some (v, c2, h', L', L)) (hρ : Names.ok ρ c0 c1 = true) (hc : Nat.ble c2 c1 = true) (hV' : VCs L') (hV : VCs L) : Does P c0 h c1 h' (.call f args) (.val v) := by
  match e1 : exF P C n (.call f args) d (stOf c0 h), e0 with
  | some (.val v', s'), e0 =>
    simp only [vOutM] at e0
    cases e2 : maskH (nameOf ρ c0 c1) s'.h ss h' with
    | none => simp [e2] at e0
    | some g =>
      obtain ⟨g, L1⟩ := g
      simp only [e2, Option.some.injEq, Prod.mk.injEq] at e0
      obtain ⟨h1, rfl, rfl, rfl, rfl⟩ := e0
      exact call_ren hρ (Nat.le_of_ble_eq_true hc) (does_of_far hm hC e1 hV) (fun n y hg => maskH_get e2 hV' hg) h1
/-- A row of strings names nothing. -/
theorem cover_str {ps : List ByteArray} {nm : Nat → Option Nat} : Cover (ps.map Value.string) ((ps.map Value.string).map (renV nm 9)) := by
  have : (ps.map Value.string).map (renV nm 9) = ps.map Value.string := by
    rw [List.map_map]
    exact List.map_congr_left fun _ _ => rfl
  rw [this]
  exact Cover.refl _
theorem into_str {ps : List ByteArray} {t : TypeId} {nm : Nat → Option Nat} : ChunkInto ((Chunk.cells (ps.map Value.string) t).ren nm) (.cells (ps.map Value.string) t) := .cells cover_str
/-- A row, read at one place. -/
theorem rd_map1 {α : Type} {xs : List α} {f : α → Value} {d : α} {off j : Nat} (h : off = j) (hj : j < xs.length) : ((xs.map f).drop off).take 1 = [f (xs.getD j d)] ∧ [f (xs.getD j d)].length = 1 := by
  subst h
  refine ⟨?_, rfl⟩
  rw [← List.map_drop, ← List.map_take]
  rw [List.drop_eq_getElem_cons hj, List.take_succ_cons, List.take_zero]
  simp [List.getD_eq_getElem?_getD, List.getElem?_eq_getElem hj]
end Go.Sx
