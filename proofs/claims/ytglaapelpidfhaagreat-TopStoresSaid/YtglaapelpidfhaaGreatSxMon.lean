/- Symbolic executor, part 2: the symbolic heap, what it says of a world, the monad of symbolic runs, and that such a run hangs on the names alone that it tells. No condition. -/
import Derived.Test.YtglaapelpidfhaaGreatSxBase
namespace Go.Sx

/-- A resource told by a predicate: of the blocks in S alone. -/
structure Res where
  holds : Env → World → (Nat → Prop) → Prop
  mono : ∀ {r r' : Env} {w : World} {S : Nat → Prop}, r.Le r' → holds r w S → holds r' w S
  loc : ∀ {r : Env} {w w' : World} {S : Nat → Prop}, (∀ b, S b → w'.heap[b]? = w.heap[b]?) → holds r w S → holds r w' S

inductive Chunk where
  | cells (l : List Value) (t : TypeId)
  | map (es : List (Value × Value))
  | sem (x : Res)
  | args (B : Nat) (w0 : World)
  | bag (e : TypeId) (m : Nat)

abbrev Heap := List (Nat × Chunk)
def Heap.get : Heap → Nat → Option Chunk
  | [], _ => none
  | (m, c) :: h, n => if Nat.beq m n then some c else Heap.get h n
def Heap.put : Heap → Nat → Chunk → Heap
  | [], n, d => [(n, d)]
  | (m, c) :: h, n, d => if Nat.beq m n then (m, d) :: h else (m, c) :: Heap.put h n d
def Heap.del : Heap → Nat → Heap
  | [], _ => []
  | (m, c) :: h, n => if Nat.beq m n then Heap.del h n else (m, c) :: Heap.del h n

theorem nbeq (m n : Nat) : Nat.beq m n = decide (m = n) := by
  cases h : Nat.beq m n with
  | true => simp [Nat.eq_of_beq_eq_true h]
  | false => simp [Nat.ne_of_beq_eq_false h]
theorem Heap.get_put (h : Heap) (n : Nat) (d : Chunk) (m : Nat) : (h.put n d).get m = if m = n then some d else h.get m := by
  induction h with
  | nil =>
    simp only [Heap.put, Heap.get, nbeq]
    by_cases e : m = n
    · simp [e]
    · simp [e]; exact fun x => e x.symm
  | cons x h ih =>
    obtain ⟨k, c⟩ := x
    simp only [Heap.put, nbeq]
    by_cases e : k = n
    · subst e; simp only [decide_true, if_true, Heap.get, nbeq]
      by_cases e2 : k = m
      · simp [e2]
      · simp [e2, Ne.symm e2]
    · simp only [e, decide_false, Bool.false_eq_true, if_false, Heap.get, nbeq, ih]
      by_cases e2 : k = m
      · subst e2; simp [e]
      · simp [e2]
theorem Heap.get_del (h : Heap) (n m : Nat) : (h.del n).get m = if m = n then none else h.get m := by
  induction h with
  | nil => simp [Heap.del, Heap.get]
  | cons x h ih =>
    obtain ⟨k, c⟩ := x
    simp only [Heap.del, nbeq]
    by_cases e : k = n
    · subst e; simp only [decide_true, if_true, Heap.get, nbeq, ih]
      by_cases e2 : k = m
      · simp [e2]
      · simp [e2, Ne.symm e2]
    · simp only [e, decide_false, Bool.false_eq_true, if_false, Heap.get, nbeq, ih]
      by_cases e2 : k = m
      · subst e2; simp [e]
      · simp [e2]

/-- What a piece of the symbolic heap says: 'ow' tells of each block whose it is. -/
def Chunk.sat (P : Program) (r : Env) (ow : Nat → Option Nat) (w : World) (n : Nat) : Chunk → Prop
  | .cells l t => ∃ b c, r.blk n = some b ∧ ow b = some n ∧ w.heap[b]? = some (.cells c t (0, 0)) ∧ RelL r l (c.toList.take l.length) ∧ l.length ≤ c.size ∧ c.size = r.cap n * P.cellsOf t
  | .map es => ∃ b es' k, r.blk n = some b ∧ ow b = some n ∧ w.heap[b]? = some (.map es' k) ∧ RelL r (es.map (·.1)) (es'.toList.map (·.key)) ∧ RelL r (es.map (·.2)) (es'.toList.map (·.val))
  | .sem x => x.holds r w (fun b => ow b = some n)
  | .args B w0 => ∀ b, b < B → ow b = some n ∧ w.heap[b]? = w0.heap[b]?
  | .bag e m => ∃ a l c, r.val n = some (.slice a l c) ∧ l ≤ m ∧ ((a = none ∧ l = 0 ∧ c = 0) ∨ ∃ b cs, a = some ⟨b, 0, none⟩ ∧ ow b = some n ∧ w.heap[b]? = some (.cells cs e (0, 0)) ∧ cs.size = c * P.cellsOf e ∧ l ≤ c)

structure Sat (P : Program) (r : Env) (ow : Nat → Option Nat) (h : Heap) (w : World) : Prop where
  chunk : ∀ n c, h.get n = some c → c.sat P r ow w n
  bound : ∀ b n, ow b = some n → b < w.heap.size
  known : ∀ b n, ow b = some n → r.blk n ≠ none ∨ r.val n ≠ none

theorem Chunk.sat_mono {P : Program} {r r' : Env} {ow : Nat → Option Nat} {w : World} {n : Nat} {c : Chunk} (hr : r.Le r') (h : c.sat P r ow w n) : c.sat P r' ow w n := by
  cases c with
  | cells l t =>
    obtain ⟨b, c, h1, h2, h3, h4, h5, h6⟩ := h
    exact ⟨b, c, hr.blk _ _ h1, h2, h3, h4.mono hr, h5, by rw [hr.cap _ _ h1]; exact h6⟩
  | map es =>
    obtain ⟨b, es', k, h1, h2, h3, h4, h5⟩ := h
    exact ⟨b, es', k, hr.blk _ _ h1, h2, h3, h4.mono hr, h5.mono hr⟩
  | sem x => exact x.mono hr h
  | args B w0 => exact h
  | bag e m =>
    obtain ⟨a, l, c, h1, h2, h3⟩ := h
    exact ⟨a, l, c, hr.val _ _ h1, h2, h3⟩

/-- A piece whose blocks are as they were, in a world and under an owning that tell the same of its blocks. -/
theorem Chunk.sat_keep {P : Program} {r : Env} {ow ow' : Nat → Option Nat} {w w' : World} {n : Nat} {c : Chunk}
    (hw : ∀ b, ow b = some n → w'.heap[b]? = w.heap[b]?) (ho : ∀ b, ow' b = some n ↔ ow b = some n) (h : c.sat P r ow w n) : c.sat P r ow' w' n := by
  cases c with
  | cells l t =>
    obtain ⟨b, c, h1, h2, h3, h4⟩ := h
    exact ⟨b, c, h1, (ho b).2 h2, (hw b h2).trans h3, h4⟩
  | map es =>
    obtain ⟨b, es', k, h1, h2, h3, h4⟩ := h
    exact ⟨b, es', k, h1, (ho b).2 h2, (hw b h2).trans h3, h4⟩
  | sem x =>
    have e : (fun b => ow' b = some n) = (fun b => ow b = some n) := funext fun b => propext (ho b)
    show x.holds r w' (fun b => ow' b = some n)
    rw [e]
    exact x.loc hw h
  | args B w0 => exact fun b hb => ⟨(ho b).2 (h b hb).1, (hw b (h b hb).1).trans (h b hb).2⟩
  | bag e m =>
    obtain ⟨a, l, c, h1, h2, h3⟩ := h
    refine ⟨a, l, c, h1, h2, h3.imp id fun ⟨b, cs, q1, q2, q3, q4⟩ => ⟨b, cs, q1, (ho b).2 q2, (hw b q2).trans q3, q4⟩⟩

/-- What was not owned is as it was, and is not owned; no block has gone; the streams are as they were. -/
structure Frame (ow : Nat → Option Nat) (w : World) (ow' : Nat → Option Nat) (w' : World) : Prop where
  os : w'.os = w.os
  tape : w'.tape = w.tape
  output : w'.output = w.output
  size : w.heap.size ≤ w'.heap.size
  keep : ∀ b, b < w.heap.size → ow b = none → ow' b = none ∧ w'.heap[b]? = w.heap[b]?
theorem Frame.refl (ow : Nat → Option Nat) (w : World) : Frame ow w ow w := ⟨rfl, rfl, rfl, Nat.le_refl _, fun _ _ h => ⟨h, rfl⟩⟩
theorem Frame.trans {o1 o2 o3 : Nat → Option Nat} {w1 w2 w3 : World} (h : Frame o1 w1 o2 w2) (k : Frame o2 w2 o3 w3) : Frame o1 w1 o3 w3 :=
  ⟨k.os.trans h.os, k.tape.trans h.tape, k.output.trans h.output, Nat.le_trans h.size k.size, fun b hb ho =>
    have h1 := h.keep b hb ho
    have h2 := k.keep b (Nat.lt_of_lt_of_le hb h.size) h1.1
    ⟨h2.1, h2.2.trans h1.2⟩⟩

/-- The names from c to c' are new. -/
def New (r r' : Env) (c c' : Nat) : Prop := (∀ n, r'.blk n ≠ none → r.blk n ≠ none ∨ (c ≤ n ∧ n < c')) ∧ (∀ n, r'.val n ≠ none → r.val n ≠ none ∨ (c ≤ n ∧ n < c'))
def Fresh (r : Env) (c c' : Nat) : Prop := ∀ n, c ≤ n → n < c' → r.blk n = none ∧ r.val n = none
theorem New.refl (r : Env) (c c' : Nat) : New r r c c' := ⟨fun _ h => .inl h, fun _ h => .inl h⟩
theorem New.trans {a b d : Env} {c1 c2 c3 : Nat} (h : New a b c1 c2) (k : New b d c2 c3) (h12 : c1 ≤ c2) (h23 : c2 ≤ c3) : New a d c1 c3 := by
  refine ⟨fun n e => ?_, fun n e => ?_⟩
  · rcases k.1 n e with e | ⟨e1, e2⟩
    · rcases h.1 n e with e | ⟨e1, e2⟩
      · exact .inl e
      · exact .inr ⟨e1, by omega⟩
    · exact .inr ⟨by omega, e2⟩
  · rcases k.2 n e with e | ⟨e1, e2⟩
    · rcases h.2 n e with e | ⟨e1, e2⟩
      · exact .inl e
      · exact .inr ⟨e1, by omega⟩
    · exact .inr ⟨by omega, e2⟩
theorem Env.Le.known {r r' : Env} (h : r.Le r') {n : Nat} (k : r.blk n ≠ none ∨ r.val n ≠ none) : r'.blk n ≠ none ∨ r'.val n ≠ none := by
  rcases k with k | k
  · cases e : r.blk n with
    | none => exact absurd e k
    | some b => exact .inl (by rw [h.blk n b e]; simp)
  · cases e : r.val n with
    | none => exact absurd e k
    | some b => exact .inr (by rw [h.val n b e]; simp)
theorem Fresh.after {r r' : Env} {c1 c2 c3 : Nat} (h : Fresh r c1 c3) (hn : New r r' c1 c2) (h12 : c1 ≤ c2) : Fresh r' c2 c3 := by
  intro n h1 h2
  have h0 := h n (by omega) h2
  refine ⟨?_, ?_⟩
  · cases e : r'.blk n with
    | none => rfl
    | some b => rcases hn.1 n (by simp [e]) with e' | ⟨_, e'⟩
                · exact absurd h0.1 e'
                · omega
  · cases e : r'.val n with
    | none => rfl
    | some b => rcases hn.2 n (by simp [e]) with e' | ⟨_, e'⟩
                · exact absurd h0.2 e'
                · omega
theorem Fresh.sub {r : Env} {c1 c2 c3 c4 : Nat} (h : Fresh r c1 c4) (h1 : c1 ≤ c2) (h2 : c3 ≤ c4) : Fresh r c2 c3 := fun n a b => h n (by omega) (by omega)

/-- What the old memory has from a place on: values that stand for themselves. -/
def ArgCells (B : Nat) (w0 : World) (b off : Nat) (vs : List Value) : Prop :=
  b < B ∧ ∀ (j : Nat) (v : Value), vs[j]? = some v → ∃ u, w0.cell? ⟨b, off + j, none⟩ = some u ∧ ∀ r : Env, Rel r v u

/-- What is to be shown beside a run. -/
inductive VC where
  | b (x : Bool)
  | p (x : Prop)
  | t (v : Value) (x : Bool)
def VC.ok : VC → Prop
  | .b x => x = true
  | .p x => x
  | .t _ _ => True
def VCs (l : List VC) : Prop := ∀ v, v ∈ l → v.ok

inductive SExit where
  | normal
  | exit (id : Nat)
  | goto (l : Nat)
  | ret
/-- Advice at a place of a run: which way a test goes; what a cell or a run of cells is; what a call, or a loop, comes to. -/
inductive Adv where
  | br (b : Bool)
  | cell (v : Value)
  | loop (live keep : List Nat) (c : Nat) (h : Heap) (e : SExit) (T : List Value)

structure St where
  c : Nat
  k : Nat
  h : Heap
  R : List Nat
  W : List Nat
  V : List VC

abbrev Advice := List (Nat × Adv)
def Advice.look : Advice → Nat → Option Adv
  | [], _ => none
  | (m, a) :: l, n => if Nat.beq m n then some a else Advice.look l n

def X (α : Type) : Type := Advice → St → Option (α × St)
namespace X
def pure {α : Type} (a : α) : X α := fun _ s => some (a, s)
def bind {α β : Type} (x : X α) (f : α → X β) : X β := fun d s => match x d s with
  | some (a, s') => f a d s'
  | none => none
def fail {α : Type} : X α := fun _ _ => none
instance : Monad X where
  pure := X.pure
  bind := X.bind
/-- Reads a name's piece. -/
def rd (n : Nat) : X Chunk := fun _ s => match s.h.get n with
  | some c => some (c, { s with R := n :: s.R })
  | none => none
/-- Changes a name's piece that is there. -/
def wr (n : Nat) (d : Chunk) : X Unit := fun _ s => match s.h.get n with
  | some _ => some ((), { s with h := s.h.put n d, W := n :: s.W })
  | none => none
/-- A new name. -/
def new (d : Chunk) : X Nat := fun _ s => some (s.c, { s with c := s.c + 1, h := s.h.put s.c d, W := s.c :: s.W })
/-- Drops a name's piece. -/
def drop (n : Nat) : X Unit := fun _ s => match s.h.get n with
  | some _ => some ((), { s with h := s.h.del n, W := n :: s.W })
  | none => none
/-- A place at which advice may stand. -/
def tick : X (Option Adv) := fun d s => some (d.look s.k, { s with k := s.k + 1 })
def emit (v : VC) : X Unit := fun _ s => some ((), { s with V := v :: s.V })
end X

/-- A run hangs on the names alone that it tells, and changes those alone that it says. -/
def Local {α : Type} (x : X α) : Prop := ∀ d s a s', x d s = some (a, s') → s.c ≤ s'.c ∧ ∃ R W V, s'.R = R ++ s.R ∧ s'.W = W ++ s.W ∧ s'.V = V ++ s.V ∧
  (∀ n, n ∉ W → s'.h.get n = s.h.get n) ∧
  ∀ s2 : St, s2.c = s.c → s2.k = s.k → (∀ n, n ∈ R ∨ n ∈ W → s2.h.get n = s.h.get n) →
    ∃ h2, x d s2 = some (a, ⟨s'.c, s'.k, h2, R ++ s2.R, W ++ s2.W, V ++ s2.V⟩) ∧ (∀ n, n ∈ W → h2.get n = s'.h.get n) ∧ (∀ n, n ∉ W → h2.get n = s2.h.get n)

theorem Local.pure {α : Type} (a : α) : Local (X.pure a) := by
  intro d s a' s' h
  obtain ⟨rfl, rfl⟩ : a = a' ∧ s = s' := by simpa [X.pure] using h
  exact ⟨Nat.le_refl _, [], [], [], rfl, rfl, rfl, fun _ _ => rfl, fun s2 hc hk _ => ⟨s2.h, by simp [X.pure, ← hc, ← hk], by simp, fun _ _ => rfl⟩⟩
theorem Local.fail {α : Type} : Local (X.fail : X α) := by intro d s a s' h; simp [X.fail] at h
theorem Local.bind {α β : Type} {x : X α} {f : α → X β} (hx : Local x) (hf : ∀ a, Local (f a)) : Local (X.bind x f) := by
  intro d s b s'' h
  unfold X.bind at h
  cases hx1 : x d s with
  | none => simp [hx1] at h
  | some p =>
    obtain ⟨a, s'⟩ := p
    simp only [hx1] at h
    obtain ⟨c1, R1, W1, V1, hR1, hW1, hV1, k1, l1⟩ := hx d s a s' hx1
    obtain ⟨c2, R2, W2, V2, hR2, hW2, hV2, k2, l2⟩ := hf a d s' b s'' h
    refine ⟨Nat.le_trans c1 c2, R2 ++ R1, W2 ++ W1, V2 ++ V1, by rw [hR2, hR1, List.append_assoc], by rw [hW2, hW1, List.append_assoc], by rw [hV2, hV1, List.append_assoc], fun n hn => ?_, fun s2 hc hk hag => ?_⟩
    · simp only [List.mem_append, not_or] at hn
      rw [k2 n hn.1, k1 n hn.2]
    · obtain ⟨h2, e1, g1, g2⟩ := l1 s2 hc hk (fun n hn => hag n (by simp only [List.mem_append]; rcases hn with hn | hn; exact .inl (.inr hn); exact .inr (.inr hn)))
      obtain ⟨h3, e2, g3, g4⟩ := l2 ⟨s'.c, s'.k, h2, R1 ++ s2.R, W1 ++ s2.W, V1 ++ s2.V⟩ rfl rfl (fun n hn => by
        by_cases hw : n ∈ W1
        · exact g1 n hw
        · show h2.get n = s'.h.get n
          rw [g2 n hw, k1 n hw]
          exact hag n (by simp only [List.mem_append]; rcases hn with hn | hn; exact .inl (.inl hn); exact .inr (.inl hn)))
      refine ⟨h3, ?_, fun n hn => ?_, fun n hn => ?_⟩
      · unfold X.bind
        rw [e1]
        simpa [List.append_assoc] using e2
      · simp only [List.mem_append] at hn
        by_cases hw : n ∈ W2
        · exact g3 n hw
        · rw [g4 n hw, k2 n hw]
          rcases hn with hn | hn
          · exact absurd hn hw
          · exact g1 n hn
      · simp only [List.mem_append, not_or] at hn
        rw [g4 n hn.1]
        exact g2 n hn.2
theorem Local.rd (n : Nat) : Local (X.rd n) := by
  intro d s a s' h
  unfold X.rd at h
  cases e : s.h.get n with
  | none => simp [e] at h
  | some c =>
    obtain ⟨rfl, rfl⟩ : c = a ∧ _ = s' := by simpa [e] using h
    refine ⟨Nat.le_refl _, [n], [], [], rfl, rfl, rfl, fun _ _ => rfl, fun s2 hc hk hag => ⟨s2.h, ?_, by simp, fun _ _ => rfl⟩⟩
    have := hag n (by simp)
    simp [X.rd, this, e, ← hc, ← hk]
theorem Local.wr (n : Nat) (dd : Chunk) : Local (X.wr n dd) := by
  intro d s a s' h
  unfold X.wr at h
  cases e : s.h.get n with
  | none => simp [e] at h
  | some c =>
    simp only [e, Option.some.injEq, Prod.mk.injEq] at h
    obtain ⟨_, rfl⟩ := h
    refine ⟨Nat.le_refl _, [], [n], [], rfl, rfl, rfl, fun m hm => ?_, fun s2 hc hk hag => ⟨s2.h.put n dd, ?_, fun m hm => ?_, fun m hm => ?_⟩⟩
    · simp only [List.mem_singleton] at hm; simp [Heap.get_put, hm]
    · have := hag n (by simp)
      simp [X.wr, this, e, ← hc, ← hk]
    · simp only [List.mem_singleton] at hm; simp [Heap.get_put, hm]
    · simp only [List.mem_singleton] at hm; simp [Heap.get_put, hm]
theorem Local.drop (n : Nat) : Local (X.drop n) := by
  intro d s a s' h
  unfold X.drop at h
  cases e : s.h.get n with
  | none => simp [e] at h
  | some c =>
    simp only [e, Option.some.injEq, Prod.mk.injEq] at h
    obtain ⟨_, rfl⟩ := h
    refine ⟨Nat.le_refl _, [], [n], [], rfl, rfl, rfl, fun m hm => ?_, fun s2 hc hk hag => ⟨s2.h.del n, ?_, fun m hm => ?_, fun m hm => ?_⟩⟩
    · simp only [List.mem_singleton] at hm; simp [Heap.get_del, hm]
    · have := hag n (by simp)
      simp [X.drop, this, e, ← hc, ← hk]
    · simp only [List.mem_singleton] at hm; simp [Heap.get_del, hm]
    · simp only [List.mem_singleton] at hm; simp [Heap.get_del, hm]
theorem Local.new (dd : Chunk) : Local (X.new dd) := by
  intro d s a s' h
  simp only [X.new, Option.some.injEq, Prod.mk.injEq] at h
  obtain ⟨rfl, rfl⟩ := h
  refine ⟨Nat.le_succ _, [], [s.c], [], rfl, rfl, rfl, fun m hm => ?_, fun s2 hc hk hag => ⟨s2.h.put s.c dd, ?_, fun m hm => ?_, fun m hm => ?_⟩⟩
  · simp only [List.mem_singleton] at hm; simp [Heap.get_put, hm]
  · simp [X.new, ← hc, ← hk]
  · simp only [List.mem_singleton] at hm; simp [Heap.get_put, hm]
  · simp only [List.mem_singleton] at hm; simp [Heap.get_put, hm]
theorem Local.tick : Local X.tick := by
  intro d s a s' h
  simp only [X.tick, Option.some.injEq, Prod.mk.injEq] at h
  obtain ⟨rfl, rfl⟩ := h
  exact ⟨Nat.le_refl _, [], [], [], rfl, rfl, rfl, fun _ _ => rfl, fun s2 hc hk _ => ⟨s2.h, by simp [X.tick, ← hc, ← hk], by simp, fun _ _ => rfl⟩⟩
theorem Local.emit (v : VC) : Local (X.emit v) := by
  intro d s a s' h
  simp only [X.emit, Option.some.injEq, Prod.mk.injEq] at h
  obtain ⟨_, rfl⟩ := h
  exact ⟨Nat.le_refl _, [], [], [v], rfl, rfl, rfl, fun _ _ => rfl, fun s2 hc hk _ => ⟨s2.h, by simp [X.emit, ← hc, ← hk], by simp, fun _ _ => rfl⟩⟩

end Go.Sx
