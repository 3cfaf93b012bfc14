/- Symbolic executor, part 3: the operations. No condition. -/
import Derived.Test.YtglaapelpidfhaaGreatSxMon
namespace Go.Sx

inductive OpRes where
  | val (v : Value)
  | unit
  | call (f : FuncId) (args : List Value)

def opt {α : Type} : Option α → X α
  | some a => X.pure a
  | none => X.fail
def need (b : Bool) : X Unit := match b with
  | true => X.pure ()
  | false => X.fail
/-- A test's outcome: as advised (then it is to be shown), else as it computes. -/
def ask (b : Bool) : X Bool := X.bind X.tick fun a => match a with
  | some (.br t) => X.bind (X.emit (.b (b == t))) fun _ => X.pure t
  | some (.cell v) => X.bind (X.emit (.t v b)) fun _ => X.pure b
  | _ => X.pure b
def chk (b : Bool) : X Unit := X.bind X.tick fun a => match a with
  | some (.br true) => X.emit (.b b)
  | some (.cell v) => X.bind (X.emit (.t v b)) fun _ => need b
  | _ => need b
def addrOf : Value → X (Nat × Nat)
  | .pointer (some ⟨n, off, none⟩) => X.pure (n, off)
  | _ => X.fail
def szOf (P : Program) (t : TypeId) : X Nat := match P.info? t with
  | some i => X.pure i.size
  | none => X.fail
def aggT (P : Program) (t : TypeId) : X Bool := match P.underlying t with
  | some (.struct _) => X.pure true
  | some (.array _ _) => X.pure true
  | some _ => X.pure false
  | none => X.fail
def zeroV (P : Program) (t : TypeId) : X Value := match P.info? t with
  | some i => match i.zero with
    | some z => X.bind (need (plainAll (cellsL z))) fun _ => X.pure z
    | none => X.fail
  | none => X.fail
/-- Some cells of a name: as advised, else as they are. -/
def readCells (n off sz : Nat) : X (List Value) := X.bind (X.rd n) fun c => match c with
  | .cells l _ => X.bind X.tick fun a => match a with
    | some (.cell (.tuple ⟨vs⟩)) => X.bind (X.emit (.p ((l.drop off).take sz = vs ∧ vs.length = sz))) fun _ => X.pure vs
    | some (.cell (.int k m)) => X.bind (need (Nat.beq ((l.drop off).take sz).length sz)) fun _ => X.bind (X.emit (.t (.tuple ⟨[.int k m, .int k (n : Int), .int k (off : Int), .int k (sz : Int)]⟩) true)) fun _ => X.pure ((l.drop off).take sz)
    | _ => X.bind (need (Nat.beq ((l.drop off).take sz).length sz)) fun _ => X.pure ((l.drop off).take sz)
  | _ => X.fail
def setAll : List Value → Nat → List Value → List Value
  | l, _, [] => l
  | l, off, v :: vs => setAll (l.set off v) (off + 1) vs

/-- Reads old memory, by advice. -/
def readLit (k b off sz : Nat) : X (List Value) := X.bind (X.rd k) fun c => match c with
  | .args B w0 => X.bind X.tick fun a => match a with
    | some (.cell (.tuple ⟨vs⟩)) => X.bind (X.emit (.p (ArgCells B w0 b off vs ∧ vs.length = sz))) fun _ => X.pure vs
    | _ => X.fail
  | _ => X.fail
def loadLit (P : Program) (t : TypeId) (b off k : Nat) : X Value := X.bind (aggT P t) fun g => match g with
  | true => X.bind (szOf P t) fun sz => X.bind (readLit k b off sz) fun vs => X.pure (.agg ⟨vs⟩)
  | false => X.bind (readLit k b off 1) fun vs => match vs with
    | [v] => X.pure v
    | _ => X.fail
def exLoadN (P : Program) (t : TypeId) (a : Value) : X Value :=
  X.bind (addrOf a) fun p => X.bind (aggT P t) fun g => match g with
    | true => X.bind (szOf P t) fun sz => X.bind (readCells p.1 p.2 sz) fun vs => X.pure (.agg ⟨vs⟩)
    | false => X.bind (readCells p.1 p.2 1) fun vs => match vs with
      | [v] => X.pure v
      | _ => X.fail
def exLoad (P : Program) (t : TypeId) (a : Value) : X Value := match a with
  | .pointer (some ⟨b, off, some k⟩) => loadLit P t b off k
  | _ => exLoadN P t a
/-- Has the list so many? -/
def hasLen {α : Type} : Nat → List α → Bool
  | 0, _ => true
  | _ + 1, [] => false
  | n + 1, _ :: l => hasLen n l
theorem hasLen_le {α : Type} : ∀ {n : Nat} {l : List α}, hasLen n l = true → n ≤ l.length
  | 0, _, _ => Nat.zero_le _
  | n + 1, [], h => by simp [hasLen] at h
  | n + 1, _ :: l, h => Nat.succ_le_succ (hasLen_le (n := n) (l := l) h)
def exStoreN (P : Program) (t : TypeId) (a x : Value) : X Unit :=
  X.bind (addrOf a) fun p => X.bind (szOf P t) fun sz => X.bind (need (!isOpq x)) fun _ => X.bind (need (Nat.beq (cellsL x).length sz)) fun _ =>
    X.bind (need ((cellsL x).all isCell)) fun _ => X.bind (X.rd p.1) fun c => match c with
      | .cells l t0 => X.bind (chk (hasLen (p.2 + sz) l)) fun _ => X.wr p.1 (.cells (setAll l p.2 (cellsL x)) t0)
      | _ => X.fail
/-- A slice in a bag is stored. -/
def exStoreB (P : Program) (t : TypeId) (a : Value) (n : Nat) : X Unit :=
  X.bind (addrOf a) fun p => X.bind (szOf P t) fun sz => X.bind (need (Nat.beq sz 1)) fun _ => X.bind (X.rd n) fun b => match b with
    | .bag _ _ => X.bind (X.rd p.1) fun c => match c with
      | .cells l t0 => X.bind (chk (hasLen (p.2 + 1) l)) fun _ => X.wr p.1 (.cells (setAll l p.2 [.chan (some n)]) t0)
      | _ => X.fail
    | _ => X.fail
def exStore (P : Program) (t : TypeId) (a x : Value) : X Unit := match x with
  | .chan (some n) => exStoreB P t a n
  | _ => exStoreN P t a x
/-- A new row of cells: a whole number of elements. -/
def exRow (t : TypeId) (cs : List Value) : X Nat := X.new (.cells cs t)
def exBox (P : Program) (t : TypeId) (x : Value) : X Value :=
  X.bind (szOf P t) fun sz => X.bind (need (!isOpq x)) fun _ => X.bind (need (Nat.beq (cellsL x).length sz)) fun _ => X.bind (exRow t (cellsL x)) fun n => X.pure (.pointer (some ⟨n, 0, none⟩))

/-! What a run of these leaves of the state. -/
section
variable {α β : Type} {d : Advice} {s s' : St}
theorem bind_some {x : X α} {f : α → X β} {b : β} (h : X.bind x f d s = some (b, s')) : ∃ a s1, x d s = some (a, s1) ∧ f a d s1 = some (b, s') := by
  unfold X.bind at h
  cases e : x d s with
  | none => simp [e] at h
  | some p => exact ⟨p.1, p.2, rfl, by simpa [e] using h⟩
theorem pure_some {a b : α} (h : X.pure a d s = some (b, s')) : a = b ∧ s = s' := by simpa [X.pure] using h
theorem opt_some {o : Option α} {b : α} (h : opt o d s = some (b, s')) : o = some b ∧ s = s' := by
  cases o with
  | none => simp [opt, X.fail] at h
  | some a => obtain ⟨rfl, rfl⟩ := pure_some (d := d) h; exact ⟨rfl, rfl⟩
theorem need_some {b : Bool} {u : Unit} (h : need b d s = some (u, s')) : b = true ∧ s = s' := by
  cases b with
  | false => simp [need, X.fail] at h
  | true => exact ⟨rfl, (pure_some (d := d) h).2⟩
theorem rd_some {n : Nat} {c : Chunk} (h : X.rd n d s = some (c, s')) : s.h.get n = some c ∧ s' = { s with R := n :: s.R } := by
  unfold X.rd at h
  cases e : s.h.get n with
  | none => simp [e] at h
  | some c => simp only [e, Option.some.injEq, Prod.mk.injEq] at h; exact ⟨by rw [h.1], h.2.symm⟩
theorem wr_some {n : Nat} {c : Chunk} {u : Unit} (h : X.wr n c d s = some (u, s')) : (∃ c0, s.h.get n = some c0) ∧ s' = { s with h := s.h.put n c, W := n :: s.W } := by
  unfold X.wr at h
  cases e : s.h.get n with
  | none => simp [e] at h
  | some c => simp only [e, Option.some.injEq, Prod.mk.injEq] at h; exact ⟨⟨_, rfl⟩, h.2.symm⟩
theorem drop_some {n : Nat} {u : Unit} (h : X.drop n d s = some (u, s')) : (∃ c0, s.h.get n = some c0) ∧ s' = { s with h := s.h.del n, W := n :: s.W } := by
  unfold X.drop at h
  cases e : s.h.get n with
  | none => simp [e] at h
  | some c => simp only [e, Option.some.injEq, Prod.mk.injEq] at h; exact ⟨⟨_, rfl⟩, h.2.symm⟩
theorem new_some {n : Nat} {c : Chunk} (h : X.new c d s = some (n, s')) : n = s.c ∧ s' = { s with c := s.c + 1, h := s.h.put s.c c, W := s.c :: s.W } := by
  simp only [X.new, Option.some.injEq, Prod.mk.injEq] at h; exact ⟨h.1.symm, h.2.symm⟩
theorem tick_some {a : Option Adv} (h : X.tick d s = some (a, s')) : s' = { s with k := s.k + 1 } := by
  simp only [X.tick, Option.some.injEq, Prod.mk.injEq] at h; exact h.2.symm
theorem emit_some {v : VC} {u : Unit} (h : X.emit v d s = some (u, s')) : s' = { s with V := v :: s.V } := by
  simp only [X.emit, Option.some.injEq, Prod.mk.injEq] at h; exact h.2.symm
/-- The same heap, the same counter, and what is to be shown grows. -/
structure Calm (s s' : St) : Prop where
  h : s'.h = s.h
  c : s'.c = s.c
  V : VCs s'.V → VCs s.V
theorem Calm.refl (s : St) : Calm s s := ⟨rfl, rfl, id⟩
theorem Calm.trans {a b c : St} (h : Calm a b) (k : Calm b c) : Calm a c := ⟨k.h.trans h.h, k.c.trans h.c, fun v => h.V (k.V v)⟩
theorem vcs_tail {v : VC} {l : List VC} (h : VCs (v :: l)) : VCs l := fun x hx => h x (List.mem_cons_of_mem _ hx)
theorem vcs_head {v : VC} {l : List VC} (h : VCs (v :: l)) : v.ok := h v List.mem_cons_self
theorem calm_rd {n : Nat} {c : Chunk} (h : X.rd n d s = some (c, s')) : s.h.get n = some c ∧ Calm s s' := by
  obtain ⟨h1, rfl⟩ := rd_some h; exact ⟨h1, rfl, rfl, id⟩
theorem calm_tick {a : Option Adv} (h : X.tick d s = some (a, s')) : Calm s s' := by
  obtain rfl := tick_some h; exact ⟨rfl, rfl, id⟩
theorem calm_emit {v : VC} {u : Unit} (h : X.emit v d s = some (u, s')) : Calm s s' ∧ (VCs s'.V → v.ok) := by
  obtain rfl := emit_some h; exact ⟨⟨rfl, rfl, vcs_tail⟩, vcs_head⟩
theorem calm_ask {b t : Bool} (h : ask b d s = some (t, s')) : Calm s s' ∧ (VCs s'.V → b = t) := by
  unfold ask at h
  obtain ⟨a, s1, h1, h2⟩ := bind_some h
  have c1 := calm_tick h1
  split at h2
  · obtain ⟨u, s2, h3, h4⟩ := bind_some h2
    obtain ⟨rfl, rfl⟩ := pure_some h4
    obtain ⟨c2, e2⟩ := calm_emit h3
    exact ⟨c1.trans c2, fun v => by simpa [VC.ok] using e2 v⟩
  · obtain ⟨u, s2, h3, h4⟩ := bind_some h2
    obtain ⟨rfl, rfl⟩ := pure_some h4
    obtain ⟨c2, e2⟩ := calm_emit h3
    exact ⟨c1.trans c2, fun _ => rfl⟩
  · obtain ⟨rfl, rfl⟩ := pure_some h2
    exact ⟨c1, fun _ => rfl⟩
theorem calm_chk {b : Bool} {u : Unit} (h : chk b d s = some (u, s')) : Calm s s' ∧ (VCs s'.V → b = true) := by
  unfold chk at h
  obtain ⟨a, s1, h1, h2⟩ := bind_some h
  have c1 := calm_tick h1
  split at h2
  · obtain ⟨c2, e2⟩ := calm_emit h2
    exact ⟨c1.trans c2, fun v => e2 v⟩
  · obtain ⟨u, s2, h3, h4⟩ := bind_some h2
    obtain ⟨c2, e2⟩ := calm_emit h3
    obtain ⟨h5, rfl⟩ := need_some h4
    exact ⟨c1.trans c2, fun _ => h5⟩
  · obtain ⟨h3, rfl⟩ := need_some h2
    exact ⟨c1, fun _ => h3⟩
theorem addr_some {v : Value} {p : Nat × Nat} (h : addrOf v d s = some (p, s')) : v = .pointer (some ⟨p.1, p.2, none⟩) ∧ s = s' := by
  unfold addrOf at h
  split at h
  · obtain ⟨rfl, rfl⟩ := pure_some h; exact ⟨rfl, rfl⟩
  · simp [X.fail] at h
theorem sz_some {P : Program} {t : TypeId} {n : Nat} (h : szOf P t d s = some (n, s')) : (∃ i, P.info? t = some i ∧ i.size = n) ∧ s = s' := by
  unfold szOf at h
  cases e : P.info? t with
  | none => simp [e, X.fail] at h
  | some i =>
    simp only [e] at h
    obtain ⟨rfl, rfl⟩ := pure_some h
    exact ⟨⟨_, rfl, rfl⟩, rfl⟩
def isAggD : TypeDesc → Bool
  | .struct _ => true
  | .array _ _ => true
  | _ => false
theorem agg_some {P : Program} {t : TypeId} {g : Bool} (h : aggT P t d s = some (g, s')) : (∃ D, P.underlying t = some D ∧ g = isAggD D) ∧ s = s' := by
  unfold aggT at h
  cases e : P.underlying t with
  | none => simp [e, X.fail] at h
  | some D =>
    simp only [e] at h
    cases D <;> (obtain ⟨rfl, rfl⟩ := pure_some h; exact ⟨⟨_, rfl, rfl⟩, rfl⟩)
theorem zero_some {P : Program} {t : TypeId} {z : Value} (h : zeroV P t d s = some (z, s')) : (∃ i, P.info? t = some i ∧ i.zero = some z) ∧ plainAll (cellsL z) = true ∧ s = s' := by
  unfold zeroV at h
  cases e : P.info? t with
  | none => simp [e, X.fail] at h
  | some i =>
    simp only [e] at h
    cases e2 : i.zero with
    | none => simp [e2, X.fail] at h
    | some z' =>
      simp only [e2] at h
      obtain ⟨u, s1, h1, h2⟩ := bind_some h
      obtain ⟨h3, rfl⟩ := need_some h1
      obtain ⟨rfl, rfl⟩ := pure_some h2
      exact ⟨⟨_, rfl, e2⟩, h3, rfl⟩
theorem cells_some {n off sz : Nat} {vs : List Value} (h : readCells n off sz d s = some (vs, s')) :
    Calm s s' ∧ ∃ l t, s.h.get n = some (.cells l t) ∧ (VCs s'.V → vs = (l.drop off).take sz ∧ vs.length = sz) := by
  unfold readCells at h
  obtain ⟨c, s1, h1, h2⟩ := bind_some h
  obtain ⟨g, c1⟩ := calm_rd h1
  split at h2
  · rename_i l t
    obtain ⟨a, s2, h3, h4⟩ := bind_some h2
    have c2 := calm_tick h3
    split at h4
    · obtain ⟨u, s3, h5, h6⟩ := bind_some h4
      obtain ⟨c3, e3⟩ := calm_emit h5
      obtain ⟨rfl, rfl⟩ := pure_some h6
      exact ⟨(c1.trans c2).trans c3, l, t, g, fun v => ⟨(e3 v).1.symm, (e3 v).2⟩⟩
    · obtain ⟨u, s3, h5, h6⟩ := bind_some h4
      obtain ⟨e3, rfl⟩ := need_some h5
      obtain ⟨u2, s4, h7, h8⟩ := bind_some h6
      obtain ⟨c3, _⟩ := calm_emit h7
      obtain ⟨rfl, rfl⟩ := pure_some h8
      exact ⟨(c1.trans c2).trans c3, l, t, g, fun _ => ⟨rfl, Nat.eq_of_beq_eq_true e3⟩⟩
    · obtain ⟨u, s3, h5, h6⟩ := bind_some h4
      obtain ⟨e3, rfl⟩ := need_some h5
      obtain ⟨rfl, rfl⟩ := pure_some h6
      exact ⟨c1.trans c2, l, t, g, fun _ => ⟨rfl, Nat.eq_of_beq_eq_true e3⟩⟩
  · simp [X.fail] at h2
theorem lit_some {k b off sz : Nat} {vs : List Value} (h : readLit k b off sz d s = some (vs, s')) :
    Calm s s' ∧ ∃ B w0, s.h.get k = some (.args B w0) ∧ (VCs s'.V → ArgCells B w0 b off vs ∧ vs.length = sz) := by
  unfold readLit at h
  obtain ⟨c, s1, h1, h2⟩ := bind_some h
  obtain ⟨g, c1⟩ := calm_rd h1
  split at h2
  · rename_i B w0
    obtain ⟨a, s2, h3, h4⟩ := bind_some h2
    have c2 := calm_tick h3
    split at h4
    · obtain ⟨u, s3, h5, h6⟩ := bind_some h4
      obtain ⟨c3, e3⟩ := calm_emit h5
      obtain ⟨rfl, rfl⟩ := pure_some h6
      exact ⟨(c1.trans c2).trans c3, B, w0, g, fun v => e3 v⟩
    · simp [X.fail] at h4
  · simp [X.fail] at h2
end

/-! Local. -/
theorem Local.opt {α : Type} (o : Option α) : Local (opt o) := by cases o; exact Local.fail; exact Local.pure _
theorem Local.need (b : Bool) : Local (need b) := by cases b; exact Local.fail; exact Local.pure _
theorem Local.ask (b : Bool) : Local (ask b) := by
  unfold Sx.ask
  refine Local.bind Local.tick fun a => ?_
  split
  · exact Local.bind (Local.emit _) fun _ => Local.pure _
  · exact Local.bind (Local.emit _) fun _ => Local.pure _
  · exact Local.pure _
theorem Local.chk (b : Bool) : Local (chk b) := by
  unfold Sx.chk
  refine Local.bind Local.tick fun a => ?_
  split
  · exact Local.emit _
  · exact Local.bind (Local.emit _) fun _ => Local.need _
  · exact Local.need _
theorem Local.addrOf (v : Value) : Local (addrOf v) := by unfold Sx.addrOf; split; exact Local.pure _; exact Local.fail
theorem Local.szOf (P : Program) (t : TypeId) : Local (szOf P t) := by unfold Sx.szOf; split; exact Local.pure _; exact Local.fail
theorem Local.aggT (P : Program) (t : TypeId) : Local (aggT P t) := by
  unfold Sx.aggT; split; exact Local.pure _; exact Local.pure _; exact Local.pure _; exact Local.fail
theorem Local.zeroV (P : Program) (t : TypeId) : Local (zeroV P t) := by
  unfold Sx.zeroV; split
  · split
    · exact Local.bind (Local.need _) fun _ => Local.pure _
    · exact Local.fail
  · exact Local.fail
theorem Local.readCells (n off sz : Nat) : Local (readCells n off sz) := by
  unfold Sx.readCells
  refine Local.bind (Local.rd _) fun c => ?_
  split
  · refine Local.bind Local.tick fun a => ?_
    split
    · exact Local.bind (Local.emit _) fun _ => Local.pure _
    · exact Local.bind (Local.need _) fun _ => Local.bind (Local.emit _) fun _ => Local.pure _
    · exact Local.bind (Local.need _) fun _ => Local.pure _
  · exact Local.fail
theorem Local.readLit (k b off sz : Nat) : Local (readLit k b off sz) := by
  unfold Sx.readLit
  refine Local.bind (Local.rd _) fun c => ?_
  split
  · refine Local.bind Local.tick fun a => ?_
    split
    · exact Local.bind (Local.emit _) fun _ => Local.pure _
    · exact Local.fail
  · exact Local.fail
theorem Local.loadLit (P : Program) (t : TypeId) (b off k : Nat) : Local (loadLit P t b off k) := by
  unfold Sx.loadLit
  refine Local.bind (Local.aggT _ _) fun g => ?_
  split
  · exact Local.bind (Local.szOf _ _) fun _ => Local.bind (Local.readLit _ _ _ _) fun _ => Local.pure _
  · refine Local.bind (Local.readLit _ _ _ _) fun vs => ?_
    split
    · exact Local.pure _
    · exact Local.fail
theorem Local.exLoadN (P : Program) (t : TypeId) (a : Value) : Local (exLoadN P t a) := by
  unfold Sx.exLoadN
  refine Local.bind (Local.addrOf _) fun p => Local.bind (Local.aggT _ _) fun g => ?_
  split
  · exact Local.bind (Local.szOf _ _) fun _ => Local.bind (Local.readCells _ _ _) fun _ => Local.pure _
  · refine Local.bind (Local.readCells _ _ _) fun vs => ?_
    split
    · exact Local.pure _
    · exact Local.fail
theorem Local.exLoad (P : Program) (t : TypeId) (a : Value) : Local (exLoad P t a) := by
  unfold Sx.exLoad
  split
  · exact Local.loadLit _ _ _ _ _
  · exact Local.exLoadN _ _ _
theorem Local.exStoreN (P : Program) (t : TypeId) (a x : Value) : Local (exStoreN P t a x) := by
  unfold Sx.exStoreN
  refine Local.bind (Local.addrOf _) fun p => Local.bind (Local.szOf _ _) fun _ => Local.bind (Local.need _) fun _ => Local.bind (Local.need _) fun _ => Local.bind (Local.need _) fun _ => Local.bind (Local.rd _) fun c => ?_
  split
  · exact Local.bind (Local.chk _) fun _ => Local.wr _ _
  · exact Local.fail
theorem Local.exStoreB (P : Program) (t : TypeId) (a : Value) (n : Nat) : Local (exStoreB P t a n) := by
  unfold Sx.exStoreB
  refine Local.bind (Local.addrOf _) fun p => Local.bind (Local.szOf _ _) fun _ => Local.bind (Local.need _) fun _ => Local.bind (Local.rd _) fun b => ?_
  split
  · refine Local.bind (Local.rd _) fun c => ?_
    split
    · exact Local.bind (Local.chk _) fun _ => Local.wr _ _
    · exact Local.fail
  · exact Local.fail
theorem Local.exStore (P : Program) (t : TypeId) (a x : Value) : Local (exStore P t a x) := by
  unfold Sx.exStore
  split
  · exact Local.exStoreB _ _ _ _
  · exact Local.exStoreN _ _ _ _
theorem Local.exBox (P : Program) (t : TypeId) (x : Value) : Local (exBox P t x) :=
  Local.bind (Local.szOf _ _) fun _ => Local.bind (Local.need _) fun _ => Local.bind (Local.need _) fun _ => Local.bind (Local.new _) fun _ => Local.pure _

end Go.Sx
