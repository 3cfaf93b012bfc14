/- Symbolic executor, part 6: the operations and what they do. No condition. -/
import Derived.Test.YtglaapelpidfhaaGreatSxVal
namespace Go.Sx

def NextRel (r : Env) : OpRes → Next → Prop
  | .val v, .value u => Rel r v u
  | .unit, .skip => True
  | .call f args, .enter g as => f = g ∧ RelL r args as.toList
  | _, _ => False

structure Post (P : Program) (r : Env) (ow : Nat → Option Nat) (w : World) (s : St) (r' : Env) (ow' : Nat → Option Nat) (w' : World) (s' : St) : Prop where
  le : r.Le r'
  sat : Sat P r' ow' s'.h w'
  frame : Frame ow w ow' w'
  new : New r r' s.c s'.c
  mono : s.c ≤ s'.c
  own : ∀ b n, ow' b = some n → (∃ b', ow b' = some n) ∨ (s.c ≤ n ∧ n < s'.c)
theorem Post.trans {P : Program} {r r1 r2 : Env} {o o1 o2 : Nat → Option Nat} {w w1 w2 : World} {s s1 s2 : St} (h : Post P r o w s r1 o1 w1 s1) (k : Post P r1 o1 w1 s1 r2 o2 w2 s2) : Post P r o w s r2 o2 w2 s2 :=
  ⟨h.le.trans k.le, k.sat, h.frame.trans k.frame, h.new.trans k.new h.mono k.mono, Nat.le_trans h.mono k.mono, fun b n e => by
    have h1 := h.mono
    have h2 := k.mono
    rcases k.own b n e with ⟨b', e'⟩ | ⟨e1, e2⟩
    · rcases h.own b' n e' with x | ⟨e1, e2⟩
      · exact .inl x
      · exact .inr ⟨e1, by omega⟩
    · exact .inr ⟨by omega, e2⟩⟩
theorem Post.calm {P : Program} {r : Env} {o : Nat → Option Nat} {w : World} {s s' : St} (hs : Sat P r o s.h w) (hc : Calm s s') : Post P r o w s r o w s' :=
  ⟨Env.Le.refl _, by rw [hc.h]; exact hs, Frame.refl _ _, New.refl _ _ _, Nat.le_of_eq hc.c.symm, fun b n e => .inl ⟨b, e⟩⟩

/-- A symbolic computation of a value, and a model's one. -/
def Snd (P : Program) (x : X Value) (A : Env → Sem Value → Prop) : Prop :=
  ∀ d s v s', x d s = some (v, s') → (VCs s'.V → VCs s.V) ∧ (VCs s'.V → ∀ r ow w m, Sat P r ow s.h w → Fresh r s.c s'.c → A r m →
    ∃ r' ow' u w', m.run P w = .ok u w' ∧ Post P r ow w s r' ow' w' s' ∧ Rel r' v u)
def SndU (P : Program) (x : X Unit) (A : Env → Sem Unit → Prop) : Prop :=
  ∀ d s v s', x d s = some (v, s') → (VCs s'.V → VCs s.V) ∧ (VCs s'.V → ∀ r ow w m, Sat P r ow s.h w → Fresh r s.c s'.c → A r m →
    ∃ r' ow' w', m.run P w = .ok () w' ∧ Post P r ow w s r' ow' w' s')

theorem Rel.ptr_inv {r : Env} {n off : Nat} {u : Value} (h : Rel r (.pointer (some ⟨n, off, none⟩)) u) : ∃ b, u = .pointer (some ⟨b, off, none⟩) ∧ r.blk n = some b := by
  cases h with | ptr hb => exact ⟨_, rfl, hb⟩
theorem Rel.of_cells {r : Env} : ∀ {z : Value}, plainAll (cellsL z) = true → isOpq z = false → Rel r z z
  | .agg cs, h, _ => .agg rfl (fun i h1 h2 => by
      have ha : RelL r cs.toList cs.toList := plainAll_rel h
      obtain ⟨y, e, hy⟩ := ha.get i cs[i] (by simp)
      have : cs[i] = y := by simpa [h1] using e
      rw [← this] at hy; exact hy)
  | .bool _, h, _ | .int _ _, h, _ | .float _ _, h, _ | .complex _ _ _, h, _ | .string _, h, _ | .pointer _, h, _ | .slice _ _ _, h, _ | .map _, h, _ | .func _ _ _, h, _ | .nilFunc, h, _ | .iface _ _, h, _ | .nilIface, h, _ | .tuple _, h, _ => by
    have ha := plainAll_rel (r := r) h
    cases ha with | cons hx _ => exact hx
  | .chan _, _, h => by simp [isOpq] at h

theorem Rel.ptr_inv' {r : Env} {n off : Nat} {sp : Option Nat} {u : Value} (h : Rel r (.pointer (some ⟨n, off, sp⟩)) u) :
    ∃ b, u = .pointer (some ⟨b, off, none⟩) ∧ ∀ o, Rel r (.pointer (some ⟨n, o, sp⟩)) (.pointer (some ⟨b, o, none⟩)) := by
  cases h with
  | ptr hb => exact ⟨_, rfl, fun o => .ptr hb⟩
  | litPtr => exact ⟨_, rfl, fun o => .litPtr⟩
theorem lit_row {w : World} {b : Nat} (r : Env) : ∀ (vs : List Value) (off : Nat) (_ : ∀ (j : Nat) (v : Value), vs[j]? = some v → ∃ u, w.cell? ⟨b, off + j, none⟩ = some u ∧ ∀ r : Env, Rel r v u),
    ∃ us : List Value, RelL r vs us ∧ ∀ (j : Nat) (v : Value), us[j]? = some v → w.cell? ⟨b, off + j, none⟩ = some v
  | [], off, _ => ⟨[], .nil, fun j v h => by simp at h⟩
  | x :: vs, off, h => by
    obtain ⟨u, h1, h2⟩ := h 0 x rfl
    obtain ⟨us, h3, h4⟩ := lit_row r vs (off + 1) fun j v e => by
      obtain ⟨u, e1, e2⟩ := h (j + 1) v e
      exact ⟨u, by rw [show off + 1 + j = off + (j + 1) by omega]; exact e1, e2⟩
    refine ⟨u :: us, .cons (h2 r) h3, fun j v e => ?_⟩
    cases j with
    | zero => simp at e; subst e; exact h1
    | succ j => rw [show off + (j + 1) = off + 1 + j by omega]; exact h4 j v (by simpa using e)
theorem lit_cells {P : Program} {B : Nat} {w0 w : World} {b : Nat} (hw : w.heap[b]? = w0.heap[b]?) {vs : List Value} {off : Nat} (h : ArgCells B w0 b off vs) (r : Env) :
    ∃ us : List Value, (loadCells ⟨b, off, none⟩ vs.length).run P w = .ok ⟨us⟩ w ∧ RelL r vs us ∧ (∀ v, vs = [v] → ∃ u, us = [u] ∧ w.cell? ⟨b, off, none⟩ = some u) := by
  have hcell : ∀ o, w.cell? ⟨b, o, none⟩ = w0.cell? ⟨b, o, none⟩ := fun o => by simp [World.cell?, hw]
  obtain ⟨us, h1, h2⟩ := lit_row (w := w) (b := b) r vs off fun j v e => by rw [hcell]; exact h.2 j v e
  refine ⟨us, ?_, h1, fun v hv => ?_⟩
  · rw [h1.length]
    have hadd : ∀ j, (⟨b, off, none⟩ : Addr).add j = ⟨b, off + j, none⟩ := fun j => by
      unfold Addr.add
      split
      · rename_i e; subst e; rfl
      · rfl
    exact run_loadCells_list (P := P) (w := w) ⟨b, off, none⟩ us (fun j v e => by rw [hadd]; exact h2 j v e)
  · subst hv
    cases h1 with
    | @cons _ u _ _ _ ht =>
      cases ht
      exact ⟨u, rfl, by simpa using h2 0 u rfl⟩
theorem lit_snd {P : Program} {t : TypeId} {b off k : Nat} {v : Value} {d : Advice} {s s' : St} (h : loadLit P t b off k d s = some (v, s')) :
    Calm s s' ∧ (VCs s'.V → ∀ (r : Env) (ow : Nat → Option Nat) (w : World), Sat P r ow s.h w → ∃ y, (loadVar t ⟨b, off, none⟩).run P w = .ok y w ∧ Rel r v y) := by
  unfold loadLit at h
  obtain ⟨g, s2, h3, h4⟩ := bind_some h
  obtain ⟨⟨D, hD, rfl⟩, rfl⟩ := agg_some h3
  cases hg : isAggD D with
  | true =>
    simp only [hg] at h4
    obtain ⟨sz, s3, h5, h6⟩ := bind_some h4
    obtain ⟨⟨i, hi, rfl⟩, rfl⟩ := sz_some h5
    obtain ⟨vs, s4, h7, h8⟩ := bind_some h6
    obtain ⟨rfl, rfl⟩ := pure_some h8
    obtain ⟨cm, B, w0, hgt, hv⟩ := lit_some h7
    refine ⟨cm, fun hV r ow w hs => ?_⟩
    obtain ⟨e1, e2⟩ := hv hV
    obtain ⟨us, hrun, hrel, _⟩ := lit_cells (P := P) (hs.chunk _ _ hgt b e1.1).2 e1 r
    refine ⟨.agg ⟨us⟩, ?_, hrel.mkAgg⟩
    rw [e2] at hrun
    simp [loadVar, run_isAgg hD, hg, run_size hi, hrun]
  | false =>
    simp only [hg] at h4
    obtain ⟨vs, s4, h7, h8⟩ := bind_some h4
    split at h8
    · rename_i x0
      obtain ⟨rfl, rfl⟩ := pure_some h8
      obtain ⟨cm, B, w0, hgt, hv⟩ := lit_some h7
      refine ⟨cm, fun hV r ow w hs => ?_⟩
      obtain ⟨e1, e2⟩ := hv hV
      obtain ⟨us, hrun, hrel, hone⟩ := lit_cells (P := P) (hs.chunk _ _ hgt b e1.1).2 e1 r
      obtain ⟨u, rfl, hu⟩ := hone _ rfl
      cases hrel with
      | cons hx _ =>
        refine ⟨u, ?_, hx⟩
        simp [loadVar, run_isAgg hD, hg, hu]
    · simp [X.fail] at h8
theorem snd_loadN (P : Program) (t : TypeId) (a : Value) : Snd P (exLoadN P t a) (fun r m => ∃ u, Rel r a u ∧ m = Instr.loadAt t u) := by
  intro d s v s' h
  unfold exLoadN at h
  obtain ⟨p, s1, h1, h2⟩ := bind_some h
  obtain ⟨rfl, rfl⟩ := addr_some h1
  obtain ⟨g, s2, h3, h4⟩ := bind_some h2
  obtain ⟨⟨D, hD, rfl⟩, rfl⟩ := agg_some h3
  cases hg : isAggD D with
  | true =>
    simp only [hg] at h4
    obtain ⟨sz, s3, h5, h6⟩ := bind_some h4
    obtain ⟨⟨i, hi, rfl⟩, rfl⟩ := sz_some h5
    obtain ⟨vs, s4, h7, h8⟩ := bind_some h6
    obtain ⟨rfl, rfl⟩ := pure_some h8
    obtain ⟨cm, l, t0, hgt, hv⟩ := cells_some h7
    refine ⟨cm.V, fun hV r ow w m hs _ ⟨u, hu, hm⟩ => ?_⟩
    obtain ⟨e1, e2⟩ := hv hV
    cases hu with
    | ptr hb =>
      obtain ⟨us, hrun, hrel⟩ := sat_load hs hb hgt (by rw [e2]; exact e1)
      refine ⟨r, ow, .agg ⟨us⟩, w, ?_, Post.calm hs cm, hrel.mkAgg⟩
      rw [e2] at hrun
      subst hm
      simp [Instr.loadAt, Instr.sureAddr, loadVar, run_isAgg hD, hg, run_size hi, hrun]
  | false =>
    simp only [hg] at h4
    obtain ⟨vs, s4, h7, h8⟩ := bind_some h4
    split at h8
    · rename_i x0
      obtain ⟨rfl, rfl⟩ := pure_some h8
      obtain ⟨cm, l, t0, hgt, hv⟩ := cells_some h7
      refine ⟨cm.V, fun hV r ow w m hs _ ⟨u, hu, hm⟩ => ?_⟩
      obtain ⟨e1, e2⟩ := hv hV
      obtain ⟨b, rfl, hb⟩ := hu.ptr_inv
      obtain ⟨us, hrun, hrel⟩ := sat_load hs hb hgt (vs := [x0]) (by simpa using e1)
      cases hrel with
      | @cons _ y _ ys hx ht =>
        cases ht
        refine ⟨r, ow, y, w, ?_, Post.calm hs cm, hx⟩
        subst hm
        have h10 : w.cell? ⟨b, p.2, none⟩ = some y := by
          obtain ⟨b', c, q1, q2, q3, q4, q5, q6⟩ := hs.chunk _ _ hgt
          have hbb : b' = b := by rw [hb] at q1; exact (Option.some.inj q1).symm
          subst hbb
          have hl : p.2 < l.length := by
            have := congrArg List.length e1
            simp at this; omega
          have hc : w.cell? ⟨b', p.2, none⟩ = some c[p.2] := by rw [cell_of q3]; simp [Nat.lt_of_lt_of_le hl q5]
          have hrun' := hrun
          simp only [loadCells, loadCellsFrom, List.length_cons, List.length_nil, Sem.run_bind, run_load, Addr.add_zero', hc] at hrun'
          simp at hrun'
          rw [hc, hrun']
        simp [Instr.loadAt, Instr.sureAddr, loadVar, run_isAgg hD, hg, h10]
    · simp [X.fail] at h8

theorem snd_load (P : Program) (t : TypeId) (a : Value) : Snd P (exLoad P t a) (fun r m => ∃ u, Rel r a u ∧ m = Instr.loadAt t u) := by
  unfold exLoad
  split
  · rename_i b off k
    intro d s v s' h
    obtain ⟨cm, g⟩ := lit_snd h
    refine ⟨cm.V, fun hV r ow w m hs _ ⟨u, hu, hm⟩ => ?_⟩
    obtain ⟨y, hy, hr⟩ := g hV r ow w hs
    cases hu
    refine ⟨r, ow, y, w, ?_, Post.calm hs cm, hr⟩
    subst hm
    simpa [Instr.loadAt, Instr.sureAddr] using hy
  · exact snd_loadN P t a

theorem snd_storeN (P : Program) (t : TypeId) (a x : Value) : SndU P (exStoreN P t a x) (fun r m => ∃ u y, Rel r a u ∧ Rel r x y ∧ m = Instr.storeAt t u y) := by
  intro d s v s' h
  unfold exStoreN at h
  obtain ⟨p, s1, h1, h2⟩ := bind_some h
  obtain ⟨rfl, rfl⟩ := addr_some h1
  obtain ⟨sz, s3, h5, h6⟩ := bind_some h2
  obtain ⟨⟨i, hi, rfl⟩, rfl⟩ := sz_some h5
  obtain ⟨_, s4, h7, h8⟩ := bind_some h6
  obtain ⟨ho, rfl⟩ := need_some h7
  obtain ⟨_, s5, h9, h10⟩ := bind_some h8
  obtain ⟨hl, rfl⟩ := need_some h9
  obtain ⟨_, s6, h11, h12⟩ := bind_some h10
  obtain ⟨hc, rfl⟩ := need_some h11
  obtain ⟨c, s7, h13, h14⟩ := bind_some h12
  obtain ⟨hg, cm⟩ := calm_rd h13
  split at h14
  · rename_i l t0
    obtain ⟨_, s8, h15, h16⟩ := bind_some h14
    obtain ⟨cm2, hk⟩ := calm_chk h15
    obtain ⟨_, rfl⟩ := wr_some h16
    refine ⟨fun hV => cm.V (cm2.V hV), fun hV r ow w m hs _ ⟨u, y, hu, hy, hm⟩ => ?_⟩
    have hfit := hasLen_le (hk hV)
    have hl' := Nat.eq_of_beq_eq_true hl
    have hcells := hy.cells_rel (by simpa using ho)
    cases hu with
    | ptr hb =>
      obtain ⟨w', hrun, hsat, hfr⟩ := sat_store hs hb hg hcells (fun x u hx hr => hr.cell_ok (List.all_eq_true.1 hc x hx)) (by rw [hl']; exact hfit)
      refine ⟨r, ow, w', ?_, ⟨Env.Le.refl _, ?_, hfr, New.refl _ _ _, ?_, fun b n e => .inl ⟨b, e⟩⟩⟩
      · subst hm
        have hsz : y.cells.size = i.size := by
          have := hcells.length
          rw [← Array.length_toList, cells_eq, ← this, hl']
        simp [Instr.storeAt, Instr.sureAddr, storeVar, run_size hi, hsz, cells_eq, hrun]
      · show Sat P r ow (s8.h.put _ _) w'
        rw [cm2.h, cm.h]; exact hsat
      · show _ ≤ s8.c
        rw [cm2.c, cm.c]; exact Nat.le_refl _
  · simp [X.fail] at h14

theorem snd_storeB (P : Program) (t : TypeId) (a : Value) (n : Nat) : SndU P (exStoreB P t a n) (fun r m => ∃ u y, Rel r a u ∧ Rel r (.chan (some n)) y ∧ m = Instr.storeAt t u y) := by
  intro d s v s' h
  unfold exStoreB at h
  obtain ⟨p, s1, h1, h2⟩ := bind_some h
  obtain ⟨rfl, rfl⟩ := addr_some h1
  obtain ⟨sz, s3, h5, h6⟩ := bind_some h2
  obtain ⟨⟨i, hi, rfl⟩, rfl⟩ := sz_some h5
  obtain ⟨_, s5, h9, h10⟩ := bind_some h6
  obtain ⟨hl, rfl⟩ := need_some h9
  obtain ⟨cb, s6, h11, h12⟩ := bind_some h10
  obtain ⟨hgb, cmb⟩ := calm_rd h11
  split at h12
  · rename_i eb mb
    obtain ⟨c, s7, h13, h14⟩ := bind_some h12
    obtain ⟨hg, cm⟩ := calm_rd h13
    split at h14
    · rename_i l t0
      obtain ⟨_, s8, h15, h16⟩ := bind_some h14
      obtain ⟨cm2, hk⟩ := calm_chk h15
      obtain ⟨_, rfl⟩ := wr_some h16
      refine ⟨fun hV => cmb.V (cm.V (cm2.V hV)), fun hV r ow w m hs _ ⟨u, y, hu, hy, hm⟩ => ?_⟩
      have hfit := hasLen_le (hk hV)
      have hl' := Nat.eq_of_beq_eq_true hl
      obtain ⟨a0, l0, c0, g1, _, _⟩ := hs.chunk n _ hgb
      cases hy with
      | opq hy =>
      rw [g1] at hy
      cases hy
      have hcells : RelL r [.chan (some n)] [.slice a0 l0 c0] := .cons (.opq g1) .nil
      cases hu with
      | ptr hb =>
        obtain ⟨w', hrun, hsat, hfr⟩ := sat_store hs hb (by rw [← cmb.h]; exact hg) hcells (fun x u hx hr => by
          rw [List.mem_singleton] at hx
          subst hx
          cases hr with
          | opq hr => rw [g1] at hr; cases hr; exact ⟨fun _ => by simp, fun _ => by simp⟩) (by simpa using hfit)
        refine ⟨r, ow, w', ?_, ⟨Env.Le.refl _, ?_, hfr, New.refl _ _ _, ?_, fun b n e => .inl ⟨b, e⟩⟩⟩
        · subst hm
          simp [Instr.storeAt, Instr.sureAddr, storeVar, run_size hi, hl', Value.cells, hrun]
        · show Sat P r ow (s8.h.put _ _) w'
          rw [cm2.h, cm.h, cmb.h]; exact hsat
        · show _ ≤ s8.c
          rw [cm2.c, cm.c, cmb.c]; exact Nat.le_refl _
    · simp [X.fail] at h14
  · simp [X.fail] at h12
theorem snd_store (P : Program) (t : TypeId) (a x : Value) : SndU P (exStore P t a x) (fun r m => ∃ u y, Rel r a u ∧ Rel r x y ∧ m = Instr.storeAt t u y) := by
  unfold exStore
  split
  · exact snd_storeB P t a _
  · exact snd_storeN P t a x
theorem own_new {ow : Nat → Option Nat} {k c : Nat} : ∀ b n, own ow k c b = some n → (∃ b', ow b' = some n) ∨ (c ≤ n ∧ n < c + 1) := by
  intro b n e
  unfold own at e
  split at e
  · cases e; exact .inr ⟨Nat.le_refl _, Nat.lt_succ_self _⟩
  · exact .inl ⟨b, e⟩
/-- A new row of cells, of whole elements. -/
theorem post_new {P : Program} {r : Env} {ow : Nat → Option Nat} {w : World} {s : St} {l cs : List Value} {t : TypeId} {k : Nat} (hs : Sat P r ow s.h w) (hf : Fresh r s.c (s.c + 1)) (hl : RelL r l (cs.take l.length)) (hle : l.length ≤ cs.length)
    (hk : cs.length = k * P.cellsOf t) (R W : List Nat) (V : List VC) (kk : Nat) :
    Post P r ow w s (r.bind s.c w.heap.size k) (own ow w.heap.size s.c) { w with heap := w.heap.push (.cells ⟨cs⟩ t) } ⟨s.c + 1, kk, s.h.put s.c (.cells l t), R, W, V⟩ :=
  ⟨Env.le_bind (hf s.c (Nat.le_refl _) (Nat.lt_succ_self _)).1, hs.new (hf s.c (Nat.le_refl _) (Nat.lt_succ_self _)).1 hl hle hk, Frame.new _ _, New.bind, Nat.le_succ _, own_new⟩
theorem relL_take_self {r : Env} {l cs : List Value} (h : RelL r l cs) : RelL r l (cs.take l.length) := by rw [h.length, List.take_length]; exact h

theorem snd_box (P : Program) (t : TypeId) (x : Value) : Snd P (exBox P t x) (fun r m => ∃ y, Rel r x y ∧ m = Instr.box t y) := by
  intro d s v s' h
  unfold exBox at h
  obtain ⟨sz, s3, h5, h6⟩ := bind_some h
  obtain ⟨⟨i, hi, rfl⟩, rfl⟩ := sz_some h5
  obtain ⟨_, s4, h7, h8⟩ := bind_some h6
  obtain ⟨ho, rfl⟩ := need_some h7
  obtain ⟨_, s5, h9, h10⟩ := bind_some h8
  obtain ⟨hl, rfl⟩ := need_some h9
  obtain ⟨n, s6, h11, h12⟩ := bind_some h10
  obtain ⟨rfl, rfl⟩ := new_some h11
  obtain ⟨rfl, rfl⟩ := pure_some h12
  refine ⟨fun hV => hV, fun hV r ow w m hs hf ⟨y, hy, hm⟩ => ?_⟩
  have hcells := hy.cells_rel (by simpa using ho)
  have hl' := Nat.eq_of_beq_eq_true hl
  have hp := post_new (P := P) (s := s) (t := t) (k := 1) hs hf (relL_take_self hcells) (Nat.le_of_eq hcells.length) (by rw [← hcells.length, hl', cellsOf_eq hi, Nat.one_mul]) s.R (s.c :: s.W) s.V s.k
  refine ⟨_, _, .pointer (some ⟨w.heap.size, 0, none⟩), _, ?_, hp, .ptr (by simp [Env.bind])⟩
  subst hm
  have : y.cells = ⟨cellsL y⟩ := by rw [← cells_eq]
  simp [Instr.box, newVar, newRow, this]

theorem snd_alloc (P : Program) (t : TypeId) : Snd P (X.bind (zeroV P t) fun z => exBox P t z) (fun _ m => m = Instr.alloc t true (.tuple #[])) := by
  intro d s v s' h
  obtain ⟨z, s1, h1, h2⟩ := bind_some h
  obtain ⟨⟨i, hi, hz⟩, hp, rfl⟩ := zero_some h1
  obtain ⟨g1, g2⟩ := snd_box P t z d s v s' h2
  refine ⟨g1, fun hV r ow w m hs hf hm => ?_⟩
  have hzr : Rel r z z := by
    unfold exBox at h2
    obtain ⟨_, _, q1, q2⟩ := bind_some h2
    obtain ⟨_, rfl⟩ := sz_some q1
    obtain ⟨_, _, q3, q4⟩ := bind_some q2
    obtain ⟨ho, _⟩ := need_some q3
    exact Rel.of_cells hp (by simpa using ho)
  obtain ⟨r', ow', u, w', hrun, hpost, hrel⟩ := g2 hV r ow w _ hs hf ⟨z, hzr, rfl⟩
  refine ⟨r', ow', u, w', ?_, hpost, hrel⟩
  subst hm
  simpa [Instr.alloc, Instr.box, run_zero hi hz] using hrun

end Go.Sx
