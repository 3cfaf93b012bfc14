/- Symbolic executor, part 4: what loads, stores and new rows do in a world that a symbolic heap tells. No condition. -/
import Derived.Test.YtglaapelpidfhaaGreatSxOps
import Derived.Laws.Cells
import Derived.Laws.Entries
namespace Go.Sx

/-- One block has turned, nothing else. -/
structure WUpd (w : World) (b : Nat) (o : Obj) (w' : World) : Prop where
  os : w'.os = w.os
  tape : w'.tape = w.tape
  output : w'.output = w.output
  size : w'.heap.size = w.heap.size
  at_ : w'.heap[b]? = some o
  other : ∀ k, k ≠ b → w'.heap[k]? = w.heap[k]?

theorem run_info {P : Program} {t : TypeId} {i : TypeInfo} (h : P.info? t = some i) (w : World) : (typeInfo t).run P w = .ok i w := by simp [typeInfo, h]
theorem run_size {P : Program} {t : TypeId} {i : TypeInfo} (h : P.info? t = some i) (w : World) : (sizeOf t).run P w = .ok i.size w := by simp [sizeOf, run_info h]
theorem run_zero {P : Program} {t : TypeId} {i : TypeInfo} {z : Value} (h : P.info? t = some i) (hz : i.zero = some z) (w : World) : (zeroValue t).run P w = .ok z w := by simp [zeroValue, run_info h, hz]
theorem cellsOf_eq {P : Program} {t : TypeId} {i : TypeInfo} (h : P.info? t = some i) : P.cellsOf t = i.size := by simp [Program.cellsOf, h]
theorem run_isAgg {P : Program} {t : TypeId} {D : TypeDesc} (h : P.underlying t = some D) (w : World) : (isAgg t).run P w = .ok (isAggD D) w := by
  unfold isAgg
  simp only [Sem.run_bind, run_underlying h, Result.andThen_ok]
  cases D <;> rfl

theorem cell_of {w : World} {b off : Nat} {c : Array Value} {t : TypeId} {fr : Nat × Nat} (h : w.heap[b]? = some (.cells c t fr)) : w.cell? ⟨b, off, none⟩ = c[off]? := by simp [World.cell?, h]
theorem frozen_of {w : World} {b off : Nat} {c : Array Value} {t : TypeId} (h : w.heap[b]? = some (.cells c t (0, 0))) : w.frozen? ⟨b, off, none⟩ = false := by simp [World.frozen?, h]

theorem add_off (b off j : Nat) : (⟨b, off, none⟩ : Addr).add j = ⟨b, off + j, none⟩ := by
  unfold Addr.add; split
  · rename_i e; subst e; rfl
  · rfl

theorem run_cells {P : Program} {w : World} {b off n : Nat} {c : Array Value} {t : TypeId} {fr : Nat × Nat} (h : w.heap[b]? = some (.cells c t fr)) (hl : ((c.toList.drop off).take n).length = n) :
    (loadCells ⟨b, off, none⟩ n).run P w = .ok ⟨(c.toList.drop off).take n⟩ w := by
  have := run_loadCells_list (P := P) w ⟨b, off, none⟩ ((c.toList.drop off).take n) (fun j v hj => by
    rw [add_off, cell_of h]
    have h1 : ((c.toList.drop off).take n)[j]? = some v := hj
    rw [List.getElem?_take] at h1
    split at h1
    · simpa [List.getElem?_drop] using h1
    · cases h1)
  rw [hl] at this
  exact this

theorem setAll_length : ∀ (vs l : List Value) (off : Nat), (setAll l off vs).length = l.length
  | [], _, _ => rfl
  | v :: vs, l, off => by simp [setAll, setAll_length vs]
theorem setAll_rel {r : Env} {vs us : List Value} (h : RelL r vs us) : ∀ {l m : List Value} (off : Nat), RelL r l m → RelL r (setAll l off vs) (setAll m off us) := by
  induction h with
  | nil => intro l m off hl; exact hl
  | cons h _ ih => intro l m off hl; exact ih (off + 1) (hl.set h off)
theorem setAll_take : ∀ (us : List Value) (m : List Value) (off L : Nat), (setAll m off us).take L = setAll (m.take L) off us
  | [], _, _, _ => rfl
  | u :: us, m, off, L => by simp only [setAll]; rw [setAll_take us, List.take_set]

theorem run_storeCells {P : Program} {b off : Nat} {t : TypeId} : ∀ (vs : List Value) (i : Nat) (c : Array Value) (w : World), w.heap[b]? = some (.cells c t (0, 0)) → off + i + vs.length ≤ c.size →
    (∀ v, v ∈ vs → (∀ xs, v ≠ .agg xs) ∧ (∀ xs, v ≠ .tuple xs)) → ∃ w', (storeCells ⟨b, off, none⟩ vs i).run P w = .ok () w' ∧ WUpd w b (.cells ⟨setAll c.toList (off + i) vs⟩ t (0, 0)) w'
  | [], i, c, w, h, _, _ => ⟨w, rfl, rfl, rfl, rfl, rfl, by simpa [setAll] using h, fun _ _ => rfl⟩
  | v :: vs, i, c, w, h, hl, hv => by
    have hlt : off + i < c.size := by simp at hl; omega
    have hb : b < w.heap.size := by
      rcases Nat.lt_or_ge b w.heap.size with h1 | h1
      · exact h1
      · rw [Array.getElem?_eq_none h1] at h; cases h
    have h1 : w.cell? ⟨b, off + i, none⟩ = some c[off + i] := by rw [cell_of h]; simp [hlt]
    have hone : v.oneCell' = true := by
      have := hv v List.mem_cons_self
      cases v <;> first | rfl | exact absurd rfl (this.1 _) | exact absurd rfl (this.2 _)
    have h2 : (store ((⟨b, off, none⟩ : Addr).add i) v).run P w = .ok () (w.setCell ⟨b, off + i, none⟩ v) := by
      rw [run_store P w _ v _ hone, add_off, h1, frozen_of h]; rfl
    have h3 : (w.setCell ⟨b, off + i, none⟩ v).heap[b]? = some (.cells ⟨c.toList.set (off + i) v⟩ t (0, 0)) := by
      simp only [World.setCell, Array.getElem?_modify, if_true, h, Option.map_some]
      simp [Array.setIfInBounds, hlt, Array.set]
    obtain ⟨w', e1, e2⟩ := run_storeCells (P := P) (b := b) (off := off) vs (i + 1) ⟨c.toList.set (off + i) v⟩ (w.setCell ⟨b, off + i, none⟩ v) h3 (by simp at hl ⊢; omega) (fun u hu => hv u (List.mem_cons_of_mem _ hu))
    refine ⟨w', ?_, e2.os, e2.tape, e2.output, ?_, ?_, fun k hk => ?_⟩
    · simp only [storeCells, Sem.run_bind, h2, Result.andThen_ok]; exact e1
    · rw [e2.size]; simp
    · rw [e2.at_]; simp only [setAll]; rw [Nat.add_assoc]
    · rw [e2.other k hk]; simp only [World.setCell, Array.getElem?_modify]; rw [if_neg (by omega)]

section
variable {P : Program} {r : Env} {ow : Nat → Option Nat} {h : Heap} {w w' : World}

/-- The piece of one name has turned. -/
theorem Sat.upd (hs : Sat P r ow h w) {n b : Nat} {o : Obj} {dd : Chunk} (ho : ow b = some n) (hw : WUpd w b o w') (hc : dd.sat P r ow w' n) : Sat P r ow (h.put n dd) w' where
  chunk := fun m c hm => by
    rw [Heap.get_put] at hm
    split at hm
    · rename_i e; subst e; cases hm; exact hc
    · rename_i e
      refine Chunk.sat_keep (fun k hk => hw.other k (fun e2 => ?_)) (fun _ => Iff.rfl) (hs.chunk m c hm)
      subst e2; rw [ho] at hk; cases hk; exact e rfl
  bound := fun k m hk => by rw [hw.size]; exact hs.bound k m hk
  known := hs.known
theorem Frame.upd {n b : Nat} {o : Obj} (ho : ow b = some n) (hw : WUpd w b o w') : Frame ow w ow w' :=
  ⟨hw.os, hw.tape, hw.output, Nat.le_of_eq hw.size.symm, fun k _ hk => ⟨hk, hw.other k (fun e => by subst e; rw [ho] at hk; cases hk)⟩⟩
theorem Sat.del (hs : Sat P r ow h w) (n : Nat) : Sat P r ow (h.del n) w where
  chunk := fun m c hm => by
    rw [Heap.get_del] at hm
    split at hm
    · cases hm
    · exact hs.chunk m c hm
  bound := hs.bound
  known := hs.known
theorem Sat.get_eq {h' : Heap} (hs : Sat P r ow h w) (he : ∀ n, h'.get n = h.get n) : Sat P r ow h' w := ⟨fun n c hn => hs.chunk n c (by rw [← he]; exact hn), hs.bound, hs.known⟩
theorem Sat.drew (hs : Sat P r ow h w) {w' : World} (hh : w'.heap = w.heap) : Sat P r ow h w' :=
  ⟨fun n c hn => Chunk.sat_keep (fun b _ => by rw [hh]) (fun _ => Iff.rfl) (hs.chunk n c hn), fun b n e => by rw [hh]; exact hs.bound b n e, hs.known⟩

def Env.bind (r : Env) (n b k : Nat) : Env := { r with blk := fun m => if m = n then some b else r.blk m, cap := fun m => if m = n then k else r.cap m }
theorem Env.le_bind {n b k : Nat} (hn : r.blk n = none) : r.Le (r.bind n b k) :=
  ⟨fun m x e => by show (if m = n then some b else r.blk m) = some x; rw [if_neg (fun e2 => by subst e2; rw [hn] at e; cases e)]; exact e,
   fun m x e => by show (if m = n then k else r.cap m) = r.cap m; rw [if_neg (fun e2 => by subst e2; rw [hn] at e; cases e)], fun _ _ e => e⟩
theorem New.bind {n b k : Nat} : New r (r.bind n b k) n (n + 1) :=
  ⟨fun m e => by
    by_cases e2 : m = n
    · exact .inr (by omega)
    · exact .inl (by simpa [Env.bind, e2] using e), fun m e => .inl e⟩
def own (ow : Nat → Option Nat) (b n : Nat) : Nat → Option Nat := fun k => if k = b then some n else ow k

/-- A new block for a new name. -/
theorem Sat.new (hs : Sat P r ow h w) {n k : Nat} {l cs : List Value} {t : TypeId} (hn : r.blk n = none) (hl : RelL r l (cs.take l.length)) (hle : l.length ≤ cs.length) (hk : cs.length = k * P.cellsOf t) :
    Sat P (r.bind n w.heap.size k) (own ow w.heap.size n) (h.put n (.cells l t)) { w with heap := w.heap.push (.cells ⟨cs⟩ t) } where
  chunk := fun m c hm => by
    rw [Heap.get_put] at hm
    split at hm
    · rename_i e; subst e; cases hm
      exact ⟨w.heap.size, ⟨cs⟩, by simp [Env.bind], by simp [own], by simp, (hl.mono (Env.le_bind hn)), by simpa using hle, by simpa [Env.bind] using hk⟩
    · rename_i e
      refine Chunk.sat_keep (w := w) (ow := ow) (fun b hb => ?_) (fun b => ?_) (Chunk.sat_mono (Env.le_bind hn) (hs.chunk m c hm))
      · have := hs.bound b m hb
        simp [Array.getElem?_push, Nat.ne_of_lt this]
      · unfold own
        split
        · rename_i e2; subst e2
          exact ⟨fun e3 => absurd (Option.some.inj e3).symm e, fun e3 => absurd (hs.bound _ _ e3) (Nat.lt_irrefl _)⟩
        · exact Iff.rfl
  bound := fun b m hb => by
    unfold own at hb
    split at hb
    · rename_i e; subst e; simp
    · have := hs.bound b m hb; simp; omega
  known := fun b m hb => by
    unfold own at hb
    split at hb
    · cases hb; exact .inl (by simp [Env.bind])
    · exact (Env.le_bind hn).known (hs.known b m hb)
theorem Sat.newMap (hs : Sat P r ow h w) {n : Nat} (hn : r.blk n = none) :
    Sat P (r.bind n w.heap.size 0) (own ow w.heap.size n) (h.put n (.map [])) { w with heap := w.heap.push (.map #[] 0) } where
  chunk := fun m c hm => by
    rw [Heap.get_put] at hm
    split at hm
    · rename_i e; subst e; cases hm
      exact ⟨w.heap.size, #[], 0, by simp [Env.bind], by simp [own], by simp, .nil, .nil⟩
    · rename_i e
      refine Chunk.sat_keep (w := w) (ow := ow) (fun b hb => ?_) (fun b => ?_) (Chunk.sat_mono (Env.le_bind hn) (hs.chunk m c hm))
      · have := hs.bound b m hb
        simp [Array.getElem?_push, Nat.ne_of_lt this]
      · unfold own
        split
        · rename_i e2; subst e2
          exact ⟨fun e3 => absurd (Option.some.inj e3).symm e, fun e3 => absurd (hs.bound _ _ e3) (Nat.lt_irrefl _)⟩
        · exact Iff.rfl
  bound := fun b m hb => by
    unfold own at hb
    split at hb
    · rename_i e; subst e; simp
    · have := hs.bound b m hb; simp; omega
  known := fun b m hb => by
    unfold own at hb
    split at hb
    · cases hb; exact .inl (by simp [Env.bind])
    · exact (Env.le_bind hn).known (hs.known b m hb)
theorem Frame.new (o : Obj) (n : Nat) : Frame ow w (own ow w.heap.size n) { w with heap := w.heap.push o } :=
  ⟨rfl, rfl, rfl, by simp, fun b hb ho => ⟨by simp [own, Nat.ne_of_lt hb, ho], by simp [Array.getElem?_push, Nat.ne_of_lt hb]⟩⟩
theorem Frame.drew {w' : World} (h1 : w'.heap = w.heap) (h2 : w'.os = w.os) (h3 : w'.tape = w.tape) (h4 : w'.output = w.output) : Frame ow w ow w' :=
  ⟨h2, h3, h4, by rw [h1]; exact Nat.le_refl _, fun b _ ho => ⟨ho, by rw [h1]⟩⟩

/-- What a symbolic load tells, the world has. -/
theorem sat_load (hs : Sat P r ow h w) {n off b : Nat} {l vs : List Value} {t : TypeId} (hn : r.blk n = some b) (hg : h.get n = some (.cells l t)) (hv : vs = (l.drop off).take vs.length) :
    ∃ us : List Value, (loadCells ⟨b, off, none⟩ vs.length).run P w = .ok ⟨us⟩ w ∧ RelL r vs us := by
  obtain ⟨b', c, h1, h2, h3, h4, h5, h6⟩ := hs.chunk n _ hg
  have hb : b' = b := by rw [hn] at h1; exact (Option.some.inj h1).symm
  subst hb
  have hr := (h4.drop off).take vs.length
  rw [← hv] at hr
  have hlen : (((c.toList.take l.length).drop off).take vs.length).length = vs.length := hr.length.symm
  have he : ((c.toList.take l.length).drop off).take vs.length = (c.toList.drop off).take vs.length := by
    by_cases h0 : vs.length = 0
    · simp [h0]
    · have : off + vs.length ≤ l.length := by
        have h7 : vs.length = ((l.drop off).take vs.length).length := congrArg List.length hv
        simp [List.length_take, List.length_drop] at h7
        omega
      rw [List.drop_take, List.take_take, Nat.min_eq_left (by omega)]
  rw [he] at hr hlen
  exact ⟨_, run_cells h3 hlen, hr⟩
theorem sat_store (hs : Sat P r ow h w) {n off b : Nat} {l vs us : List Value} {t : TypeId} (hn : r.blk n = some b) (hg : h.get n = some (.cells l t)) (hv : RelL r vs us) (hc : ∀ x u, x ∈ vs → Rel r x u → (∀ xs, u ≠ .agg xs) ∧ (∀ xs, u ≠ .tuple xs)) (hl : off + vs.length ≤ l.length) :
    ∃ w', (storeCells ⟨b, off, none⟩ us).run P w = .ok () w' ∧ Sat P r ow (h.put n (.cells (setAll l off vs) t)) w' ∧ Frame ow w ow w' := by
  obtain ⟨b', c, h1, h2, h3, h4, h5, h6⟩ := hs.chunk n _ hg
  have hb : b' = b := by rw [hn] at h1; exact (Option.some.inj h1).symm
  subst hb
  obtain ⟨w', e1, e2⟩ := run_storeCells (P := P) (b := b') (off := off) (t := t) us 0 c w h3 (by rw [← hv.length]; omega) (fun u hu => by
    obtain ⟨i, hi, rfl⟩ := List.getElem_of_mem hu
    obtain ⟨x, hx, hrel⟩ := hv.get' i us[i] (by simp)
    exact hc x _ (List.mem_of_getElem? hx) hrel)
  refine ⟨w', e1, hs.upd h2 e2 ⟨b', _, h1, h2, e2.at_, ?_, ?_, ?_⟩, Frame.upd h2 e2⟩
  · rw [setAll_length, Nat.add_zero]
    show RelL r _ ((setAll c.toList off us).take l.length)
    rw [setAll_take]
    exact setAll_rel hv off h4
  · rw [setAll_length]; simpa [setAll_length] using h5
  · simpa [setAll_length] using h6
end

end Go.Sx
