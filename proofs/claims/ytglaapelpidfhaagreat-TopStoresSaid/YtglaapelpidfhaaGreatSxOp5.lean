/- Symbolic executor, part 9: append, make, cutting, maps with integer keys. No condition. -/
import Derived.Test.YtglaapelpidfhaaGreatSxOp4
namespace Go.Sx

theorem setAll_split : ∀ (us l : List Value) (k : Nat), k + us.length ≤ l.length → setAll l k us = l.take k ++ us ++ l.drop (k + us.length)
  | [], l, k, _ => by simp [setAll]
  | u :: us, l, k, h => by
    simp only [List.length_cons] at h
    simp only [setAll]
    rw [setAll_split us (l.set k u) (k + 1) (by simp; omega)]
    have h1 : (l.set k u).take (k + 1) = l.take k ++ [u] := by
      rw [List.take_succ_eq_append_getElem (by simp; omega)]
      rw [List.take_set_of_le (by omega)]
      simp
    have h2 : (l.set k u).drop (k + 1 + us.length) = l.drop (k + (us.length + 1)) := by
      rw [List.drop_set_of_lt (by omega)]; congr 1; omega
    rw [h1, h2]; simp

section
variable {P : Program}

def bigOk (n b : Nat) : Bool := Nat.ble (n * (2 * b + 1)) 281474976710656
theorem bigOk_mono {n m b : Nat} (h : n ≤ m) (hb : bigOk m b = true) : bigOk n b = true := Nat.ble_eq_true_of_le (Nat.le_trans (Nat.mul_le_mul_right _ h) (Nat.le_of_ble_eq_true hb))
theorem bigOk_cap {n b c : Nat} (h : bigOk n b = true) (hc : c < n) : Builtin.nextslicecap n c * b ≤ 281474976710656 ∧ (n : Int) ≤ 9223372036854775807 := by
  have h1 := Nat.le_of_ble_eq_true h
  have h2 := Room.nextslicecap_le' hc
  have h3 : Builtin.nextslicecap n c * b ≤ 2 * n * b := Nat.mul_le_mul_right b h2
  have h4 : n * (2 * b + 1) = 2 * n * b + n := by rw [Nat.mul_add, Nat.mul_one]; congr 1; rw [Nat.mul_left_comm, Nat.mul_assoc]
  omega

def rowType (n e : Nat) : X Unit := X.bind (X.rd n) fun c => match c with
  | .cells _ t0 => need (Nat.beq t0 e)
  | _ => X.fail
def zeroOk (i : TypeInfo) : X Unit := match i.zero with
  | some z => need (Nat.beq (cellsL z).length i.size)
  | none => X.fail
def exAppend1 (e : TypeId) (i : TypeInfo) (s : Value) (l : Nat) (vs : List Value) : X Value := match s with
  | .slice none 0 _ => X.bind (chk (bigOk l i.bytes)) fun _ => X.bind (exRow e vs) fun n => X.pure (.slice (some ⟨n, 0, none⟩) l 0)
  | .slice (some ⟨n, off, none⟩) len mk => X.bind (readCells n off (len * i.size)) fun os => X.bind (chk (bigOk (len + l) i.bytes)) fun _ => match mk with
    | 0 => X.bind (rowType n e) fun _ => X.bind (X.drop n) fun _ => X.bind (exRow e (os ++ vs)) fun n' => X.pure (.slice (some ⟨n', 0, none⟩) (len + l) 0)
    | 2 => X.bind (exRow e (os ++ vs)) fun n' => X.pure (.slice (some ⟨n', 0, none⟩) (len + l) 0)
    | _ => X.fail
  | _ => X.fail
def isSlice : Value → Bool
  | .slice _ _ _ => true
  | _ => false
def exAppendN (P : Program) (t tx : TypeId) (s x : Value) : X Value := match P.underlying t with
  | some (.slice e) => match P.underlying tx with
    | some (.slice _) => match P.info? e with
      | some i => X.bind (need (isSlice s)) fun _ => match x with
        | .slice none 0 _ => X.pure s
        | .slice (some ⟨m, offm, none⟩) l _ => X.bind (ask (Nat.beq l 0)) fun z => match z with
          | true => X.pure s
          | false => X.bind (zeroOk i) fun _ => X.bind (readCells m offm (l * i.size)) fun vs => X.bind (need (vs.all isCell)) fun _ => exAppend1 e i s l vs
        | _ => X.fail
      | none => X.fail
    | _ => X.fail
  | _ => X.fail

/-- Onto a slice in a bag. -/
def exAppendB (P : Program) (t tx : TypeId) (n : Nat) (x : Value) : X Value := match P.underlying t with
  | some (.slice e) => match P.underlying tx with
    | some (.slice _) => match P.info? e with
      | some i => match x with
        | .slice (some ⟨m, offm, none⟩) (l + 1) _ => X.bind (zeroOk i) fun _ => X.bind (readCells m offm ((l + 1) * i.size)) fun vs => X.bind (need (vs.all isCell)) fun _ => X.bind (X.rd n) fun c => match c with
          | .bag e' mx => X.bind (need (Nat.beq e' e)) fun _ => X.bind (chk (bigOk (mx + (l + 1)) i.bytes)) fun _ => X.bind (X.drop n) fun _ => X.bind (X.new (.bag e (mx + (l + 1)))) fun n' => X.pure (.chan (some n'))
          | _ => X.fail
        | _ => X.fail
      | none => X.fail
    | _ => X.fail
  | _ => X.fail
def exAppend (P : Program) (t tx : TypeId) (s x : Value) : X Value := match s with
  | .chan (some n) => exAppendB P t tx n x
  | _ => exAppendN P t tx s x

theorem calm_zeroOk {i : TypeInfo} {d : Advice} {s s' : St} {u : Unit} (h : zeroOk i d s = some (u, s')) : (∃ z, i.zero = some z ∧ (cellsL z).length = i.size) ∧ s = s' := by
  unfold zeroOk at h
  cases e : i.zero with
  | none => simp [e, X.fail] at h
  | some z =>
    simp only [e] at h
    obtain ⟨h1, h2⟩ := need_some h
    exact ⟨⟨z, rfl, Nat.eq_of_beq_eq_true h1⟩, h2⟩
theorem calm_rowType {n e : Nat} {d : Advice} {s s' : St} {u : Unit} (h : rowType n e d s = some (u, s')) : (∃ l, s.h.get n = some (.cells l e)) ∧ Calm s s' := by
  unfold rowType at h
  obtain ⟨c, s1, h1, h2⟩ := bind_some h
  obtain ⟨g, cm⟩ := calm_rd h1
  split at h2
  · obtain ⟨h3, rfl⟩ := need_some h2
    have := Nat.eq_of_beq_eq_true h3
    subst this
    exact ⟨⟨_, g⟩, cm⟩
  · simp [X.fail] at h2

/-- What a world's slice of a symbolic one holds. -/
theorem slice_cells {r : Env} {ow : Nat → Option Nat} {h : Heap} {w : World} (hs : Sat P r ow h w) {n off off' b len sz mk c : Nat} {os l : List Value} {t0 : TypeId} (hb : r.blk n = some b) (ho : off' = off ∨ len = 0)
    (hg : h.get n = some (.cells l t0)) (hv : os = (l.drop off).take (len * sz) ∧ os.length = len * sz) :
    ∃ us : List Value, RelL r os us ∧ us.length = len * sz ∧ ∀ w' : World, w'.heap = w.heap → (Builtin.firstCells sz len (.slice (some ⟨b, off', none⟩) mk c)).run P w' = .ok us.toArray w' := by
  rcases ho with rfl | rfl
  · obtain ⟨us, h1, h2⟩ := sat_load hs hb hg (vs := os) (by rw [hv.2]; exact hv.1)
    refine ⟨us, h2, by rw [← h2.length, hv.2], fun w' hw' => ?_⟩
    obtain ⟨us', h1', h2'⟩ := sat_load (hs.drew hw') hb hg (vs := os) (by rw [hv.2]; exact hv.1)
    have hcell : ∀ (b' : Nat) (k : Nat), w'.cell? ⟨b', k, none⟩ = w.cell? ⟨b', k, none⟩ := fun b' k => by simp [World.cell?, hw']
    have hus : us' = us := by
      obtain ⟨b2, c2, q1, q2, q3, q4, q5, q6⟩ := hs.chunk n _ hg
      have : b2 = b := by rw [hb] at q1; exact (Option.some.inj q1).symm
      subst this
      have hr := (q4.drop off').take os.length
      have hlen : ((c2.toList.drop off').take os.length).length = os.length := by
        have h7 : os.length = ((l.drop off').take (len * sz)).length := congrArg List.length hv.1
        have h8 := hv.2
        simp [List.length_take, List.length_drop] at h7 ⊢
        omega
      have e1 := run_cells (P := P) q3 hlen
      have e2 := run_cells (P := P) (w := w') (by rw [hw']; exact q3) hlen
      rw [e1] at h1; rw [e2] at h1'
      simp only [Result.ok.injEq, Array.mk.injEq, and_true] at h1 h1'
      rw [← h1, ← h1']
    rw [hus] at h1'
    rw [hv.2] at h1'
    simp only [Builtin.firstCells]
    exact h1'
  · have hz : os = [] := by
      have := hv.2; simp at this; exact this
    subst hz
    exact ⟨[], .nil, by simp, fun w' _ => by simp [Builtin.firstCells, loadCells, loadCellsFrom]⟩

theorem one_of_rel {r : Env} {vs us : List Value} (h : RelL r vs us) (hc : vs.all isCell = true) : ∀ u ∈ us, u.oneCell' = true := by
  intro u hu
  obtain ⟨i, hi, rfl⟩ := List.getElem_of_mem hu
  obtain ⟨x, hx, hrel⟩ := h.get' i us[i] (by simp)
  have := hrel.cell_ok (List.all_eq_true.1 hc x (List.mem_of_getElem? hx))
  generalize us[i] = v at this
  cases v <;> first | rfl | exact absurd rfl (this.1 _) | exact absurd rfl (this.2 _)

/-- Append grows: a new row. -/
theorem append_grows {r : Env} {ow : Nat → Option Nat} {w : World} {s : St} {t tx ty e e' : TypeId} {i : TypeInfo} {z : Value} {base : Option Addr} {len cap l : Nat} {x : Value} {os vs us ns : List Value} {R W : List Nat} {V : List VC} {kk : Nat}
    (hs : Sat P r ow s.h w) (hf : Fresh r s.c (s.c + 1)) (hD : P.underlying t = some (.slice e)) (hx : P.underlying tx = some (.slice e')) (hi : P.info? e = some i) (hz : i.zero = some z) (hzl : (cellsL z).length = i.size)
    (hold : RelL r os us) (hnew : RelL r vs ns) (hol : us.length = len * i.size) (hnl : ns.length = l * i.size) (hc : vs.all isCell = true)
    (ho : ∀ w' : World, w'.heap = w.heap → (Builtin.firstCells i.size len (.slice base len cap)).run P w' = .ok us.toArray w') (hlen : ∀ w' : World, (Builtin.lenOf x).run P w' = .ok l w')
    (hn : ∀ w' : World, w'.heap = w.heap → (Builtin.firstCells i.size l x).run P w' = .ok ns.toArray w') (hg : cap < len + l) (hb : bigOk (len + l) i.bytes = true) :
    ∃ r' ow' u w', (Builtin.append_ #[t, tx] ty #[.slice base len cap, x]).run P w = .ok u w' ∧ Post P r ow w s r' ow' w' ⟨s.c + 1, kk, s.h.put s.c (.cells (os ++ vs) e), R, W, V⟩ ∧ Rel r' (.slice (some ⟨s.c, 0, none⟩) (len + l) 0) u := by
  have hsrc : Src P i.size tx x l ns w := ⟨.inl ⟨_, hx⟩, hlen, hn w rfl, hn w.drew rfl, hnl, one_of_rel hnew hc⟩
  obtain ⟨h1, h2⟩ := bigOk_cap hb hg
  have hrun := run_append_grow_src (P := P) w t tx ty e i z hD hi hz base len cap us (ho w.drew rfl) x l ns hsrc hg h2 h1
  have hcap : len + l ≤ grownCap w (len + l) cap e := by simp only [grownCap, Question.cut]; exact Nat.le_add_right _ _
  generalize grownCap w (len + l) cap e = N at hrun hcap
  have hs' : Sat P r ow s.h w.drew := hs.drew rfl
  have hzs : z.cells.size = i.size := by rw [← Array.length_toList, cells_eq, hzl]
  have hzc : (Builtin.zeroCells z.cells (N - (len + l))).toList.length = (N - (len + l)) * i.size := by simp [Builtin.zeroCells, hzs]
  have hp := post_new (P := P) (w := w.drew) (s := s) (t := e) (k := N) (l := os ++ vs) (cs := us ++ ns ++ (Builtin.zeroCells z.cells (N - (len + l))).toList) hs' hf
    (by rw [List.append_assoc]
        have := hold.append hnew
        rw [this.length, ← List.append_assoc, List.take_left']
        · exact this
        · rfl)
    (by rw [(hold.append hnew).length]; simp) (by
      rw [List.length_append, List.length_append, hzc, hol, hnl, cellsOf_eq hi, ← Nat.add_mul, ← Nat.add_mul]
      congr 1; omega) R W V kk
  refine ⟨r.bind s.c w.heap.size N, own ow w.heap.size s.c, _, _, hrun, ?_, ?_⟩
  · have hw : (⟨us ++ ns ++ (Builtin.zeroCells z.cells (N - (len + l))).toList⟩ : Array Value) = (us ++ ns).toArray ++ Builtin.zeroCells z.cells (N - (len + l)) := by
      apply Array.ext'; simp
    rw [hw] at hp
    exact ⟨hp.le, hp.sat, (Frame.drew (ow := ow) (w := w) (w' := w.drew) rfl rfl rfl rfl).trans hp.frame, hp.new, hp.mono, hp.own⟩
  · exact .slice (by simp [Env.bind]) (.inl rfl) hcap (fun _ => ⟨rfl, rfl, by simp [Env.bind]⟩) (fun e => by cases e)

/-- Append finds room: the block bears another name from now on. -/
theorem append_room {r : Env} {ow : Nat → Option Nat} {w : World} {s : St} {t tx ty e e' : TypeId} {i : TypeInfo} {b n len l : Nat} {x : Value} {os vs us ns l0 : List Value} {R W : List Nat} {V : List VC} {kk : Nat}
    (hs : Sat P r ow s.h w) (hf : Fresh r s.c (s.c + 1)) (hD : P.underlying t = some (.slice e)) (hx : P.underlying tx = some (.slice e')) (hi : P.info? e = some i)
    (hb : r.blk n = some b) (hg : s.h.get n = some (.cells l0 e)) (hold : RelL r os us) (hnew : RelL r vs ns) (hnl : ns.length = l * i.size) (hc : vs.all isCell = true) (hos : os = (l0.drop 0).take (len * i.size) ∧ os.length = len * i.size)
    (hlen : ∀ w' : World, (Builtin.lenOf x).run P w' = .ok l w') (hn : (Builtin.firstCells i.size l x).run P w = .ok ns.toArray w) (hroom : len + l ≤ r.cap n) :
    ∃ r' ow' u w', (Builtin.append_ #[t, tx] ty #[.slice (some ⟨b, 0, none⟩) len (r.cap n), x]).run P w = .ok u w' ∧ Post P r ow w s r' ow' w' ⟨s.c + 1, kk, (s.h.del n).put s.c (.cells (os ++ vs) e), R, W, V⟩ ∧ Rel r' (.slice (some ⟨s.c, 0, none⟩) (len + l) 0) u := by
  obtain ⟨b', c, q1, q2, q3, q4, q5, q6⟩ := hs.chunk n _ hg
  obtain rfl : b' = b := by rw [hb] at q1; exact (Option.some.inj q1).symm
  have hsz : c.size = r.cap n * i.size := by rw [q6, cellsOf_eq hi]
  have hfit : len * i.size + ns.length ≤ c.size := by
    rw [hnl, hsz, ← Nat.add_mul]; exact Nat.mul_le_mul_right _ hroom
  obtain ⟨w', e1, e2⟩ := run_storeCells (P := P) (b := b') (off := len * i.size) (t := e) ns 0 c w q3 (by omega) (fun u hu => by
    obtain ⟨k, hk, rfl⟩ := List.getElem_of_mem hu
    obtain ⟨y, hy, hrel⟩ := hnew.get' k ns[k] (by simp)
    exact hrel.cell_ok (List.all_eq_true.1 hc y (List.mem_of_getElem? hy)))
  have hfr := hf s.c (Nat.le_refl _) (Nat.lt_succ_self _)
  have hne : n ≠ s.c := fun e => by subst e; rw [hb] at hfr; cases hfr.1
  have hle := Env.le_bind (n := s.c) (b := b') (k := r.cap n) hfr.1
  refine ⟨r.bind s.c b' (r.cap n), own ow b' s.c, .slice (some ⟨b', 0, none⟩) (len + l) (r.cap n), w', ?_, ⟨hle, ⟨fun m cc hm => ?_, fun k m hk => ?_, fun k m hk => ?_⟩, ⟨e2.os, e2.tape, e2.output, Nat.le_of_eq e2.size.symm, fun k hk ho => ?_⟩, New.bind, Nat.le_succ _, own_new⟩, .slice (by simp [Env.bind]) (.inl rfl) hroom (fun _ => ⟨rfl, rfl, by simp [Env.bind]⟩) (fun e => by cases e)⟩
  · have e1' : (storeCells ((⟨b', 0, none⟩ : Addr).add (len * i.size)) ns).run P w = .ok () w' := by rw [add_off, Nat.zero_add]; exact e1
    simp [Builtin.append_, run_underlying hD, run_underlying hx, run_size hi, hlen, hroom, hn, e1']
  · rw [Heap.get_put] at hm
    split at hm
    · rename_i e3; subst e3; cases hm
      refine ⟨b', _, by simp [Env.bind], by simp [own], e2.at_, ?_, ?_, ?_⟩
      · refine RelL.mono hle ?_
        show RelL r (os ++ vs) ((setAll c.toList (len * i.size + 0) ns).take (os ++ vs).length)
        rw [Nat.add_zero, setAll_split _ _ _ (by simpa using hfit)]
        have h1 : (os ++ vs).length = (c.toList.take (len * i.size) ++ ns).length := by
          rw [List.length_append, List.length_append, hos.2, hnew.length, List.length_take]
          have : len * i.size ≤ c.toList.length := by simp; omega
          omega
        rw [h1, List.take_left]
        refine RelL.append ?_ hnew
        have h2 := q4.take (len * i.size)
        have h3 : os = l0.take (len * i.size) := by simpa using hos.1
        rw [← h3, List.take_take] at h2
        have h4 : min (len * i.size) l0.length = len * i.size := by
          have := congrArg List.length h3
          rw [hos.2, List.length_take] at this; omega
        rw [h4] at h2; exact h2
      · simp only [List.size_toArray, setAll_length]
        rw [List.length_append, hos.2, hnew.length]; simpa using hfit
      · simp only [List.size_toArray, setAll_length]
        simpa [Env.bind] using q6
    · rename_i e3
      rw [Heap.get_del] at hm
      split at hm
      · cases hm
      · rename_i e4
        refine Chunk.sat_keep (w := w) (ow := ow) (fun k hk => e2.other k (fun e5 => ?_)) (fun k => ?_) (Chunk.sat_mono hle (hs.chunk m cc hm))
        · subst e5; rw [q2] at hk; exact e4 (Option.some.inj hk).symm
        · unfold own
          split
          · rename_i e6; subst e6
            exact ⟨fun e7 => absurd (Option.some.inj e7).symm e3, fun e7 => by rw [q2] at e7; exact absurd (Option.some.inj e7).symm e4⟩
          · exact Iff.rfl
  · rw [e2.size]
    unfold own at hk
    split at hk
    · rename_i e3; subst e3; exact hs.bound _ _ q2
    · exact hs.bound _ _ hk
  · unfold own at hk
    split at hk
    · cases hk; exact .inl (by simp [Env.bind])
    · exact hle.known (hs.known k m hk)
  · have hkb : k ≠ b' := fun e3 => by subst e3; rw [q2] at ho; cases ho
    exact ⟨by simp [own, hkb, ho], e2.other k hkb⟩

theorem snd_appendN (t tx ty : TypeId) (sv x : Value) : Snd P (exAppendN P t tx sv x) (fun r m => ∃ u y, Rel r sv u ∧ Rel r x y ∧ m = Builtin.append_ #[t, tx] ty #[u, y]) := by
  intro d s v s' h
  unfold exAppendN at h
  cases hD : P.underlying t with
  | none => simp [hD, X.fail] at h
  | some D =>
  cases D <;> simp only [hD] at h <;> try (simp [X.fail] at h; done)
  rename_i e
  cases hx : P.underlying tx with
  | none => simp [hx, X.fail] at h
  | some D =>
  cases D <;> simp only [hx] at h <;> try (simp [X.fail] at h; done)
  rename_i e'
  cases hi : P.info? e with
  | none => simp [hi, X.fail] at h
  | some i =>
  simp only [hi] at h
  obtain ⟨_, s0, h0, h1⟩ := bind_some h
  obtain ⟨hsl, rfl⟩ := need_some h0
  split at h1
  · -- nothing: nil
    obtain ⟨rfl, rfl⟩ := pure_some h1
    refine ⟨id, fun hV r ow w m hs hf ⟨u, y, hu, hy, hm⟩ => ⟨r, ow, u, w, ?_, Post.calm hs (Calm.refl _), hu⟩⟩
    subst hm
    cases hy
    cases sv <;> try (simp [isSlice] at hsl; done)
    cases hu with
    | sliceNil => exact run_append_nothing w t tx ty e i hD hi none 0 0 (Nat.le_refl _) _ (Src.ofNil w hx 0)
    | slice _ _ hl _ _ => exact run_append_nothing w t tx ty e i hD hi _ _ _ hl _ (Src.ofNil w hx 0)
    | litSlice hl _ => exact run_append_nothing w t tx ty e i hD hi _ _ _ hl _ (Src.ofNil w hx 0)
  · rename_i mm offm l mk
    obtain ⟨zb, s1, h2, h3⟩ := bind_some h1
    obtain ⟨cm1, hz⟩ := calm_ask h2
    cases zb with
    | true =>
      simp only at h3
      obtain ⟨rfl, rfl⟩ := pure_some h3
      refine ⟨cm1.V, fun hV r ow w m hs hf ⟨u, y, hu, hy, hm⟩ => ⟨r, ow, u, w, ?_, Post.calm hs cm1, hu⟩⟩
      have hl0 := Nat.eq_of_beq_eq_true (hz hV)
      subst hl0
      subst hm
      cases hy with
      | @slice _ b _ off' _ _ c hbm hom hlm h0m h2m =>
      have hsrc : Src P i.size tx (.slice (some ⟨b, off', none⟩) 0 c) 0 [] w := Src.ofSlice w hx ⟨b, off', none⟩ 0 c [] (by simp) (fun j u hj => by simp at hj) (fun u hu => by cases hu)
      cases sv <;> try (simp [isSlice] at hsl; done)
      cases hu with
      | sliceNil => exact run_append_nothing w t tx ty e i hD hi none 0 0 (Nat.le_refl _) _ hsrc
      | slice _ _ hl _ _ => exact run_append_nothing w t tx ty e i hD hi _ _ _ hl _ hsrc
      | litSlice hl _ => exact run_append_nothing w t tx ty e i hD hi _ _ _ hl _ hsrc
    | false =>
      simp only at h3
      obtain ⟨_, s2, h4, h5⟩ := bind_some h3
      obtain ⟨⟨z, hzz, hzl⟩, rfl⟩ := calm_zeroOk h4
      obtain ⟨vs, s3, h6, h7⟩ := bind_some h5
      obtain ⟨cm2, lm, tm, hgm, hvs⟩ := cells_some h6
      obtain ⟨_, s4, h8, h9⟩ := bind_some h7
      obtain ⟨hcell, rfl⟩ := need_some h8
      have cm12 := cm1.trans cm2
      unfold exAppend1 at h9
      split at h9
      · -- onto nil
        obtain ⟨_, s5, h10, h11⟩ := bind_some h9
        obtain ⟨cm3, hbig⟩ := calm_chk h10
        obtain ⟨n, s6, h12, h13⟩ := bind_some h11
        obtain ⟨rfl, rfl⟩ := new_some h12
        obtain ⟨rfl, rfl⟩ := pure_some h13
        refine ⟨fun hV => cm12.V (cm3.V hV), fun hV r ow w m hs hf ⟨u, y, hu, hy, hm⟩ => ?_⟩
        have hs5 : Sat P r ow s5.h w := by rw [cm3.h, cm12.h]; exact hs
        have hc5 : s5.c = s.c := by rw [cm3.c, cm12.c]
        have hvs' := hvs (cm3.V hV)
        have hgm' : s5.h.get mm = some (.cells lm tm) := by rw [cm3.h, cm2.h]; exact hgm
        have hlne : l ≠ 0 := by
          have := hz (cm2.V (cm3.V hV))
          exact Nat.ne_of_beq_eq_false this
        cases hu
        cases hy with
        | @slice _ b _ off' _ _ c hbm hom hlm h0m h2m =>
        subst hm
        obtain ⟨ns, g1, g2, g3⟩ := slice_cells (P := P) hs5 hbm hom hgm' hvs' (mk := l) (c := c)
        obtain ⟨r', ow', u, w', e1, e2, e3⟩ := append_grows (P := P) (s := s5) (ty := ty) (base := none) (len := 0) (cap := 0) (x := .slice (some ⟨b, off', none⟩) l c) (os := []) (us := []) (R := s5.R) (W := s5.c :: s5.W) (V := s5.V) (kk := s5.k)
          hs5 (by rw [hc5]; exact hf.sub (Nat.le_refl _) (by show s.c + 1 ≤ s5.c + 1; omega)) hD hx hi hzz hzl .nil g1 (by simp) g2 hcell (fun w' _ => by simp [Builtin.firstCells]) (fun w' => by simp [Builtin.lenOf]) g3 (by omega) (by rw [Nat.zero_add]; exact hbig hV)
        refine ⟨r', ow', u, w', e1, ?_, by simpa using e3⟩
        have e2' := (Post.calm (P := P) hs (cm12.trans cm3)).trans e2
        simpa using e2'
      · rename_i n off len mk2
        obtain ⟨os, s5, h10, h11⟩ := bind_some h9
        obtain ⟨cm3, ln, tn, hgn, hos⟩ := cells_some h10
        obtain ⟨_, s6, h12, h13⟩ := bind_some h11
        obtain ⟨cm4, hbig⟩ := calm_chk h12
        have cm14 := cm12.trans (cm3.trans cm4)
        split at h13
        · -- the whole block
          obtain ⟨_, s7, h14, h15⟩ := bind_some h13
          obtain ⟨⟨l0, hg0⟩, cm5⟩ := calm_rowType h14
          have cm15 := cm14.trans cm5
          obtain ⟨_, s8, h16, h17⟩ := bind_some h15
          obtain ⟨_, rfl⟩ := drop_some h16
          obtain ⟨n', s9, h18, h19⟩ := bind_some h17
          obtain ⟨rfl, rfl⟩ := new_some h18
          obtain ⟨rfl, rfl⟩ := pure_some h19
          refine ⟨fun hV => cm15.V hV, fun hV r ow w m hs hf ⟨u, y, hu, hy, hm⟩ => ?_⟩
          have hV5 : VCs s6.V := cm5.V hV
          have hs7 : Sat P r ow s7.h w := by rw [cm15.h]; exact hs
          have hc7 : s7.c = s.c := cm15.c
          have hf7 : Fresh r s7.c (s7.c + 1) := by rw [hc7]; exact hf.sub (Nat.le_refl _) (by show s.c + 1 ≤ s7.c + 1; omega)
          have hvs' := hvs (cm3.V (cm4.V hV5))
          have hos' := hos (cm4.V hV5)
          have hgm' : s7.h.get mm = some (.cells lm tm) := by rw [cm5.h, cm4.h, cm3.h, cm2.h]; exact hgm
          have hgn' : s7.h.get n = some (.cells ln tn) := by rw [cm5.h, cm4.h, cm3.h]; exact hgn
          have hg0' : s7.h.get n = some (.cells l0 e) := by rw [cm5.h]; exact hg0
          obtain ⟨rfl, rfl⟩ : ln = l0 ∧ tn = e := by rw [hgn'] at hg0'; cases hg0'; exact ⟨rfl, rfl⟩
          subst hm
          cases hu with
          | @slice _ bn _ offn _ _ cn hbn hon hln h0n h2n =>
          obtain ⟨rfl, rfl, rfl⟩ := h0n rfl
          cases hy with
          | @slice _ b _ off' _ _ c hbm hom hlm h0m h2m =>
          obtain ⟨ns, g1, g2, g3⟩ := slice_cells (P := P) hs7 hbm hom hgm' hvs' (mk := l) (c := c)
          obtain ⟨us, k1, k2, k3⟩ := slice_cells (P := P) hs7 hbn (.inl rfl) hgn' hos' (mk := len) (c := r.cap n)
          have hpc := Post.calm (P := P) hs cm15
          by_cases hroom : len + l ≤ r.cap n
          · obtain ⟨r', ow', u, w', e1, e2, e3⟩ := append_room (P := P) (s := s7) (ty := ty) (x := .slice (some ⟨b, off', none⟩) l c) (R := s7.R) (W := s7.c :: n :: s7.W) (V := s7.V) (kk := s7.k)
              hs7 hf7 hD hx hi hbn hgn' k1 g1 g2 hcell hos' (fun w' => by simp [Builtin.lenOf]) (g3 w rfl) hroom
            exact ⟨r', ow', u, w', e1, hpc.trans e2, e3⟩
          · have hs8 : Sat P r ow (s7.h.del n) w := hs7.del n
            obtain ⟨r', ow', u, w', e1, e2, e3⟩ := append_grows (P := P) (s := ⟨s7.c, s7.k, s7.h.del n, s7.R, n :: s7.W, s7.V⟩) (ty := ty) (base := some ⟨bn, 0, none⟩) (len := len) (cap := r.cap n) (x := .slice (some ⟨b, off', none⟩) l c) (R := s7.R) (W := s7.c :: n :: s7.W) (V := s7.V) (kk := s7.k)
              hs8 hf7 hD hx hi hzz hzl k1 g1 k2 g2 hcell k3 (fun w' => by simp [Builtin.lenOf]) g3 (by omega) (hbig (hV5))
            refine ⟨r', ow', u, w', e1, hpc.trans ⟨e2.le, e2.sat, e2.frame, e2.new, e2.mono, e2.own⟩, e3⟩
        · -- cut to its length
          obtain ⟨n', s9, h18, h19⟩ := bind_some h13
          obtain ⟨rfl, rfl⟩ := new_some h18
          obtain ⟨rfl, rfl⟩ := pure_some h19
          refine ⟨fun hV => cm14.V hV, fun hV r ow w m hs hf ⟨u, y, hu, hy, hm⟩ => ?_⟩
          have hs7 : Sat P r ow s6.h w := by rw [cm14.h]; exact hs
          have hc7 : s6.c = s.c := cm14.c
          have hf7 : Fresh r s6.c (s6.c + 1) := by rw [hc7]; exact hf.sub (Nat.le_refl _) (by show s.c + 1 ≤ s6.c + 1; omega)
          have hvs' := hvs (cm3.V (cm4.V hV))
          have hos' := hos (cm4.V hV)
          have hgm' : s6.h.get mm = some (.cells lm tm) := by rw [cm4.h, cm3.h, cm2.h]; exact hgm
          have hgn' : s6.h.get n = some (.cells ln tn) := by rw [cm4.h, cm3.h]; exact hgn
          have hlne : l ≠ 0 := by
            have := hz (cm2.V (cm3.V (cm4.V hV)))
            exact Nat.ne_of_beq_eq_false this
          subst hm
          cases hu with
          | @slice _ bn _ offn _ _ cn hbn hon hln h0n h2n =>
          obtain rfl := h2n rfl
          cases hy with
          | @slice _ b _ off' _ _ c hbm hom hlm h0m h2m =>
          obtain ⟨ns, g1, g2, g3⟩ := slice_cells (P := P) hs7 hbm hom hgm' hvs' (mk := l) (c := c)
          obtain ⟨us, k1, k2, k3⟩ := slice_cells (P := P) hs7 hbn hon hgn' hos' (mk := cn) (c := cn)
          have hpc := Post.calm (P := P) hs cm14
          obtain ⟨r', ow', u, w', e1, e2, e3⟩ := append_grows (P := P) (s := s6) (ty := ty) (base := some ⟨bn, offn, none⟩) (len := cn) (cap := cn) (x := .slice (some ⟨b, off', none⟩) l c) (R := s6.R) (W := s6.c :: s6.W) (V := s6.V) (kk := s6.k)
            hs7 hf7 hD hx hi hzz hzl k1 g1 k2 g2 hcell k3 (fun w' => by simp [Builtin.lenOf]) g3 (by omega) (hbig hV)
          exact ⟨r', ow', u, w', e1, hpc.trans e2, e3⟩
        · simp [X.fail] at h13
      · simp [X.fail] at h9
  · simp [X.fail] at h1

/-- A bag's slice has another block, or more in its block. -/
theorem post_bag {r : Env} {ow : Nat → Option Nat} {w w2 : World} {s : St} {e : TypeId} {M n b2 c2 l2 kk : Nat} {cs : Array Value} {R W : List Nat} {V : List VC} (hs : Sat P r ow s.h w) (hf : Fresh r s.c (s.c + 1))
    (hb2 : b2 < w2.heap.size) (hat : w2.heap[b2]? = some (.cells cs e (0, 0))) (hsz : cs.size = c2 * P.cellsOf e) (hl : l2 ≤ c2) (hM : l2 ≤ M) (hsize : w.heap.size ≤ w2.heap.size)
    (hkeep : ∀ b, b < w.heap.size → b ≠ b2 → w2.heap[b]? = w.heap[b]?) (ho : w2.os = w.os) (ht : w2.tape = w.tape) (hu : w2.output = w.output) (hown : ow b2 = some n ∨ w.heap.size ≤ b2) :
    Post P r ow w s ⟨r.blk, r.cap, fun k => if k = s.c then some (.slice (some ⟨b2, 0, none⟩) l2 c2) else r.val k⟩ (own ow b2 s.c) w2 ⟨s.c + 1, kk, (s.h.del n).put s.c (.bag e M), R, W, V⟩ := by
  have hfr := hf s.c (Nat.le_refl _) (Nat.lt_succ_self _)
  have hle : r.Le ⟨r.blk, r.cap, fun k => if k = s.c then some (.slice (some ⟨b2, 0, none⟩) l2 c2) else r.val k⟩ := ⟨fun _ _ h => h, fun _ _ _ => rfl, fun k v hk => by
    have : k ≠ s.c := fun e => by subst e; rw [hfr.2] at hk; cases hk
    simp only [this, if_false]; exact hk⟩
  have hne : ∀ m k, ow k = some m → m ≠ n → k ≠ b2 := fun m k hk hmn e => by
    subst e
    rcases hown with q | q
    · rw [q] at hk; exact hmn (Option.some.inj hk).symm
    · have := hs.bound k m hk; omega
  refine ⟨hle, ⟨fun m cc hm => ?_, fun k m hk => ?_, fun k m hk => ?_⟩, ⟨ho, ht, hu, hsize, fun k hk hon => ?_⟩, ⟨fun m hm => .inl hm, fun m hm => ?_⟩, Nat.le_succ _, own_new⟩
  · rw [Heap.get_put] at hm
    split at hm
    · rename_i e3; subst e3; cases hm
      exact ⟨_, l2, c2, by simp, hM, .inr ⟨b2, cs, rfl, by simp [own], hat, hsz, hl⟩⟩
    · rename_i e3
      rw [Heap.get_del] at hm
      split at hm
      · cases hm
      · rename_i e4
        refine Chunk.sat_keep (w := w) (ow := ow) (fun k hk => hkeep k (hs.bound k m hk) (hne m k hk e4)) (fun k => ?_) (Chunk.sat_mono hle (hs.chunk m cc hm))
        unfold own
        split
        · rename_i e6; subst e6
          exact ⟨fun e7 => absurd (Option.some.inj e7).symm e3, fun e7 => absurd rfl (hne m k e7 e4)⟩
        · exact Iff.rfl
  · unfold own at hk
    split at hk
    · rename_i e3; subst e3; exact hb2
    · exact Nat.lt_of_lt_of_le (hs.bound _ _ hk) hsize
  · unfold own at hk
    split at hk
    · cases hk; exact .inr (by simp)
    · exact hle.known (hs.known k m hk)
  · have hkb : k ≠ b2 := fun e => by
      subst e
      rcases hown with q | q
      · rw [q] at hon; cases hon
      · omega
    exact ⟨by simp [own, hkb, hon], hkeep k hk hkb⟩
  · by_cases e3 : m = s.c
    · subst e3; exact .inr ⟨Nat.le_refl _, Nat.lt_succ_self _⟩
    · simp only [e3, if_false] at hm; exact .inl hm
theorem snd_appendB (t tx ty : TypeId) (n : Nat) (x : Value) : Snd P (exAppendB P t tx n x) (fun r m => ∃ u y, Rel r (.chan (some n)) u ∧ Rel r x y ∧ m = Builtin.append_ #[t, tx] ty #[u, y]) := by
  intro d s v s' h
  unfold exAppendB at h
  cases hD : P.underlying t with
  | none => simp [hD, X.fail] at h
  | some D =>
  cases D <;> simp only [hD] at h <;> try (simp [X.fail] at h; done)
  rename_i e
  cases hx : P.underlying tx with
  | none => simp [hx, X.fail] at h
  | some D =>
  cases D <;> simp only [hx] at h <;> try (simp [X.fail] at h; done)
  rename_i e'
  cases hi : P.info? e with
  | none => simp [hi, X.fail] at h
  | some i =>
  simp only [hi] at h
  split at h
  · rename_i mm offm l mk
    obtain ⟨_, s2, h4, h5⟩ := bind_some h
    obtain ⟨⟨z, hzz, hzl⟩, rfl⟩ := calm_zeroOk h4
    obtain ⟨vs, s3, h6, h7⟩ := bind_some h5
    obtain ⟨cm2, lm, tm, hgm, hvs⟩ := cells_some h6
    obtain ⟨_, s4, h8, h9⟩ := bind_some h7
    obtain ⟨hcell, rfl⟩ := need_some h8
    obtain ⟨cb, s5, h10, h11⟩ := bind_some h9
    obtain ⟨hgb, cm3⟩ := calm_rd h10
    split at h11
    · rename_i eb mx
      obtain ⟨_, s6, h12, h13⟩ := bind_some h11
      obtain ⟨heb, rfl⟩ := need_some h12
      have heq : e = eb := (Nat.eq_of_beq_eq_true heb).symm
      subst heq
      obtain ⟨_, s7, h14, h15⟩ := bind_some h13
      obtain ⟨cm4, hbig⟩ := calm_chk h14
      obtain ⟨_, s8, h16, h17⟩ := bind_some h15
      obtain ⟨_, rfl⟩ := drop_some h16
      obtain ⟨n', s9, h18, h19⟩ := bind_some h17
      obtain ⟨rfl, rfl⟩ := new_some h18
      obtain ⟨rfl, rfl⟩ := pure_some h19
      have cm := cm2.trans (cm3.trans cm4)
      refine ⟨fun hV => cm.V hV, fun hV r ow w m hs hf ⟨u, y, hu, hy, hm⟩ => ?_⟩
      have hs7 : Sat P r ow s7.h w := by rw [cm.h]; exact hs
      have hc7 : s7.c = s.c := cm.c
      have hf7 : Fresh r s7.c (s7.c + 1) := by rw [hc7]; exact hf.sub (Nat.le_refl _) (by show s.c + 1 ≤ s7.c + 1; omega)
      have hvs' := hvs (cm3.V (cm4.V hV))
      have hgm' : s7.h.get mm = some (.cells lm tm) := by rw [cm4.h, cm3.h, cm2.h]; exact hgm
      have hgb' : s7.h.get n = some (.bag e mx) := by rw [cm4.h, cm3.h]; exact hgb
      subst hm
      obtain ⟨a, l0, c0, g1, gm, g2⟩ := hs7.chunk n _ hgb'
      cases hu with
      | opq hu =>
      rw [g1] at hu
      cases hu
      cases hy with
      | @slice _ b _ off' _ _ c hbm hom hlm h0m h2m =>
      obtain ⟨ns, k1, k2, k3⟩ := slice_cells (P := P) hs7 hbm hom hgm' hvs' (mk := l + 1) (c := c)
      have hpc := Post.calm (P := P) hs cm
      have hbg := hbig hV
      -- what the slice holds
      have hold : ∃ us : List Value, us.length = l0 * i.size ∧ ∀ w' : World, w'.heap = w.heap → (Builtin.firstCells i.size l0 (.slice a l0 c0)).run P w' = .ok us.toArray w' := by
        rcases g2 with ⟨rfl, rfl, rfl⟩ | ⟨b0, cs, rfl, q2, q3, q4, q5⟩
        · exact ⟨[], by simp, fun w' _ => by simp [Builtin.firstCells]⟩
        · have hlen : ((cs.toList.drop 0).take (l0 * i.size)).length = l0 * i.size := by
            rw [List.drop_zero, List.length_take, Nat.min_eq_left]
            have := Nat.mul_le_mul_right i.size q5
            rw [cellsOf_eq hi] at q4
            simp only [Array.length_toList]
            omega
          exact ⟨_, hlen, fun w' hw' => by simpa [Builtin.firstCells] using run_cells (P := P) (w := w') (by rw [hw']; exact q3) hlen⟩
      obtain ⟨us, hul, hrunu⟩ := hold
      by_cases hroom : l0 + (l + 1) ≤ c0
      · rcases g2 with ⟨rfl, rfl, rfl⟩ | ⟨b0, cs, rfl, q2, q3, q4, q5⟩
        · omega
        · have hcsz : cs.size = c0 * i.size := by rw [q4, cellsOf_eq hi]
          have hfit : l0 * i.size + ns.length ≤ cs.size := by
            rw [k2, hcsz, ← Nat.add_mul]; exact Nat.mul_le_mul_right _ hroom
          obtain ⟨w2, e1, e2⟩ := run_storeCells (P := P) (b := b0) (off := l0 * i.size) (t := e) ns 0 cs w q3 (by omega) (fun u hu => by
            obtain ⟨k, hk, rfl⟩ := List.getElem_of_mem hu
            obtain ⟨y, hy, hrel⟩ := k1.get' k ns[k] (by simp)
            exact hrel.cell_ok (List.all_eq_true.1 hcell y (List.mem_of_getElem? hy)))
          have hp := post_bag (P := P) (s := s7) (n := n) (b2 := b0) (w2 := w2) (l2 := l0 + (l + 1)) (c2 := c0) (M := mx + (l + 1)) (kk := s7.k) (R := s7.R) (W := s7.c :: n :: s7.W) (V := s7.V) hs7 hf7 (by rw [e2.size]; exact hs7.bound _ _ q2) e2.at_
            (by rw [← q4]; simp [setAll_length]) hroom (by omega) (Nat.le_of_eq e2.size.symm) (fun b hb hne => e2.other b hne) e2.os e2.tape e2.output (.inl q2)
          refine ⟨_, _, .slice (some ⟨b0, 0, none⟩) (l0 + (l + 1)) c0, w2, ?_, hpc.trans hp, .opq (by simp)⟩
          have e1' : (storeCells ((⟨b0, 0, none⟩ : Addr).add (l0 * i.size)) ns).run P w = .ok () w2 := by rw [add_off, Nat.zero_add]; exact e1
          simp [Builtin.append_, run_underlying hD, run_underlying hx, run_size hi, Builtin.lenOf, hroom, k3 w rfl, e1']
      · have hsrc : Src P i.size tx (.slice (some ⟨b, off', none⟩) (l + 1) c) (l + 1) ns w := ⟨.inl ⟨_, hx⟩, fun w' => by simp [Builtin.lenOf], k3 w rfl, k3 w.drew rfl, k2, one_of_rel k1 hcell⟩
        have hbb : bigOk (l0 + (l + 1)) i.bytes = true := bigOk_mono (by omega) hbg
        obtain ⟨h1, h2⟩ := bigOk_cap hbb (show c0 < l0 + (l + 1) by omega)
        have hrun := run_append_grow_src (P := P) w t tx ty e i z hD hi hzz a l0 c0 us (hrunu w.drew rfl) (.slice (some ⟨b, off', none⟩) (l + 1) c) (l + 1) ns hsrc (by omega) h2 h1
        have hcap : l0 + (l + 1) ≤ grownCap w (l0 + (l + 1)) c0 e := by simp only [grownCap, Question.cut]; exact Nat.le_add_right _ _
        generalize grownCap w (l0 + (l + 1)) c0 e = N at hrun hcap
        have hzs : z.cells.size = i.size := by rw [← Array.length_toList, cells_eq, hzl]
        have hp := post_bag (P := P) (s := s7) (e := e) (n := n) (b2 := w.heap.size) (l2 := l0 + (l + 1)) (c2 := N) (M := mx + (l + 1)) (kk := s7.k) (R := s7.R) (W := s7.c :: n :: s7.W) (V := s7.V)
          (w2 := { w.drew with heap := w.drew.heap.push (.cells ((us ++ ns).toArray ++ Builtin.zeroCells z.cells (N - (l0 + (l + 1)))) e) }) (cs := (us ++ ns).toArray ++ Builtin.zeroCells z.cells (N - (l0 + (l + 1)))) hs7 hf7 (by show w.heap.size < (w.heap.push _).size; simp) (by show (w.heap.push _)[w.heap.size]? = some _; simp)
          (by
            rw [cellsOf_eq hi]
            simp only [Array.size_append, List.size_toArray, List.length_append, hul, k2]
            have : (Builtin.zeroCells z.cells (N - (l0 + (l + 1)))).size = (N - (l0 + (l + 1))) * i.size := by simp [Builtin.zeroCells, hzs]
            rw [this, ← Nat.add_mul, ← Nat.add_mul]
            congr 1; omega) hcap (by omega) (by show w.heap.size ≤ (w.heap.push _).size; simp) (fun b hb hne => by show (w.heap.push _)[b]? = _; rw [Array.getElem?_push]; simp [hne]) rfl rfl rfl (.inr (Nat.le_refl _))
        exact ⟨_, _, _, _, hrun, hpc.trans hp, .opq (by simp)⟩
    · simp [X.fail] at h11
  · simp [X.fail] at h
theorem snd_append (t tx ty : TypeId) (sv x : Value) : Snd P (exAppend P t tx sv x) (fun r m => ∃ u y, Rel r sv u ∧ Rel r x y ∧ m = Builtin.append_ #[t, tx] ty #[u, y]) := by
  unfold exAppend
  split
  · exact snd_appendB t tx ty _ x
  · exact snd_appendN t tx ty sv x

end
end Go.Sx
