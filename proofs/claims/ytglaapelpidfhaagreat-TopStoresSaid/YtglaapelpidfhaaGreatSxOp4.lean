/- Symbolic executor, part 8: addresses, slices, strings' bytes. No condition. -/
import Derived.Test.YtglaapelpidfhaaGreatSxOp3
namespace Go.Sx

section
variable {P : Program}

def zrow (zl : List Value) (m : Nat) : Nat → Nat → List Value
  | 0, _ => []
  | n + 1, j => zl.getD (j % m) default :: zrow zl m n (j + 1)
def zeroRow (zl : List Value) (n : Nat) : List Value := zrow zl zl.length n 0
theorem zrow_eq (zl : List Value) (m : Nat) : ∀ n j, zrow zl m n j = (List.range' j n).map fun k => zl.getD (k % m) default
  | 0, _ => rfl
  | n + 1, j => by rw [zrow, zrow_eq zl m n (j + 1), List.range'_succ, List.map_cons]
def zrep (zl : List Value) : Nat → List Value
  | 0 => []
  | n + 1 => zl ++ zrep zl n
theorem zeroRow_range (zl : List Value) (n : Nat) : zeroRow zl n = (List.range n).map fun j => zl.getD (j % zl.length) default := by
  rw [zeroRow, zrow_eq, List.range_eq_range']
theorem zeroRow_length (zl : List Value) (n : Nat) : (zeroRow zl n).length = n := by rw [zeroRow_range]; simp
theorem zrep_eq (zl : List Value) : ∀ n, zrep zl n = zeroRow zl (n * zl.length)
  | 0 => by simp [zrep, zeroRow_range]
  | n + 1 => by
    rw [zrep, zrep_eq zl n, zeroRow_range, zeroRow_range, show (n + 1) * zl.length = zl.length + n * zl.length by rw [Nat.succ_mul, Nat.add_comm], List.range_add, List.map_append, List.map_map]
    congr 1
    · apply List.ext_getElem
      · simp
      · intro i h1 h2
        have hi : i < zl.length := h1
        simp [List.getD, Nat.mod_eq_of_lt hi, hi]
    · apply List.map_congr_left
      intro j _
      simp
theorem zeroRow_eq (z : Array Value) (n : Nat) : ((Array.range n).map fun j => z[j % z.size]!) = ⟨zeroRow z.toList n⟩ := by
  apply Array.ext'
  simp only [zeroRow_range, Array.toList_map, Array.toList_range]
  apply List.map_congr_left
  intro j _
  simp [List.getD]
  rw [getElem!_def]
  cases z[j % z.size]? <;> rfl
theorem plain_mem {r : Env} : ∀ {l : List Value}, plainAll l = true → ∀ v ∈ l, Rel r v v
  | [], _, v, hv => by cases hv
  | x :: l, h, v, hv => by
    simp only [plainAll, Bool.and_eq_true] at h
    rcases List.mem_cons.1 hv with rfl | hv
    · exact plain_rel h.1
    · exact plain_mem h.2 v hv
theorem relL_same {r : Env} : ∀ {l : List Value}, (∀ v ∈ l, Rel r v v) → RelL r l l
  | [], _ => .nil
  | x :: l, h => .cons (h x List.mem_cons_self) (relL_same fun v hv => h v (List.mem_cons_of_mem _ hv))
theorem zeroRow_rel {r : Env} {zl : List Value} (h : plainAll zl = true) (n : Nat) : RelL r (zeroRow zl n) (zeroRow zl n) := by
  apply relL_same
  intro v hv
  rw [zeroRow_range] at hv
  obtain ⟨j, _, rfl⟩ := List.mem_map.1 hv
  rw [List.getD_eq_getElem?_getD]
  cases e : zl[j % zl.length]? with
  | none => exact Rel.bool false
  | some x => exact plain_mem h x (List.mem_of_getElem? e)

def exBuildSlice (P : Program) (t : TypeId) (len : Nat) (ps : List (Nat × Value)) : X Value := match P.underlying t with
  | some (.slice e) => X.bind (szOf P e) fun sz => X.bind (need (Nat.ble (len * sz) 16777216)) fun _ => match Nat.beq (len * sz) 0 with
    | true => match ps with
      | [] => X.bind (exRow e []) fun n => X.pure (.slice (some ⟨n, 0, none⟩) len 0)
      | _ => X.fail
    | false => X.bind (zeroV P e) fun z => match fillL (fun i => some (i * sz, sz)) (zeroRow (cellsL z) (len * sz)) ps with
      | some cs => X.bind (exRow e cs) fun n => X.pure (.slice (some ⟨n, 0, none⟩) len 0)
      | none => X.fail
  | _ => X.fail

theorem fillL_length {place : Nat → Option (Nat × Nat)} : ∀ {ps : List (Nat × Value)} {l l' : List Value}, fillL place l ps = some l' → l'.length = l.length
  | [], _, l', h => by simp [fillL] at h; subst h; rfl
  | (i, v) :: ps, l, l', h => by
    simp only [fillL] at h
    split at h
    · split at h
      · cases h
      · split at h
        · cases h
        · split at h
          · cases h
          · rw [fillL_length h, setAll_length]
    · cases h

theorem snd_buildSlice (t : TypeId) (len : Nat) (ps : List (Nat × Value)) : Snd P (exBuildSlice P t len ps) (fun r m => ∃ qs, RelP r ps qs ∧ m = Instr.buildSlice t len ⟨qs⟩) := by
  intro d s v s' h
  unfold exBuildSlice at h
  cases hD : P.underlying t with
  | none => simp [hD, X.fail] at h
  | some D =>
    cases D <;> simp only [hD] at h <;> try (simp [X.fail] at h; done)
    rename_i e
    obtain ⟨sz, s1, h1, h2⟩ := bind_some h
    obtain ⟨⟨i, hi, rfl⟩, rfl⟩ := sz_some h1
    obtain ⟨_, s2, h3, h4⟩ := bind_some h2
    obtain ⟨hfit, rfl⟩ := need_some h3
    have hfit' := Nat.le_of_ble_eq_true hfit
    have hfit2 : ¬ (16777216 < len * i.size) := by omega
    cases hz0 : Nat.beq (len * i.size) 0 with
    | true =>
      have h0 := Nat.eq_of_beq_eq_true hz0
      simp only [hz0] at h4
      cases ps with
      | cons _ _ => simp [X.fail] at h4
      | nil =>
        obtain ⟨n, s3, h5, h6⟩ := bind_some h4
        obtain ⟨rfl, rfl⟩ := new_some h5
        obtain ⟨rfl, rfl⟩ := pure_some h6
        refine ⟨id, fun hV r ow w m hs hf ⟨qs, hq, hm⟩ => ?_⟩
        cases hq
        have hp := post_new (P := P) (s := s) (t := e) (k := len) (l := []) (cs := []) hs hf .nil (Nat.le_refl _) (by rw [cellsOf_eq hi, h0]; rfl) s.R (s.c :: s.W) s.V s.k
        refine ⟨_, _, .slice (some ⟨w.heap.size, 0, none⟩) len len, _, ?_, hp, .slice (by simp [Env.bind]) (.inl rfl) (Nat.le_refl _) (fun _ => ⟨rfl, rfl, by simp [Env.bind]⟩) (fun _ => rfl)⟩
        subst hm
        simp [Instr.buildSlice, run_underlying hD, run_size hi, h0, Instr.fill, newRow, Array.range_zero']
    | false =>
      have h0 := Nat.ne_of_beq_eq_false hz0
      simp only [hz0] at h4
      obtain ⟨z, s3, h5, h6⟩ := bind_some h4
      obtain ⟨⟨i', hi', hz⟩, hp, rfl⟩ := zero_some h5
      obtain rfl : i = i' := by rw [hi] at hi'; exact Option.some.inj hi'
      cases hf : fillL (fun j => some (j * i.size, i.size)) (zeroRow (cellsL z) (len * i.size)) ps with
      | none => simp [hf, X.fail] at h6
      | some cs =>
        simp only [hf] at h6
        obtain ⟨n, s4, h7, h8⟩ := bind_some h6
        obtain ⟨rfl, rfl⟩ := new_some h7
        obtain ⟨rfl, rfl⟩ := pure_some h8
        refine ⟨id, fun hV r ow w m hs hfr ⟨qs, hq, hm⟩ => ?_⟩
        obtain ⟨cs', he, hr⟩ := fillL_run hq (zeroRow_rel (r := r) hp (len * i.size)) hf
        have hlen : cs.length = len * i.size := by rw [fillL_length hf]; simp [zeroRow_length]
        have hpost := post_new (P := P) (s := s) (t := e) (k := len) hs hfr (relL_take_self hr) (Nat.le_of_eq hr.length) (by rw [← hr.length, hlen, cellsOf_eq hi]) s.R (s.c :: s.W) s.V s.k
        refine ⟨_, _, .slice (some ⟨w.heap.size, 0, none⟩) len len, _, ?_, hpost, .slice (by simp [Env.bind]) (.inl rfl) (Nat.le_refl _) (fun _ => ⟨rfl, rfl, by simp [Env.bind]⟩) (fun _ => rfl)⟩
        subst hm
        have hzc : z.cells.toList = cellsL z := cells_eq z
        have h1 := zeroRow_eq z.cells (len * i.size)
        rw [hzc] at h1
        simp only [Instr.buildSlice, Sem.run_bind, run_underlying hD, run_size hi, Result.andThen_ok]
        simp [hfit2, h0, run_zero hi hz, h1, he, newRow]

/-- Any pointer: its name (or block), its place, its mark. -/
def placeOf : Value → X (Nat × Nat × Option Nat)
  | .pointer (some ⟨n, off, sp⟩) => X.pure (n, off, sp)
  | _ => X.fail
theorem Local.placeOf (v : Value) : Local (placeOf v) := by unfold Sx.placeOf; split; exact Local.pure _; exact Local.fail
theorem place_some {v : Value} {p : Nat × Nat × Option Nat} {d : Advice} {s s' : St} (h : placeOf v d s = some (p, s')) : v = .pointer (some ⟨p.1, p.2.1, p.2.2⟩) ∧ s = s' := by
  unfold placeOf at h
  split at h
  · obtain ⟨rfl, rfl⟩ := pure_some h; exact ⟨rfl, rfl⟩
  · simp [X.fail] at h
def exFieldAddr (P : Program) (t : TypeId) (a : Value) (i : Nat) : X Value := X.bind (placeOf a) fun p => match P.underlying t with
  | some (.struct fs) => match fs.toList[i]? with
    | some f => match P.info? f.type with
      | some j => match Nat.beq j.size 0 with
        | false => X.pure (.pointer (some ⟨p.1, p.2.1 + f.offset, p.2.2⟩))
        | true => X.fail
      | none => X.fail
    | none => X.fail
  | _ => X.fail
theorem snd_fieldAddr (t : TypeId) (a : Value) (i : Nat) : Snd P (exFieldAddr P t a i) (fun r m => ∃ u, Rel r a u ∧ m = Instr.fieldAt t u i) := by
  intro d s v s' h
  unfold exFieldAddr at h
  obtain ⟨p, s1, h1, h2⟩ := bind_some h
  obtain ⟨rfl, rfl⟩ := place_some h1
  cases hD : P.underlying t with
  | none => simp [hD, X.fail] at h2
  | some D =>
    cases D <;> simp only [hD] at h2 <;> try (simp [X.fail] at h2; done)
    rename_i fs
    cases hf : fs.toList[i]? with
    | none => simp [hf, X.fail] at h2
    | some f =>
      simp only [hf] at h2
      cases hj : P.info? f.type with
      | none => simp [hj, X.fail] at h2
      | some j =>
        simp only [hj] at h2
        cases hz : Nat.beq j.size 0 with
        | true => simp [hz, X.fail] at h2
        | false =>
          simp only [hz] at h2
          obtain ⟨rfl, rfl⟩ := pure_some h2
          refine ⟨id, fun hV r ow w m hs hfr ⟨u, hu, hm⟩ => ?_⟩
          obtain ⟨b, rfl, hb⟩ := hu.ptr_inv'
          refine ⟨r, ow, .pointer (some ⟨b, p.2.1 + f.offset, none⟩), w, ?_, Post.calm hs (Calm.refl _), hb _⟩
          subst hm
          have hne := Nat.ne_of_beq_eq_false hz
          have hf' : fs[i]? = some f := by rw [← hf]; simp
          simp [Instr.fieldAt, run_underlying hD, hf', Instr.sureAddr, fieldPlace, run_size hj, hne, add_off]

def exField (P : Program) (t : TypeId) (x : Value) (i : Nat) : X Value := match x with
  | .agg xs => match P.underlying t with
    | some (.struct fs) => match fs.toList[i]? with
      | some f => X.bind (aggT P f.type) fun g => match g with
        | true => X.bind (szOf P f.type) fun sz => X.pure (.agg ⟨(xs.toList.drop f.offset).take sz⟩)
        | false => opt xs.toList[f.offset]?
      | none => X.fail
    | _ => X.fail
  | _ => X.fail
theorem extract_drop (cs : Array Value) (off n : Nat) : cs.extract off (off + n) = ⟨(cs.toList.drop off).take n⟩ := by
  apply Array.ext'
  simp [Array.toList_extract, List.extract]
theorem snd_field (t : TypeId) (x : Value) (i : Nat) : Snd P (exField P t x i) (fun r m => ∃ u, Rel r x u ∧ m = Instr.field t u i) := by
  intro d s v s' h
  unfold exField at h
  cases x <;> try (simp [X.fail] at h; done)
  rename_i xs
  simp only at h
  cases hD : P.underlying t with
  | none => simp [hD, X.fail] at h
  | some D =>
    cases D <;> simp only [hD] at h <;> try (simp [X.fail] at h; done)
    rename_i fs
    cases hf : fs.toList[i]? with
    | none => simp [hf, X.fail] at h
    | some f =>
      simp only [hf] at h
      obtain ⟨g, s1, h1, h2⟩ := bind_some h
      obtain ⟨⟨E, hE, rfl⟩, rfl⟩ := agg_some h1
      have hf' : fs[i]? = some f := by rw [← hf]; simp
      cases hg : isAggD E with
      | true =>
        simp only [hg] at h2
        obtain ⟨sz, s2, h3, h4⟩ := bind_some h2
        obtain ⟨⟨j, hj, rfl⟩, rfl⟩ := sz_some h3
        obtain ⟨rfl, rfl⟩ := pure_some h4
        refine ⟨id, fun hV r ow w m hs hfr ⟨u, hu, hm⟩ => ?_⟩
        obtain ⟨us, rfl, hr⟩ := hu.agg_inv
        refine ⟨r, ow, .agg ⟨(us.toList.drop f.offset).take j.size⟩, w, ?_, Post.calm hs (Calm.refl _), ((hr.drop _).take _).mkAgg⟩
        subst hm
        simp [Instr.field, run_underlying hD, hf', asAgg, part, run_isAgg hE, hg, run_size hj, extract_drop]
      | false =>
        simp only [hg] at h2
        obtain ⟨he, rfl⟩ := opt_some h2
        refine ⟨id, fun hV r ow w m hs hfr ⟨u, hu, hm⟩ => ?_⟩
        obtain ⟨us, rfl, hr⟩ := hu.agg_inv
        obtain ⟨y, ey, hy⟩ := hr.get _ _ he
        refine ⟨r, ow, y, w, ?_, Post.calm hs (Calm.refl _), hy⟩
        subst hm
        have ey' : us[f.offset]? = some y := by rw [← ey]; simp
        simp [Instr.field, run_underlying hD, hf', asAgg, part, run_isAgg hE, hg, ey']

def exIndexAddr (P : Program) (t : TypeId) (x ix : Value) : X Value := match x, ix with
  | .slice (some ⟨n, off, sp⟩) l _, .int _ i => match P.underlying t with
    | some (.slice e) => X.bind (chk (decide (0 ≤ i ∧ i < (l : Int)))) fun _ => X.bind (szOf P e) fun sz => X.pure (.pointer (some ⟨n, off + i.toNat * sz, sp⟩))
    | _ => X.fail
  | _, _ => X.fail
theorem snd_indexAddr (t : TypeId) (x ix : Value) : Snd P (exIndexAddr P t x ix) (fun r m => ∃ u y, Rel r x u ∧ Rel r ix y ∧ m = Instr.indexAt t u y) := by
  intro d s v s' h
  unfold exIndexAddr at h
  split at h
  · rename_i n off sp l mk k i
    cases hD : P.underlying t with
    | none => simp [hD, X.fail] at h
    | some D =>
      cases D <;> simp only [hD] at h <;> try (simp [X.fail] at h; done)
      rename_i e
      obtain ⟨_, s1, h1, h2⟩ := bind_some h
      obtain ⟨cm, hk⟩ := calm_chk h1
      obtain ⟨sz, s2, h3, h4⟩ := bind_some h2
      obtain ⟨⟨j, hj, rfl⟩, rfl⟩ := sz_some h3
      obtain ⟨rfl, rfl⟩ := pure_some h4
      refine ⟨cm.V, fun hV r ow w m hs hfr ⟨u, y, hu, hy, hm⟩ => ?_⟩
      have hb := of_decide_eq_true (hk hV)
      cases hy
      cases hu with
      | @slice _ b _ off' _ _ c hbk ho hl h0 h2' =>
        have hoff : off' = off := by
          rcases ho with e | e
          · exact e
          · subst e; have := hb.2; have := hb.1; omega
        subst hoff
        refine ⟨r, ow, .pointer (some ⟨b, off' + i.toNat * j.size, none⟩), w, ?_, Post.calm hs cm, .ptr hbk⟩
        subst hm
        simp [Instr.indexAt, run_underlying hD, asIntOf, hb, run_size hj, add_off]
      | @litSlice _ _ _ _ _ sp hl hsp =>
        obtain rfl : sp = none := hsp.resolve_right (by omega)
        refine ⟨r, ow, .pointer (some ⟨n, off + i.toNat * j.size, none⟩), w, ?_, Post.calm hs cm, .litPtr⟩
        subst hm
        simp [Instr.indexAt, run_underlying hD, asIntOf, hb, run_size hj, add_off]
  · simp [X.fail] at h

def exIndex (P : Program) (t : TypeId) (x ix : Value) : X Value := match x, ix with
  | .string s, .int _ i => match P.underlying t with
    | some .string => X.bind (chk (decide (0 ≤ i ∧ i < (s.data.toList.length : Int)))) fun _ => X.pure (.int .u8 (((s.data.toList.getD i.toNat 0).toNat : Nat) : Int))
    | _ => X.fail
  | _, _ => X.fail
theorem snd_index (t : TypeId) (x ix : Value) : Snd P (exIndex P t x ix) (fun r m => ∃ u y, Rel r x u ∧ Rel r ix y ∧ m = Instr.index t u y) := by
  intro d s v s' h
  unfold exIndex at h
  split at h
  · rename_i sx k i
    cases hD : P.underlying t with
    | none => simp [hD, X.fail] at h
    | some D =>
      cases D <;> simp only [hD] at h <;> try (simp [X.fail] at h; done)
      obtain ⟨_, s1, h1, h2⟩ := bind_some h
      obtain ⟨cm, hk⟩ := calm_chk h1
      obtain ⟨rfl, rfl⟩ := pure_some h2
      refine ⟨cm.V, fun hV r ow w m hs hfr ⟨u, y, hu, hy, hm⟩ => ?_⟩
      have hb := of_decide_eq_true (hk hV)
      cases hy; cases hu
      refine ⟨r, ow, _, w, ?_, Post.calm hs cm, .int _ _⟩
      subst hm
      have hlt : i.toNat < sx.data.toList.length := by omega
      have hg : sx[i.toNat]? = some (sx.data.toList.getD i.toNat 0) := by
        have h2 : i.toNat < sx.size := hlt
        rw [getElem?_pos sx i.toNat h2]
        congr 1
        rw [List.getD_eq_getElem?_getD, List.getElem?_eq_getElem hlt]
        rfl
      simp [Instr.index, run_underlying hD, asIntOf, hb.1, hg]
  · simp [X.fail] at h

def exLen (P : Program) (t : TypeId) (x : Value) : X Value := match x with
  | .slice _ l _ => (match P.underlying t with
    | some (.slice _) => X.pure (.int .i64 (l : Int))
    | _ => X.fail)
  | .string s => (match P.underlying t with
    | some .string => X.pure (.int .i64 (s.data.toList.length : Int))
    | _ => X.fail)
  | .map (some n) => (match P.underlying t with
    | some (.map _ _) => X.bind (X.rd n) fun c => (match c with
      | .map es => X.pure (.int .i64 (es.length : Int))
      | _ => X.fail)
    | _ => X.fail)
  | _ => X.fail
theorem snd_len (t ty : TypeId) (x : Value) : Snd P (exLen P t x) (fun r m => ∃ u, Rel r x u ∧ m = Builtin.len_ #[t] ty #[u]) := by
  intro d s v s' h
  unfold exLen at h
  split at h
  · rename_i a l c
    cases hD : P.underlying t with
    | none => simp [hD, X.fail] at h
    | some D =>
      cases D <;> simp only [hD] at h <;> try (simp [X.fail] at h; done)
      obtain ⟨rfl, rfl⟩ := pure_some h
      refine ⟨id, fun hV r ow w m hs hfr ⟨u, hu, hm⟩ => ⟨r, ow, .int .i64 (l : Int), w, ?_, Post.calm hs (Calm.refl _), .int _ _⟩⟩
      subst hm
      cases hu <;> simp [Builtin.len_, run_underlying hD, goInt]
  · rename_i sx
    cases hD : P.underlying t with
    | none => simp [hD, X.fail] at h
    | some D =>
      cases D <;> simp only [hD] at h <;> try (simp [X.fail] at h; done)
      obtain ⟨rfl, rfl⟩ := pure_some h
      refine ⟨id, fun hV r ow w m hs hfr ⟨u, hu, hm⟩ => ⟨r, ow, .int .i64 (sx.data.toList.length : Int), w, ?_, Post.calm hs (Calm.refl _), .int _ _⟩⟩
      subst hm
      cases hu
      simp [Builtin.len_, run_underlying hD, goInt]
  · rename_i n
    cases hD : P.underlying t with
    | none => simp [hD, X.fail] at h
    | some D =>
      cases D <;> simp only [hD] at h <;> try (simp [X.fail] at h; done)
      obtain ⟨c, s1, h1, h2⟩ := bind_some h
      obtain ⟨hg, cm⟩ := calm_rd h1
      cases c <;> simp only at h2 <;> try (simp [X.fail] at h2; done)
      rename_i es
      obtain ⟨rfl, rfl⟩ := pure_some h2
      refine ⟨cm.V, fun hV r ow w m hs hfr ⟨u, hu, hm⟩ => ?_⟩
      cases hu with
      | map hb =>
      obtain ⟨b, es', kk, q1, q2, q3, q4, q5⟩ := hs.chunk n _ hg
      rename_i b0
      obtain rfl : b = b0 := by rw [hb] at q1; exact (Option.some.inj q1).symm
      have hgo : (getObj b).run P w = .ok (.map es' kk) w := by simp [getObj, Sem.run, q3]
      have hl : es.length = es'.size := by have := q4.length; simpa using this
      refine ⟨r, ow, .int .i64 (es.length : Int), w, ?_, Post.calm hs cm, .int _ _⟩
      subst hm
      simp [Builtin.len_, run_underlying hD, hgo, goInt, hl]
  · simp [X.fail] at h

end
end Go.Sx
