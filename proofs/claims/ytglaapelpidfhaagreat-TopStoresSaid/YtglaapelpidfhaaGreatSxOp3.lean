/- Symbolic executor, part 7: struct values, addresses, slices. No condition. -/
import Derived.Test.YtglaapelpidfhaaGreatSxOp2
import Derived.Deep.AppendSrc
import Derived.Deep.Upon
import Derived.Laws.MakeOwn
import Derived.Room.Entries
namespace Go.Sx

/-! Struct values: parts laid into a zero value. -/
def fillL (place : Nat → Option (Nat × Nat)) : List Value → List (Nat × Value) → Option (List Value)
  | cells, [] => some cells
  | cells, (i, v) :: rest => match place i with
    | some (off, size) => match isOpq v with
      | true => none
      | false => match Nat.beq (cellsL v).length size with
        | false => none
        | true => match Nat.ble (off + size) cells.length with
          | false => none
          | true => fillL place (setAll cells off (cellsL v)) rest
    | none => none

inductive RelP (r : Env) : List (Nat × Value) → List (Nat × Value) → Prop
  | nil : RelP r [] []
  | cons {i : Nat} {x y : Value} {xs ys : List (Nat × Value)} (h : Rel r x y) (t : RelP r xs ys) : RelP r ((i, x) :: xs) ((i, y) :: ys)

theorem fold_setAll : ∀ (l : List Value) (k off : Nat) (cs : Array Value),
    ((l.zipIdx k).foldl (fun cs (x : Value × Nat) => cs.setIfInBounds (off + x.2) x.1) cs) = ⟨setAll cs.toList (off + k) l⟩
  | [], k, off, cs => rfl
  | v :: l, k, off, cs => by
    simp only [List.zipIdx_cons, List.foldl_cons, setAll]
    rw [fold_setAll l (k + 1) off]
    simp [Nat.add_assoc]
theorem fold_setAll' (a : Array Value) (off : Nat) (cs : Array Value) : (a.zipIdx.foldl (fun cs (x : Value × Nat) => cs.setIfInBounds (off + x.2) x.1) cs) = ⟨setAll cs.toList off a.toList⟩ := by
  rw [← Array.foldl_toList, Array.toList_zipIdx, fold_setAll, Nat.add_zero]

theorem fillL_run {r : Env} {place : Nat → Option (Nat × Nat)} : ∀ {ps qs : List (Nat × Value)} {l l' cs : List Value}, RelP r ps qs → RelL r l cs → fillL place l ps = some l' →
    ∃ cs', Instr.fill place ⟨cs⟩ qs = some ⟨cs'⟩ ∧ RelL r l' cs' := by
  intro ps qs l l' cs hp
  induction hp generalizing l cs with
  | nil => intro hl h; simp [fillL] at h; subst h; exact ⟨cs, rfl, hl⟩
  | @cons i x y xs ys hx t ih =>
    intro hl h
    simp only [fillL] at h
    cases hpl : place i with
    | none => simp [hpl] at h
    | some q =>
      obtain ⟨off, size⟩ := q
      simp only [hpl] at h
      cases ho : isOpq x with
      | true => simp [ho] at h
      | false =>
        simp only [ho] at h
        cases hs : Nat.beq (cellsL x).length size with
        | false => simp [hs] at h
        | true =>
          simp only [hs] at h
          cases hb : Nat.ble (off + size) l.length with
          | false => simp [hb] at h
          | true =>
            simp only [hb] at h
            have hc := hx.cells_rel ho
            have h1 := Nat.eq_of_beq_eq_true hs
            have h2 := Nat.le_of_ble_eq_true hb
            obtain ⟨cs', e, hr⟩ := ih (setAll_rel hc off hl) h
            refine ⟨cs', ?_, hr⟩
            have hsz : y.cells.size = size := by rw [← Array.length_toList, cells_eq, ← hc.length, h1]
            have hlen : off + y.cells.size ≤ (⟨cs⟩ : Array Value).size := by rw [hsz]; show _ ≤ cs.length; rw [← hl.length]; exact h2
            simp only [Instr.fill, hpl]
            rw [if_neg (by simp [hsz]; simpa [hsz] using hlen)]
            have := fold_setAll' y.cells off ⟨cs⟩
            rw [cells_eq] at this
            rw [this]; exact e

theorem Rel.len_cells {r : Env} {v u : Value} (h : Rel r v u) (ho : isOpq v = false) : (cellsL v).length = (cellsL u).length := (h.cells_rel ho).length

/-- The place of a struct's field. -/
def fieldPl (P : Program) (fs : List Field) (i : Nat) : Option (Nat × Nat) := match fs[i]? with
  | some f => match P.info? f.type with
    | some j => some (f.offset, j.size)
    | none => none
  | none => none
def infosOk (P : Program) : List Field → Bool
  | [] => true
  | f :: fs => match P.info? f.type with
    | some _ => infosOk P fs
    | none => false

theorem run_places {P : Program} (w : World) : ∀ (fs : List Field), infosOk P fs = true → (fs.mapM (fun f => do pure (f.offset, ← sizeOf f.type) : Field → Sem (Nat × Nat))).run P w = .ok (fs.map fun f => (f.offset, P.cellsOf f.type)) w
  | [], _ => by simp
  | f :: fs, h => by
    simp only [infosOk] at h
    cases e : P.info? f.type with
    | none => simp [e] at h
    | some j =>
      simp only [e] at h
      have ih := run_places w fs h
      simp only [List.mapM_cons, Sem.run_bind, Sem.run_pure, run_size e, Result.andThen_ok, List.map_cons, cellsOf_eq e]
      rw [ih]; simp

def exBuild (P : Program) (t : TypeId) (ps : List (Nat × Value)) : X Value := X.bind (zeroV P t) fun z => match P.underlying t with
  | some (.struct fs) => match infosOk P fs.toList with
    | true => match fillL (fieldPl P fs.toList) (cellsL z) ps with
      | some cs => X.pure (.agg ⟨cs⟩)
      | none => X.fail
    | false => X.fail
  | _ => X.fail

theorem snd_build (P : Program) (t : TypeId) (ps : List (Nat × Value)) : Snd P (exBuild P t ps) (fun r m => ∃ qs, RelP r ps qs ∧ m = Instr.build t ⟨qs⟩) := by
  intro d s v s' h
  unfold exBuild at h
  obtain ⟨z, s1, h1, h2⟩ := bind_some h
  obtain ⟨⟨i, hi, hz⟩, hp, rfl⟩ := zero_some h1
  cases hD : P.underlying t with
  | none => simp [hD, X.fail] at h2
  | some D =>
    cases D <;> simp only [hD] at h2 <;> try (simp [X.fail] at h2; done)
    rename_i fs
    cases hio : infosOk P fs.toList with
    | false => simp [hio, X.fail] at h2
    | true =>
      simp only [hio] at h2
      cases hf : fillL (fieldPl P fs.toList) (cellsL z) ps with
      | none => simp [hf, X.fail] at h2
      | some cs =>
        simp only [hf] at h2
        obtain ⟨rfl, rfl⟩ := pure_some h2
        refine ⟨id, fun hV r ow w m hs hfr ⟨qs, hq, hm⟩ => ?_⟩
        obtain ⟨cs', e, hr⟩ := fillL_run hq (plainAll_rel (r := r) hp) hf
        refine ⟨r, ow, .agg ⟨cs'⟩, w, ?_, Post.calm hs (Calm.refl _), hr.mkAgg⟩
        subst hm
        have hpl : fieldPl P fs.toList = fun i => (((fs.toList.map fun f => (f.offset, P.cellsOf f.type)).toArray)[i]?) := by
          funext i
          unfold fieldPl
          simp only [List.getElem?_toArray, List.getElem?_map]
          cases hx : fs.toList[i]? with
          | none => rfl
          | some f =>
            have : ∀ (l : List Field), infosOk P l = true → ∀ f ∈ l, ∃ j, P.info? f.type = some j := by
              intro l
              induction l with
              | nil => intro _ f hf; cases hf
              | cons g l ih =>
                intro hl f hf
                simp only [infosOk] at hl
                cases eg : P.info? g.type with
                | none => simp [eg] at hl
                | some j =>
                  simp only [eg] at hl
                  rcases List.mem_cons.1 hf with rfl | hf
                  · exact ⟨j, eg⟩
                  · exact ih hl f hf
            obtain ⟨j, ej⟩ := this _ hio f (List.mem_of_getElem? hx)
            simp [ej, cellsOf_eq ej]
        have hzc : z.cells = ⟨cellsL z⟩ := by rw [← cells_eq]
        have hrp := run_places (P := P) w fs.toList hio
        rw [hpl] at e
        have hmap : (fs.mapM (fun f => do pure (f.offset, ← sizeOf f.type) : Field → Sem (Nat × Nat))).run P w = .ok ((fs.toList.map fun f => (f.offset, P.cellsOf f.type)).toArray) w := by
          rw [← Array.toArray_toList (xs := fs), List.mapM_toArray]
          simp only [Sem.run_map, hrp, Result.andThen_ok]
        simp only [Instr.build, Sem.run_bind, run_zero hi hz, run_underlying hD, Result.andThen_ok, hmap, hzc, e]
        simp

end Go.Sx
