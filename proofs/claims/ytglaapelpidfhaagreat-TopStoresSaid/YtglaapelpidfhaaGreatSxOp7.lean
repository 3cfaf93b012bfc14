/- Symbolic executor, part 11: maps with integer keys, the small operations, and all operations together. No condition. -/
import Derived.Test.YtglaapelpidfhaaGreatSxOp6
namespace Go.Sx

section
variable {P : Program}

def findM (k : IntKind) (a : Int) : List (Value × Value) → Nat → Option (Option (Nat × Value))
  | [], _ => some none
  | (.int k' b, v) :: es, i => if k = k' then (match (a == b) with
    | true => some (some (i, v))
    | false => findM k a es (i + 1)) else none
  | _ :: _, _ => none

theorem findM_run {r : Env} {k j : IntKind} {a : Int} : ∀ {es : List (Value × Value)} {es' : List MapEntry} {i : Nat} {o : Option (Nat × Value)}, RelL r (es.map (·.1)) (es'.map (·.key)) → RelL r (es.map (·.2)) (es'.map (·.val)) → findM k a es i = some o →
    ∃ o', Instr.findNow (.int j) (.int k a) es' i = some o' ∧ (match o, o' with | none, none => True | some (x, v), some (y, u) => x = y ∧ Rel r v u | _, _ => False)
  | [], [], i, o, _, _, h => by simp [findM] at h; subst h; exact ⟨none, rfl, trivial⟩
  | [], _ :: _, _, _, h, _, _ => by cases h
  | _ :: _, [], _, _, h, _, _ => by cases h
  | (kx, vx) :: es, ⟨ek, ev, eb⟩ :: es', i, o, h1, h2, h => by
    cases h1 with
    | cons hk h1 =>
    cases h2 with
    | cons hv h2 =>
    cases kx <;> simp only [findM] at h <;> try (cases h; done)
    rename_i k' b
    cases hk
    split at h
    · rename_i e; subst e
      simp only [Instr.findNow, Instr.sameNow, if_true]
      cases hab : (a == b) with
      | true => simp only [hab] at h; cases h; exact ⟨_, rfl, rfl, hv⟩
      | false => simp only [hab] at h; exact findM_run h1 h2 h
    · cases h

/-- The search in a map, key by key. -/
def findX (k : IntKind) (a : Int) : List (Value × Value) → Nat → X (Option (Nat × Value))
  | [], _ => X.pure none
  | (.int k' b, v) :: es, i => if k = k' then X.bind (ask (a == b)) fun t => match t with
    | true => X.pure (some (i, v))
    | false => findX k a es (i + 1) else X.fail
  | _ :: _, _ => X.fail
theorem findX_some {k : IntKind} {a : Int} {d : Advice} {s' : St} : ∀ {es : List (Value × Value)} {i : Nat} {o : Option (Nat × Value)} {s : St}, findX k a es i d s = some (o, s') → Calm s s' ∧ (VCs s'.V → findM k a es i = some o)
  | [], _, _, _, h => by
    obtain ⟨rfl, rfl⟩ := pure_some h
    exact ⟨.refl _, fun _ => rfl⟩
  | (kx, vx) :: es, i, o, s, h => by
    cases kx <;> simp only [findX] at h <;> try (simp [X.fail] at h; done)
    rename_i k' b
    split at h
    · rename_i e; subst e
      obtain ⟨t, s1, h1, h2⟩ := bind_some h
      obtain ⟨c1, e1⟩ := calm_ask h1
      cases t with
      | true =>
        obtain ⟨rfl, rfl⟩ := pure_some h2
        exact ⟨c1, fun hV => by simp only [findM, if_true, e1 hV]⟩
      | false =>
        obtain ⟨c2, e2⟩ := findX_some h2
        exact ⟨c1.trans c2, fun hV => by simp only [findM, if_true, e1 (c2.V hV), e2 hV]⟩
    · simp [X.fail] at h

theorem run_checkKey {t : TypeId} {j : IntKind} {k : IntKind} {a : Int} (h : P.underlying t = some (.int j)) (b : Bool) (n : Nat) (w : World) : (Instr.checkKey b (n + 1) t (.int k a)).run P w = .ok () w := by
  simp [Instr.checkKey, run_underlying h]

def mapOf (P : Program) (t : TypeId) (m ix : Value) : X (Nat × IntKind × Int × TypeId × List (Value × Value)) := match m, ix with
  | .map (some n), .int k a => match P.underlying t with
    | some (.map kt et) => match P.underlying kt with
      | some (.int _) => X.bind (X.rd n) fun c => match c with
        | .map es => X.pure (n, k, a, et, es)
        | _ => X.fail
      | _ => X.fail
    | _ => X.fail
  | _, _ => X.fail
theorem mapOf_some {t : TypeId} {m ix : Value} {d : Advice} {s s' : St} {n : Nat} {k : IntKind} {a : Int} {et : TypeId} {es : List (Value × Value)} (h : mapOf P t m ix d s = some ((n, k, a, et, es), s')) :
    m = .map (some n) ∧ ix = .int k a ∧ (∃ kt j, P.underlying t = some (.map kt et) ∧ P.underlying kt = some (.int j)) ∧ s.h.get n = some (.map es) ∧ Calm s s' := by
  unfold mapOf at h
  split at h
  · cases hD : P.underlying t with
    | none => simp [hD, X.fail] at h
    | some D =>
    cases D <;> simp only [hD] at h <;> try (simp [X.fail] at h; done)
    rename_i kt et'
    cases hK : P.underlying kt with
    | none => simp [hK, X.fail] at h
    | some D =>
    cases D <;> simp only [hK] at h <;> try (simp [X.fail] at h; done)
    rename_i j
    obtain ⟨c, s1, h1, h2⟩ := bind_some h
    obtain ⟨g, cm⟩ := calm_rd h1
    split at h2
    · obtain ⟨h3, rfl⟩ := pure_some h2
      cases h3
      exact ⟨rfl, rfl, ⟨_, _, rfl, hK⟩, g, cm⟩
    · simp [X.fail] at h2
  · simp [X.fail] at h

def pairOk (ok : Bool) (v : Value) (b : Bool) : Value := match ok with
  | true => .tuple ⟨[v, .bool b]⟩
  | false => v
theorem pairOk_rel {r : Env} {v u : Value} (h : Rel r v u) (ok b : Bool) : Rel r (pairOk ok v b) (if ok then .tuple #[u, .bool b] else u) := by
  cases ok
  · exact h
  · exact RelL.mkTuple (.cons h (.cons (.bool b) .nil))
def exLookup (P : Program) (t : TypeId) (m ix : Value) (ok : Bool) : X Value := X.bind (mapOf P t m ix) fun q => X.bind (findX q.2.1 q.2.2.1 q.2.2.2.2 0) fun o => match o with
  | some (_, v) => X.pure (pairOk ok v true)
  | none => X.bind (zeroV P q.2.2.2.1) fun z => X.bind (need (plain z)) fun _ => X.pure (pairOk ok z false)
theorem snd_lookup (t : TypeId) (mv ix : Value) (ok : Bool) : Snd P (exLookup P t mv ix ok) (fun r m => ∃ u y, Rel r mv u ∧ Rel r ix y ∧ m = Instr.lookup t u y ok) := by
  intro d s v s' h
  unfold exLookup at h
  obtain ⟨⟨n, k, a, et, es⟩, s1, h1, h2⟩ := bind_some h
  obtain ⟨rfl, rfl, ⟨kt, j, hD, hK⟩, hg, cm⟩ := mapOf_some h1
  simp only at h2
  obtain ⟨o, sf, hf0, h2⟩ := bind_some h2
  obtain ⟨cf, hff⟩ := findX_some hf0
  have cm := cm.trans cf
  · try simp only at h2
    cases o with
    | some p =>
      obtain ⟨ip, vp⟩ := p
      simp only at h2
      obtain ⟨rfl, rfl⟩ := pure_some h2
      refine ⟨cm.V, fun hV r ow w m hs hfr ⟨u, y, hu, hy, hm⟩ => ?_⟩
      have hf := hff hV
      cases hy
      cases hu with
      | map hb =>
      obtain ⟨b, es', kk, q1, q2, q3, q4, q5⟩ := hs.chunk n _ hg
      rename_i b0
      obtain rfl : b = b0 := by rw [hb] at q1; exact (Option.some.inj q1).symm
      obtain ⟨o', g1, g2⟩ := findM_run (j := j) q4 q5 hf
      cases o' with
      | none => exact g2.elim
      | some p' =>
      obtain ⟨ip', vp'⟩ := p'
      refine ⟨r, ow, _, w, ?_, Post.calm hs cm, pairOk_rel g2.2 ok true⟩
      subst hm
      have hgo : (getObj b).run P w = .ok (.map es' kk) w := by simp [getObj, Sem.run, q3]
      simp [Instr.lookup, run_underlying hD, hgo, run_checkKey hK, Instr.findKey, run_underlying hK, g1]
    | none =>
      simp only at h2
      obtain ⟨z, s2, h3, h4⟩ := bind_some h2
      obtain ⟨⟨i, hi, hz⟩, hp, rfl⟩ := zero_some h3
      obtain ⟨_, s3, h5, h6⟩ := bind_some h4
      obtain ⟨hpl, rfl⟩ := need_some h5
      obtain ⟨rfl, rfl⟩ := pure_some h6
      refine ⟨cm.V, fun hV r ow w m hs hfr ⟨u, y, hu, hy, hm⟩ => ?_⟩
      have hf := hff hV
      cases hy
      cases hu with
      | map hb =>
      obtain ⟨b, es', kk, q1, q2, q3, q4, q5⟩ := hs.chunk n _ hg
      rename_i b0
      obtain rfl : b = b0 := by rw [hb] at q1; exact (Option.some.inj q1).symm
      obtain ⟨o', g1, g2⟩ := findM_run (j := j) q4 q5 hf
      cases o' with
      | some p' => exact g2.elim
      | none =>
      refine ⟨r, ow, _, w, ?_, Post.calm hs cm, pairOk_rel (plain_rel hpl) ok false⟩
      subst hm
      have hgo : (getObj b).run P w = .ok (.map es' kk) w := by simp [getObj, Sem.run, q3]
      simp [Instr.lookup, run_underlying hD, hgo, run_checkKey hK, Instr.findKey, run_underlying hK, g1, run_zero hi hz]

def setV : List (Value × Value) → Nat → Value → List (Value × Value)
  | [], _, _ => []
  | (k, _) :: es, 0, v => (k, v) :: es
  | e :: es, i + 1, v => e :: setV es i v
def isInt : Value → Bool
  | .int _ _ => true
  | _ => false
def exMapUpdate (P : Program) (t : TypeId) (m ix v : Value) : X Unit := X.bind (mapOf P t m ix) fun q => X.bind (findX q.2.1 q.2.2.1 q.2.2.2.2 0) fun o => match o with
  | some (i, _) => X.wr q.1 (.map (setV q.2.2.2.2 i v))
  | none => X.wr q.1 (.map (q.2.2.2.2 ++ [(ix, v)]))
def exDelete (P : Program) (t : TypeId) (m ix : Value) : X Unit := X.bind (mapOf P t m ix) fun q => X.bind (findX q.2.1 q.2.2.1 q.2.2.2.2 0) fun o => match o with
  | some (i, _) => X.wr q.1 (.map (q.2.2.2.2.eraseIdx i))
  | none => X.wr q.1 (.map q.2.2.2.2)

theorem findM_key {k : IntKind} {a : Int} : ∀ {es : List (Value × Value)} {i0 i : Nat} {v : Value}, findM k a es i0 = some (some (i, v)) → i0 ≤ i ∧ es[i - i0]? = some (.int k a, v)
  | [], _, _, _, h => by simp [findM] at h
  | (kx, vx) :: es, i0, i, v, h => by
    cases kx <;> simp only [findM] at h <;> try (cases h; done)
    rename_i k' b
    split at h
    · rename_i e; subst e
      cases hab : (a == b) with
      | true =>
        simp only [hab] at h
        cases h
        have : a = b := by simpa using hab
        subst this
        exact ⟨Nat.le_refl _, by simp⟩
      | false =>
        simp only [hab] at h
        obtain ⟨h1, h2⟩ := findM_key h
        refine ⟨by omega, ?_⟩
        have : i - i0 = (i - (i0 + 1)) + 1 := by omega
        rw [this]; simpa using h2
    · cases h
theorem run_setObj {w : World} {b : Nat} {es : Array MapEntry} {k : Nat} (h : w.heap[b]? = some (.map es k)) (o : Obj) : (setObj b o).run P w = .ok () { w with heap := w.heap.setIfInBounds b o } := by
  simp [setObj, Sem.run, h]
theorem upd_setObj {w : World} {b : Nat} {o o' : Obj} (h : w.heap[b]? = some o') : WUpd w b o { w with heap := w.heap.setIfInBounds b o } :=
  have hb : b < w.heap.size := by
    rcases Nat.lt_or_ge b w.heap.size with h1 | h1
    · exact h1
    · rw [Array.getElem?_eq_none h1] at h; cases h
  ⟨rfl, rfl, rfl, by simp, by simp [hb], fun k hk => by simp [Array.getElem?_setIfInBounds, hk.symm]⟩
theorem setV_keys : ∀ (es : List (Value × Value)) (i : Nat) (v : Value), (setV es i v).map (·.1) = es.map (·.1)
  | [], _, _ => rfl
  | (_, _) :: _, 0, _ => rfl
  | (_, _) :: es, i + 1, v => by simp [setV, setV_keys es]
theorem setV_vals : ∀ (es : List (Value × Value)) (i : Nat) (v : Value), (setV es i v).map (·.2) = (es.map (·.2)).set i v
  | [], _, _ => rfl
  | (_, _) :: _, 0, _ => rfl
  | (_, _) :: es, i + 1, v => by simp [setV, setV_vals es]
theorem relL_eraseIdx {r : Env} {xs ys : List Value} (h : RelL r xs ys) : ∀ i, RelL r (xs.eraseIdx i) (ys.eraseIdx i) := by
  induction h with
  | nil => intro i; exact .nil
  | cons h t ih => intro i; cases i with
    | zero => exact t
    | succ i => exact .cons h (ih i)
theorem map_eraseIdx' {α β : Type} (f : α → β) : ∀ (l : List α) (i : Nat), (l.eraseIdx i).map f = (l.map f).eraseIdx i
  | [], _ => rfl
  | _ :: _, 0 => rfl
  | _ :: l, i + 1 => by simp [map_eraseIdx' f l i]

theorem snd_delete (t ty : TypeId) (mv ix : Value) {ts : Array TypeId} (hts : ts[0]? = some t) : ∀ d s v s', exDelete P t mv ix d s = some (v, s') → (VCs s'.V → VCs s.V) ∧ (VCs s'.V → ∀ r ow w u y, Sat P r ow s.h w → Fresh r s.c s'.c → Rel r mv u → Rel r ix y →
      ∃ r' ow' w', (Builtin.delete_ ts ty #[u, y]).run P w = .ok (.tuple #[]) w' ∧ Post P r ow w s r' ow' w' s') := by
  intro d s v s' h
  unfold exDelete at h
  obtain ⟨⟨n, k, a, et, es⟩, s1, h1, h2⟩ := bind_some h
  obtain ⟨rfl, rfl, ⟨kt, j, hD, hK⟩, hg, cm⟩ := mapOf_some h1
  simp only at h2
  obtain ⟨o, sf, hf0, h2⟩ := bind_some h2
  obtain ⟨cf, hff⟩ := findX_some hf0
  have cm := cm.trans cf
  · try simp only at h2
    have hs' : ∃ es2, s' = { sf with h := sf.h.put n (.map es2), W := n :: sf.W } ∧ ((o = none ∧ es2 = es) ∨ ∃ i v, o = some (i, v) ∧ es2 = es.eraseIdx i) := by
      cases o with
      | none => obtain ⟨_, rfl⟩ := wr_some h2; exact ⟨_, rfl, .inl ⟨rfl, rfl⟩⟩
      | some p => obtain ⟨ip, vp⟩ := p; obtain ⟨_, rfl⟩ := wr_some h2; exact ⟨_, rfl, .inr ⟨_, _, rfl, rfl⟩⟩
    obtain ⟨es2, rfl, hes⟩ := hs'
    refine ⟨fun hV => cm.V hV, fun hV r ow w u y hs hfr hu hy => ?_⟩
    have hf := hff hV
    cases hy
    cases hu with
    | map hb =>
    obtain ⟨b, es', kk, q1, q2, q3, q4, q5⟩ := hs.chunk n _ hg
    rename_i b0
    obtain rfl : b = b0 := by rw [hb] at q1; exact (Option.some.inj q1).symm
    obtain ⟨o', g1, g2⟩ := findM_run (j := j) q4 q5 hf
    have hgo : (getObj b).run P w = .ok (.map es' kk) w := by simp [getObj, Sem.run, q3]
    rcases hes with ⟨rfl, rfl⟩ | ⟨i, vv, rfl, rfl⟩
    · cases o' with
      | some _ => exact g2.elim
      | none =>
      refine ⟨r, ow, _, ?_, ⟨Env.Le.refl _, ?_, Frame.upd q2 (upd_setObj (o := .map es' kk) q3), New.refl _ _ _, Nat.le_of_eq cm.c.symm, fun b n e => .inl ⟨b, e⟩⟩⟩
      · simp [Builtin.delete_, hts, run_underlying hD, hgo, run_checkKey hK, Instr.findKey, run_underlying hK, g1, run_setObj q3]
      · show Sat P r ow (sf.h.put n _) _
        rw [cm.h]
        exact hs.upd q2 (upd_setObj q3) ⟨b, es', kk, hb, q2, (upd_setObj q3).at_, q4, q5⟩
    · cases o' with
      | none => exact g2.elim
      | some p =>
      obtain ⟨i', u'⟩ := p
      obtain ⟨rfl, _⟩ := g2
      refine ⟨r, ow, _, ?_, ⟨Env.Le.refl _, ?_, Frame.upd q2 (upd_setObj (o := .map (es'.eraseIdxIfInBounds i) kk) q3), New.refl _ _ _, Nat.le_of_eq cm.c.symm, fun b n e => .inl ⟨b, e⟩⟩⟩
      · simp [Builtin.delete_, hts, run_underlying hD, hgo, run_checkKey hK, Instr.findKey, run_underlying hK, g1, run_setObj q3]
      · show Sat P r ow (sf.h.put n _) _
        rw [cm.h]
        have he : (es'.eraseIdxIfInBounds i).toList = es'.toList.eraseIdx i := by
          unfold Array.eraseIdxIfInBounds
          split
          · simp
          · rename_i hlt; rw [List.eraseIdx_of_length_le (by simpa using hlt)]
        refine hs.upd q2 (upd_setObj q3) ⟨b, _, kk, hb, q2, (upd_setObj q3).at_, ?_, ?_⟩
        · rw [he, map_eraseIdx', map_eraseIdx']; exact relL_eraseIdx q4 i
        · rw [he, map_eraseIdx', map_eraseIdx']; exact relL_eraseIdx q5 i

theorem snd_mapUpdate (t : TypeId) (mv ix x : Value) : SndU P (exMapUpdate P t mv ix x) (fun r m => ∃ u y z, Rel r mv u ∧ Rel r ix y ∧ Rel r x z ∧ m = Instr.mapUpdate t u y z) := by
  intro d s v s' h
  unfold exMapUpdate at h
  obtain ⟨⟨n, k, a, et, es⟩, s1, h1, h2⟩ := bind_some h
  obtain ⟨rfl, rfl, ⟨kt, j, hD, hK⟩, hg, cm⟩ := mapOf_some h1
  simp only at h2
  obtain ⟨o, sf, hf0, h2⟩ := bind_some h2
  obtain ⟨cf, hff⟩ := findX_some hf0
  have cm := cm.trans cf
  · try simp only at h2
    cases o with
    | none =>
      obtain ⟨_, rfl⟩ := wr_some h2
      refine ⟨fun hV => cm.V hV, fun hV r ow w m hs hfr ⟨u, y, z, hu, hy, hz, hm⟩ => ?_⟩
      have hf := hff hV
      cases hy
      cases hu with
      | map hb =>
      obtain ⟨b, es', kk, q1, q2, q3, q4, q5⟩ := hs.chunk n _ hg
      rename_i b0
      obtain rfl : b = b0 := by rw [hb] at q1; exact (Option.some.inj q1).symm
      obtain ⟨o', g1, g2⟩ := findM_run (j := j) q4 q5 hf
      have hgo : (getObj b).run P w = .ok (.map es' kk) w := by simp [getObj, Sem.run, q3]
      cases o' with
      | some _ => exact g2.elim
      | none =>
      refine ⟨r, ow, _, ?_, ⟨Env.Le.refl _, ?_, Frame.upd q2 (upd_setObj (o := .map (es'.push { key := .int k a, val := z, born := kk }) (kk + 1)) q3), New.refl _ _ _, Nat.le_of_eq cm.c.symm, fun b n e => .inl ⟨b, e⟩⟩⟩
      · subst hm
        simp [Instr.mapUpdate, run_underlying hD, hgo, run_checkKey hK, Instr.findKey, run_underlying hK, g1, run_setObj q3]
      · show Sat P r ow (sf.h.put n _) _
        rw [cm.h]
        refine hs.upd q2 (upd_setObj q3) ⟨b, _, _, hb, q2, (upd_setObj q3).at_, ?_, ?_⟩
        · simp only [List.map_append, Array.toList_push]; exact q4.append (.cons (.int _ _) .nil)
        · simp only [List.map_append, Array.toList_push]; exact q5.append (.cons hz .nil)
    | some p =>
      obtain ⟨i, vp⟩ := p
      obtain ⟨_, rfl⟩ := wr_some h2
      refine ⟨fun hV => cm.V hV, fun hV r ow w m hs hfr ⟨u, y, z, hu, hy, hz, hm⟩ => ?_⟩
      have hf := hff hV
      cases hy
      cases hu with
      | map hb =>
      obtain ⟨b, es', kk, q1, q2, q3, q4, q5⟩ := hs.chunk n _ hg
      rename_i b0
      obtain rfl : b = b0 := by rw [hb] at q1; exact (Option.some.inj q1).symm
      obtain ⟨o', g1, g2⟩ := findM_run (j := j) q4 q5 hf
      have hgo : (getObj b).run P w = .ok (.map es' kk) w := by simp [getObj, Sem.run, q3]
      cases o' with
      | none => exact g2.elim
      | some p =>
      obtain ⟨i', u'⟩ := p
      obtain ⟨rfl, _⟩ := g2
      have hkey : ∃ e, es'[i]? = some e ∧ e.key = .int k a := by
        obtain ⟨_, h3⟩ := findM_key hf
        rw [Nat.sub_zero] at h3
        obtain ⟨y, e1, e2⟩ := q4.get i (.int k a) (by simp [h3])
        simp only [List.getElem?_map, Option.map_eq_some_iff] at e1
        obtain ⟨e, e3, e4⟩ := e1
        refine ⟨e, by simpa using e3, ?_⟩
        rw [e4]; cases e2; rfl
      obtain ⟨⟨ek, ev, eb⟩, he1, he2⟩ := hkey
      simp only at he2
      subst he2
      have hks : (Instr.keyThatStays (.int k a) (.int k a)).run P w = .ok (.int k a) w := by simp [Instr.keyThatStays, Instr.sameBits]
      refine ⟨r, ow, _, ?_, ⟨Env.Le.refl _, ?_, Frame.upd q2 (upd_setObj (o := .map (es'.modify i fun e => { e with key := .int k a, val := z }) kk) q3), New.refl _ _ _, Nat.le_of_eq cm.c.symm, fun b n e => .inl ⟨b, e⟩⟩⟩
      · subst hm
        simp [Instr.mapUpdate, run_underlying hD, hgo, run_checkKey hK, Instr.findKey, run_underlying hK, g1, he1, hks, run_setObj q3]
      · show Sat P r ow (sf.h.put n _) _
        rw [cm.h]
        have hlt : i < es'.size := by
          rcases Nat.lt_or_ge i es'.size with h3 | h3
          · exact h3
          · rw [Array.getElem?_eq_none h3] at he1; cases he1
        have he3 : es'[i] = ⟨.int k a, ev, eb⟩ := by
          have h3 := he1
          rw [Array.getElem?_eq_getElem hlt] at h3
          exact Option.some.inj h3
        have hmod : (es'.modify i fun e => { e with key := .int k a, val := z }).toList = es'.toList.set i ⟨.int k a, z, eb⟩ := by
          apply List.ext_getElem?
          intro q
          simp only [Array.getElem?_toList, Array.getElem?_modify, List.getElem?_set]
          by_cases hq : i = q
          · subst hq; simp [hlt, he3]
          · simp [hq]
        refine hs.upd q2 (upd_setObj q3) ⟨b, _, _, hb, q2, (upd_setObj q3).at_, ?_, ?_⟩
        · rw [hmod, setV_keys, List.map_set]
          have : (es'.toList.map (·.key)).set i (.int k a) = es'.toList.map (·.key) := by
            apply List.ext_getElem?
            intro q
            simp only [List.getElem?_set, List.length_map]
            by_cases hq : i = q
            · subst hq; simp [hlt, he3]
            · simp [hq]
          rw [this]; exact q4
        · rw [hmod, setV_vals, List.map_set]; exact q5.set hz i

end
end Go.Sx
