/- Symbolic executor, part 13: what a symbolic operation tells, the model's operation does. No condition. -/
import Derived.Test.YtglaapelpidfhaaGreatSxOp8
import Derived.Laws.Small
namespace Go.Sx

def OpSnd (P : Program) (x : X OpRes) (A : Env → Sem Next → Prop) : Prop :=
  ∀ d s v s', x d s = some (v, s') → (VCs s'.V → VCs s.V) ∧ (VCs s'.V → ∀ r ow w m, Sat P r ow s.h w → Fresh r s.c s'.c → A r m →
    ∃ r' ow' n w', m.run P w = .ok n w' ∧ Post P r ow w s r' ow' w' s' ∧ NextRel r' v n)

section
variable {P : Program}
theorem OpSnd.mono {x : X OpRes} {A B : Env → Sem Next → Prop} (h : OpSnd P x A) (hab : ∀ r m, B r m → A r m) : OpSnd P x B := fun d s v s' hx =>
  ⟨(h d s v s' hx).1, fun hV r ow w m hs hf hm => (h d s v s' hx).2 hV r ow w m hs hf (hab r m hm)⟩
theorem OpSnd.val {x : X Value} {A : Env → Sem Value → Prop} (h : Snd P x A) : OpSnd P (Sx.val x) (fun r m => ∃ m0, A r m0 ∧ m = (do pure (Next.value (← m0)))) := by
  intro d s v s' hx
  obtain ⟨u, s1, h1, h2⟩ := bind_some hx
  obtain ⟨rfl, rfl⟩ := pure_some h2
  refine ⟨(h d s u s1 h1).1, fun hV r ow w m hs hf ⟨m0, ha, hm⟩ => ?_⟩
  obtain ⟨r', ow', z, w', g1, g2, g3⟩ := (h d s u s1 h1).2 hV r ow w m0 hs hf ha
  exact ⟨r', ow', .value z, w', by subst hm; simp [g1], g2, g3⟩
theorem OpSnd.unit {x : X Unit} {A : Env → Sem Unit → Prop} (h : SndU P x A) : OpSnd P (Sx.unit x) (fun r m => ∃ m0, A r m0 ∧ m = (do m0; pure Next.skip)) := by
  intro d s v s' hx
  obtain ⟨u, s1, h1, h2⟩ := bind_some hx
  obtain ⟨rfl, rfl⟩ := pure_some h2
  refine ⟨(h d s u s1 h1).1, fun hV r ow w m hs hf ⟨m0, ha, hm⟩ => ?_⟩
  obtain ⟨r', ow', w', g1, g2⟩ := (h d s u s1 h1).2 hV r ow w m0 hs hf ha
  exact ⟨r', ow', .skip, w', by subst hm; simp [g1], g2, trivial⟩
theorem OpSnd.opt {α : Type} {o : Option α} {f : α → X OpRes} {A : Env → Sem Next → Prop} (h : ∀ a, o = some a → OpSnd P (f a) A) : OpSnd P (X.bind (Sx.opt o) f) A := by
  intro d s v s' hx
  obtain ⟨u, s1, h1, h2⟩ := bind_some hx
  obtain ⟨e, rfl⟩ := opt_some h1
  exact h u e d s v s' h2
theorem OpSnd.fail {A : Env → Sem Next → Prop} : OpSnd P X.fail A := fun d s v s' h => by simp [X.fail] at h
theorem snd_opt {o : Option Value} : Snd P (Sx.opt o) (fun r m => ∃ v, o = some v ∧ ∃ u, Rel r v u ∧ ∀ w, m.run P w = .ok u w) := by
  intro d s v s' h
  obtain ⟨e, rfl⟩ := opt_some h
  refine ⟨id, fun hV r ow w m hs hf ⟨v', e', u, hu, hm⟩ => ?_⟩
  obtain rfl : v = v' := by rw [e] at e'; exact Option.some.inj e'
  exact ⟨r, ow, u, w, hm w, Post.calm hs (Calm.refl _), hu⟩
theorem OpSnd.pureVal {v : Value} : OpSnd P (X.pure (.val v)) (fun r m => ∃ u, Rel r v u ∧ ∀ w, m.run P w = .ok (.value u) w) := by
  intro d s v' s' h
  obtain ⟨rfl, rfl⟩ := pure_some h
  exact ⟨id, fun hV r ow w m hs hf ⟨u, hu, hm⟩ => ⟨r, ow, .value u, w, hm w, Post.calm hs (Calm.refl _), hu⟩⟩
theorem OpSnd.pureCall {f : FuncId} {as : List Value} : OpSnd P (X.pure (.call f as)) (fun r m => ∃ us : Array Value, RelL r as us.toList ∧ ∀ w, m.run P w = .ok (.enter f us) w) := by
  intro d s v' s' h
  obtain ⟨rfl, rfl⟩ := pure_some h
  exact ⟨id, fun hV r ow w m hs hf ⟨us, hu, hm⟩ => ⟨r, ow, .enter f us, w, hm w, Post.calm hs (Calm.refl _), rfl, hu⟩⟩
theorem snd_newMap : Snd P (X.bind (X.new (.map [])) fun n => X.pure (.map (some n))) (fun _ m => m = (do pure (.map (some (← newObj (.map #[] 0)))))) := by
  intro d s v s' h
  obtain ⟨n, s1, h1, h2⟩ := bind_some h
  obtain ⟨rfl, rfl⟩ := new_some h1
  obtain ⟨rfl, rfl⟩ := pure_some h2
  refine ⟨id, fun hV r ow w m hs hf hm => ?_⟩
  have hn := (hf s.c (Nat.le_refl _) (Nat.lt_succ_self _)).1
  exact ⟨_, _, .map (some w.heap.size), _, by subst hm; simp, ⟨Env.le_bind hn, hs.newMap hn, Frame.new _ _, New.bind, Nat.le_succ _, own_new⟩, .map (by simp [Env.bind])⟩
theorem snd_ofVal {x : X Value} {A : Env → Sem Value → Prop} (h : Snd P x A) : Snd P x A := h

theorem exNil_run {r : Env} {x v u : Value} (h : exNil x = some v) (hu : Rel r x u) : Rel r v u ∧ ∀ (o : Operand) (ρ : Operand → Value), ρ o = u → ∀ w, (match ρ o with
    | .pointer none | .nilIface | .nilFunc => runtimePanic .nilDeref
    | .func (.method name) first captured =>
      match (first[0]? : Option Value) with
      | some .nilIface => runtimePanic .nilDeref
      | some (.iface t w) => do
        if (← nilAhead ((← program).types.size + Made.depth) t w name) != some false then
          unsupported (.noEntry "op/nilCheck.the method's receiver behind this interface value is a nil pointer, or cannot be seen to be none, and the arguments act or may panic (ledger 612)")
        pure (.value (.func (.method name) first captured))
      | _ => pure (.value (.func (.method name) first captured))
    | x => pure (.value x) : Sem Next).run P w = .ok (.value u) w := by
  unfold exNil at h
  split at h <;> cases h
  · cases hu with
    | ptr hb => exact ⟨.ptr hb, fun o ρ e w => by rw [e]; rfl⟩
    | litPtr => exact ⟨.litPtr, fun o ρ e w => by rw [e]; rfl⟩
  · obtain ⟨us, cs, rfl, _, _⟩ := hu.func_inv
    exact ⟨hu, fun o ρ e w => by rw [e]; rfl⟩
  · cases hu with | iface hb => exact ⟨.iface hb, fun o ρ e w => by rw [e]; rfl⟩

theorem exTup_run {r : Env} {x v u : Value} {i : Nat} (h : exTup i x = some v) (hu : Rel r x u) : ∃ y, Rel r v y ∧ ∀ w, (Instr.extract u i).run P w = .ok y w := by
  unfold exTup at h
  split at h
  · obtain ⟨us, rfl, hr⟩ := hu.tuple_inv
    obtain ⟨y, e, hy⟩ := hr.get i v h
    have e' : us[i]? = some y := by rw [← e]; simp
    exact ⟨y, hy, fun w => by simp [Instr.extract, e']⟩
  · cases h
theorem exUn_run {r : Env} {op : UnOp} {x v u : Value} (h : exUn op x = some v) (hu : Rel r x u) : Rel r v v ∧ ∀ w, (Op.unary op u).run P w = .ok v w := by
  unfold exUn at h
  split at h
  · cases hu
    cases op <;> simp at h
    subst h; exact ⟨.bool _, fun w => by simp [Op.unary]⟩
  · cases hu
    cases op <;> simp at h
    subst h; exact ⟨.int _ _, fun w => by simp [Op.unary, Op.intArith]⟩
  · cases h
theorem exMkI_run {r : Env} {t : TypeId} {x v u : Value} (h : exMkI P t x = some v) (hu : Rel r x u) : Rel r v (.iface t u) ∧ ∀ w, (Instr.makeInterface t u).run P w = .ok (.iface t u) w := by
  unfold exMkI at h
  cases hD : P.underlying t with
  | none => simp [hD] at h
  | some D =>
    cases D <;> simp [hD] at h <;> (subst h; exact ⟨.iface hu, fun w => by simp [Instr.makeInterface, run_underlying hD]⟩)
theorem exBinary_run {r : Env} {op : BinOp} {t : TypeId} {o1 o2 : Operand} {x y v u1 u2 : Value} (h : exBinary P op t o2 x y = some v) (h1 : Rel r x u1) (h2 : Rel r y u2) (w : World) :
    (do eqGuard op t o1 o2 u1 u2; binOp op t u1 u2 : Sem Value).run P w = .ok v w ∧ Rel r v v := by
  unfold exBinary at h
  cases e : exBin op x y with
  | some v' => simp only [e] at h; cases h; exact exBin_run e h1 h2 w
  | none =>
    simp only [e] at h
    cases op <;> simp only [Option.map_eq_some_iff] at h <;> try (cases h; done)
    · obtain ⟨b, e2, rfl⟩ := h
      exact ⟨(exEq_run (o1 := o1) e2 h1 h2 w).1, .bool _⟩
    · obtain ⟨b, e2, rfl⟩ := h
      exact ⟨(exEq_run (o1 := o1) e2 h1 h2 w).2, .bool _⟩
theorem exMin_run {r : Env} {ts : Array TypeId} {t : TypeId} {x y v u1 u2 : Value} (h : exMin x y = some v) (h1 : Rel r x u1) (h2 : Rel r y u2) (w : World) : (Builtin.min_ ts t #[u1, u2]).run P w = .ok v w ∧ Rel r v v := by
  unfold exMin at h
  split at h
  · cases h1; cases h2; cases h; exact ⟨run_min_int2 w ts t _ _ _ _, .int _ _⟩
  · cases h
theorem fnOk_run {f : FuncId} (h : fnOk P f = true) (us : Array Value) (w : World) : (callFunc f us).run P w = .ok (.enter f us) w := by
  unfold fnOk at h
  cases e : P.funcs[f]? with
  | none => simp [e] at h
  | some fn =>
    simp only [e, Bool.and_eq_true, Bool.not_eq_true'] at h
    have h2 : fn.body.isNone = false := by
      cases hb : fn.body with
      | none => simp [hb] at h
      | some _ => rfl
    simp only [callFunc, Sem.run_bind, run_program, Result.andThen_ok, e, h.2, h2, Bool.false_eq_true, if_false]
    rfl

/-- What a model's operation is, beside the symbolic one. -/
def opA (T : List Value) (o : Oper) (r : Env) (m : Sem Next) : Prop := ∃ a : Act, RelL r T a.tmps.toList ∧ m = execOp a.eval o

theorem OpSnd.valOpt {o : Option Value} {A : Env → Sem Next → Prop} (h : ∀ v, o = some v → ∀ r m, A r m → ∃ u, Rel r v u ∧ ∀ w, m.run P w = .ok (.value u) w) : OpSnd P (Sx.val (Sx.opt o)) A := by
  intro d s v s' hx
  obtain ⟨u, s1, h1, h2⟩ := bind_some hx
  obtain ⟨e, rfl⟩ := opt_some h1
  obtain ⟨rfl, rfl⟩ := pure_some h2
  refine ⟨id, fun hV r ow w m hs hf hm => ?_⟩
  obtain ⟨y, hy, hr⟩ := h u e r m hm
  exact ⟨r, ow, .value y, w, hr w, Post.calm hs (Calm.refl _), hy⟩
theorem OpSnd.need {b : Bool} {f : Unit → X OpRes} {A : Env → Sem Next → Prop} (h : b = true → OpSnd P (f ()) A) : OpSnd P (X.bind (Sx.need b) f) A := by
  intro d s v s' hx
  obtain ⟨u, s1, h1, h2⟩ := bind_some hx
  obtain ⟨e, rfl⟩ := need_some h1
  exact h e d s v s' h2

theorem exBuiltin_snd (b : Builtin) (ts : List TypeId) (as : List Value) (ty : TypeId) (cs : Array Bool) : OpSnd P (exBuiltin P b ts as) (fun r m => ∃ us, RelL r as us ∧ m = builtin b ⟨ts⟩ ty cs ⟨us⟩) := by
  unfold exBuiltin
  split
  · refine (OpSnd.val (snd_len _ ty _)).mono fun r m ⟨us, hu, hm⟩ => ?_
    cases hu with | cons h1 t => cases t; exact ⟨_, ⟨_, h1, rfl⟩, hm⟩
  · refine (OpSnd.val (snd_append _ _ ty _ _)).mono fun r m ⟨us, hu, hm⟩ => ?_
    cases hu with | cons h1 t => cases t with | cons h2 t => cases t; exact ⟨_, ⟨_, _, h1, h2, rfl⟩, hm⟩
  · refine OpSnd.valOpt fun v e r m ⟨us, hu, hm⟩ => ?_
    cases hu with | cons h1 t => cases t with | cons h2 t => cases t; exact ⟨v, (exMin_run (P := P) (ts := #[]) (t := 0) e h1 h2 default).2, fun w => by
      subst hm
      have := (exMin_run (P := P) (ts := ⟨ts⟩) (t := ty) e h1 h2 w).1
      simp only [builtin, Sem.run_bind, this, Result.andThen_ok]; rfl⟩
  · rename_i t0 t1 mv kv
    intro d s v s' hx
    obtain ⟨u, s1, h1, h2⟩ := bind_some hx
    obtain ⟨rfl, rfl⟩ := pure_some h2
    obtain ⟨g1, g2⟩ := snd_delete t0 ty mv kv (ts := ⟨[t0, t1]⟩) rfl d s u s1 h1
    refine ⟨g1, fun hV r ow w m hs hf ⟨us, hu, hm⟩ => ?_⟩
    cases hu with | cons h1 t => cases t with | cons h2 t => cases t with | nil =>
    rename_i u1 u2
    obtain ⟨r', ow', w', e1, e2⟩ := g2 hV r ow w u1 u2 hs hf h1 h2
    refine ⟨r', ow', .value (.tuple #[]), w', ?_, e2, RelL.mkTuple .nil⟩
    subst hm
    show (Builtin.delete_ ⟨[t0, t1]⟩ ty #[u1, u2] >>= fun v => pure (Next.value v)).run P w = _
    simp [e1]
  · exact OpSnd.fail

theorem exOp_snd (T : List Value) (o : Oper) : OpSnd P (exOp P T o) (opA T o) := by
  obtain ⟨dst, op, ty, pos, after, guard⟩ := o
  cases op with
  | insert _ _ _ _ | ready _ | waits _ | convert _ _ _ | sliceToArrayPointer _ _ | makeChan _ _ | mapEntry _ _ _ | entryStore _ _ _ _ | range _ _ | next _ _ | entry _ | typeAssert _ _ _ _ | go _ | defer _ | panic _ | send _ _ | recv _ _ _ | select _ _ => exact OpSnd.fail
  | move x =>
    refine OpSnd.valOpt (o := evO T x) fun v e r m ⟨a, ha, hm⟩ => ⟨a.eval x, evO_rel ha e, fun w => ?_⟩
    subst hm; rfl
  | assign x =>
    refine OpSnd.valOpt (o := evO T x) fun v e r m ⟨a, ha, hm⟩ => ⟨a.eval x, evO_rel ha e, fun w => ?_⟩
    subst hm; rfl
  | pick c x y =>
    refine OpSnd.opt (o := evO T c) fun cv ec => ?_
    split
    · rename_i b
      intro d s v s' h
      obtain ⟨t, s1, h1, h2⟩ := bind_some h
      obtain ⟨cm, hb⟩ := calm_ask h1
      have hsel : ∃ z, (t = true ∧ z = x ∨ t = false ∧ z = y) ∧ Sx.val (Sx.opt (evO T z)) d s1 = some (v, s') := by
        cases t
        · exact ⟨y, .inr ⟨rfl, rfl⟩, h2⟩
        · exact ⟨x, .inl ⟨rfl, rfl⟩, h2⟩
      obtain ⟨z, hz, h3⟩ := hsel
      obtain ⟨u, s2, h4, h5⟩ := bind_some h3
      obtain ⟨e, rfl⟩ := opt_some h4
      obtain ⟨rfl, rfl⟩ := pure_some h5
      refine ⟨cm.V, fun hV r ow w m hs hf ⟨a, ha, hm⟩ => ⟨r, ow, .value (a.eval z), w, ?_, Post.calm hs cm, evO_rel ha e⟩⟩
      have hc := evO_rel ha ec
      have hbt := hb hV
      subst hbt
      generalize hq : a.eval c = q at hc
      cases hc
      subst hm
      rcases hz with ⟨rfl, rfl⟩ | ⟨rfl, rfl⟩ <;> simp [execOp, hq, asBool]
    · exact OpSnd.fail
  | alloc t =>
    exact (OpSnd.val (snd_alloc P t)).mono fun r m ⟨a, ha, hm⟩ => ⟨_, rfl, hm⟩
  | box t x =>
    exact OpSnd.opt (o := evO T x) fun v e => (OpSnd.val (snd_box P t v)).mono fun r m ⟨a, ha, hm⟩ => ⟨_, ⟨_, evO_rel ha e, rfl⟩, hm⟩
  | build t ps =>
    exact OpSnd.opt (o := evP T ps.toList) fun v e => (OpSnd.val (snd_build P t v)).mono fun r m ⟨a, ha, hm⟩ => ⟨_, ⟨_, evP_rel ha e, rfl⟩, by
      subst hm
      show execOp a.eval ⟨dst, .build t ps, ty, pos, after, guard⟩ = _
      have : (⟨ps.toList.map fun (i, x) => (i, a.eval x)⟩ : Array (Nat × Value)) = ps.map fun (i, x) => (i, a.eval x) := by apply Array.ext'; simp
      rw [this]; rfl⟩
  | buildSlice t n ps =>
    exact OpSnd.opt (o := evP T ps.toList) fun v e => (OpSnd.val (snd_buildSlice t n v)).mono fun r m ⟨a, ha, hm⟩ => ⟨_, ⟨_, evP_rel ha e, rfl⟩, by
      subst hm
      have : (⟨ps.toList.map fun (i, x) => (i, a.eval x)⟩ : Array (Nat × Value)) = ps.map fun (i, x) => (i, a.eval x) := by apply Array.ext'; simp
      rw [this]; rfl⟩
  | load t x =>
    exact OpSnd.opt (o := evO T x) fun v e => (OpSnd.val (snd_load P t v)).mono fun r m ⟨a, ha, hm⟩ => ⟨_, ⟨_, evO_rel ha e, rfl⟩, hm⟩
  | store t x y =>
    exact OpSnd.opt (o := evO T x) fun v e => OpSnd.opt (o := evO T y) fun v2 e2 => (OpSnd.unit (snd_store P t v v2)).mono fun r m ⟨a, ha, hm⟩ => ⟨_, ⟨_, _, evO_rel ha e, evO_rel ha e2, rfl⟩, hm⟩
  | nilCheck x =>
    exact OpSnd.opt (o := evO T x) fun v e => OpSnd.valOpt (o := exNil v) fun v2 e2 r m ⟨a, ha, hm⟩ => by
      obtain ⟨h1, h2⟩ := exNil_run (P := P) e2 (evO_rel ha e)
      exact ⟨_, h1, fun w => by subst hm; exact h2 x a.eval rfl w⟩
  | binOp op t x y yt =>
    exact OpSnd.opt (o := evO T x) fun v e => OpSnd.opt (o := evO T y) fun v2 e2 => OpSnd.valOpt (o := exBinary P op t y v v2) fun v3 e3 r m ⟨a, ha, hm⟩ => by
      refine ⟨v3, (exBinary_run (o1 := x) e3 (evO_rel ha e) (evO_rel ha e2) default).2, fun w => ?_⟩
      have h3 := (exBinary_run (o1 := x) e3 (evO_rel ha e) (evO_rel ha e2) w).1
      subst hm
      show ((do eqGuard op t x y (a.eval x) (a.eval y); binOp op t (a.eval x) (a.eval y) : Sem Value) >>= fun z => pure (Next.value z)).run P w = _
      rw [Sem.run_bind, h3]; rfl
  | unOp op t x =>
    exact OpSnd.opt (o := evO T x) fun v e => OpSnd.valOpt (o := exUn op v) fun v2 e2 r m ⟨a, ha, hm⟩ => by
      obtain ⟨h1, h2⟩ := exUn_run (P := P) e2 (evO_rel ha e)
      exact ⟨_, h1, fun w => by
        subst hm
        show (Op.unary op (a.eval x) >>= fun z => pure (Next.value z)).run P w = _
        rw [Sem.run_bind, h2 w]; rfl⟩
  | makeInterface t x =>
    exact OpSnd.opt (o := evO T x) fun v e => OpSnd.valOpt (o := exMkI P t v) fun v2 e2 r m ⟨a, ha, hm⟩ => by
      obtain ⟨h1, h2⟩ := exMkI_run e2 (evO_rel ha e)
      exact ⟨_, h1, fun w => by
        subst hm
        show (Instr.makeInterface t (a.eval x) >>= fun z => pure (Next.value z)).run P w = _
        rw [Sem.run_bind, h2 w]; rfl⟩
  | makeFunc fn f c =>
    refine OpSnd.opt (o := evL T f.toList) fun fv e => OpSnd.opt (o := evL T c.toList) fun cv e2 => ?_
    cases fn with
    | func g => exact OpSnd.pureVal.mono fun r m ⟨a, ha, hm⟩ => ⟨.func (.func g) (f.map a.eval) (c.map a.eval), by
        have h1 := evL_rel ha e
        have h2 := evL_rel ha e2
        have e3 : f.map a.eval = ⟨f.toList.map a.eval⟩ := by apply Array.ext'; simp
        have e4 : c.map a.eval = ⟨c.toList.map a.eval⟩ := by apply Array.ext'; simp
        rw [e3, e4]; exact RelL.mkFunc h1 h2, fun w => by subst hm; rfl⟩
    | _ => exact OpSnd.fail
  | makeMap t res =>
    cases res with
    | none => exact (OpSnd.val snd_newMap).mono fun r m ⟨a, ha, hm⟩ => ⟨_, rfl, by subst hm; rfl⟩
    | some _ => exact OpSnd.fail
  | makeSlice t l c =>
    exact OpSnd.opt (o := evO T l) fun v e => OpSnd.opt (o := evO T c) fun v2 e2 => (OpSnd.val (snd_makeSlice t v v2)).mono fun r m ⟨a, ha, hm⟩ => ⟨_, ⟨_, _, evO_rel ha e, evO_rel ha e2, rfl⟩, hm⟩
  | slice t x lo hi mx =>
    exact OpSnd.opt (o := evO T x) fun v e => OpSnd.opt (o := evQ T lo) fun v2 e2 => OpSnd.opt (o := evQ T hi) fun v3 e3 => OpSnd.opt (o := evQ T mx) fun v4 e4 =>
      (OpSnd.val (snd_slice t v v2 v3 v4)).mono fun r m ⟨a, ha, hm⟩ => ⟨_, ⟨_, _, _, _, evO_rel ha e, evQ_rel ha e2, evQ_rel ha e3, evQ_rel ha e4, rfl⟩, hm⟩
  | fieldAddr t x f =>
    exact OpSnd.opt (o := evO T x) fun v e => (OpSnd.val (snd_fieldAddr t v f)).mono fun r m ⟨a, ha, hm⟩ => ⟨_, ⟨_, evO_rel ha e, rfl⟩, hm⟩
  | field t x f =>
    exact OpSnd.opt (o := evO T x) fun v e => (OpSnd.val (snd_field t v f)).mono fun r m ⟨a, ha, hm⟩ => ⟨_, ⟨_, evO_rel ha e, rfl⟩, hm⟩
  | indexAddr t x i =>
    exact OpSnd.opt (o := evO T x) fun v e => OpSnd.opt (o := evO T i) fun v2 e2 => (OpSnd.val (snd_indexAddr t v v2)).mono fun r m ⟨a, ha, hm⟩ => ⟨_, ⟨_, _, evO_rel ha e, evO_rel ha e2, rfl⟩, hm⟩
  | index t x i =>
    exact OpSnd.opt (o := evO T x) fun v e => OpSnd.opt (o := evO T i) fun v2 e2 => (OpSnd.val (snd_index t v v2)).mono fun r m ⟨a, ha, hm⟩ => ⟨_, ⟨_, _, evO_rel ha e, evO_rel ha e2, rfl⟩, hm⟩
  | lookup t x i ok =>
    exact OpSnd.opt (o := evO T x) fun v e => OpSnd.opt (o := evO T i) fun v2 e2 => (OpSnd.val (snd_lookup t v v2 ok)).mono fun r m ⟨a, ha, hm⟩ => ⟨_, ⟨_, _, evO_rel ha e, evO_rel ha e2, rfl⟩, hm⟩
  | mapUpdate t x k z =>
    exact OpSnd.opt (o := evO T x) fun v e => OpSnd.opt (o := evO T k) fun v2 e2 => OpSnd.opt (o := evO T z) fun v3 e3 => (OpSnd.unit (snd_mapUpdate t v v2 v3)).mono fun r m ⟨a, ha, hm⟩ => ⟨_, ⟨_, _, _, evO_rel ha e, evO_rel ha e2, evO_rel ha e3, rfl⟩, hm⟩
  | extract x i =>
    exact OpSnd.opt (o := evO T x) fun v e => OpSnd.valOpt (o := exTup i v) fun v2 e2 r m ⟨a, ha, hm⟩ => by
      obtain ⟨y, h1, h2⟩ := exTup_run (P := P) e2 (evO_rel ha e)
      exact ⟨y, h1, fun w => by
        subst hm
        show (Instr.extract (a.eval x) i >>= fun z => pure (Next.value z)).run P w = _
        rw [Sem.run_bind, h2 w]; rfl⟩
  | call c =>
    obtain ⟨cal, args, ats⟩ := c
    refine OpSnd.opt (o := evL T args.toList) fun as ea => ?_
    have hargs : ∀ a : Act, args.map a.eval = ⟨args.toList.map a.eval⟩ := fun a => by apply Array.ext'; simp
    cases cal with
    | invoke _ _ => exact OpSnd.fail
    | value f =>
      refine OpSnd.opt (o := evO T f) fun fv ef => ?_
      split
      · rename_i g first cap
        refine OpSnd.need fun hok => OpSnd.pureCall.mono fun r m ⟨a, ha, hm⟩ => ?_
        obtain ⟨fs, cs, hfe, h1, h2⟩ := (evO_rel ha ef).func_inv
        refine ⟨fs ++ args.map a.eval ++ cs, ?_, fun w => ?_⟩
        · simp only [Array.toList_append, hargs]
          exact (h1.append (evL_rel ha ea)).append h2
        · subst hm
          have h3 := fnOk_run (P := P) hok (fs ++ args.map a.eval ++ cs) w
          simp only [execOp, resolve, hfe, Deferred.ofValue, Sem.run_bind, Sem.run_pure, Result.andThen_ok, invoke]
          exact h3
      · exact OpSnd.fail
    | builtin b =>
      refine (exBuiltin_snd b ats.toList as ty (args.map fun | .const _ => true | _ => false)).mono fun r m ⟨a, ha, hm⟩ => ⟨_, evL_rel ha ea, ?_⟩
      subst hm
      simp only [execOp, resolve, hargs]
      rfl

end
end Go.Sx
