/- Symbolic executor, part 15: code and calls do what their symbolic run tells. No condition. -/
import Derived.Test.YtglaapelpidfhaaGreatSxEx
import Derived.Orders
namespace Go.Sx

def exitRel : SExit → Exit → Prop
  | .normal, .normal => True
  | .exit i, .exit j => i = j
  | .goto i, .goto j => i = j
  | .ret, .ret => True
  | _, _ => False
/-- Where code comes to. -/
def Comes' (P : Program) (r : Env) (ow : Nat → Option Nat) (w : World) (s s' : St) (e : SExit) (T' : List Value) : Exit → Act → World → Prop := fun e' a' w' =>
  exitRel e e' ∧ a'.defers = [] ∧ ∃ r' ow', Post P r ow w s r' ow' w' s' ∧ RelL r' T' a'.tmps.toList
def LoopWp (P : Program) (c : Code) (Q : Exit → Act → World → Prop) (a : Act) (w : World) : Prop :=
  ∀ (b : _root_.Go.Frame) (k : List Item) (cs : List _root_.Go.Frame), ∃ e a' w', Q e a' w' ∧ Arrives P (lone (b.at a (.code c :: .inLoop c :: k)) cs w) b k cs e a' w'
def ScopeWp (P : Program) (c body : Code) (Q : Exit → Act → World → Prop) (a : Act) (w : World) : Prop :=
  ∀ (b : _root_.Go.Frame) (k : List Item) (cs : List _root_.Go.Frame), ∃ e a' w', Q e a' w' ∧ Arrives P (lone (b.at a (.code c :: .inScope body :: k)) cs w) b k cs e a' w'
def CallPost (P : Program) (r : Env) (ow : Nat → Option Nat) (w : World) (s s' : St) (v : Value) : Ending → World → Prop := fun e w' =>
  ∃ r' ow' u, e = .returned u ∧ Post P r ow w s r' ow' w' s' ∧ Rel r' v u

def TaskOk (P : Program) (r : Env) (ow : Nat → Option Nat) (w : World) (s s' : St) : Task → ARes → Prop
  | .call f args, .val v => ∀ us : Array Value, RelL r args us.toList → Calls P f us w (CallPost P r ow w s s' v)
  | .code c T, .out e T' => ∀ a : Act, RelL r T a.tmps.toList → a.defers = [] → c.wp P (Comes' P r ow w s s' e T') a w
  | .inLoop c T, .out e T' => ∀ a : Act, RelL r T a.tmps.toList → a.defers = [] → LoopWp P c (Comes' P r ow w s s' e T') a w
  | .inScope c body T, .out e T' => ∀ a : Act, RelL r T a.tmps.toList → a.defers = [] → ScopeWp P c body (Comes' P r ow w s s' e T') a w
  | _, _ => True
def TaskSnd (P : Program) (x : X ARes) (t : Task) : Prop := ∀ d s res s', x d s = some (res, s') → (VCs s'.V → VCs s.V) ∧ (VCs s'.V → ∀ r ow w, Sat P r ow s.h w → Fresh r s.c s'.c → TaskOk P r ow w s s' t res)
structure RecSnd (P : Program) (rec : Rec) : Prop where
  loc : LocalR rec
  snd : ∀ t, TaskSnd P (rec t) t

/-- A run's counter only grows. -/
def MonoX {α : Type} (x : X α) : Prop := ∀ d s a s', x d s = some (a, s') → s.c ≤ s'.c
theorem Local.monoX {α : Type} {x : X α} (h : Local x) : MonoX x := fun d s a s' e => (h d s a s' e).1
theorem MonoX.pure {α : Type} (a : α) : MonoX (X.pure a) := (Local.pure a).monoX
theorem MonoX.fail {α : Type} : MonoX (X.fail : X α) := Local.fail.monoX
theorem MonoX.bind {α β : Type} {x : X α} {f : α → X β} (h : MonoX x) (k : ∀ a, MonoX (f a)) : MonoX (X.bind x f) := fun d s a s' e => by
  obtain ⟨b, s1, h1, h2⟩ := bind_some e
  exact Nat.le_trans (h d s b s1 h1) (k b d s1 a s' h2)
structure RecMono (P : Program) (rec : Rec) : Prop where
  mono : ∀ t, MonoX (rec t)
  snd : ∀ t, TaskSnd P (rec t) t
theorem RecSnd.mono {P : Program} {rec : Rec} (h : RecSnd P rec) : RecMono P rec := ⟨fun t => (h.loc t).monoX, h.snd⟩
section
variable {P : Program} {rec : Rec}
theorem MonoX.callX (hr : ∀ t, MonoX (rec t)) (f : FuncId) (as : List Value) : MonoX (callX rec f as) := by
  unfold Sx.callX
  refine MonoX.bind (hr _) fun r => ?_
  split
  · exact MonoX.pure _
  · exact MonoX.fail
theorem MonoX.stepV (hr : ∀ t, MonoX (rec t)) (ops : List Oper) (T : List Value) (o : Oper) : MonoX (stepV P rec ops T o) := by
  unfold Sx.stepV
  refine MonoX.bind (Local.wantX _ _ _).monoX fun b => ?_
  split
  · unfold Sx.runOp
    refine MonoX.bind (Local.exOp _ _ _).monoX fun r => ?_
    split
    · exact MonoX.pure _
    · exact MonoX.pure _
    · exact MonoX.callX hr _ _
  · exact MonoX.pure _
theorem MonoX.stepOp (hr : ∀ t, MonoX (rec t)) (ops : List Oper) (T : List Value) (o : Oper) : MonoX (stepOp P rec ops T o) := MonoX.bind (MonoX.stepV hr _ _ _) fun _ => MonoX.pure _
theorem MonoX.seqOps (hr : ∀ t, MonoX (rec t)) (ops : List Oper) : ∀ (l : List Oper) (T : List Value), MonoX (seqOps P rec ops l T)
  | [], _ => MonoX.pure _
  | o :: l, T => MonoX.bind (MonoX.stepOp hr ops T o) fun _ => MonoX.seqOps hr ops l _
end

section
variable {P : Program}

theorem wp_loop_of {c : Code} {Q : Exit → Act → World → Prop} {a : Act} {w : World} (h : LoopWp P c Q a w) : (Code.loop c).wp P Q a w :=
  fun b k cs => let ⟨e, a', w', q, r⟩ := h b k cs; ⟨e, a', w', q, .of_steps (.one step_loop) r⟩
theorem loopWp_step {c : Code} {Q : Exit → Act → World → Prop} {a : Act} {w : World} (h : c.wp P (Exit.then (LoopWp P c Q) Q) a w) : LoopWp P c Q a w := by
  intro b k cs
  obtain ⟨e, a1, w1, hq, harr⟩ := h b (.inLoop c :: k) cs
  cases e with
  | normal =>
    obtain ⟨e2, a2, w2, q2, r2⟩ := hq b k cs
    exact ⟨e2, a2, w2, q2, .of_steps (Steps.trans harr (.one step_inLoop)) r2⟩
  | exit id => exact ⟨_, a1, w1, hq, .pass (x := .inLoop c) rfl (fun _ _ => .inl (by simp)) harr⟩
  | goto l => exact ⟨_, a1, w1, hq, .pass (x := .inLoop c) rfl (fun _ _ => .inl (by simp)) harr⟩
  | ret => exact ⟨_, a1, w1, hq, .pass (x := .inLoop c) rfl (fun _ _ => .inl (by simp)) harr⟩
  | panic ch => exact ⟨_, a1, w1, hq, .pass (x := .inLoop c) rfl (fun _ _ => .inl (by simp)) harr⟩
  | outgrown => exact ⟨_, a1, w1, hq, .pass (x := .inLoop c) rfl (fun _ _ => .inl (by simp)) harr⟩
theorem wp_scope_of {c : Code} {Q : Exit → Act → World → Prop} {a : Act} {w : World} (h : ScopeWp P c c Q a w) : (Code.scope c).wp P Q a w :=
  fun b k cs => let ⟨e, a', w', q, r⟩ := h b k cs; ⟨e, a', w', q, .of_steps (.one step_scope) r⟩
theorem step_inScope {b : _root_.Go.Frame} {a : Act} {k : List Item} {cs : List _root_.Go.Frame} {w : World} {c : Code} : step P (lone (b.at a (.inScope c :: k)) cs w) = .next (lone (b.at a k) cs w) :=
  step_lone_go (by simp [stepG, stepG.exec, Frame.at])
def scopeQ (P : Program) (body : Code) (Q : Exit → Act → World → Prop) : Exit → Act → World → Prop
  | .goto l, a, w => match findLabel body l with
    | some rest => ScopeWp P rest body Q a w
    | none => Q (.goto l) a w
  | e, a, w => Q e a w
theorem scopeWp_step {c body : Code} {Q : Exit → Act → World → Prop} {a : Act} {w : World} (h : c.wp P (scopeQ P body Q) a w) : ScopeWp P c body Q a w := by
  intro b k cs
  obtain ⟨e, a1, w1, hq, harr⟩ := h b (.inScope body :: k) cs
  cases e with
  | normal => exact ⟨.normal, a1, w1, hq, Steps.trans harr (.one step_inScope)⟩
  | exit id => exact ⟨.exit id, a1, w1, hq, fun k' hk => harr k' (by simp [exitTo, hk])⟩
  | goto l =>
    simp only [scopeQ] at hq
    cases hf : findLabel body l with
    | none =>
      simp only [hf] at hq
      exact ⟨.goto l, a1, w1, hq, fun k' hk => harr k' (by simp [gotoIn, hf, hk])⟩
    | some rest =>
      simp only [hf] at hq
      obtain ⟨e2, a2, w2, q2, r2⟩ := hq b k cs
      exact ⟨e2, a2, w2, q2, .of_steps (harr _ (by simp [gotoIn, hf])) r2⟩
  | ret => exact ⟨_, a1, w1, hq, harr⟩
  | panic ch => exact ⟨_, a1, w1, hq, harr⟩
  | outgrown => exact ⟨_, a1, w1, hq, harr⟩

theorem putT_rel {r : Env} {T : List Value} {a : Act} (h : RelL r T a.tmps.toList) (dst : Option Tmp) {v u : Value} (hv : Rel r v u) : RelL r (putT T dst v) (a.put dst u).tmps.toList := by
  cases dst with
  | none => exact h
  | some d => simpa [putT, Act.put] using h.set hv d
theorem put_defers (a : Act) (dst : Option Tmp) (u : Value) : (a.put dst u).defers = a.defers := by cases dst <;> rfl
theorem undef_rel {r : Env} : Rel r undef undef := RelL.mkTuple .nil

theorem runOp_snd {rec : Rec} (hr : RecMono P rec) {T : List Value} {o : Oper} {d : Advice} {s s' : St} {v : Value} (h : runOp P rec T o d s = some (v, s')) :
    (VCs s'.V → VCs s.V) ∧ (VCs s'.V → ∀ (r : Env) (ow : Nat → Option Nat) (w : World) (a : Act), Sat P r ow s.h w → Fresh r s.c s'.c → RelL r T a.tmps.toList → ∀ (K : Act → World → Prop) (Q : Exit → Act → World → Prop),
      (∀ r' ow' u w', Post P r ow w s r' ow' w' s' → Rel r' v u → K (a.put o.dst u) w') → o.wp P a w K Q) := by
  unfold runOp at h
  obtain ⟨res, s1, h1, h2⟩ := bind_some h
  obtain ⟨g1, g2⟩ := exOp_snd (P := P) T o d s res s1 h1
  have l1 : s.c ≤ s1.c := (Local.exOp P T o d s _ s1 h1).1
  cases res with
  | val v' =>
    simp only at h2
    obtain ⟨rfl, rfl⟩ := pure_some h2
    refine ⟨g1, fun hV r ow w a hs hf ha K Q hK => ?_⟩
    obtain ⟨r', ow', n, w', e1, e2, e3⟩ := g2 hV r ow w _ hs hf ⟨a, ha, rfl⟩
    unfold Oper.wp
    rw [e1]
    cases n <;> simp only [NextRel] at e3
    exact hK _ _ _ _ e2 e3
  | unit =>
    simp only at h2
    obtain ⟨rfl, rfl⟩ := pure_some h2
    refine ⟨g1, fun hV r ow w a hs hf ha K Q hK => ?_⟩
    obtain ⟨r', ow', n, w', e1, e2, e3⟩ := g2 hV r ow w _ hs hf ⟨a, ha, rfl⟩
    unfold Oper.wp
    rw [e1]
    cases n <;> simp only [NextRel] at e3
    exact hK _ _ _ _ e2 undef_rel
  | call f args =>
    simp only at h2
    unfold callX at h2
    obtain ⟨res2, s2, h3, h4⟩ := bind_some h2
    have l2 : s1.c ≤ s2.c := hr.mono _ d s1 _ s2 h3
    obtain ⟨g3, g4⟩ := hr.snd _ d s1 res2 s2 h3
    cases res2 with
    | out e T' => simp [X.fail] at h4
    | val v' =>
      simp only at h4
      obtain ⟨rfl, rfl⟩ := pure_some h4
      refine ⟨fun hV => g1 (g3 hV), fun hV r ow w a hs hf ha K Q hK => ?_⟩
      obtain ⟨r1, ow1, n, w1, e1, e2, e3⟩ := g2 (g3 hV) r ow w _ hs (hf.sub (Nat.le_refl _) l2) ⟨a, ha, rfl⟩
      unfold Oper.wp
      rw [e1]
      cases n <;> simp only [NextRel] at e3
      obtain ⟨rfl, e4⟩ := e3
      have hc := g4 hV r1 ow1 w1 e2.sat (hf.after e2.new l1) _ e4
      refine Calls.mono hc fun e w2 ⟨r', ow', u, he, hp, hu⟩ => ?_
      subst he
      exact hK _ _ _ _ (e2.trans hp) hu

theorem wantX_snd {ops : Array Oper} {T : List Value} {o : Oper} {d : Advice} {s s' : St} {b : Bool} (h : wantX ops.toList T o d s = some (b, s')) :
    Calm s s' ∧ (VCs s'.V → ∀ (r : Env) (a : Act), RelL r T a.tmps.toList → Region.wanted o (yielded ops a.tmps) = b) := by
  unfold wantX at h
  cases hg : o.guard with
  | none =>
    simp only [hg] at h
    obtain ⟨rfl, rfl⟩ := pure_some h
    exact ⟨Calm.refl _, fun _ r a ha => by simp [Region.wanted, hg]⟩
  | some q =>
    obtain ⟨j, want⟩ := q
    simp only [hg, Array.getElem?_toList] at h
    cases hd : (ops[j]?).bind (·.dst) with
    | none =>
      simp only [hd] at h
      obtain ⟨rfl, rfl⟩ := pure_some h
      exact ⟨Calm.refl _, fun _ r a ha => by simp [Region.wanted, hg, yielded, hd]⟩
    | some dd =>
      simp only [hd] at h
      have key : ∀ (r : Env) (a : Act), RelL r T a.tmps.toList → Rel r (T.getD dd undef) (a.tmps.getD dd undef) := fun r a ha => tmp_rel ha dd
      generalize hb0 : T.getD dd undef = tv at h
      cases tv <;> try (simp [X.fail] at h; done)
      case bool b0 =>
        obtain ⟨t, s1, h1, h2⟩ := bind_some h
        obtain ⟨cm, hb⟩ := calm_ask h1
        obtain ⟨rfl, rfl⟩ := pure_some h2
        refine ⟨cm, fun hV r a ha => ?_⟩
        have h3 := key r a ha
        rw [hb0] at h3
        have hbt := hb hV
        subst hbt
        have h4 : a.tmps[dd]? = some (.bool b0) := by
          rw [Array.getD_eq_getD_getElem?] at h3
          cases e : a.tmps[dd]? with
          | none => rw [e] at h3; simp [undef] at h3; cases h3
          | some x => rw [e] at h3; simp at h3; cases h3; rfl
        simp [Region.wanted, hg, yielded, hd, h4]
      case tuple vs =>
        obtain ⟨rfl, rfl⟩ := pure_some h
        refine ⟨Calm.refl _, fun hV r a ha => ?_⟩
        have h3 := key r a ha
        rw [hb0] at h3
        have h4 : ∀ q, a.tmps[dd]? ≠ some (.bool q) := by
          intro q e
          rw [Array.getD_eq_getD_getElem?, e] at h3
          cases h3
        have h5 : yielded ops a.tmps j = none := by
          unfold yielded
          simp only [hd, Option.bind_some]
          try (split; (rename_i q hq; exact absurd hq (h4 q)); rfl)
        simp [Region.wanted, hg, h5]

/-- One operation of a region. -/
theorem stepV_snd {rec : Rec} (hr : RecMono P rec) {ops : Array Oper} {T : List Value} {v : Value} {o : Oper} {i : Nat} (hi : ops[i]? = some o) {d : Advice} {s s' : St} (h : stepV P rec ops.toList T o d s = some (v, s')) :
    (VCs s'.V → VCs s.V) ∧ (VCs s'.V → ∀ (r : Env) (ow : Nat → Option Nat) (w : World) (a : Act), Sat P r ow s.h w → Fresh r s.c s'.c → RelL r T a.tmps.toList → ∀ (K : Act → World → Prop) (Q : Exit → Act → World → Prop),
      (∀ r' ow' u w', Post P r ow w s r' ow' w' s' → Rel r' v u → K (a.put o.dst u) w') → wpOp P ops Q i K a w) := by
  unfold stepV at h
  obtain ⟨b, s1, h1, h2⟩ := bind_some h
  obtain ⟨cm, hw⟩ := wantX_snd h1
  cases b with
  | true =>
    simp only at h2
    obtain ⟨g1, g2⟩ := runOp_snd hr h2
    refine ⟨fun hV => cm.V (g1 hV), fun hV r ow w a hs hf ha K Q hK => ?_⟩
    unfold wpOp
    simp only [hi, hw (g1 hV) r a ha, if_true]
    refine .inl (g2 hV r ow w a (by rw [cm.h]; exact hs) (by rw [cm.c]; exact hf) ha K Q fun r' ow' u w' hp hu => ?_)
    exact hK r' ow' u w' ((Post.calm hs cm).trans hp) hu
  | false =>
    simp only at h2
    obtain ⟨rfl, rfl⟩ := pure_some h2
    refine ⟨cm.V, fun hV r ow w a hs hf ha K Q hK => ?_⟩
    unfold wpOp
    simp only [hi, hw hV r a ha, Bool.false_eq_true, if_false]
    exact hK r ow undef w (Post.calm hs cm) undef_rel
theorem stepOp_snd {rec : Rec} (hr : RecMono P rec) {ops : Array Oper} {T T' : List Value} {o : Oper} {i : Nat} (hi : ops[i]? = some o) {d : Advice} {s s' : St} (h : stepOp P rec ops.toList T o d s = some (T', s')) :
    (VCs s'.V → VCs s.V) ∧ (VCs s'.V → ∀ (r : Env) (ow : Nat → Option Nat) (w : World) (a : Act), Sat P r ow s.h w → Fresh r s.c s'.c → RelL r T a.tmps.toList → ∀ (K : Act → World → Prop) (Q : Exit → Act → World → Prop),
      (∀ r' ow' u v w', Post P r ow w s r' ow' w' s' → Rel r' v u → T' = putT T o.dst v → K (a.put o.dst u) w') → wpOp P ops Q i K a w) := by
  unfold stepOp at h
  obtain ⟨v, s1, h1, h2⟩ := bind_some h
  obtain ⟨rfl, rfl⟩ := pure_some h2
  obtain ⟨g1, g2⟩ := stepV_snd hr hi h1
  exact ⟨g1, fun hV r ow w a hs hf ha K Q hK => g2 hV r ow w a hs hf ha K Q fun r' ow' u w' hp hu => hK r' ow' u v w' hp hu rfl⟩

theorem seqOps_snd {rec : Rec} (hr : RecMono P rec) {ops : Array Oper} : ∀ (l : List Oper) (i : Nat) (T T' : List Value) (d : Advice) (s s' : St), ops.toList.drop i = l → seqOps P rec ops.toList l T d s = some (T', s') →
    (VCs s'.V → VCs s.V) ∧ (VCs s'.V → ∀ (r : Env) (ow : Nat → Option Nat) (w : World) (a : Act), Sat P r ow s.h w → Fresh r s.c s'.c → RelL r T a.tmps.toList → a.defers = [] → ∀ (Q : Exit → Act → World → Prop),
      (∀ r' ow' a' w', Post P r ow w s r' ow' w' s' → RelL r' T' a'.tmps.toList → a'.defers = [] → Q .normal a' w') → wpOps P ops Q (List.range' i (ops.size - i)) a w)
  | [], i, T, T', d, s, s', hl, h => by
    obtain ⟨rfl, rfl⟩ := pure_some (d := d) h
    have hle : ops.size - i = 0 := by
      have := congrArg List.length hl
      simpa using this
    refine ⟨id, fun hV r ow w a hs hf ha hd Q hQ => ?_⟩
    rw [hle]
    exact hQ r ow a w (Post.calm hs (Calm.refl _)) ha hd
  | o :: l, i, T, T', d, s, s', hl, h => by
    obtain ⟨T1, s1, h1, h2⟩ := bind_some h
    have hi : ops[i]? = some o := by
      have := congrArg (·[0]?) hl
      simpa using this
    have hl' : ops.toList.drop (i + 1) = l := by
      have := congrArg (List.drop 1) hl
      simpa [List.drop_drop] using this
    have hlt : i < ops.size := by
      rcases Nat.lt_or_ge i ops.size with q | q
      · exact q
      · rw [Array.getElem?_eq_none q] at hi; cases hi
    have l1 : s.c ≤ s1.c := MonoX.stepOp hr.mono _ _ _ d s _ s1 h1
    have l2 : s1.c ≤ s'.c := MonoX.seqOps hr.mono _ _ _ d s1 _ s' h2
    obtain ⟨g1, g2⟩ := stepOp_snd hr hi h1
    obtain ⟨g3, g4⟩ := seqOps_snd hr l (i + 1) T1 T' d s1 s' hl' h2
    refine ⟨fun hV => g1 (g3 hV), fun hV r ow w a hs hf ha hd Q hQ => ?_⟩
    have hrange : List.range' i (ops.size - i) = i :: List.range' (i + 1) (ops.size - (i + 1)) := by
      have : ops.size - i = (ops.size - (i + 1)) + 1 := by omega
      rw [this, List.range'_succ]
    rw [hrange, wpOps_cons]
    refine g2 (g3 hV) r ow w a hs (hf.sub (Nat.le_refl _) l2) ha _ _ fun r1 ow1 u v w1 hp hu he => ?_
    subst he
    refine g4 hV r1 ow1 w1 _ hp.sat (hf.after hp.new l1) (putT_rel (ha.mono hp.le) o.dst hu) (by rw [put_defers]; exact hd) Q fun r' ow' a' w' hp' ha' hd' => hQ r' ow' a' w' (hp.trans hp') ha' hd'

end
end Go.Sx
