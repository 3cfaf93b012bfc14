/- Symbolic executor, part 18: what a run tells of a call holds. No condition. -/
import Derived.Test.YtglaapelpidfhaaGreatSxPa2
import Derived.Laws.Sem
namespace Go.Sx
variable {P : Program}

theorem loadN_snd {t : TypeId} {a v : Value} {d : Advice} {s s' : St} (h : exLoadN P t a d s = some (v, s')) :
    Calm s s' ∧ (VCs s'.V → ∀ (r : Env) (ow : Nat → Option Nat) (w : World) (u : Value), Sat P r ow s.h w → Rel r a u → ∃ p y, u = .pointer (some p) ∧ (loadVar t p).run P w = .ok y w ∧ Rel r v y) := by
  unfold exLoadN at h
  obtain ⟨p, s1, h1, h2⟩ := bind_some h
  obtain ⟨rfl, rfl⟩ := addr_some h1
  obtain ⟨g, s2, h3, h4⟩ := bind_some h2
  obtain ⟨⟨D, hD, rfl⟩, rfl⟩ := agg_some h3
  cases hg : isAggD D with
  | true =>
    simp only [hg] at h4
    obtain ⟨sz, s3, h5, h6⟩ := bind_some h4
    obtain ⟨⟨i, hi, rfl⟩, rfl⟩ := sz_some h5
    obtain ⟨vs, s4, h7, h8⟩ := bind_some h6
    obtain ⟨rfl, rfl⟩ := pure_some h8
    obtain ⟨cm, l, t0, hgt, hv⟩ := cells_some h7
    refine ⟨cm, fun hV r ow w u hs hu => ?_⟩
    obtain ⟨e1, e2⟩ := hv hV
    cases hu with
    | ptr hb =>
      obtain ⟨us, hrun, hrel⟩ := sat_load hs hb hgt (by rw [e2]; exact e1)
      refine ⟨_, .agg ⟨us⟩, rfl, ?_, hrel.mkAgg⟩
      rw [e2] at hrun
      simp [loadVar, run_isAgg hD, hg, run_size hi, hrun]
  | false =>
    simp only [hg] at h4
    obtain ⟨vs, s4, h7, h8⟩ := bind_some h4
    split at h8
    · rename_i x0
      obtain ⟨rfl, rfl⟩ := pure_some h8
      obtain ⟨cm, l, t0, hgt, hv⟩ := cells_some h7
      refine ⟨cm, fun hV r ow w u hs hu => ?_⟩
      obtain ⟨e1, e2⟩ := hv hV
      obtain ⟨b, rfl, hb⟩ := hu.ptr_inv
      obtain ⟨us, hrun, hrel⟩ := sat_load hs hb hgt (vs := [x0]) (by simpa using e1)
      cases hrel with
      | @cons _ y _ ys hx ht =>
        cases ht
        refine ⟨_, y, rfl, ?_, hx⟩
        have h10 : w.cell? ⟨b, p.2, none⟩ = some y := by
          obtain ⟨b', c, q1, q2, q3, q4, q5, q6⟩ := hs.chunk _ _ hgt
          have hbb : b' = b := by rw [hb] at q1; exact (Option.some.inj q1).symm
          subst hbb
          have hl : p.2 < l.length := by
            have := congrArg List.length e1
            simp at this; omega
          have hc : w.cell? ⟨b', p.2, none⟩ = some c[p.2] := by rw [cell_of q3]; simp [Nat.lt_of_lt_of_le hl q5]
          have hrun' := hrun
          simp only [loadCells, loadCellsFrom, List.length_cons, List.length_nil, Sem.run_bind, run_load, Addr.add_zero', hc] at hrun'
          simp at hrun'
          rw [hc, hrun']
        simp [loadVar, run_isAgg hD, hg, h10]
    · simp [X.fail] at h8

theorem load_snd {t : TypeId} {a v : Value} {d : Advice} {s s' : St} (h : exLoad P t a d s = some (v, s')) :
    Calm s s' ∧ (VCs s'.V → ∀ (r : Env) (ow : Nat → Option Nat) (w : World) (u : Value), Sat P r ow s.h w → Rel r a u → ∃ p y, u = .pointer (some p) ∧ (loadVar t p).run P w = .ok y w ∧ Rel r v y) := by
  unfold exLoad at h
  split at h
  · obtain ⟨cm, g⟩ := lit_snd h
    refine ⟨cm, fun hV r ow w u hs hu => ?_⟩
    obtain ⟨y, hy, hr⟩ := g hV r ow w hs
    cases hu
    exact ⟨_, y, rfl, hy, hr⟩
  · exact loadN_snd h

def one1 (tmps : Array Value) : ResultVar → Sem Value
  | .tmp t => pure (tmps.getD t undef)
  | .cell a t => do loadVar t (← asAddr (tmps.getD a undef))
theorem results_one1 (fn : Func) (tmps : Array Value) : results fn tmps = (do
  let vs ← fn.results.mapM (one1 tmps)
  pure (if h : vs.size = 1 then vs[0] else .tuple vs)) := rfl
theorem resX_snd {T : List Value} {d : Advice} : ∀ {l : List ResultVar} {s s' : St} {vs : List Value}, resX P T l d s = some (vs, s') →
    Calm s s' ∧ (VCs s'.V → ∀ (r : Env) (ow : Nat → Option Nat) (w : World) (tmps : Array Value), Sat P r ow s.h w → RelL r T tmps.toList →
      ∃ us, (l.mapM (one1 tmps)).run P w = .ok us w ∧ RelL r vs us)
  | [], s, s', vs, h => by
    obtain ⟨rfl, rfl⟩ := pure_some (d := d) h
    exact ⟨Calm.refl _, fun _ r ow w tmps _ _ => ⟨[], by simp, .nil⟩⟩
  | .tmp t :: l, s, s', vs, h => by
    obtain ⟨vs1, s1, h1, h2⟩ := bind_some h
    obtain ⟨rfl, rfl⟩ := pure_some h2
    obtain ⟨cm, g⟩ := resX_snd h1
    refine ⟨cm, fun hV r ow w tmps hs ha => ?_⟩
    obtain ⟨us, e1, e2⟩ := g hV r ow w tmps hs ha
    refine ⟨tmps.getD t undef :: us, ?_, .cons (tmp_rel (a := ⟨tmps, []⟩) ha t) e2⟩
    rw [List.mapM_cons]
    simp only [one1, Sem.run_bind, Sem.run_pure, pure_bind, e1, Result.andThen]
  | .cell a t :: l, s, s', vs, h => by
    obtain ⟨v, s1, h1, h2⟩ := bind_some h
    obtain ⟨vs1, s2, h3, h4⟩ := bind_some h2
    obtain ⟨rfl, rfl⟩ := pure_some h4
    obtain ⟨cm1, g1⟩ := load_snd h1
    obtain ⟨cm, g⟩ := resX_snd h3
    refine ⟨cm1.trans cm, fun hV r ow w tmps hs ha => ?_⟩
    obtain ⟨p, y, e3, e4, e5⟩ := g1 (cm.V hV) r ow w _ hs (tmp_rel (a := ⟨tmps, []⟩) ha a)
    obtain ⟨us, e1, e2⟩ := g hV r ow w tmps (by rw [cm1.h]; exact hs) ha
    refine ⟨y :: us, ?_, .cons e5 e2⟩
    have e6 : (one1 tmps (.cell a t)).run P w = .ok y w := by
      simp only at e3
      simp only [one1, e3, asAddr, pure_bind, e4]
    rw [List.mapM_cons]
    simp only [Sem.run_bind, Sem.run_pure, e6, e1, Result.andThen]

theorem results_snd {fn : Func} {T : List Value} {d : Advice} {s s' : St} {vs : List Value} (h : resX P T fn.results.toList d s = some (vs, s')) :
    Calm s s' ∧ (VCs s'.V → ∀ (r : Env) (ow : Nat → Option Nat) (w : World) (tmps : Array Value), Sat P r ow s.h w → RelL r T tmps.toList →
      ∃ u, (results fn tmps).run P w = .ok u w ∧ Rel r (oneV vs) u) := by
  obtain ⟨cm, g⟩ := resX_snd h
  refine ⟨cm, fun hV r ow w tmps hs ha => ?_⟩
  obtain ⟨us, e1, e2⟩ := g hV r ow w tmps hs ha
  have e3 : (results fn tmps).run P w = .ok (if h : us.toArray.size = 1 then us.toArray[0] else .tuple us.toArray) w := by
    rw [results_one1, Array.mapM_eq_mapM_toList]
    simp only [Sem.run_bind, map_eq_pure_bind, Sem.run_pure, e1, Result.andThen]
  refine ⟨_, e3, ?_⟩
  cases e2 with
  | nil => exact RelL.mkTuple .nil
  | cons hx ht =>
    cases ht with
    | nil => simpa [oneV] using hx
    | cons hy ht' => simpa [oneV] using RelL.mkTuple (.cons hx (.cons hy ht'))

theorem fit_rel {r : Env} {fn : Func} {args : List Value} {us : Array Value} (h : RelL r args us.toList) :
    RelL r (args ++ List.replicate (fn.ntmps - args.length) undef) (us ++ Array.replicate (fn.ntmps - us.size) undef).toList := by
  have hl := h.length
  rw [Array.toList_append, Array.toList_replicate, hl, Array.length_toList]
  exact h.append (RelL.replicate undef_rel _)

theorem stepT_mono {ro rec : Rec} (hro : LocalR ro) (hr : ∀ t, MonoX (rec t)) (t : Task) : MonoX (stepT P ro rec t) := by
  cases t with
  | call f args =>
    simp only [Sx.stepT]
    cases P.funcs[f]? with
    | none => exact MonoX.fail
    | some fn =>
      simp only
      cases fn.body with
      | none => exact MonoX.fail
      | some c =>
        refine MonoX.bind (hr _) fun r => ?_
        split
        · exact MonoX.bind (Local.resX _ _).monoX fun _ => MonoX.pure _
        · exact MonoX.bind (Local.resX _ _).monoX fun _ => MonoX.pure _
        · exact MonoX.fail
  | inLoop c T =>
    refine MonoX.bind (hr _) fun r => ?_
    split
    · exact hr _
    · exact MonoX.pure _
  | inScope c b T =>
    refine MonoX.bind (hr _) fun r => ?_
    split
    · split
      · exact hr _
      · exact MonoX.pure _
    · exact MonoX.pure _
  | code c T =>
    unfold Sx.stepT
    cases c with
    | skip => exact MonoX.pure _
    | label _ => exact MonoX.pure _
    | region id ops draw =>
      cases draw
      · exact MonoX.bind (Local.seqOps hro _ _ _).monoX fun _ => MonoX.pure _
      · exact MonoX.bind (Local.parX hro _ _).monoX fun _ => MonoX.pure _
    | seq a b =>
      refine MonoX.bind (hr _) fun r => ?_
      split
      · exact hr _
      · exact MonoX.pure _
    | cond c a b =>
      refine MonoX.bind (Local.opt _).monoX fun v => ?_
      split
      · refine MonoX.bind (Local.ask _).monoX fun t => ?_
        split
        · exact hr _
        · exact hr _
      · exact MonoX.fail
    | block id a =>
      refine MonoX.bind (hr _) fun r => ?_
      split
      · split
        · exact MonoX.pure _
        · exact MonoX.pure _
      · exact MonoX.pure _
    | loop a => exact hr _
    | exit id => exact MonoX.pure _
    | scope a => exact hr _
    | goto l => exact MonoX.pure _
    | ret => exact MonoX.pure _
    | rangeFunc _ _ _ _ => exact MonoX.fail
    | refuse _ => exact MonoX.fail

theorem stepT_snd (hm : P.follows .mixedOrders = true) {ro rec : Rec} (hro : RecSnd P ro) (hr : RecMono P rec) : ∀ t, TaskSnd P (stepT P ro rec t) t := by
  intro t d s res s' h
  cases t with
  | call f args =>
    simp only [stepT] at h
    cases hf : P.funcs[f]? with
    | none => simp [hf, X.fail] at h
    | some fn =>
      simp only [hf] at h
      cases hb : fn.body with
      | none => simp [hb, X.fail] at h
      | some c =>
        simp only [hb] at h
        obtain ⟨res1, s1, h1, h2⟩ := bind_some h
        obtain ⟨g1, g2⟩ := hr.snd _ d s res1 s1 h1
        have l1 : s.c ≤ s1.c := hr.mono _ d s _ s1 h1
        -- both ways out alike
        have key : ∀ (e : SExit) (T : List Value), res1 = .out e T → (e = .normal ∨ e = .ret) → X.bind (resX P T fn.results.toList) (fun vs => X.pure (ARes.val (oneV vs))) d s1 = some (res, s') →
            (VCs s'.V → VCs s.V) ∧ (VCs s'.V → ∀ r ow w, Sat P r ow s.h w → Fresh r s.c s'.c → TaskOk P r ow w s s' (.call f args) res) := by
          intro e T he hen h3
          obtain ⟨vs, s2, h4, h5⟩ := bind_some h3
          obtain ⟨rfl, rfl⟩ := pure_some h5
          obtain ⟨cm, g3⟩ := results_snd h4
          subst he
          refine ⟨fun hV => g1 (cm.V hV), fun hV r ow w hs hfr us hus => ?_⟩
          have hwp := g2 (cm.V hV) r ow w hs (by rw [cm.c] at hfr; exact hfr) { tmps := us ++ Array.replicate (fn.ntmps - us.size) undef, defers := [] } (fit_rel hus) rfl
          refine calls_of_wp hf hb (wp_mono hwp ?_)
          intro e' a' w' ⟨hex, hd, r', ow', hp, ha'⟩
          obtain ⟨u, hres, hu⟩ := g3 hV r' ow' w' a'.tmps hp.sat ha'
          have hfin : CallPost P r ow w s s2 (oneV vs) (.returned u) w' := ⟨r', ow', u, rfl, hp.trans (Post.calm hp.sat cm), hu⟩
          rcases hen with rfl | rfl
          · cases e' <;> simp only [exitRel] at hex
            exact ⟨hd, u, hres, hfin⟩
          · cases e' <;> simp only [exitRel] at hex
            exact ⟨hd, u, hres, hfin⟩
        split at h2
        · exact key _ _ rfl (.inl rfl) h2
        · exact key _ _ rfl (.inr rfl) h2
        · simp [X.fail] at h2
  | inLoop c T =>
    simp only [stepT] at h
    obtain ⟨res1, s1, h1, h2⟩ := bind_some h
    obtain ⟨g1, g2⟩ := hr.snd _ d s res1 s1 h1
    have l1 : s.c ≤ s1.c := hr.mono _ d s _ s1 h1
    split at h2
    · rename_i T'
      obtain ⟨g3, g4⟩ := hr.snd _ d s1 res s' h2
      have l2 : s1.c ≤ s'.c := hr.mono _ d s1 _ s' h2
      refine ⟨fun hV => g1 (g3 hV), fun hV r ow w hs hf => ?_⟩
      have k1 := g2 (g3 hV) r ow w hs (hf.sub (Nat.le_refl _) l2)
      cases res with
      | val v => trivial
      | out e T2 =>
        intro a ha hd
        refine loopWp_step (wp_mono (k1 a ha hd) ?_)
        intro e' a' w' ⟨hex, hd', r', ow', hp, ha'⟩
        cases e' <;> simp only [exitRel] at hex
        have k3 := g4 hV r' ow' w' hp.sat (hf.after hp.new l1) a' ha' hd'
        intro b k cs
        obtain ⟨e3, a3, w3, ⟨q1, q2, r3, o3, q3, q4⟩, q5⟩ := k3 b k cs
        exact ⟨e3, a3, w3, ⟨q1, q2, r3, o3, hp.trans q3, q4⟩, q5⟩
    · rename_i hno
      obtain ⟨rfl, rfl⟩ := pure_some h2
      refine ⟨g1, fun hV r ow w hs hf => ?_⟩
      have k1 := g2 hV r ow w hs hf
      cases res1 with
      | val v => trivial
      | out e T2 =>
        intro a ha hd
        refine loopWp_step (wp_mono (k1 a ha hd) ?_)
        intro e' a' w' hq
        cases e' with
        | normal =>
          obtain ⟨hex, _⟩ := hq
          cases e <;> simp only [exitRel] at hex
          exact (hno _ rfl).elim
        | _ => exact hq
  | inScope c body T =>
    simp only [stepT] at h
    obtain ⟨res1, s1, h1, h2⟩ := bind_some h
    obtain ⟨g1, g2⟩ := hr.snd _ d s res1 s1 h1
    have l1 : s.c ≤ s1.c := hr.mono _ d s _ s1 h1
    split at h2
    · rename_i l T'
      cases hfl : findLabel body l with
      | some rest =>
        simp only [hfl] at h2
        obtain ⟨g3, g4⟩ := hr.snd _ d s1 res s' h2
        have l2 : s1.c ≤ s'.c := hr.mono _ d s1 _ s' h2
        refine ⟨fun hV => g1 (g3 hV), fun hV r ow w hs hf => ?_⟩
        have k1 := g2 (g3 hV) r ow w hs (hf.sub (Nat.le_refl _) l2)
        cases res with
        | val v => trivial
        | out e T2 =>
          intro a ha hd
          refine scopeWp_step (wp_mono (k1 a ha hd) ?_)
          intro e' a' w' ⟨hex, hd', r', ow', hp, ha'⟩
          cases e' <;> simp only [exitRel] at hex
          subst hex
          simp only [scopeQ, hfl]
          have k3 := g4 hV r' ow' w' hp.sat (hf.after hp.new l1) a' ha' hd'
          intro b k cs
          obtain ⟨e3, a3, w3, ⟨q1, q2, r3, o3, q3, q4⟩, q5⟩ := k3 b k cs
          exact ⟨e3, a3, w3, ⟨q1, q2, r3, o3, hp.trans q3, q4⟩, q5⟩
      | none =>
        simp only [hfl] at h2
        obtain ⟨rfl, rfl⟩ := pure_some h2
        refine ⟨g1, fun hV r ow w hs hf => ?_⟩
        have k1 := g2 hV r ow w hs hf
        intro a ha hd
        refine scopeWp_step (wp_mono (k1 a ha hd) ?_)
        intro e' a' w' hq
        have hex := hq.1
        cases e' <;> simp only [exitRel] at hex
        subst hex
        simp only [scopeQ, hfl]
        exact hq
    · rename_i hno
      obtain ⟨rfl, rfl⟩ := pure_some h2
      refine ⟨g1, fun hV r ow w hs hf => ?_⟩
      have k1 := g2 hV r ow w hs hf
      cases res1 with
      | val v => trivial
      | out e T2 =>
        intro a ha hd
        refine scopeWp_step (wp_mono (k1 a ha hd) ?_)
        intro e' a' w' hq
        cases e' with
        | goto l =>
          obtain ⟨hex, _⟩ := hq
          cases e <;> simp only [exitRel] at hex
          exact (hno _ _ rfl).elim
        | _ => exact hq
  | code c T =>
    cases c with
    | skip =>
      simp only [stepT] at h
      obtain ⟨rfl, rfl⟩ := pure_some h
      exact ⟨id, fun hV r ow w hs hf a ha hd => wp_skip ⟨trivial, hd, r, ow, Post.calm hs (Calm.refl _), ha⟩⟩
    | label l =>
      simp only [stepT] at h
      obtain ⟨rfl, rfl⟩ := pure_some h
      exact ⟨id, fun hV r ow w hs hf a ha hd => wp_label ⟨trivial, hd, r, ow, Post.calm hs (Calm.refl _), ha⟩⟩
    | exit l =>
      simp only [stepT] at h
      obtain ⟨rfl, rfl⟩ := pure_some h
      exact ⟨id, fun hV r ow w hs hf a ha hd => wp_exit ⟨rfl, hd, r, ow, Post.calm hs (Calm.refl _), ha⟩⟩
    | goto l =>
      simp only [stepT] at h
      obtain ⟨rfl, rfl⟩ := pure_some h
      exact ⟨id, fun hV r ow w hs hf a ha hd => wp_goto ⟨rfl, hd, r, ow, Post.calm hs (Calm.refl _), ha⟩⟩
    | ret =>
      simp only [stepT] at h
      obtain ⟨rfl, rfl⟩ := pure_some h
      exact ⟨id, fun hV r ow w hs hf a ha hd => wp_ret ⟨trivial, hd, r, ow, Post.calm hs (Calm.refl _), ha⟩⟩
    | rangeFunc _ _ _ _ => simp [stepT, X.fail] at h
    | refuse _ => simp [stepT, X.fail] at h
    | loop c =>
      simp only [stepT] at h
      obtain ⟨g1, g2⟩ := hr.snd _ d s res s' h
      refine ⟨g1, fun hV r ow w hs hf => ?_⟩
      cases res with
      | val v => trivial
      | out e T2 => exact fun a ha hd => wp_loop_of (g2 hV r ow w hs hf a ha hd)
    | scope c =>
      simp only [stepT] at h
      obtain ⟨g1, g2⟩ := hr.snd _ d s res s' h
      refine ⟨g1, fun hV r ow w hs hf => ?_⟩
      cases res with
      | val v => trivial
      | out e T2 => exact fun a ha hd => wp_scope_of (g2 hV r ow w hs hf a ha hd)
    | seq x y =>
      simp only [stepT] at h
      obtain ⟨res1, s1, h1, h2⟩ := bind_some h
      obtain ⟨g1, g2⟩ := hr.snd _ d s res1 s1 h1
      have l1 : s.c ≤ s1.c := hr.mono _ d s _ s1 h1
      split at h2
      · rename_i T'
        obtain ⟨g3, g4⟩ := hr.snd _ d s1 res s' h2
        have l2 : s1.c ≤ s'.c := hr.mono _ d s1 _ s' h2
        refine ⟨fun hV => g1 (g3 hV), fun hV r ow w hs hf => ?_⟩
        have k1 := g2 (g3 hV) r ow w hs (hf.sub (Nat.le_refl _) l2)
        cases res with
        | val v => trivial
        | out e T2 =>
          intro a ha hd
          refine wp_seq (wp_mono (k1 a ha hd) ?_)
          intro e' a' w' ⟨hex, hd', r', ow', hp, ha'⟩
          cases e' <;> simp only [exitRel] at hex
          refine wp_mono (g4 hV r' ow' w' hp.sat (hf.after hp.new l1) a' ha' hd') ?_
          intro e3 a3 w3 ⟨q1, q2, r3, o3, q3, q4⟩
          exact ⟨q1, q2, r3, o3, hp.trans q3, q4⟩
      · rename_i hno
        obtain ⟨rfl, rfl⟩ := pure_some h2
        refine ⟨g1, fun hV r ow w hs hf => ?_⟩
        have k1 := g2 hV r ow w hs hf
        cases res1 with
        | val v => trivial
        | out e T2 =>
          intro a ha hd
          refine wp_seq (wp_mono (k1 a ha hd) ?_)
          intro e' a' w' hq
          cases e' with
          | normal =>
            obtain ⟨hex, _⟩ := hq
            cases e <;> simp only [exitRel] at hex
            exact (hno _ rfl).elim
          | _ => exact hq
    | block id c =>
      simp only [stepT] at h
      obtain ⟨res1, s1, h1, h2⟩ := bind_some h
      obtain ⟨g1, g2⟩ := hr.snd _ d s res1 s1 h1
      split at h2
      · rename_i i T'
        rw [nbeq] at h2
        by_cases hi : i = id
        · simp only [hi, decide_true] at h2
          obtain ⟨rfl, rfl⟩ := pure_some h2
          refine ⟨g1, fun hV r ow w hs hf a ha hd => ?_⟩
          refine wp_block (wp_mono (g2 hV r ow w hs hf a ha hd) ?_)
          intro e' a' w' ⟨hex, hq⟩
          cases e' <;> simp only [exitRel] at hex
          subst hex
          simp only [Exit.inBlock, hi, if_true]
          exact ⟨trivial, hq⟩
        · simp only [hi, decide_false] at h2
          obtain ⟨rfl, rfl⟩ := pure_some h2
          refine ⟨g1, fun hV r ow w hs hf a ha hd => ?_⟩
          refine wp_block (wp_mono (g2 hV r ow w hs hf a ha hd) ?_)
          intro e' a' w' ⟨hex, hq⟩
          cases e' <;> simp only [exitRel] at hex
          subst hex
          simp only [Exit.inBlock, hi, if_false]
          exact ⟨rfl, hq⟩
      · rename_i hno
        obtain ⟨rfl, rfl⟩ := pure_some h2
        refine ⟨g1, fun hV r ow w hs hf => ?_⟩
        have k1 := g2 hV r ow w hs hf
        cases res1 with
        | val v => trivial
        | out e T2 =>
          intro a ha hd
          refine wp_block (wp_mono (k1 a ha hd) ?_)
          intro e' a' w' hq
          cases e' with
          | exit i =>
            obtain ⟨hex, _⟩ := hq
            cases e <;> simp only [exitRel] at hex
            exact (hno _ _ rfl).elim
          | _ => exact hq
    | cond c x y =>
      simp only [stepT] at h
      obtain ⟨v, s1, h1, h2⟩ := bind_some h
      obtain ⟨hev, rfl⟩ := opt_some h1
      cases v <;> try (simp [X.fail] at h2; done)
      case bool b0 =>
        obtain ⟨t, s2, h3, h4⟩ := bind_some h2
        obtain ⟨cm, hb⟩ := calm_ask h3
        have hcond : ∀ (r : Env) (a : Act), RelL r T a.tmps.toList → a.eval c = .bool b0 := fun r a ha => by
          have := evO_rel ha hev
          cases hu : a.eval c <;> rw [hu] at this <;> cases this
          rfl
        cases t with
        | true =>
          simp only at h4
          obtain ⟨g1, g2⟩ := hr.snd _ d s2 res s' h4
          refine ⟨fun hV => cm.V (g1 hV), fun hV r ow w hs hf => ?_⟩
          have k1 := g2 hV r ow w (by rw [cm.h]; exact hs) (by rw [cm.c]; exact hf)
          cases res with
          | val v => trivial
          | out e T2 =>
            intro a ha hd
            refine wp_cond_true (by rw [hcond r a ha, hb (g1 hV)]) (wp_mono (k1 a ha hd) ?_)
            intro e3 a3 w3 ⟨q1, q2, r3, o3, q3, q4⟩
            exact ⟨q1, q2, r3, o3, (Post.calm hs cm).trans q3, q4⟩
        | false =>
          simp only at h4
          obtain ⟨g1, g2⟩ := hr.snd _ d s2 res s' h4
          refine ⟨fun hV => cm.V (g1 hV), fun hV r ow w hs hf => ?_⟩
          have k1 := g2 hV r ow w (by rw [cm.h]; exact hs) (by rw [cm.c]; exact hf)
          cases res with
          | val v => trivial
          | out e T2 =>
            intro a ha hd
            refine wp_cond_false (by rw [hcond r a ha, hb (g1 hV)]) (wp_mono (k1 a ha hd) ?_)
            intro e3 a3 w3 ⟨q1, q2, r3, o3, q3, q4⟩
            exact ⟨q1, q2, r3, o3, (Post.calm hs cm).trans q3, q4⟩
    | region id ops draw =>
      cases draw with
      | false =>
        simp only [stepT] at h
        obtain ⟨T', s1, h1, h2⟩ := bind_some h
        obtain ⟨rfl, rfl⟩ := pure_some h2
        obtain ⟨g1, g2⟩ := seqOps_snd hro.mono ops.toList 0 T T' d s s1 (by simp) h1
        refine ⟨g1, fun hV r ow w hs hf a ha hd => wp_region ?_⟩
        rw [List.range_eq_range']
        exact g2 hV r ow w a hs hf ha hd _ fun r' ow' a' w' hp ha' hd' => ⟨trivial, hd', r', ow', hp, ha'⟩
      | true =>
        simp only [stepT] at h
        obtain ⟨T', s1, h1, h2⟩ := bind_some h
        obtain ⟨rfl, rfl⟩ := pure_some h2
        obtain ⟨g1, g2⟩ := par_any hro h1
        refine ⟨g1, fun hV r ow w hs hf a ha hd => wp_region_any hm ?_⟩
        refine g2 hV r ow { w with drawn := w.drawn + 1 } a (hs.drew rfl) hf ha hd _ fun r' ow' a' w' hp ha' hd' => ⟨trivial, hd', r', ow', ?_, ha'⟩
        exact ⟨hp.le, hp.sat, (Frame.drew (ow := ow) (w := w) (w' := { w with drawn := w.drawn + 1 }) rfl rfl rfl rfl).trans hp.frame, hp.new, hp.mono, hp.own⟩

/-- Contracts that hold. -/
structure Holds (P : Program) (C : Contracts) : Prop where
  loc : ∀ t x, C t = some x → Local x
  snd : ∀ t x, C t = some x → TaskSnd P x t
theorem noC_holds : Holds P noC := ⟨fun _ _ h => by simp [noC] at h, fun _ _ h => by simp [noC] at h⟩
theorem ex_snd (hm : P.follows .mixedOrders = true) {C : Contracts} (hC : Holds P C) : ∀ n, RecSnd P (ex P C n)
  | 0 => ⟨Local.ex hC.loc 0, fun _ _ _ _ _ h => by simp [ex, X.fail] at h⟩
  | n + 1 => ⟨Local.ex hC.loc (n + 1), fun t => by
      unfold ex
      cases e : C t with
      | some x => exact hC.snd t x e
      | none => exact stepT_snd hm (ex_snd hm hC n) (ex_snd hm hC n).mono t⟩
/-- What a run tells of a call. -/
theorem ex_calls (hm : P.follows .mixedOrders = true) {C : Contracts} (hC : Holds P C) {n : Nat} {f : FuncId} {args : List Value} {d : Advice} {s s' : St} {v : Value}
    (h : ex P C n (.call f args) d s = some (.val v, s')) (hV : VCs s'.V) {r : Env} {ow : Nat → Option Nat} {w : World} (hs : Sat P r ow s.h w) (hf : Fresh r s.c s'.c) {us : Array Value} (hu : RelL r args us.toList) :
    Calls P f us w (CallPost P r ow w s s' v) :=
  ((ex_snd hm hC n).snd _ d s _ s' h).2 hV r ow w hs hf us hu
end Go.Sx
