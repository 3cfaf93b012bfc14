/- Symbolic executor, part 18: what a run tells of a call holds. No condition. -/
import Derived.Test.YtkmicbhnfochjaaGreatDoorMSxPa2
import Derived.Laws.Sem
import Derived.Deep.Slices

namespace Go.Sx
variable {P : Program}

theorem loadN_snd {t : TypeId} {a v : Value} {d : Advice} {s s' : St} (h : exLoadN P t a d s = some (v, s')) :
    Calm s s' ∧ (VCs s'.V → ∀ (r : Env) (ow : Nat → Option Nat) (w : World) (u : Value), Sat P r ow s.h w → Rel r a u → ∃ p y, u = .pointer (some p) ∧ (loadVar t p).run P w = .ok y w ∧ Rel r v y) := by
  unfold exLoadN at h
  obtain ⟨p, s1, h1, h2⟩ := bind_some h
  obtain ⟨rfl, rfl⟩ := addr_some h1
  obtain ⟨g, s2, h3, h4⟩ := bind_some h2
  obtain ⟨⟨D, hD, rfl⟩, rfl⟩ := agg_some h3
  cases hg : isAggD D with
  | true =>
    simp only [hg] at h4
    obtain ⟨sz, s3, h5, h6⟩ := bind_some h4
    obtain ⟨⟨i, hi, rfl⟩, rfl⟩ := sz_some h5
    obtain ⟨vs, s4, h7, h8⟩ := bind_some h6
    obtain ⟨rfl, rfl⟩ := pure_some h8
    obtain ⟨cm, l, t0, hgt, hv⟩ := cells_some h7
    refine ⟨cm, fun hV r ow w u hs hu => ?_⟩
    obtain ⟨e1, e2⟩ := hv hV
    cases hu with
    | ptr hb =>
      obtain ⟨us, hrun, hrel⟩ := sat_load hs hb hgt (by rw [e2]; exact e1)
      refine ⟨_, .agg ⟨us⟩, rfl, ?_, hrel.mkAgg⟩
      rw [e2] at hrun
      simp [loadVar, run_isAgg hD, hg, run_size hi, hrun]
  | false =>
    simp only [hg] at h4
    obtain ⟨vs, s4, h7, h8⟩ := bind_some h4
    split at h8
    · rename_i x0
      obtain ⟨rfl, rfl⟩ := pure_some h8
      obtain ⟨cm, l, t0, hgt, hv⟩ := cells_some h7
      refine ⟨cm, fun hV r ow w u hs hu => ?_⟩
      obtain ⟨e1, e2⟩ := hv hV
      obtain ⟨b, rfl, hb⟩ := hu.ptr_inv
      obtain ⟨us, hrun, hrel⟩ := sat_load hs hb hgt (vs := [x0]) (by simpa using e1)
      cases hrel with
      | @cons _ y _ ys hx ht =>
        cases ht
        refine ⟨_, y, rfl, ?_, hx⟩
        have h10 : w.cell? ⟨b, p.2, none⟩ = some y := by
          obtain ⟨b', c, q1, q2, q3, q4, q5, q6⟩ := hs.chunk _ _ hgt
          have hbb : b' = b := by rw [hb] at q1; exact (Option.some.inj q1).symm
          subst hbb
          have hl : p.2 < l.length := by
            have := congrArg List.length e1
            simp at this; omega
          have hc : w.cell? ⟨b', p.2, none⟩ = some c[p.2] := by rw [cell_of q3]; simp [Nat.lt_of_lt_of_le hl q5]
          have hrun' := hrun
          simp only [loadCells, loadCellsFrom, List.length_cons, List.length_nil, Sem.run_bind, run_load, Addr.add_zero', hc] at hrun'
          simp at hrun'
          rw [hc, hrun']
        simp [loadVar, run_isAgg hD, hg, h10]
    · simp [X.fail] at h8

theorem load_snd {t : TypeId} {a v : Value} {d : Advice} {s s' : St} (h : exLoad P t a d s = some (v, s')) :
    Calm s s' ∧ (VCs s'.V → ∀ (r : Env) (ow : Nat → Option Nat) (w : World) (u : Value), Sat P r ow s.h w → Rel r a u → ∃ p y, u = .pointer (some p) ∧ (loadVar t p).run P w = .ok y w ∧ Rel r v y) := by
  unfold exLoad at h
  split at h
  · obtain ⟨cm, g⟩ := lit_snd h
    refine ⟨cm, fun hV r ow w u hs hu => ?_⟩
    obtain ⟨y, hy, hr⟩ := g hV r ow w hs
    cases hu
    exact ⟨_, y, rfl, hy, hr⟩
  · exact loadN_snd h

def one1 (tmps : Array Value) : ResultVar → Sem Value
  | .tmp t => pure (tmps.getD t undef)
  | .cell a t => do loadVar t (← asAddr (tmps.getD a undef))
theorem results_one1 (fn : Func) (tmps : Array Value) : results fn tmps = (do
  let vs ← fn.results.mapM (one1 tmps)
  pure (if h : vs.size = 1 then vs[0] else .tuple vs)) := rfl
theorem resX_snd {T : List Value} {d : Advice} : ∀ {l : List ResultVar} {s s' : St} {vs : List Value}, resX P T l d s = some (vs, s') →
    Calm s s' ∧ (VCs s'.V → ∀ (r : Env) (ow : Nat → Option Nat) (w : World) (tmps : Array Value), Sat P r ow s.h w → RelL r T tmps.toList →
      ∃ us, (l.mapM (one1 tmps)).run P w = .ok us w ∧ RelL r vs us)
  | [], s, s', vs, h => by
    obtain ⟨rfl, rfl⟩ := pure_some (d := d) h
    exact ⟨Calm.refl _, fun _ r ow w tmps _ _ => ⟨[], by simp, .nil⟩⟩
  | .tmp t :: l, s, s', vs, h => by
    obtain ⟨vs1, s1, h1, h2⟩ := bind_some h
    obtain ⟨rfl, rfl⟩ := pure_some h2
    obtain ⟨cm, g⟩ := resX_snd h1
    refine ⟨cm, fun hV r ow w tmps hs ha => ?_⟩
    obtain ⟨us, e1, e2⟩ := g hV r ow w tmps hs ha
    refine ⟨tmps.getD t undef :: us, ?_, .cons (tmp_rel (a := ⟨tmps, []⟩) ha t) e2⟩
    rw [List.mapM_cons]
    simp only [one1, Sem.run_bind, Sem.run_pure, pure_bind, e1, Result.andThen]
  | .cell a t :: l, s, s', vs, h => by
    obtain ⟨v, s1, h1, h2⟩ := bind_some h
    obtain ⟨vs1, s2, h3, h4⟩ := bind_some h2
    obtain ⟨rfl, rfl⟩ := pure_some h4
    obtain ⟨cm1, g1⟩ := load_snd h1
    obtain ⟨cm, g⟩ := resX_snd h3
    refine ⟨cm1.trans cm, fun hV r ow w tmps hs ha => ?_⟩
    obtain ⟨p, y, e3, e4, e5⟩ := g1 (cm.V hV) r ow w _ hs (tmp_rel (a := ⟨tmps, []⟩) ha a)
    obtain ⟨us, e1, e2⟩ := g hV r ow w tmps (by rw [cm1.h]; exact hs) ha
    refine ⟨y :: us, ?_, .cons e5 e2⟩
    have e6 : (one1 tmps (.cell a t)).run P w = .ok y w := by
      simp only at e3
      simp only [one1, e3, asAddr, pure_bind, e4]
    rw [List.mapM_cons]
    simp only [Sem.run_bind, Sem.run_pure, e6, e1, Result.andThen]

theorem results_snd {fn : Func} {T : List Value} {d : Advice} {s s' : St} {vs : List Value} (h : resX P T fn.results.toList d s = some (vs, s')) :
    Calm s s' ∧ (VCs s'.V → ∀ (r : Env) (ow : Nat → Option Nat) (w : World) (tmps : Array Value), Sat P r ow s.h w → RelL r T tmps.toList →
      ∃ u, (results fn tmps).run P w = .ok u w ∧ Rel r (oneV vs) u) := by
  obtain ⟨cm, g⟩ := resX_snd h
  refine ⟨cm, fun hV r ow w tmps hs ha => ?_⟩
  obtain ⟨us, e1, e2⟩ := g hV r ow w tmps hs ha
  have e3 : (results fn tmps).run P w = .ok (if h : us.toArray.size = 1 then us.toArray[0] else .tuple us.toArray) w := by
    rw [results_one1, Array.mapM_eq_mapM_toList]
    simp only [Sem.run_bind, map_eq_pure_bind, Sem.run_pure, e1, Result.andThen]
  refine ⟨_, e3, ?_⟩
  cases e2 with
  | nil => exact RelL.mkTuple .nil
  | cons hx ht =>
    cases ht with
    | nil => simpa [oneV] using hx
    | cons hy ht' => simpa [oneV] using RelL.mkTuple (.cons hx (.cons hy ht'))

theorem fit_rel {r : Env} {fn : Func} {args : List Value} {us : Array Value} (h : RelL r args us.toList) :
    RelL r (args ++ List.replicate (fn.ntmps - args.length) undef) (us ++ Array.replicate (fn.ntmps - us.size) undef).toList := by
  have hl := h.length
  rw [Array.toList_append, Array.toList_replicate, hl, Array.length_toList]
  exact h.append (RelL.replicate undef_rel _)

theorem stepT_mono {ro rec : Rec} (hro : LocalR ro) (hr : ∀ t, MonoX (rec t)) (t : Task) : MonoX (stepT P ro rec t) := by
  cases t with
  | call f args =>
    simp only [Sx.stepT]
    cases P.funcs[f]? with
    | none => exact MonoX.fail
    | some fn =>
      simp only
      cases fn.body with
      | none => exact MonoX.fail
      | some c =>
        refine MonoX.bind (hr _) fun r => ?_
        split
        · exact MonoX.bind (Local.resX _ _).monoX fun _ => MonoX.pure _
        · exact MonoX.bind (Local.resX _ _).monoX fun _ => MonoX.pure _
        · exact MonoX.fail
  | inLoop c T =>
    refine MonoX.bind (hr _) fun r => ?_
    split
    · exact hr _
    · exact MonoX.pure _
  | inScope c b T =>
    refine MonoX.bind (hr _) fun r => ?_
    split
    · split
      · exact hr _
      · exact MonoX.pure _
    · exact MonoX.pure _
  | code c T =>
    unfold Sx.stepT
    cases c with
    | skip => exact MonoX.pure _
    | label _ => exact MonoX.pure _
    | region id ops draw =>
      cases draw
      · exact MonoX.bind (Local.seqOps hro _ _ _).monoX fun _ => MonoX.pure _
      · exact MonoX.bind (Local.parX hro _ _).monoX fun _ => MonoX.pure _
    | seq a b =>
      refine MonoX.bind (hr _) fun r => ?_
      split
      · exact hr _
      · exact MonoX.pure _
    | cond c a b =>
      refine MonoX.bind (Local.opt _).monoX fun v => ?_
      split
      · refine MonoX.bind (Local.ask _).monoX fun t => ?_
        split
        · exact hr _
        · exact hr _
      · exact MonoX.fail
    | block id a =>
      refine MonoX.bind (hr _) fun r => ?_
      split
      · split
        · exact MonoX.pure _
        · exact MonoX.pure _
      · exact MonoX.pure _
    | loop a => exact hr _
    | exit id => exact MonoX.pure _
    | scope a => exact hr _
    | goto l => exact MonoX.pure _
    | ret => exact MonoX.pure _
    | rangeFunc _ _ _ _ => exact MonoX.fail
    | refuse _ => exact MonoX.fail

theorem stepT_snd (hm : P.follows .mixedOrders = true) {ro rec : Rec} (hro : RecSnd P ro) (hr : RecMono P rec) : ∀ t, TaskSnd P (stepT P ro rec t) t := by
  intro t d s res s' h
  cases t with
  | call f args =>
    simp only [stepT] at h
    cases hf : P.funcs[f]? with
    | none => simp [hf, X.fail] at h
    | some fn =>
      simp only [hf] at h
      cases hb : fn.body with
      | none => simp [hb, X.fail] at h
      | some c =>
        simp only [hb] at h
        obtain ⟨res1, s1, h1, h2⟩ := bind_some h
        obtain ⟨g1, g2⟩ := hr.snd _ d s res1 s1 h1
        have l1 : s.c ≤ s1.c := hr.mono _ d s _ s1 h1
        -- both ways out alike
        have key : ∀ (e : SExit) (T : List Value), res1 = .out e T → (e = .normal ∨ e = .ret) → X.bind (resX P T fn.results.toList) (fun vs => X.pure (ARes.val (oneV vs))) d s1 = some (res, s') →
            (VCs s'.V → VCs s.V) ∧ (VCs s'.V → ∀ r ow w, Sat P r ow s.h w → Fresh r s.c s'.c → TaskOk P r ow w s s' (.call f args) res) := by
          intro e T he hen h3
          obtain ⟨vs, s2, h4, h5⟩ := bind_some h3
          obtain ⟨rfl, rfl⟩ := pure_some h5
          obtain ⟨cm, g3⟩ := results_snd h4
          subst he
          refine ⟨fun hV => g1 (cm.V hV), fun hV r ow w hs hfr us hus => ?_⟩
          have hwp := g2 (cm.V hV) r ow w hs (by rw [cm.c] at hfr; exact hfr) { tmps := us ++ Array.replicate (fn.ntmps - us.size) undef, defers := [] } (fit_rel hus) rfl
          refine calls_of_wp hf hb (wp_mono hwp ?_)
          intro e' a' w' ⟨hex, hd, r', ow', hp, ha'⟩
          obtain ⟨u, hres, hu⟩ := g3 hV r' ow' w' a'.tmps hp.sat ha'
          have hfin : CallPost P r ow w s s2 (oneV vs) (.returned u) w' := ⟨r', ow', u, rfl, hp.trans (Post.calm hp.sat cm), hu⟩
          rcases hen with rfl | rfl
          · cases e' <;> simp only [exitRel] at hex
            exact ⟨hd, u, hres, hfin⟩
          · cases e' <;> simp only [exitRel] at hex
            exact ⟨hd, u, hres, hfin⟩
        split at h2
        · exact key _ _ rfl (.inl rfl) h2
        · exact key _ _ rfl (.inr rfl) h2
        · simp [X.fail] at h2
  | inLoop c T =>
    simp only [stepT] at h
    obtain ⟨res1, s1, h1, h2⟩ := bind_some h
    obtain ⟨g1, g2⟩ := hr.snd _ d s res1 s1 h1
    have l1 : s.c ≤ s1.c := hr.mono _ d s _ s1 h1
    split at h2
    · rename_i T'
      obtain ⟨g3, g4⟩ := hr.snd _ d s1 res s' h2
      have l2 : s1.c ≤ s'.c := hr.mono _ d s1 _ s' h2
      refine ⟨fun hV => g1 (g3 hV), fun hV r ow w hs hf => ?_⟩
      have k1 := g2 (g3 hV) r ow w hs (hf.sub (Nat.le_refl _) l2)
      cases res with
      | val v => trivial
      | out e T2 =>
        intro a ha hd
        refine loopWp_step (wp_mono (k1 a ha hd) ?_)
        intro e' a' w' ⟨hex, hd', r', ow', hp, ha'⟩
        cases e' <;> simp only [exitRel] at hex
        have k3 := g4 hV r' ow' w' hp.sat (hf.after hp.new l1) a' ha' hd'
        intro b k cs
        obtain ⟨e3, a3, w3, ⟨q1, q2, r3, o3, q3, q4⟩, q5⟩ := k3 b k cs
        exact ⟨e3, a3, w3, ⟨q1, q2, r3, o3, hp.trans q3, q4⟩, q5⟩
    · rename_i hno
      obtain ⟨rfl, rfl⟩ := pure_some h2
      refine ⟨g1, fun hV r ow w hs hf => ?_⟩
      have k1 := g2 hV r ow w hs hf
      cases res1 with
      | val v => trivial
      | out e T2 =>
        intro a ha hd
        refine loopWp_step (wp_mono (k1 a ha hd) ?_)
        intro e' a' w' hq
        cases e' with
        | normal =>
          obtain ⟨hex, _⟩ := hq
          cases e <;> simp only [exitRel] at hex
          exact (hno _ rfl).elim
        | _ => exact hq
  | inScope c body T =>
    simp only [stepT] at h
    obtain ⟨res1, s1, h1, h2⟩ := bind_some h
    obtain ⟨g1, g2⟩ := hr.snd _ d s res1 s1 h1
    have l1 : s.c ≤ s1.c := hr.mono _ d s _ s1 h1
    split at h2
    · rename_i l T'
      cases hfl : findLabel body l with
      | some rest =>
        simp only [hfl] at h2
        obtain ⟨g3, g4⟩ := hr.snd _ d s1 res s' h2
        have l2 : s1.c ≤ s'.c := hr.mono _ d s1 _ s' h2
        refine ⟨fun hV => g1 (g3 hV), fun hV r ow w hs hf => ?_⟩
        have k1 := g2 (g3 hV) r ow w hs (hf.sub (Nat.le_refl _) l2)
        cases res with
        | val v => trivial
        | out e T2 =>
          intro a ha hd
          refine scopeWp_step (wp_mono (k1 a ha hd) ?_)
          intro e' a' w' ⟨hex, hd', r', ow', hp, ha'⟩
          cases e' <;> simp only [exitRel] at hex
          subst hex
          simp only [scopeQ, hfl]
          have k3 := g4 hV r' ow' w' hp.sat (hf.after hp.new l1) a' ha' hd'
          intro b k cs
          obtain ⟨e3, a3, w3, ⟨q1, q2, r3, o3, q3, q4⟩, q5⟩ := k3 b k cs
          exact ⟨e3, a3, w3, ⟨q1, q2, r3, o3, hp.trans q3, q4⟩, q5⟩
      | none =>
        simp only [hfl] at h2
        obtain ⟨rfl, rfl⟩ := pure_some h2
        refine ⟨g1, fun hV r ow w hs hf => ?_⟩
        have k1 := g2 hV r ow w hs hf
        intro a ha hd
        refine scopeWp_step (wp_mono (k1 a ha hd) ?_)
        intro e' a' w' hq
        have hex := hq.1
        cases e' <;> simp only [exitRel] at hex
        subst hex
        simp only [scopeQ, hfl]
        exact hq
    · rename_i hno
      obtain ⟨rfl, rfl⟩ := pure_some h2
      refine ⟨g1, fun hV r ow w hs hf => ?_⟩
      have k1 := g2 hV r ow w hs hf
      cases res1 with
      | val v => trivial
      | out e T2 =>
        intro a ha hd
        refine scopeWp_step (wp_mono (k1 a ha hd) ?_)
        intro e' a' w' hq
        cases e' with
        | goto l =>
          obtain ⟨hex, _⟩ := hq
          cases e <;> simp only [exitRel] at hex
          exact (hno _ _ rfl).elim
        | _ => exact hq
  | code c T =>
    cases c with
    | skip =>
      simp only [stepT] at h
      obtain ⟨rfl, rfl⟩ := pure_some h
      exact ⟨id, fun hV r ow w hs hf a ha hd => wp_skip ⟨trivial, hd, r, ow, Post.calm hs (Calm.refl _), ha⟩⟩
    | label l =>
      simp only [stepT] at h
      obtain ⟨rfl, rfl⟩ := pure_some h
      exact ⟨id, fun hV r ow w hs hf a ha hd => wp_label ⟨trivial, hd, r, ow, Post.calm hs (Calm.refl _), ha⟩⟩
    | exit l =>
      simp only [stepT] at h
      obtain ⟨rfl, rfl⟩ := pure_some h
      exact ⟨id, fun hV r ow w hs hf a ha hd => wp_exit ⟨rfl, hd, r, ow, Post.calm hs (Calm.refl _), ha⟩⟩
    | goto l =>
      simp only [stepT] at h
      obtain ⟨rfl, rfl⟩ := pure_some h
      exact ⟨id, fun hV r ow w hs hf a ha hd => wp_goto ⟨rfl, hd, r, ow, Post.calm hs (Calm.refl _), ha⟩⟩
    | ret =>
      simp only [stepT] at h
      obtain ⟨rfl, rfl⟩ := pure_some h
      exact ⟨id, fun hV r ow w hs hf a ha hd => wp_ret ⟨trivial, hd, r, ow, Post.calm hs (Calm.refl _), ha⟩⟩
    | rangeFunc _ _ _ _ => simp [stepT, X.fail] at h
    | refuse _ => simp [stepT, X.fail] at h
    | loop c =>
      simp only [stepT] at h
      obtain ⟨g1, g2⟩ := hr.snd _ d s res s' h
      refine ⟨g1, fun hV r ow w hs hf => ?_⟩
      cases res with
      | val v => trivial
      | out e T2 => exact fun a ha hd => wp_loop_of (g2 hV r ow w hs hf a ha hd)
    | scope c =>
      simp only [stepT] at h
      obtain ⟨g1, g2⟩ := hr.snd _ d s res s' h
      refine ⟨g1, fun hV r ow w hs hf => ?_⟩
      cases res with
      | val v => trivial
      | out e T2 => exact fun a ha hd => wp_scope_of (g2 hV r ow w hs hf a ha hd)
    | seq x y =>
      simp only [stepT] at h
      obtain ⟨res1, s1, h1, h2⟩ := bind_some h
      obtain ⟨g1, g2⟩ := hr.snd _ d s res1 s1 h1
      have l1 : s.c ≤ s1.c := hr.mono _ d s _ s1 h1
      split at h2
      · rename_i T'
        obtain ⟨g3, g4⟩ := hr.snd _ d s1 res s' h2
        have l2 : s1.c ≤ s'.c := hr.mono _ d s1 _ s' h2
        refine ⟨fun hV => g1 (g3 hV), fun hV r ow w hs hf => ?_⟩
        have k1 := g2 (g3 hV) r ow w hs (hf.sub (Nat.le_refl _) l2)
        cases res with
        | val v => trivial
        | out e T2 =>
          intro a ha hd
          refine wp_seq (wp_mono (k1 a ha hd) ?_)
          intro e' a' w' ⟨hex, hd', r', ow', hp, ha'⟩
          cases e' <;> simp only [exitRel] at hex
          refine wp_mono (g4 hV r' ow' w' hp.sat (hf.after hp.new l1) a' ha' hd') ?_
          intro e3 a3 w3 ⟨q1, q2, r3, o3, q3, q4⟩
          exact ⟨q1, q2, r3, o3, hp.trans q3, q4⟩
      · rename_i hno
        obtain ⟨rfl, rfl⟩ := pure_some h2
        refine ⟨g1, fun hV r ow w hs hf => ?_⟩
        have k1 := g2 hV r ow w hs hf
        cases res1 with
        | val v => trivial
        | out e T2 =>
          intro a ha hd
          refine wp_seq (wp_mono (k1 a ha hd) ?_)
          intro e' a' w' hq
          cases e' with
          | normal =>
            obtain ⟨hex, _⟩ := hq
            cases e <;> simp only [exitRel] at hex
            exact (hno _ rfl).elim
          | _ => exact hq
    | block id c =>
      simp only [stepT] at h
      obtain ⟨res1, s1, h1, h2⟩ := bind_some h
      obtain ⟨g1, g2⟩ := hr.snd _ d s res1 s1 h1
      split at h2
      · rename_i i T'
        rw [nbeq] at h2
        by_cases hi : i = id
        · simp only [hi, decide_true] at h2
          obtain ⟨rfl, rfl⟩ := pure_some h2
          refine ⟨g1, fun hV r ow w hs hf a ha hd => ?_⟩
          refine wp_block (wp_mono (g2 hV r ow w hs hf a ha hd) ?_)
          intro e' a' w' ⟨hex, hq⟩
          cases e' <;> simp only [exitRel] at hex
          subst hex
          simp only [Exit.inBlock, hi, if_true]
          exact ⟨trivial, hq⟩
        · simp only [hi, decide_false] at h2
          obtain ⟨rfl, rfl⟩ := pure_some h2
          refine ⟨g1, fun hV r ow w hs hf a ha hd => ?_⟩
          refine wp_block (wp_mono (g2 hV r ow w hs hf a ha hd) ?_)
          intro e' a' w' ⟨hex, hq⟩
          cases e' <;> simp only [exitRel] at hex
          subst hex
          simp only [Exit.inBlock, hi, if_false]
          exact ⟨rfl, hq⟩
      · rename_i hno
        obtain ⟨rfl, rfl⟩ := pure_some h2
        refine ⟨g1, fun hV r ow w hs hf => ?_⟩
        have k1 := g2 hV r ow w hs hf
        cases res1 with
        | val v => trivial
        | out e T2 =>
          intro a ha hd
          refine wp_block (wp_mono (k1 a ha hd) ?_)
          intro e' a' w' hq
          cases e' with
          | exit i =>
            obtain ⟨hex, _⟩ := hq
            cases e <;> simp only [exitRel] at hex
            exact (hno _ _ rfl).elim
          | _ => exact hq
    | cond c x y =>
      simp only [stepT] at h
      obtain ⟨v, s1, h1, h2⟩ := bind_some h
      obtain ⟨hev, rfl⟩ := opt_some h1
      cases v <;> try (simp [X.fail] at h2; done)
      case bool b0 =>
        obtain ⟨t, s2, h3, h4⟩ := bind_some h2
        obtain ⟨cm, hb⟩ := calm_ask h3
        have hcond : ∀ (r : Env) (a : Act), RelL r T a.tmps.toList → a.eval c = .bool b0 := fun r a ha => by
          have := evO_rel ha hev
          cases hu : a.eval c <;> rw [hu] at this <;> cases this
          rfl
        cases t with
        | true =>
          simp only at h4
          obtain ⟨g1, g2⟩ := hr.snd _ d s2 res s' h4
          refine ⟨fun hV => cm.V (g1 hV), fun hV r ow w hs hf => ?_⟩
          have k1 := g2 hV r ow w (by rw [cm.h]; exact hs) (by rw [cm.c]; exact hf)
          cases res with
          | val v => trivial
          | out e T2 =>
            intro a ha hd
            refine wp_cond_true (by rw [hcond r a ha, hb (g1 hV)]) (wp_mono (k1 a ha hd) ?_)
            intro e3 a3 w3 ⟨q1, q2, r3, o3, q3, q4⟩
            exact ⟨q1, q2, r3, o3, (Post.calm hs cm).trans q3, q4⟩
        | false =>
          simp only at h4
          obtain ⟨g1, g2⟩ := hr.snd _ d s2 res s' h4
          refine ⟨fun hV => cm.V (g1 hV), fun hV r ow w hs hf => ?_⟩
          have k1 := g2 hV r ow w (by rw [cm.h]; exact hs) (by rw [cm.c]; exact hf)
          cases res with
          | val v => trivial
          | out e T2 =>
            intro a ha hd
            refine wp_cond_false (by rw [hcond r a ha, hb (g1 hV)]) (wp_mono (k1 a ha hd) ?_)
            intro e3 a3 w3 ⟨q1, q2, r3, o3, q3, q4⟩
            exact ⟨q1, q2, r3, o3, (Post.calm hs cm).trans q3, q4⟩
    | region id ops draw =>
      cases draw with
      | false =>
        simp only [stepT] at h
        obtain ⟨T', s1, h1, h2⟩ := bind_some h
        obtain ⟨rfl, rfl⟩ := pure_some h2
        obtain ⟨g1, g2⟩ := seqOps_snd hro.mono ops.toList 0 T T' d s s1 (by simp) h1
        refine ⟨g1, fun hV r ow w hs hf a ha hd => wp_region ?_⟩
        rw [List.range_eq_range']
        exact g2 hV r ow w a hs hf ha hd _ fun r' ow' a' w' hp ha' hd' => ⟨trivial, hd', r', ow', hp, ha'⟩
      | true =>
        simp only [stepT] at h
        obtain ⟨T', s1, h1, h2⟩ := bind_some h
        obtain ⟨rfl, rfl⟩ := pure_some h2
        obtain ⟨g1, g2⟩ := par_any hro h1
        refine ⟨g1, fun hV r ow w hs hf a ha hd => wp_region_any hm ?_⟩
        refine g2 hV r ow { w with drawn := w.drawn + 1 } a (hs.drew rfl) hf ha hd _ fun r' ow' a' w' hp ha' hd' => ⟨trivial, hd', r', ow', ?_, ha'⟩
        exact ⟨hp.le, hp.sat, (Frame.drew (ow := ow) (w := w) (w' := { w with drawn := w.drawn + 1 }) rfl rfl rfl rfl).trans hp.frame, hp.new, hp.mono, hp.own⟩

/-- Contracts that hold. -/
structure Holds (P : Program) (C : Contracts) : Prop where
  loc : ∀ t x, C t = some x → Local x
  snd : ∀ t x, C t = some x → TaskSnd P x t
theorem noC_holds : Holds P noC := ⟨fun _ _ h => by simp [noC] at h, fun _ _ h => by simp [noC] at h⟩
theorem ex_snd (hm : P.follows .mixedOrders = true) {C : Contracts} (hC : Holds P C) : ∀ n, RecSnd P (ex P C n)
  | 0 => ⟨Local.ex hC.loc 0, fun _ _ _ _ _ h => by simp [ex, X.fail] at h⟩
  | n + 1 => ⟨Local.ex hC.loc (n + 1), fun t => by
      unfold ex
      cases e : C t with
      | some x => exact hC.snd t x e
      | none => exact stepT_snd hm (ex_snd hm hC n) (ex_snd hm hC n).mono t⟩
/-- What a run tells of a call. -/
theorem ex_calls (hm : P.follows .mixedOrders = true) {C : Contracts} (hC : Holds P C) {n : Nat} {f : FuncId} {args : List Value} {d : Advice} {s s' : St} {v : Value}
    (h : ex P C n (.call f args) d s = some (.val v, s')) (hV : VCs s'.V) {r : Env} {ow : Nat → Option Nat} {w : World} (hs : Sat P r ow s.h w) (hf : Fresh r s.c s'.c) {us : Array Value} (hu : RelL r args us.toList) :
    Calls P f us w (CallPost P r ow w s s' v) :=
  ((ex_snd hm hC n).snd _ d s _ s' h).2 hV r ow w hs hf us hu
end Go.Sx

namespace Go.Sx
variable {P : Program}

/-- What was there is as it was; the streams too. -/
structure Old (w w' : World) : Prop where
  os : w'.os = w.os
  tape : w'.tape = w.tape
  output : w'.output = w.output
  size : w.heap.size ≤ w'.heap.size
  keep : ∀ b, b < w.heap.size → w'.heap[b]? = w.heap[b]?
theorem Old.refl (w : World) : Old w w := ⟨rfl, rfl, rfl, Nat.le_refl _, fun _ _ => rfl⟩
def noOne : Nat → Option Nat := fun _ => none
theorem Frame.old {ow' : Nat → Option Nat} {w w' : World} (h : Frame noOne w ow' w') : Old w w' :=
  ⟨h.os, h.tape, h.output, h.size, fun b hb => (h.keep b hb rfl).2⟩
theorem Sat.old {r : Env} {ow : Nat → Option Nat} {h : Heap} {w w' : World} (hs : Sat P r ow h w) (ho : Old w w') : Sat P r ow h w' :=
  ⟨fun n c hn => Chunk.sat_keep (fun b hb => ho.keep b (hs.bound b n hb)) (fun _ => Iff.rfl) (hs.chunk n c hn), fun b n e => Nat.lt_of_lt_of_le (hs.bound b n e) ho.size, hs.known⟩
theorem Frame.of_old {r : Env} {ow : Nat → Option Nat} {h : Heap} {w w' : World} (_ : Sat P r ow h w) (ho : Old w w') : Frame ow w ow w' :=
  ⟨ho.os, ho.tape, ho.output, ho.size, fun b hb e => ⟨e, ho.keep b hb⟩⟩
theorem Post.old {r : Env} {ow : Nat → Option Nat} {s : St} {w w' : World} (hs : Sat P r ow s.h w) (ho : Old w w') : Post P r ow w s r ow w' s :=
  ⟨⟨fun _ _ e => e, fun _ _ _ => rfl, fun _ _ e => e⟩, hs.old ho, Frame.of_old hs ho, New.refl _ _ _, Nat.le_refl _, fun b _ e => .inl ⟨b, e⟩⟩

/-- The call gives a value, and changes nothing that was there. -/
def Gives (P : Program) (f : FuncId) (args : List Value) (v : Value) : Prop :=
  ∀ (r : Env) (us : Array Value) (w : World), RelL r args us.toList → Calls P f us w fun e w' => ∃ u, e = .returned u ∧ Rel r v u ∧ Old w w'
theorem Gives.snd {f : FuncId} {args : List Value} {v : Value} (h : Gives P f args v) : TaskSnd P (X.pure (.val v)) (.call f args) := by
  intro d s res s' hx
  obtain ⟨rfl, rfl⟩ := pure_some hx
  refine ⟨id, fun _ r ow w hs _ us hu => ?_⟩
  exact Calls.mono (h r us w hu) fun e w' ⟨u, he, hv, ho⟩ => ⟨r, ow, u, he, Post.old hs ho, hv⟩

/-- Nothing is named. -/
def nil : Env := ⟨fun _ => none, fun _ => 0, fun _ => none⟩
def s0 : St := ⟨0, 0, [], [], [], []⟩
theorem sat_nil (w : World) : Sat P nil noOne s0.h w := ⟨fun _ _ h => by simp [s0, Heap.get] at h, fun _ _ h => by simp [noOne] at h, fun _ _ h => by simp [noOne] at h⟩
/-- A run from nothing. -/
theorem run_calls (hm : P.follows .mixedOrders = true) {C : Contracts} (hC : Holds P C) {n : Nat} {f : FuncId} {args : List Value} {d : Advice} {s' : St} {v : Value}
    (h : ex P C n (.call f args) d s0 = some (.val v, s')) (hV : VCs s'.V) {w : World} {us : Array Value} (hu : RelL nil args us.toList) :
    Calls P f us w fun e w' => ∃ r' u, e = .returned u ∧ Rel r' v u ∧ Old w w' :=
  Calls.mono (ex_calls hm hC h hV (sat_nil w) (fun n _ _ => ⟨rfl, rfl⟩) hu) fun e w' ⟨r', ow', u, he, hp, hv⟩ => ⟨r', u, he, hv, hp.frame.old⟩

/-- The value that a run comes to. -/
def valOf : Option (ARes × St) → Option Value
  | some (.val v, _) => some v
  | _ => none
/-- What is to be shown beside it. -/
def vcsOf : Option (ARes × St) → List VC
  | some (_, s) => s.V
  | none => []
theorem run_of {o : Option (ARes × St)} {v : Value} {L : List VC} (h1 : valOf o = some v) (h2 : vcsOf o = L) : ∃ s', o = some (.val v, s') ∧ s'.V = L := by
  match o, h1, h2 with
  | some (.val _, s), h1, h2 =>
    simp only [valOf, Option.some.injEq] at h1
    subst h1
    exact ⟨s, rfl, h2⟩
/-- All that is to be shown by a look. -/
def allB : List VC → Bool
  | [] => true
  | .b x :: l => x && allB l
  | .t _ _ :: l => allB l
  | .p _ :: _ => false
theorem allB_ok : ∀ {L : List VC}, allB L = true → VCs L
  | [], _ => fun _ h => by cases h
  | .b x :: l, h => by
    simp only [allB, Bool.and_eq_true] at h
    intro v hv
    cases hv with
    | head => exact h.1
    | tail _ hv => exact allB_ok h.2 v hv
  | .t _ _ :: l, h => by
    simp only [allB] at h
    intro v hv
    cases hv with
    | head => trivial
    | tail _ hv => exact allB_ok h v hv
  | .p _ :: _, h => by simp [allB] at h
/-- What a run comes to, and what is to be shown beside it. -/
def outOf : Option (ARes × St) → Option (Value × List VC)
  | some (.val v, s) => some (v, s.V)
  | _ => none
theorem out_of {o : Option (ARes × St)} {v : Value} {L : List VC} (h : outOf o = some (v, L)) : ∃ s', o = some (.val v, s') ∧ s'.V = L := by
  match o, h with
  | some (.val _, s), h =>
    simp only [outOf, Option.some.injEq, Prod.mk.injEq] at h
    obtain ⟨rfl, h2⟩ := h
    exact ⟨s, rfl, h2⟩
theorem vcs_nil : VCs [] := fun _ h => by cases h
theorem vcs_cons {v : VC} {L : List VC} (h : v.ok) (k : VCs L) : VCs (v :: L) := fun x hx => by
  cases hx with
  | head => exact h
  | tail _ hx => exact k x hx
/-! Values without a name, told apart by a look. -/
def eachL (p : Value → Bool) : List Value → Bool
  | [] => true
  | v :: l => p v && eachL p l
def bare : Nat → Value → Bool
  | 0, _ => false
  | f + 1, v => match v with
    | .bool _ | .int _ _ | .string _ | .pointer none | .slice none 0 0 | .map none | .nilFunc | .nilIface => true
    | .iface _ v => bare f v
    | .agg ⟨l⟩ => eachL (bare f) l
    | .tuple ⟨l⟩ => eachL (bare f) l
    | _ => false
theorem eachL_eq {p : Value → Bool} {r : Env} (hp : ∀ v u, p v = true → Rel r v u → u = v) : ∀ {l us : List Value}, eachL p l = true → RelL r l us → us = l
  | [], _, _, h => by cases h; rfl
  | v :: l, _, hl, h => by
    cases h with
    | cons hx ht =>
      simp only [eachL, Bool.and_eq_true] at hl
      rw [hp v _ hl.1 hx, eachL_eq hp hl.2 ht]
theorem bare_eq {r : Env} : ∀ (f : Nat) (v u : Value), bare f v = true → Rel r v u → u = v
  | 0, v, u, h, _ => by simp [bare] at h
  | f + 1, v, u, h, hr => by
    unfold bare at h
    split at h
    · cases hr; rfl
    · cases hr; rfl
    · cases hr; rfl
    · cases hr; rfl
    · cases hr; rfl
    · cases hr; rfl
    · cases hr; rfl
    · cases hr; rfl
    · cases hr with | iface hb => rw [bare_eq f _ _ h hb]
    · obtain ⟨ys, rfl, hl⟩ := hr.agg_inv
      have := eachL_eq (bare_eq f) h hl
      obtain ⟨ys⟩ := ys
      simp only at this
      rw [this]
    · obtain ⟨ys, rfl, hl⟩ := hr.tuple_inv
      have := eachL_eq (bare_eq f) h hl
      obtain ⟨ys⟩ := ys
      simp only at this
      rw [this]
    · cases h
theorem eachL_rel {p : Value → Bool} {r : Env} (hp : ∀ v, p v = true → Rel r v v) : ∀ {l : List Value}, eachL p l = true → RelL r l l
  | [], _ => .nil
  | v :: l, hl => by
    simp only [eachL, Bool.and_eq_true] at hl
    exact .cons (hp v hl.1) (eachL_rel hp hl.2)
theorem bare_rel {r : Env} : ∀ (f : Nat) (v : Value), bare f v = true → Rel r v v
  | 0, v, h => by simp [bare] at h
  | f + 1, v, h => by
    unfold bare at h
    split at h
    · exact .bool _
    · exact .int _ _
    · exact .string _
    · exact .ptrNil
    · exact .sliceNil
    · exact .mapNil
    · exact .nilFunc
    · exact .nilIface
    · exact .iface (bare_rel f _ h)
    · exact RelL.mkAgg (eachL_rel (bare_rel f) h)
    · exact RelL.mkTuple (eachL_rel (bare_rel f) h)
    · cases h
/-- A contract out of a run from nothing. -/
theorem gives_of_run (hm : P.follows .mixedOrders = true) {C : Contracts} (hC : Holds P C) {n : Nat} {f : FuncId} {args : List Value} {d : Advice} {v : Value} {L : List VC}
    (h : outOf (ex P C n (.call f args) d s0) = some (v, L)) (hV : VCs L) (ha : eachL (bare 9) args = true) (hv : bare 9 v = true) : Gives P f args v := by
  intro r us w hu
  obtain ⟨s', h1, h2⟩ := out_of h
  subst h2
  have hus : us.toList = args := eachL_eq (bare_eq 9) ha hu
  have hu' : RelL nil args us.toList := by rw [hus]; exact eachL_rel (bare_rel 9) ha
  exact Calls.mono (run_calls hm hC h1 hV hu') fun e w' ⟨r', u, he, hr, ho⟩ => ⟨u, he, by rw [bare_eq 9 v u hv hr]; exact bare_rel 9 v hv, ho⟩
/-- Contracts of calls that give values. -/
structure GiveC (P : Program) (C : Contracts) : Prop where
  all : ∀ t x, C t = some x → ∃ f xs v, t = .call f xs ∧ x = X.pure (.val v) ∧ Gives P f xs v
theorem GiveC.holds {C : Contracts} (h : GiveC P C) : Holds P C :=
  ⟨fun t x e => by obtain ⟨f, xs, v, rfl, rfl, _⟩ := h.all t x e; exact Local.pure _,
   fun t x e => by obtain ⟨f, xs, v, rfl, rfl, g⟩ := h.all t x e; exact g.snd⟩
theorem noC_gives : GiveC P noC := ⟨fun _ _ h => by simp [noC] at h⟩
/-- One contract more. -/
def addC (C : Contracts) (f : FuncId) (g : List Value → Option Value) : Contracts := fun t => match t with
  | .call k xs => match Nat.beq k f with
    | true => (match g xs with
      | some v => some (X.pure (.val v))
      | none => none)
    | false => C (.call k xs)
  | t => C t
theorem GiveC.add {C : Contracts} (h : GiveC P C) {f : FuncId} {g : List Value → Option Value} (hg : ∀ xs v, g xs = some v → Gives P f xs v) : GiveC P (addC C f g) := ⟨fun t x e => by
  unfold addC at e
  split at e
  · rename_i k xs
    cases hb : Nat.beq k f with
    | true =>
      simp only [hb] at e
      have := Nat.eq_of_beq_eq_true hb
      subst this
      cases hx : g xs with
      | none => simp [hx] at e
      | some v =>
        simp only [hx, Option.some.injEq] at e
        exact ⟨_, _, _, rfl, e.symm, hg xs v hx⟩
    | false =>
      simp only [hb] at e
      exact h.all _ _ e
  · exact h.all _ _ e⟩
end Go.Sx

namespace Go.Sx
variable {P : Program}

def keepT (live : List Nat) : Nat → List Value → List Value
  | _, [] => []
  | i, v :: l => (match hasN i live with
    | true => v
    | false => .chan none) :: keepT live (i + 1) l
theorem keepT_rel {r : Env} (live : List Nat) : ∀ (T us : List Value) (i : Nat), RelL r T us → RelL r (keepT live i T) us
  | [], us, i, h => by cases h; exact .nil
  | v :: l, us, i, h => by
    cases h with
    | cons hx ht =>
      refine .cons ?_ (keepT_rel live l _ (i + 1) ht)
      cases hasN i live with
      | true => exact hx
      | false => exact .any

theorem hasN_mem {n : Nat} : ∀ {l : List Nat}, hasN n l = true ↔ n ∈ l
  | [] => by simp [hasN]
  | m :: l => by
    simp only [hasN, nbeq, List.mem_cons]
    by_cases e : n = m
    · simp [e]
    · simp [e, Ne.symm e, hasN_mem (l := l)]

def Heap.only (K : List Nat) : Heap → Heap
  | [] => []
  | (m, c) :: h => match hasN m K with
    | true => (m, c) :: Heap.only K h
    | false => Heap.only K h
def Heap.without (K : List Nat) : Heap → Heap
  | [] => []
  | (m, c) :: h => match hasN m K with
    | true => Heap.without K h
    | false => (m, c) :: Heap.without K h
theorem Heap.get_only (K : List Nat) (n : Nat) : ∀ h : Heap, (h.only K).get n = if n ∈ K then h.get n else none
  | [] => by simp [Heap.only, Heap.get]
  | (m, c) :: h => by
    unfold Heap.only
    cases e : hasN m K with
    | true =>
      have hm := hasN_mem.1 e
      simp only [Heap.get, nbeq]
      by_cases e2 : m = n
      · subst e2; simp [hm]
      · simp [e2, Heap.get_only K n h]
    | false =>
      have hm : m ∉ K := fun x => by rw [hasN_mem.2 x] at e; cases e
      simp only [Heap.get, nbeq]
      rw [Heap.get_only K n h]
      by_cases e2 : m = n
      · subst e2; simp [hm]
      · simp [e2]
theorem Heap.get_without (K : List Nat) (n : Nat) : ∀ h : Heap, (h.without K).get n = if n ∈ K then none else h.get n
  | [] => by simp [Heap.without, Heap.get]
  | (m, c) :: h => by
    unfold Heap.without
    cases e : hasN m K with
    | true =>
      have hm := hasN_mem.1 e
      simp only [Heap.get, nbeq]
      rw [Heap.get_without K n h]
      by_cases e2 : m = n
      · subst e2; simp [hm]
      · simp [e2]
    | false =>
      have hm : m ∉ K := fun x => by rw [hasN_mem.2 x] at e; cases e
      simp only [Heap.get, nbeq]
      by_cases e2 : m = n
      · subst e2; simp [hm]
      · simp [e2, Heap.get_without K n h]
theorem Heap.get_append (n : Nat) (k : Heap) : ∀ h : Heap, Heap.get (h ++ k) n = match h.get n with
    | some c => some c
    | none => k.get n
  | [] => by simp [Heap.get]
  | (m, c) :: h => by
    show Heap.get ((m, c) :: (h ++ k)) n = _
    simp only [Heap.get]
    cases e : Nat.beq m n with
    | true => simp
    | false => simp [Heap.get_append n k h]
/-- The names of a heap are among K, or from c to c'. -/
def namesIn (K : List Nat) (c c' : Nat) : Heap → Bool
  | [] => true
  | (m, _) :: h => (hasN m K || (Nat.ble c m && Nat.blt m c')) && namesIn K c c' h
def namesBelow (c : Nat) : Heap → Bool
  | [] => true
  | (m, _) :: h => Nat.blt m c && namesBelow c h
theorem namesIn_get {K : List Nat} {c c' n : Nat} {x : Chunk} : ∀ {h : Heap}, namesIn K c c' h = true → h.get n = some x → n ∈ K ∨ (c ≤ n ∧ n < c')
  | [], _, e => by simp [Heap.get] at e
  | (m, y) :: h, hn, e => by
    simp only [namesIn, Bool.and_eq_true, Bool.or_eq_true] at hn
    simp only [Heap.get, nbeq] at e
    by_cases e2 : m = n
    · subst e2
      rcases hn.1 with q | ⟨q1, q2⟩
      · exact .inl (hasN_mem.1 q)
      · exact .inr ⟨Nat.le_of_ble_eq_true q1, Nat.le_of_ble_eq_true q2⟩
    · simp [e2] at e; exact namesIn_get hn.2 e
theorem namesBelow_get {c n : Nat} {x : Chunk} : ∀ {h : Heap}, namesBelow c h = true → h.get n = some x → n < c
  | [], _, e => by simp [Heap.get] at e
  | (m, y) :: h, hn, e => by
    simp only [namesBelow, Bool.and_eq_true] at hn
    simp only [Heap.get, nbeq] at e
    by_cases e2 : m = n
    · subst e2; exact Nat.le_of_ble_eq_true hn.1
    · simp [e2] at e; exact namesBelow_get hn.2 e

def stOf (c : Nat) (h : Heap) : St := ⟨c, 0, h, [], [], []⟩
/-- What a task does, from a heap to a heap. -/
def Does (P : Program) (c0 : Nat) (h0 : Heap) (c1 : Nat) (h1 : Heap) (t : Task) (res : ARes) : Prop :=
  c0 ≤ c1 ∧ ∀ r ow w, Sat P r ow h0 w → Fresh r c0 c1 → TaskOk P r ow w (stOf c0 h0) (stOf c1 h1) t res
theorem Post.of_st {r r' : Env} {ow ow' : Nat → Option Nat} {w w' : World} {s s' t t' : St} (hc : t.c = s.c) (hc' : t'.c = s'.c) (hh : t'.h = s'.h) (h : Post P r ow w s r' ow' w' s') : Post P r ow w t r' ow' w' t' :=
  ⟨h.le, by rw [hh]; exact h.sat, h.frame, by rw [hc, hc']; exact h.new, by rw [hc, hc']; exact h.mono, by rw [hc, hc']; exact h.own⟩

def part (K : List Nat) (ow : Nat → Option Nat) : Nat → Option Nat := fun b => match ow b with
  | some n => if n ∈ K then some n else none
  | none => none
def join (K : List Nat) (ow ow' : Nat → Option Nat) : Nat → Option Nat := fun b => match ow b with
  | some n => if n ∈ K then ow' b else some n
  | none => ow' b
theorem part_some {K : List Nat} {ow : Nat → Option Nat} {b n : Nat} : part K ow b = some n ↔ ow b = some n ∧ n ∈ K := by
  unfold part
  cases e : ow b with
  | none => simp
  | some m =>
    simp only [Option.some.injEq]
    by_cases hm : m ∈ K
    · simp [hm]; intro e2; subst e2; exact hm
    · simp [hm]; intro e2; subst e2; exact hm
theorem Sat.part {r : Env} {ow : Nat → Option Nat} {h : Heap} {w : World} (hs : Sat P r ow h w) (K : List Nat) : Sat P r (part K ow) (h.only K) w := by
  refine ⟨fun n c hn => ?_, fun b n e => hs.bound b n (part_some.1 e).1, fun b n e => hs.known b n (part_some.1 e).1⟩
  rw [Heap.get_only] at hn
  by_cases hK : n ∈ K
  · rw [if_pos hK] at hn
    exact Chunk.sat_keep (fun _ _ => rfl) (fun b => by rw [part_some]; exact ⟨fun e => e.1, fun e => ⟨e, hK⟩⟩) (hs.chunk n c hn)
  · rw [if_neg hK] at hn; cases hn
/-- What is done on a part of the heap is done on the whole. -/
theorem Post.join {r r' : Env} {ow ow' : Nat → Option Nat} {w w' : World} {h h1 : Heap} {c0 c1 : Nat} {K : List Nat} (hs : Sat P r ow h w) (hf : Fresh r c0 c1)
    (hn : namesIn K c0 c1 h1 = true) (hb : namesBelow c0 (h.without K) = true)
    (hp : Post P r (Sx.part K ow) w (stOf c0 (h.only K)) r' ow' w' (stOf c1 h1)) : Post P r ow w (stOf c0 h) r' (Sx.join K ow ow') w' (stOf c1 (h1 ++ h.without K)) := by
  have hgone : ∀ b m, ow b = some m → m ∉ K → ow' b = none ∧ w'.heap[b]? = w.heap[b]? := fun b m e hm =>
    hp.frame.keep b (hs.bound b m e) (by unfold Sx.part; rw [e]; simp [hm])
  have hnone : ∀ b, ow b = none → Sx.part K ow b = none := fun b e => by unfold Sx.part; rw [e]
  refine ⟨hp.le, ⟨fun n c hn' => ?_, fun b n e => ?_, fun b n e => ?_⟩, ⟨hp.frame.os, hp.frame.tape, hp.frame.output, hp.frame.size, fun b hb' ho => ?_⟩, hp.new, hp.mono, fun b n e => ?_⟩
  · change (h1 ++ h.without K).get n = some c at hn'
    rw [Heap.get_append] at hn'
    cases e1 : h1.get n with
    | some x =>
      simp only [e1, Option.some.injEq] at hn'
      subst hn'
      have hwh := namesIn_get hn e1
      refine Chunk.sat_keep (fun _ _ => rfl) (fun b => ?_) (hp.sat.chunk n x e1)
      unfold Sx.join
      cases e2 : ow b with
      | none => rfl
      | some m =>
        simp only
        by_cases hm : m ∈ K
        · simp [hm]
        · simp only [hm, if_false]
          have h3 := (hgone b m e2 hm).1
          rw [h3]
          simp only [Option.some.injEq, reduceCtorEq, iff_false]
          intro e3
          subst e3
          rcases hwh with q | ⟨q1, q2⟩
          · exact hm q
          · have := hf m q1 q2
            rcases hs.known b m e2 with k | k
            · exact k this.1
            · exact k this.2
    | none =>
      simp only [e1] at hn'
      have hlt := namesBelow_get hb hn'
      rw [Heap.get_without] at hn'
      by_cases hK : n ∈ K
      · rw [if_pos hK] at hn'; cases hn'
      · rw [if_neg hK] at hn'
        refine Chunk.sat_keep (w := w) (ow := ow) (fun b hb' => (hgone b n hb' hK).2) (fun b => ?_) (Chunk.sat_mono hp.le (hs.chunk n c hn'))
        have hno : ∀ b, ow' b ≠ some n := fun b e => by
          rcases hp.own b n e with ⟨b', q⟩ | ⟨q, _⟩
          · exact hK (part_some.1 q).2
          · exact absurd hlt (Nat.not_lt.2 q)
        unfold Sx.join
        cases e2 : ow b with
        | none => simp only [reduceCtorEq, iff_false]; exact hno b
        | some m =>
          simp only
          by_cases hm : m ∈ K
          · simp only [hm, if_true, Option.some.injEq]
            refine ⟨fun e => absurd e (hno b), fun e => by subst e; exact absurd hm hK⟩
          · simp [hm]
  · unfold Sx.join at e
    cases e2 : ow b with
    | none => rw [e2] at e; exact hp.sat.bound b n e
    | some m =>
      rw [e2] at e
      by_cases hm : m ∈ K
      · simp only [hm, if_true] at e; exact hp.sat.bound b n e
      · exact Nat.lt_of_lt_of_le (hs.bound b m e2) hp.frame.size
  · unfold Sx.join at e
    cases e2 : ow b with
    | none => rw [e2] at e; exact hp.sat.known b n e
    | some m =>
      rw [e2] at e
      by_cases hm : m ∈ K
      · simp only [hm, if_true] at e; exact hp.sat.known b n e
      · simp only [hm, if_false, Option.some.injEq] at e
        subst e
        exact hp.le.known (hs.known b m e2)
  · have := hp.frame.keep b hb' (hnone b ho)
    refine ⟨?_, this.2⟩
    unfold Sx.join
    rw [ho]; exact this.1
  · have key : ow' b = some n → (∃ b', ow b' = some n) ∨ (c0 ≤ n ∧ n < c1) := fun e => by
      rcases hp.own b n e with ⟨b', q⟩ | q
      · exact .inl ⟨b', (part_some.1 q).1⟩
      · exact .inr q
    unfold Sx.join at e
    cases e2 : ow b with
    | none => rw [e2] at e; exact key e
    | some m =>
      rw [e2] at e
      by_cases hm : m ∈ K
      · simp only [hm, if_true] at e; exact key e
      · simp only [hm, if_false, Option.some.injEq] at e
        subst e
        exact .inl ⟨b, e2⟩

/-! Forgetting. -/
def inside (c c' n : Nat) : Bool := Nat.ble c n && Nat.blt n c'
theorem inside_iff {c c' n : Nat} : inside c c' n = true ↔ c ≤ n ∧ n < c' := by
  unfold inside
  rw [Bool.and_eq_true]
  exact ⟨fun h => ⟨Nat.le_of_ble_eq_true h.1, Nat.le_of_ble_eq_true h.2⟩, fun h => ⟨Nat.ble_eq_true_of_le h.1, Nat.ble_eq_true_of_le h.2⟩⟩
def Env.cut (r : Env) (c c' : Nat) : Env := ⟨fun n => if inside c c' n then none else r.blk n, r.cap, fun n => if inside c c' n then none else r.val n⟩
def cutO (c c' : Nat) (ow : Nat → Option Nat) : Nat → Option Nat := fun b => match ow b with
  | some n => if inside c c' n then none else some n
  | none => none
theorem cutO_some {c c' : Nat} {ow : Nat → Option Nat} {b n : Nat} : cutO c c' ow b = some n ↔ ow b = some n ∧ inside c c' n = false := by
  unfold cutO
  cases e : ow b with
  | none => simp
  | some m =>
    simp only [Option.some.injEq]
    cases hm : inside c c' m with
    | true => simp; intro e2; subst e2; exact hm
    | false => simp; intro e2; subst e2; exact hm
/-- The value names nothing from c to c'. -/
def Away (c c' : Nat) (v : Value) : Prop := ∀ (r : Env) (u : Value), Rel r v u → Rel (r.cut c c') v u
def allL (p : Value → Bool) : List Value → Bool
  | [] => true
  | v :: l => p v && allL p l
def away : Nat → Nat → Nat → Value → Bool
  | 0, _, _, _ => false
  | f + 1, c, c', v => match v with
    | .bool _ | .int _ _ | .string _ | .pointer none | .slice none _ _ | .map none | .nilFunc | .nilIface | .chan none => true
    | .pointer (some ⟨n, _, none⟩) => !inside c c' n
    | .pointer (some ⟨_, _, some _⟩) => true
    | .slice (some ⟨n, _, none⟩) _ _ => !inside c c' n
    | .slice (some ⟨_, _, some _⟩) _ _ => true
    | .map (some n) => !inside c c' n
    | .chan (some n) => !inside c c' n
    | .iface _ v => away f c c' v
    | .agg ⟨l⟩ => allL (away f c c') l
    | .tuple ⟨l⟩ => allL (away f c c') l
    | .func _ ⟨a⟩ ⟨b⟩ => allL (away f c c') a && allL (away f c c') b
    | _ => false
theorem allL_rel {c c' : Nat} {p : Value → Bool} (hp : ∀ v, p v = true → Away c c' v) {r : Env} : ∀ {l us : List Value}, allL p l = true → RelL r l us → RelL (r.cut c c') l us
  | [], _, _, h => by cases h; exact .nil
  | v :: l, _, hl, h => by
    cases h with
    | cons hx ht =>
      simp only [allL, Bool.and_eq_true] at hl
      exact .cons (hp v hl.1 r _ hx) (allL_rel hp hl.2 ht)
theorem away_ok {c c' : Nat} : ∀ (f : Nat) (v : Value), away f c c' v = true → Away c c' v
  | 0, v, h => by simp [away] at h
  | f + 1, v, h => by
    intro r u hr
    unfold away at h
    have hblk : ∀ n b, inside c c' n = false → r.blk n = some b → (r.cut c c').blk n = some b := fun n b hi hb => by simp [Env.cut, hi, hb]
    split at h
    · cases hr; exact .bool _
    · cases hr; exact .int _ _
    · cases hr; exact .string _
    · cases hr; exact .ptrNil
    · cases hr; exact .sliceNil
    · cases hr; exact .mapNil
    · cases hr; exact .nilFunc
    · cases hr; exact .nilIface
    · cases hr; exact .any
    · cases hr with | ptr hb => exact .ptr (hblk _ _ (by simpa using h) hb)
    · cases hr with | litPtr => exact .litPtr
    · cases hr with | slice hb ho hl h0 h2 => exact .slice (hblk _ _ (by simpa using h) hb) ho hl h0 h2
    · cases hr with | litSlice hl hs => exact .litSlice hl hs
    · cases hr with | map hb => exact .map (hblk _ _ (by simpa using h) hb)
    · cases hr with | opq hb => exact .opq (by simp only [Env.cut]; rw [if_neg (by simpa using h)]; exact hb)
    · cases hr with | iface hb => exact .iface (away_ok f _ h r _ hb)
    · obtain ⟨ys, rfl, hl⟩ := hr.agg_inv
      exact RelL.mkAgg (ys := ys.toList) (allL_rel (away_ok f) h hl)
    · obtain ⟨ys, rfl, hl⟩ := hr.tuple_inv
      exact RelL.mkTuple (ys := ys.toList) (allL_rel (away_ok f) h hl)
    · obtain ⟨ys, bs, rfl, hl, hl'⟩ := hr.func_inv
      rw [Bool.and_eq_true] at h
      exact RelL.mkFunc (ys := ys.toList) (bs := bs.toList) (allL_rel (away_ok f) h.1 hl) (allL_rel (away_ok f) h.2 hl')
    · cases h
/-- The piece names nothing from c to c'. -/
def Chunk.Away (P : Program) (c c' : Nat) (n : Nat) (x : Chunk) : Prop := ∀ (r : Env) (ow : Nat → Option Nat) (w : World), x.sat P r ow w n → x.sat P (r.cut c c') (cutO c c' ow) w n
def Chunk.away (c c' : Nat) : Chunk → Bool
  | .cells l _ => allL (Sx.away 9 c c') l
  | .map es => allL (Sx.away 9 c c') (es.map (·.1)) && allL (Sx.away 9 c c') (es.map (·.2))
  | .args _ _ => true
  | .bag _ _ => true
  | .iter _ _ => true
  | .sem _ => false
theorem Chunk.away_ok {c c' n : Nat} {x : Chunk} (hn : inside c c' n = false) (h : x.away c c' = true) : x.Away P c c' n := by
  intro r ow w hs
  have hblk : ∀ b, r.blk n = some b → (r.cut c c').blk n = some b := fun b hb => by simp [Env.cut, hn, hb]
  cases x with
  | cells l t =>
    obtain ⟨b, cs, h1, h2, h3, h4, h5, h6⟩ := hs
    exact ⟨b, cs, hblk _ h1, cutO_some.2 ⟨h2, hn⟩, h3, allL_rel (Sx.away_ok 9) h h4, h5, h6⟩
  | map es =>
    obtain ⟨b, es', k, h1, h2, h3, h4, h5⟩ := hs
    simp only [Chunk.away, Bool.and_eq_true] at h
    exact ⟨b, es', k, hblk _ h1, cutO_some.2 ⟨h2, hn⟩, h3, allL_rel (Sx.away_ok 9) h.1 h4, allL_rel (Sx.away_ok 9) h.2 h5⟩
  | args B w0 => exact fun b hb => ⟨cutO_some.2 ⟨(hs b hb).1, hn⟩, (hs b hb).2⟩
  | sem x => simp [Chunk.away] at h
  | bag e m =>
    obtain ⟨a, l, c, h1, h2, h3⟩ := hs
    exact ⟨a, l, c, by simp [Env.cut, hn, h1], h2, h3.imp id fun ⟨b, cs, q1, q2, q3⟩ => ⟨b, cs, q1, cutO_some.2 ⟨q2, hn⟩, q3⟩⟩
  | iter s pos =>
    obtain ⟨b, h1, h2, h3⟩ := hs
    exact ⟨b, hblk _ h1, cutO_some.2 ⟨h2, hn⟩, h3⟩
/-- What of a heap may be kept, when the names from c to c' are forgotten. -/
def Sheds (P : Program) (c c' : Nat) (h2 h' : Heap) : Prop := ∀ n x, h'.get n = some x → inside c c' n = false ∧ h2.get n = some x ∧ x.Away P c c' n
theorem Post.shed {r r' : Env} {ow ow' : Nat → Option Nat} {w w' : World} {c c2 : Nat} {h h2 h' : Heap} (hf : Fresh r c c2)
    (hp : Post P r ow w (stOf c h) r' ow' w' (stOf c2 h2)) (hk : Sheds P c c2 h2 h') : Post P r ow w (stOf c h) (r'.cut c c2) (cutO c c2 ow') w' (stOf c h') ∧ ∀ m, Fresh r c m → Fresh (r'.cut c c2) c m := by
  have hnew : ∀ n, (r'.cut c c2).blk n ≠ none → r.blk n ≠ none := fun n e => by
    simp only [Env.cut] at e
    cases hi : inside c c2 n with
    | true => simp [hi] at e
    | false =>
      simp only [hi, Bool.false_eq_true, if_false] at e
      rcases hp.new.1 n e with q | q
      · exact q
      · rw [inside_iff.2 (show c ≤ n ∧ n < c2 from q)] at hi; cases hi
  have hnew2 : ∀ n, (r'.cut c c2).val n ≠ none → r.val n ≠ none := fun n e => by
    simp only [Env.cut] at e
    cases hi : inside c c2 n with
    | true => simp [hi] at e
    | false =>
      simp only [hi, Bool.false_eq_true, if_false] at e
      rcases hp.new.2 n e with q | q
      · exact q
      · rw [inside_iff.2 (show c ≤ n ∧ n < c2 from q)] at hi; cases hi
  refine ⟨⟨⟨fun n b e => ?_, fun n b e => hp.le.cap n b e, fun n v e => ?_⟩, ⟨fun n x hn => ?_, fun b n e => hp.sat.bound b n (cutO_some.1 e).1, fun b n e => ?_⟩, ⟨hp.frame.os, hp.frame.tape, hp.frame.output, hp.frame.size, fun b hb ho => ?_⟩,
    ⟨fun n e => .inl (hnew n e), fun n e => .inl (hnew2 n e)⟩, Nat.le_refl _, fun b n e => ?_⟩, fun m hm n h1 h2 => ?_⟩
  · have hi : inside c c2 n = false := by
      cases hi : inside c c2 n with
      | false => rfl
      | true => have := hf n (inside_iff.1 hi).1 (inside_iff.1 hi).2; rw [this.1] at e; cases e
    simp [Env.cut, hi, hp.le.blk n b e]
  · have hi : inside c c2 n = false := by
      cases hi : inside c c2 n with
      | false => rfl
      | true => have := hf n (inside_iff.1 hi).1 (inside_iff.1 hi).2; rw [this.2] at e; cases e
    simp [Env.cut, hi, hp.le.val n v e]
  · obtain ⟨_, q2, q3⟩ := hk n x hn
    exact q3 r' ow' w' (hp.sat.chunk n x q2)
  · obtain ⟨q1, q2⟩ := cutO_some.1 e
    simpa [Env.cut, q2] using hp.sat.known b n q1
  · have := hp.frame.keep b hb ho
    refine ⟨?_, this.2⟩
    unfold cutO
    rw [this.1]
  · obtain ⟨q1, q2⟩ := cutO_some.1 e
    rcases hp.own b n q1 with q | q
    · exact .inl q
    · rw [inside_iff.2 (show c ≤ n ∧ n < c2 from q)] at q2; cases q2
  · have := hm n h1 h2
    refine ⟨?_, ?_⟩
    · cases e : (r'.cut c c2).blk n with
      | none => rfl
      | some b => exact absurd this.1 (hnew n (by simp [e]))
    · cases e : (r'.cut c c2).val n with
      | none => rfl
      | some b => exact absurd this.2 (hnew2 n (by simp [e]))

/-! Loops. -/
theorem LoopWp.mono {c : Code} {Q Q' : Exit → Act → World → Prop} {a : Act} {w : World} (h : LoopWp P c Q a w) (hq : ∀ e a w, Q e a w → Q' e a w) : LoopWp P c Q' a w :=
  fun b k cs => let ⟨e, a', w', q, r⟩ := h b k cs; ⟨e, a', w', hq _ _ _ q, r⟩
theorem Post.upto {r r' : Env} {ow ow' : Nat → Option Nat} {w w' : World} {c c1 c2 : Nat} {h h1 : Heap} (hp : Post P r ow w (stOf c h) r' ow' w' (stOf c1 h1)) (hc : c1 ≤ c2) : Post P r ow w (stOf c h) r' ow' w' (stOf c2 h1) :=
  ⟨hp.le, hp.sat, hp.frame, ⟨fun n e => (hp.new.1 n e).imp id fun q => ⟨q.1, Nat.lt_of_lt_of_le q.2 hc⟩, fun n e => (hp.new.2 n e).imp id fun q => ⟨q.1, Nat.lt_of_lt_of_le q.2 hc⟩⟩, Nat.le_trans hp.mono hc,
    fun b n e => (hp.own b n e).imp id fun q => ⟨q.1, Nat.lt_of_lt_of_le q.2 hc⟩⟩
/-- A round that leaves the loop. -/
theorem does_end {code : Code} {c c1 : Nat} {h h1 : Heap} {T Te : List Value} {e : SExit} (he : e ≠ .normal) (hb : Does P c h c1 h1 (.code code T) (.out e Te)) : Does P c h c1 h1 (.inLoop code T) (.out e Te) := by
  refine ⟨hb.1, fun r ow w hs hf a ha hd => ?_⟩
  refine loopWp_step (wp_mono (hb.2 r ow w hs hf a ha hd) ?_)
  intro e' a' w' hq
  cases e' with
  | normal =>
    obtain ⟨hex, _⟩ := hq
    cases e <;> simp only [exitRel] at hex
    exact (he rfl).elim
  | _ => exact hq
/-- A round, what it leaves behind forgotten, and the rest. -/
theorem does_step {code : Code} {c c1 c2 : Nat} {h h1 h2 h' : Heap} {T T2 T' Te : List Value} {e : SExit} (hle : c2 ≤ c1)
    (hb : Does P c h c2 h2 (.code code T) (.out .normal T2)) (hk : Sheds P c c2 h2 h') (hT : ∀ (r : Env) (us : List Value), RelL r T2 us → RelL (r.cut c c2) T' us)
    (hn : Does P c h' c1 h1 (.inLoop code T') (.out e Te)) : Does P c h c1 h1 (.inLoop code T) (.out e Te) := by
  refine ⟨hn.1, fun r ow w hs hf a ha hd => ?_⟩
  refine loopWp_step (wp_mono (hb.2 r ow w hs (hf.sub (Nat.le_refl _) hle) a ha hd) ?_)
  intro e' a' w' ⟨hex, hd', r', ow', hp, ha'⟩
  cases e' <;> simp only [exitRel] at hex
  obtain ⟨hp2, hf2⟩ := hp.shed (hf.sub (Nat.le_refl _) hle) hk
  have k3 := hn.2 _ _ w' hp2.sat (hf2 c1 hf) a' (hT r' _ ha') hd'
  intro b k cs
  obtain ⟨e3, a3, w3, ⟨q1, q2, r3, o3, q3, q4⟩, q5⟩ := k3 b k cs
  exact ⟨e3, a3, w3, ⟨q1, q2, r3, o3, hp2.trans q3, q4⟩, q5⟩

/-- Runs in which a loop's end may be told by advice. -/
def loopX (P : Program) (c : Code) (T : List Value) (live keep : List Nat) (c1 : Nat) (h1 : Heap) (e : SExit) (T' : List Value) : X ARes := fun _ s => match Nat.ble s.c c1 && (namesIn keep s.c c1 h1 && namesBelow s.c (s.h.without keep)) with
  | true => some (.out e T', { s with c := c1, h := h1 ++ s.h.without keep, V := .p (Does P s.c (s.h.only keep) c1 h1 (.inLoop c (keepT live 0 T)) (.out e T')) :: s.V })
  | false => none
def markX (v : Value) : X Unit := fun _ s => some ((), { s with V := .t (.tuple ⟨[v, .int .i64 (s.c : Int)]⟩) true :: s.V })
def stepLoop (P : Program) (ro rec : Rec) (c : Code) (T : List Value) : Option Adv → X ARes
  | some (.loop live keep c1 h1 e T') => loopX P c T live keep c1 h1 e T'
  | some (.cell v) => X.bind (markX v) fun _ => stepT P ro rec (.inLoop c T)
  | some (.br _) => stepT P ro rec (.inLoop c T)
  | none => stepT P ro rec (.inLoop c T)
def stepL (P : Program) (ro rec : Rec) : Task → X ARes
  | .inLoop c T => X.bind X.tick fun a => stepLoop P ro rec c T a
  | .call f as => stepT P ro rec (.call f as)
  | .code c T => stepT P ro rec (.code c T)
  | .inScope c b T => stepT P ro rec (.inScope c b T)
def exT (P : Program) (C : Contracts) : Nat → Rec
  | 0 => fun _ => X.fail
  | n + 1 => stepL P (ex P C n) (exT P C n)
theorem loopX_some {c : Code} {T T' : List Value} {live keep : List Nat} {c1 : Nat} {h1 : Heap} {e : SExit} {d : Advice} {s s' : St} {a : ARes} (h : loopX P c T live keep c1 h1 e T' d s = some (a, s')) :
    (s.c ≤ c1 ∧ namesIn keep s.c c1 h1 = true ∧ namesBelow s.c (s.h.without keep) = true) ∧ a = .out e T' ∧
      s' = { s with c := c1, h := h1 ++ s.h.without keep, V := .p (Does P s.c (s.h.only keep) c1 h1 (.inLoop c (keepT live 0 T)) (.out e T')) :: s.V } := by
  unfold loopX at h
  cases hb : Nat.ble s.c c1 && (namesIn keep s.c c1 h1 && namesBelow s.c (s.h.without keep)) with
  | false => simp [hb] at h
  | true =>
    simp only [hb, Option.some.injEq, Prod.mk.injEq] at h
    simp only [Bool.and_eq_true] at hb
    exact ⟨⟨Nat.le_of_ble_eq_true hb.1, hb.2.1, hb.2.2⟩, h.1.symm, h.2.symm⟩
theorem calm_mark {v : Value} {u : Unit} {d : Advice} {s s' : St} (h : markX v d s = some (u, s')) : Calm s s' := by
  simp only [markX, Option.some.injEq, Prod.mk.injEq] at h
  obtain ⟨_, rfl⟩ := h
  exact ⟨rfl, rfl, vcs_tail⟩
/-- Ahead of a task nothing happens but what is to be shown. -/
theorem TaskSnd.calm {x : X ARes} {t : Task} {d : Advice} {s s1 s' : St} {res : ARes} (hx : TaskSnd P x t) (cm : Calm s s1) (h : x d s1 = some (res, s')) :
    (VCs s'.V → VCs s.V) ∧ (VCs s'.V → ∀ r ow w, Sat P r ow s.h w → Fresh r s.c s'.c → TaskOk P r ow w s s' t res) := by
  obtain ⟨g1, g2⟩ := hx d s1 res s' h
  refine ⟨fun hV => cm.V (g1 hV), fun hV r ow w hs hf => ?_⟩
  have := g2 hV r ow w (by rw [cm.h]; exact hs) (by rw [cm.c]; exact hf)
  have hp : ∀ r' ow' w', Post P r ow w s1 r' ow' w' s' → Post P r ow w s r' ow' w' s' := fun r' ow' w' q =>
    ⟨q.le, q.sat, q.frame, by rw [← cm.c]; exact q.new, by rw [← cm.c]; exact q.mono, by rw [← cm.c]; exact q.own⟩
  cases t <;> cases res <;> try trivial
  · exact fun us hu => Calls.mono (this us hu) fun e w' ⟨r', ow', u, he, q, hv⟩ => ⟨r', ow', u, he, hp _ _ _ q, hv⟩
  · exact fun a ha hd => wp_mono (this a ha hd) fun e' a' w' ⟨q1, q2, r3, o3, q3, q4⟩ => ⟨q1, q2, r3, o3, hp _ _ _ q3, q4⟩
  · exact fun a ha hd => LoopWp.mono (this a ha hd) fun e' a' w' ⟨q1, q2, r3, o3, q3, q4⟩ => ⟨q1, q2, r3, o3, hp _ _ _ q3, q4⟩
  · intro a ha hd b k cs
    obtain ⟨e3, a3, w3, ⟨q1, q2, r3, o3, q3, q4⟩, q5⟩ := this a ha hd b k cs
    exact ⟨e3, a3, w3, ⟨q1, q2, r3, o3, hp _ _ _ q3, q4⟩, q5⟩
theorem stepL_snd (hm : P.follows .mixedOrders = true) {ro rec : Rec} (ho : RecSnd P ro) (hr : RecMono P rec) : RecMono P (stepL P ro rec) := by
  have hM := fun t => stepT_mono (P := P) ho.loc hr.mono t
  have hS := fun t => stepT_snd hm ho hr t
  refine ⟨fun t => ?_, fun t => ?_⟩
  · cases t with
    | call f as => exact hM (.call f as)
    | code c T => exact hM (.code c T)
    | inScope c b T => exact hM (.inScope c b T)
    | inLoop c T =>
      intro d s a s' h
      unfold stepL at h
      obtain ⟨x, s1, h1, h2⟩ := bind_some h
      obtain rfl := tick_some h1
      cases x with
      | none => exact hM (.inLoop c T) d { s with k := s.k + 1 } a s' h2
      | some x => cases x with
        | br b => exact hM (.inLoop c T) d { s with k := s.k + 1 } a s' h2
        | cell v =>
          simp only [stepLoop] at h2
          obtain ⟨_, s2, h3, h4⟩ := bind_some h2
          have cm := calm_mark h3
          have := hM (.inLoop c T) d s2 a s' h4
          rw [cm.c] at this
          exact this
        | loop live keep c1 h1' e T' =>
          simp only [stepLoop] at h2
          obtain ⟨h3, _, rfl⟩ := loopX_some h2
          exact h3.1
  · cases t with
    | call f as => exact hS (.call f as)
    | code c T => exact hS (.code c T)
    | inScope c b T => exact hS (.inScope c b T)
    | inLoop c T =>
      intro d s a s' h
      unfold stepL at h
      obtain ⟨x, s1, h1, h2⟩ := bind_some h
      have cm0 := calm_tick h1
      cases x with
      | none => exact (hS (.inLoop c T)).calm cm0 h2
      | some x => cases x with
        | br b => exact (hS (.inLoop c T)).calm cm0 h2
        | cell v =>
          simp only [stepLoop] at h2
          obtain ⟨_, s2, h3, h4⟩ := bind_some h2
          exact (hS (.inLoop c T)).calm (cm0.trans (calm_mark h3)) h4
        | loop live keep c1 h1' e T' =>
          obtain rfl := tick_some h1
          simp only [stepLoop] at h2
          obtain ⟨hb, rfl, rfl⟩ := loopX_some h2
          refine ⟨fun hV => vcs_tail hV, fun hV r ow w hs hf a ha hd => ?_⟩
          have hdo := vcs_head hV
          simp only [VC.ok] at hdo
          refine LoopWp.mono (hdo.2 r (part keep ow) w (hs.part keep) hf a (keepT_rel live T _ 0 ha) hd) ?_
          intro e' a' w' ⟨q1, q2, r3, o3, q3, q4⟩
          have q5 := Post.join hs hf hb.2.1 hb.2.2 q3
          exact ⟨q1, q2, r3, _, ⟨q5.le, q5.sat, q5.frame, q5.new, q5.mono, q5.own⟩, q4⟩
theorem exT_snd (hm : P.follows .mixedOrders = true) {C : Contracts} (hC : Holds P C) : ∀ n, RecMono P (exT P C n)
  | 0 => ⟨fun _ => MonoX.fail, fun _ _ _ _ _ h => by simp [exT, X.fail] at h⟩
  | n + 1 => stepL_snd hm (ex_snd hm hC n) (exT_snd hm hC n)
/-- What a run tells of a task. -/
theorem does_of_run (hm : P.follows .mixedOrders = true) {C : Contracts} (hC : Holds P C) {n : Nat} {t : Task} {d : Advice} {c : Nat} {h : Heap} {res : ARes} {s' : St}
    (e : exT P C n t d (stOf c h) = some (res, s')) (hV : VCs s'.V) : Does P c h s'.c s'.h t res := by
  have hr := exT_snd hm hC n
  refine ⟨hr.mono t d _ _ s' e, fun r ow w hs hf => ?_⟩
  have := (hr.snd t d _ _ s' e).2 hV r ow w hs hf
  cases t <;> cases res <;> try trivial
  · exact fun us hu => Calls.mono (this us hu) fun e w' ⟨r', ow', u, he, hp, hv⟩ => ⟨r', ow', u, he, ⟨hp.le, hp.sat, hp.frame, hp.new, hp.mono, hp.own⟩, hv⟩
  · exact fun a ha hd => wp_mono (this a ha hd) fun e' a' w' ⟨q1, q2, r3, o3, q3, q4⟩ => ⟨q1, q2, r3, o3, ⟨q3.le, q3.sat, q3.frame, q3.new, q3.mono, q3.own⟩, q4⟩
  · exact fun a ha hd => LoopWp.mono (this a ha hd) fun e' a' w' ⟨q1, q2, r3, o3, q3, q4⟩ => ⟨q1, q2, r3, o3, ⟨q3.le, q3.sat, q3.frame, q3.new, q3.mono, q3.own⟩, q4⟩
  · intro a ha hd b k cs
    obtain ⟨e3, a3, w3, ⟨q1, q2, r3, o3, q3, q4⟩, q5⟩ := this a ha hd b k cs
    exact ⟨e3, a3, w3, ⟨q1, q2, r3, o3, ⟨q3.le, q3.sat, q3.frame, q3.new, q3.mono, q3.own⟩, q4⟩, q5⟩
end Go.Sx

namespace Go.Sx
variable {P : Program}

/-- Name 0 owns all old memory. -/
def argsEnv : Env := ⟨fun _ => none, fun _ => 0, fun n => if n = 0 then some undef else none⟩
def argsOwn (w : World) : Nat → Option Nat := fun b => if b < w.heap.size then some 0 else none
def argsHeap (w : World) : Heap := [(0, .args w.heap.size w)]
theorem args_sat (w : World) : Sat P argsEnv (argsOwn w) (argsHeap w) w := by
  refine ⟨fun n c h => ?_, fun b n h => ?_, fun b n h => ?_⟩
  · simp only [argsHeap, Heap.get, nbeq] at h
    by_cases e : (0 : Nat) = n
    · subst e
      simp only [decide_true, if_true, Option.some.injEq] at h
      subst h
      exact fun b hb => ⟨by simp [argsOwn, hb], rfl⟩
    · simp [e] at h
  · unfold argsOwn at h
    split at h
    · assumption
    · cases h
  · unfold argsOwn at h
    split at h
    · cases h; right; simp [argsEnv]
    · cases h
theorem args_fresh (c : Nat) : Fresh argsEnv 1 c := fun n h1 _ => ⟨rfl, by simp only [argsEnv]; rw [if_neg (by omega)]⟩
theorem args_old {r' : Env} {ow' : Nat → Option Nat} {w w' : World} {s s' : St} (hp : Post P argsEnv (argsOwn w) w s r' ow' w' s') (h0 : s'.h.get 0 = some (.args w.heap.size w)) : Old w w' :=
  ⟨hp.frame.os, hp.frame.tape, hp.frame.output, hp.frame.size, fun b hb => (hp.sat.chunk 0 _ h0 b hb).2⟩
/-- A call over old memory. -/
theorem args_calls {f : FuncId} {args : List Value} {w : World} {c1 : Nat} {h1 : Heap} {v : Value} (hd : Does P 1 (argsHeap w) c1 h1 (.call f args) (.val v)) (h0 : h1.get 0 = some (.args w.heap.size w))
    {us : Array Value} (hu : RelL argsEnv args us.toList) : Calls P f us w fun e w' => ∃ r' u, e = .returned u ∧ Rel r' v u ∧ Old w w' :=
  Calls.mono (hd.2 argsEnv (argsOwn w) w (args_sat w) (args_fresh c1) us hu) fun e w' ⟨r', ow', u, he, hp, hv⟩ => ⟨r', u, he, hv, args_old hp h0⟩

/-- A value of the old memory as it stands for itself. -/
def lit : Value → Value
  | .slice (some a) l c => .slice (some ⟨a.block, a.off, some 0⟩) l c
  | v => v
def litOk : Value → Prop
  | .bool _ | .int _ _ | .string _ | .slice none 0 0 => True
  | .slice (some a) l c => (a.spot = none ∨ l = 0) ∧ l ≤ c
  | _ => False
theorem lit_rel {r : Env} : ∀ {v : Value}, litOk v → Rel r (lit v) v
  | .bool _, _ => .bool _
  | .int _ _, _ => .int _ _
  | .string _, _ => .string _
  | .slice none 0 0, _ => .sliceNil
  | .slice (some ⟨b, off, sp⟩) l c, h => by
    obtain ⟨h1, h2⟩ := h
    exact .litSlice h2 h1
theorem args_cells {w : World} {b off : Nat} {vs : List Value} (hb : b < w.heap.size) (h : ∀ (j : Nat) (v : Value), vs[j]? = some v → litOk v ∧ w.cell? ⟨b, off + j, none⟩ = some v) : ArgCells w.heap.size w b off (vs.map lit) := by
  refine ⟨hb, fun j v e => ?_⟩
  rw [List.getElem?_map] at e
  obtain ⟨u, e1, rfl⟩ := Option.map_eq_some_iff.1 e
  obtain ⟨h1, h2⟩ := h j u e1
  exact ⟨u, h2, fun r => lit_rel h1⟩
end Go.Sx

namespace Go.Sx
variable {P : Program}

/-- The way out, some temporaries, how many there are, the counter, old memory's piece, the conditions. -/
def rOut (slots : List Nat) : Option (ARes × St) → Option (SExit × List Value × Nat × Nat × Option Chunk × List VC)
  | some (.out e T, s) => some (e, slots.map fun k => T.getD k undef, T.length, s.c, s.h.get 0, s.V)
  | _ => none
theorem rOut_does (hm : P.follows .mixedOrders = true) {C : Contracts} (hC : Holds P C) {n : Nat} {t : Task} {d : Advice} {c : Nat} {h : Heap} {slots : List Nat} {e : SExit} {vs : List Value} {len c2 : Nat} {x : Option Chunk} {L : List VC}
    (e0 : rOut slots (exT P C n t d (stOf c h)) = some (e, vs, len, c2, x, L)) (hV : VCs L) :
    ∃ T2 h2, Does P c h c2 h2 t (.out e T2) ∧ (slots.map fun k => T2.getD k undef) = vs ∧ T2.length = len ∧ h2.get 0 = x := by
  match e1 : exT P C n t d (stOf c h), e0 with
  | some (.out e' T, s'), e0 =>
    simp only [rOut, Option.some.injEq, Prod.mk.injEq] at e0
    obtain ⟨rfl, rfl, rfl, rfl, rfl, rfl⟩ := e0
    exact ⟨T, s'.h, does_of_run hm hC e1 hV, rfl, rfl, rfl⟩
/-- Old memory alone is kept. -/
theorem sheds_args {w : World} {c c2 : Nat} {h2 : Heap} (hc : 0 < c) (h : h2.get 0 = some (.args w.heap.size w)) : Sheds P c c2 h2 (argsHeap w) := by
  intro n x hn
  simp only [argsHeap, Heap.get, nbeq] at hn
  by_cases e : (0 : Nat) = n
  · subst e
    simp only [decide_true, if_true, Option.some.injEq] at hn
    subst hn
    have hi : inside c c2 0 = false := by
      cases hi : inside c c2 0 with
      | false => rfl
      | true => have := (inside_iff.1 hi).1; omega
    exact ⟨hi, h, Chunk.away_ok hi rfl⟩
  · simp [e] at hn
def lookT : List (Nat × Value) → Nat → Value
  | [], _ => .chan none
  | (k, v) :: l, n => match Nat.beq k n with
    | true => v
    | false => lookT l n
/-- Temporaries of which some alone are known. -/
def mkT : Nat → Nat → List (Nat × Value) → List Value
  | 0, _, _ => []
  | n + 1, k, l => lookT l k :: mkT n (k + 1) l
theorem lookT_rel {r : Env} {us : List Value} : ∀ {l : List (Nat × Value)}, (∀ p ∈ l, ∀ u, us[p.1]? = some u → Rel r p.2 u) → ∀ (j : Nat) (u : Value), us[j]? = some u → Rel r (lookT l j) u
  | [], _, _, _, _ => .any
  | (k, v) :: l, h, j, u, hu => by
    simp only [lookT, nbeq]
    by_cases e : k = j
    · subst e
      simp only [decide_true]
      exact h (k, v) List.mem_cons_self u hu
    · simp only [e, decide_false]
      exact lookT_rel (fun p hp => h p (List.mem_cons_of_mem _ hp)) j u hu
theorem mkT_rel {r : Env} {l : List (Nat × Value)} : ∀ (n k : Nat) (us : List Value), us.length = n → (∀ (j : Nat) (u : Value), us[j]? = some u → Rel r (lookT l (k + j)) u) → RelL r (mkT n k l) us
  | 0, k, us, hl, _ => by
    have : us = [] := List.eq_nil_of_length_eq_zero hl
    subst this; exact .nil
  | n + 1, k, us, hl, h => by
    cases us with
    | nil => cases hl
    | cons u us =>
      refine .cons (h 0 u rfl) (mkT_rel n (k + 1) us (by simpa using hl) fun j u hu => ?_)
      rw [show k + 1 + j = k + (j + 1) by omega]
      exact h (j + 1) u (by simpa using hu)
/-- What a round leaves in the temporaries, as far as the next one needs it. -/
theorem mkT_of {r : Env} {c c2 n : Nat} {T2 us : List Value} {l : List (Nat × Value)} (h : RelL r T2 us) (hn : T2.length = n) (hl : ∀ p ∈ l, T2.getD p.1 undef = p.2 ∧ Away c c2 p.2) : RelL (r.cut c c2) (mkT n 0 l) us := by
  refine mkT_rel n 0 us (by rw [← h.length, hn]) fun j u hu => ?_
  rw [Nat.zero_add]
  refine lookT_rel (fun p hp u hu => ?_) j u hu
  obtain ⟨h1, h2⟩ := hl p hp
  obtain ⟨x, hx, hr⟩ := h.get' p.1 u hu
  have : T2.getD p.1 undef = x := by rw [List.getD_eq_getElem?_getD, hx]; rfl
  rw [← h1, this]
  rw [← h1, this] at h2
  exact h2 r u hr
/-- What a piece of code does, with less told of it. -/
theorem does_weak {code : Code} {c c1 c2 : Nat} {h h2 h' : Heap} {T Te T' : List Value} {e : SExit} (hle : c2 ≤ c1)
    (hb : Does P c h c2 h2 (.code code T) (.out e Te)) (hk : Sheds P c c2 h2 h') (hT : ∀ (r : Env) (us : List Value), RelL r Te us → RelL (r.cut c c2) T' us) :
    Does P c h c1 h' (.code code T) (.out e T') := by
  refine ⟨Nat.le_trans hb.1 hle, fun r ow w hs hf a ha hd => ?_⟩
  refine wp_mono (hb.2 r ow w hs (hf.sub (Nat.le_refl _) hle) a ha hd) ?_
  intro e' a' w' ⟨hex, hd', r', ow', hp, ha'⟩
  obtain ⟨hp2, _⟩ := hp.shed (hf.sub (Nat.le_refl _) hle) hk
  exact ⟨hex, hd', _, _, hp2.upto (Nat.le_trans hb.1 hle), hT r' _ ha'⟩
/-- What a call comes to: its value, old memory's piece, the conditions. -/
def vOut : Option (ARes × St) → Option (Value × Option Chunk × List VC)
  | some (.val v, s) => some (v, s.h.get 0, s.V)
  | _ => none
theorem vOut_does (hm : P.follows .mixedOrders = true) {C : Contracts} (hC : Holds P C) {n : Nat} {t : Task} {d : Advice} {c : Nat} {h : Heap} {v : Value} {x : Option Chunk} {L : List VC}
    (e0 : vOut (exT P C n t d (stOf c h)) = some (v, x, L)) (hV : VCs L) : ∃ c1 h1, Does P c h c1 h1 t (.val v) ∧ h1.get 0 = x := by
  match e1 : exT P C n t d (stOf c h), e0 with
  | some (.val v', s'), e0 =>
    simp only [vOut, Option.some.injEq, Prod.mk.injEq] at e0
    obtain ⟨rfl, rfl, rfl⟩ := e0
    exact ⟨s'.c, s'.h, does_of_run hm hC e1 hV, rfl⟩
end Go.Sx
