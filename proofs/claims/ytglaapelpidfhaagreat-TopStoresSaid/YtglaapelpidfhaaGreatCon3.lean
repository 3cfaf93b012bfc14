/- One more contract: errors.Is of codes that came by places. No condition. -/
import Derived.Test.YtglaapelpidfhaaGreatCon2
import Derived.Test.YtglaapelpidfhaaGreatIs2
namespace Go.Proofs.YtglaapelpidfhaaGreat
open Go Go.Sx
/-- What is in a fault. -/
def inFault (n off : Nat) : X Value := X.bind (readCells n (off + 2) 1) fun vs => match vs with
  | [v] => X.pure v
  | _ => X.fail
def isX (n off : Nat) (a : Int) : X ARes := X.bind (inFault n off) fun v => match v with
  | .iface t (.int .i64 b) => X.bind (need (Nat.beq t 60)) fun _ => X.pure (.val (.bool (decide (b = a))))
  | .iface t (.pointer (some ⟨m, o, none⟩)) => X.bind (need (Nat.beq t 234)) fun _ => X.bind (inFault m o) fun u => match u with
    | .iface t' (.int .i64 b) => X.bind (need (Nat.beq t' 60)) fun _ => X.pure (.val (.bool (decide (b = a))))
    | _ => X.fail
  | _ => X.fail
theorem inFault_local (n off : Nat) : Local (inFault n off) := by
  unfold inFault
  refine Local.bind (Local.readCells _ _ _) fun _ => ?_
  split
  · exact Local.pure _
  · exact Local.fail
theorem isX_local (n off : Nat) (a : Int) : Local (isX n off a) := by
  unfold isX
  refine Local.bind (inFault_local _ _) fun v => ?_
  split
  · exact Local.bind (Local.need _) fun _ => Local.pure _
  · refine Local.bind (Local.need _) fun _ => Local.bind (inFault_local _ _) fun u => ?_
    split
    · exact Local.bind (Local.need _) fun _ => Local.pure _
    · exact Local.fail
  · exact Local.fail
theorem inFault_some {n off : Nat} {v : Value} {d : Advice} {s s' : St} (h : inFault n off d s = some (v, s')) :
    Sx.Calm s s' ∧ (VCs s'.V → ∀ (P : Program) (r : Env) (ow : Nat → Option Nat) (w : World) (b : Nat), Sat P r ow s.h w → r.blk n = some b → ∃ u, w.cell? ⟨b, off + 2, none⟩ = some u ∧ Rel r v u) := by
  unfold inFault at h
  obtain ⟨vs, s1, h1, h2⟩ := bind_some h
  obtain ⟨cm, l, t, hg, hv⟩ := cells_some h1
  split at h2
  · rename_i v0
    obtain ⟨rfl, rfl⟩ := pure_some h2
    refine ⟨cm, fun hV P r ow w b hs hb => ?_⟩
    obtain ⟨e1, _⟩ := hv hV
    obtain ⟨b', c, q1, q2, q3, q4, q5, q6⟩ := hs.chunk n _ hg
    obtain rfl : b' = b := by rw [hb] at q1; exact (Option.some.inj q1).symm
    have e2 : l[off + 2]? = some v0 := by
      have := congrArg (·[0]?) e1
      simp only [List.getElem?_cons_zero, List.getElem?_take, List.getElem?_drop] at this
      simpa using this.symm
    obtain ⟨u, e3, e4⟩ := q4.get _ _ e2
    refine ⟨u, ?_, e4⟩
    rw [cell_of q3, ← Array.getElem?_toList]
    rw [List.getElem?_take] at e3
    split at e3
    · exact e3
    · cases e3
  · simp [X.fail] at h2
theorem isX_snd (n off : Nat) (a : Int) : TaskSnd Tryz.prog (isX n off a) (.call 62 [.iface 234 (.pointer (some ⟨n, off, none⟩)), .iface 60 (.int .i64 a)]) := by
  intro d s res s' h
  unfold isX at h
  obtain ⟨v, s1, h1, h2⟩ := bind_some h
  obtain ⟨cm, hv⟩ := inFault_some h1
  have args : ∀ (r : Env) (us : Array Value), RelL r [.iface 234 (.pointer (some ⟨n, off, none⟩)), .iface 60 (.int .i64 a)] us.toList → ∃ b, r.blk n = some b ∧ us = #[.iface 234 (.pointer (some ⟨b, off, none⟩)), .iface 60 (.int .i64 a)] := by
    intro r us hu
    obtain ⟨us⟩ := us
    cases hu with | cons x1 t1 => cases t1 with | cons x2 t2 => cases t2 with | nil =>
    cases x1 with | iface y1 => cases y1 with | ptr hb =>
    cases x2 with | iface y2 => cases y2 with | int =>
    exact ⟨_, hb, rfl⟩
  split at h2
  · rename_i t b
    obtain ⟨_, s2, h3, h4⟩ := bind_some h2
    obtain ⟨e1, rfl⟩ := need_some h3
    obtain ⟨rfl, rfl⟩ := pure_some h4
    obtain rfl := Nat.eq_of_beq_eq_true e1
    refine ⟨cm.V, fun hV r ow w hs hf us hu => ?_⟩
    obtain ⟨b0, hb, rfl⟩ := args r us hu
    obtain ⟨u, hc, hr⟩ := hv hV _ r ow w b0 hs hb
    cases hr with | iface hr => cases hr with | int =>
    by_cases e : b = a
    · exact Calls.mono (is_wrap1_same b0 off a b e w hc) fun e' w' ⟨q1, q2⟩ => ⟨r, ow, _, q1, by subst q2; exact Post.calm hs cm, by rw [decide_eq_true e]; exact .bool _⟩
    · exact Calls.mono (is_wrap1_other b0 off a b e w hc) fun e' w' ⟨q1, q2⟩ => ⟨r, ow, _, q1, by subst q2; exact Post.calm hs cm, by rw [decide_eq_false e]; exact .bool _⟩
  · rename_i t m o
    obtain ⟨_, s2, h3, h4⟩ := bind_some h2
    obtain ⟨e1, rfl⟩ := need_some h3
    obtain rfl := Nat.eq_of_beq_eq_true e1
    obtain ⟨u0, s3, h5, h6⟩ := bind_some h4
    obtain ⟨cm2, hv2⟩ := inFault_some h5
    split at h6
    · rename_i t b
      obtain ⟨_, s4, h7, h8⟩ := bind_some h6
      obtain ⟨e2, rfl⟩ := need_some h7
      obtain ⟨rfl, rfl⟩ := pure_some h8
      obtain rfl := Nat.eq_of_beq_eq_true e2
      refine ⟨fun hV => cm.V (cm2.V hV), fun hV r ow w hs hf us hu => ?_⟩
      obtain ⟨b0, hb, rfl⟩ := args r us hu
      obtain ⟨u, hc, hr⟩ := hv (cm2.V hV) _ r ow w b0 hs hb
      cases hr with | iface hr => cases hr with | ptr hb1 =>
      obtain ⟨u2, hc2, hr2⟩ := hv2 hV _ r ow w _ (by rw [cm.h]; exact hs) hb1
      cases hr2 with | iface hr2 => cases hr2 with | int =>
      by_cases e : b = a
      · exact Calls.mono (is_wrap2_same b0 off _ o a b e w hc hc2) fun e' w' ⟨q1, q2⟩ => ⟨r, ow, _, q1, by subst q2; exact Post.calm hs (cm.trans cm2), by rw [decide_eq_true e]; exact .bool _⟩
      · exact Calls.mono (is_wrap2_other b0 off _ o a b e w hc hc2) fun e' w' ⟨q1, q2⟩ => ⟨r, ow, _, q1, by subst q2; exact Post.calm hs (cm.trans cm2), by rw [decide_eq_false e]; exact .bool _⟩
    · simp [X.fail] at h6
  · simp [X.fail] at h2
def con3 : Contracts := fun t => match con2 t with
  | some x => some x
  | none => match t with
    | .call f [.iface t (.pointer (some ⟨n, off, none⟩)), .iface t' (.int .i64 a)] => (match Nat.beq f 62 && (Nat.beq t 234 && Nat.beq t' 60) with
      | true => some (isX n off a)
      | false => none)
    | _ => none
theorem con3_some {t : Task} {x : X ARes} (h : con3 t = some x) : con2 t = some x ∨ ∃ n off a, t = .call 62 [.iface 234 (.pointer (some ⟨n, off, none⟩)), .iface 60 (.int .i64 a)] ∧ x = isX n off a := by
  unfold con3 at h
  split at h
  · rename_i y hy
    cases h; exact .inl hy
  · split at h
    · rename_i f t n off t' a _
      split at h
      · rename_i e
        simp only [Bool.and_eq_true] at e
        obtain ⟨e1, e2, e3⟩ := e
        obtain rfl := Nat.eq_of_beq_eq_true e1
        obtain rfl := Nat.eq_of_beq_eq_true e2
        obtain rfl := Nat.eq_of_beq_eq_true e3
        cases h
        exact .inr ⟨n, off, a, rfl, rfl⟩
      · cases h
    · cases h
theorem con3_holds : Holds Tryz.prog con3 := by
  refine ⟨fun t x h => ?_, fun t x h => ?_⟩
  · rcases con3_some h with q | ⟨n, off, a, rfl, rfl⟩
    · exact con2_gives.holds.loc t x q
    · exact isX_local n off a
  · rcases con3_some h with q | ⟨n, off, a, rfl, rfl⟩
    · exact con2_gives.holds.snd t x q
    · exact isX_snd n off a
end Go.Proofs.YtglaapelpidfhaaGreat
