/- Symbolic executor, part 22: what a run of a piece of code comes to, by looks. No condition. -/
import Derived.Test.YtglaapelpidfhaaGreatSxArg
namespace Go.Sx
variable {P : Program}

/-- The way out, some temporaries, how many there are, the counter, old memory's piece, the conditions. -/
def rOut (slots : List Nat) : Option (ARes × St) → Option (SExit × List Value × Nat × Nat × Option Chunk × List VC)
  | some (.out e T, s) => some (e, slots.map fun k => T.getD k undef, T.length, s.c, s.h.get 0, s.V)
  | _ => none
theorem rOut_does (hm : P.follows .mixedOrders = true) {C : Contracts} (hC : Holds P C) {n : Nat} {t : Task} {d : Advice} {c : Nat} {h : Heap} {slots : List Nat} {e : SExit} {vs : List Value} {len c2 : Nat} {x : Option Chunk} {L : List VC}
    (e0 : rOut slots (exT P C n t d (stOf c h)) = some (e, vs, len, c2, x, L)) (hV : VCs L) :
    ∃ T2 h2, Does P c h c2 h2 t (.out e T2) ∧ (slots.map fun k => T2.getD k undef) = vs ∧ T2.length = len ∧ h2.get 0 = x := by
  match e1 : exT P C n t d (stOf c h), e0 with
  | some (.out e' T, s'), e0 =>
    simp only [rOut, Option.some.injEq, Prod.mk.injEq] at e0
    obtain ⟨rfl, rfl, rfl, rfl, rfl, rfl⟩ := e0
    exact ⟨T, s'.h, does_of_run hm hC e1 hV, rfl, rfl, rfl⟩
/-- Old memory alone is kept. -/
theorem sheds_args {w : World} {c c2 : Nat} {h2 : Heap} (hc : 0 < c) (h : h2.get 0 = some (.args w.heap.size w)) : Sheds P c c2 h2 (argsHeap w) := by
  intro n x hn
  simp only [argsHeap, Heap.get, nbeq] at hn
  by_cases e : (0 : Nat) = n
  · subst e
    simp only [decide_true, if_true, Option.some.injEq] at hn
    subst hn
    have hi : inside c c2 0 = false := by
      cases hi : inside c c2 0 with
      | false => rfl
      | true => have := (inside_iff.1 hi).1; omega
    exact ⟨hi, h, Chunk.away_ok hi rfl⟩
  · simp [e] at hn
def lookT : List (Nat × Value) → Nat → Value
  | [], _ => .chan none
  | (k, v) :: l, n => match Nat.beq k n with
    | true => v
    | false => lookT l n
/-- Temporaries of which some alone are known. -/
def mkT : Nat → Nat → List (Nat × Value) → List Value
  | 0, _, _ => []
  | n + 1, k, l => lookT l k :: mkT n (k + 1) l
theorem lookT_rel {r : Env} {us : List Value} : ∀ {l : List (Nat × Value)}, (∀ p ∈ l, ∀ u, us[p.1]? = some u → Rel r p.2 u) → ∀ (j : Nat) (u : Value), us[j]? = some u → Rel r (lookT l j) u
  | [], _, _, _, _ => .any
  | (k, v) :: l, h, j, u, hu => by
    simp only [lookT, nbeq]
    by_cases e : k = j
    · subst e
      simp only [decide_true]
      exact h (k, v) List.mem_cons_self u hu
    · simp only [e, decide_false]
      exact lookT_rel (fun p hp => h p (List.mem_cons_of_mem _ hp)) j u hu
theorem mkT_rel {r : Env} {l : List (Nat × Value)} : ∀ (n k : Nat) (us : List Value), us.length = n → (∀ (j : Nat) (u : Value), us[j]? = some u → Rel r (lookT l (k + j)) u) → RelL r (mkT n k l) us
  | 0, k, us, hl, _ => by
    have : us = [] := List.eq_nil_of_length_eq_zero hl
    subst this; exact .nil
  | n + 1, k, us, hl, h => by
    cases us with
    | nil => cases hl
    | cons u us =>
      refine .cons (h 0 u rfl) (mkT_rel n (k + 1) us (by simpa using hl) fun j u hu => ?_)
      rw [show k + 1 + j = k + (j + 1) by omega]
      exact h (j + 1) u (by simpa using hu)
/-- What a round leaves in the temporaries, as far as the next one needs it. -/
theorem mkT_of {r : Env} {c c2 n : Nat} {T2 us : List Value} {l : List (Nat × Value)} (h : RelL r T2 us) (hn : T2.length = n) (hl : ∀ p ∈ l, T2.getD p.1 undef = p.2 ∧ Away c c2 p.2) : RelL (r.cut c c2) (mkT n 0 l) us := by
  refine mkT_rel n 0 us (by rw [← h.length, hn]) fun j u hu => ?_
  rw [Nat.zero_add]
  refine lookT_rel (fun p hp u hu => ?_) j u hu
  obtain ⟨h1, h2⟩ := hl p hp
  obtain ⟨x, hx, hr⟩ := h.get' p.1 u hu
  have : T2.getD p.1 undef = x := by rw [List.getD_eq_getElem?_getD, hx]; rfl
  rw [← h1, this]
  rw [← h1, this] at h2
  exact h2 r u hr
/-- What a piece of code does, with less told of it. -/
theorem does_weak {code : Code} {c c1 c2 : Nat} {h h2 h' : Heap} {T Te T' : List Value} {e : SExit} (hle : c2 ≤ c1)
    (hb : Does P c h c2 h2 (.code code T) (.out e Te)) (hk : Sheds P c c2 h2 h') (hT : ∀ (r : Env) (us : List Value), RelL r Te us → RelL (r.cut c c2) T' us) :
    Does P c h c1 h' (.code code T) (.out e T') := by
  refine ⟨Nat.le_trans hb.1 hle, fun r ow w hs hf a ha hd => ?_⟩
  refine wp_mono (hb.2 r ow w hs (hf.sub (Nat.le_refl _) hle) a ha hd) ?_
  intro e' a' w' ⟨hex, hd', r', ow', hp, ha'⟩
  obtain ⟨hp2, _⟩ := hp.shed (hf.sub (Nat.le_refl _) hle) hk
  exact ⟨hex, hd', _, _, hp2.upto (Nat.le_trans hb.1 hle), hT r' _ ha'⟩
/-- What a call comes to: its value, old memory's piece, the conditions. -/
def vOut : Option (ARes × St) → Option (Value × Option Chunk × List VC)
  | some (.val v, s) => some (v, s.h.get 0, s.V)
  | _ => none
theorem vOut_does (hm : P.follows .mixedOrders = true) {C : Contracts} (hC : Holds P C) {n : Nat} {t : Task} {d : Advice} {c : Nat} {h : Heap} {v : Value} {x : Option Chunk} {L : List VC}
    (e0 : vOut (exT P C n t d (stOf c h)) = some (v, x, L)) (hV : VCs L) : ∃ c1 h1, Does P c h c1 h1 t (.val v) ∧ h1.get 0 = x := by
  match e1 : exT P C n t d (stOf c h), e0 with
  | some (.val v', s'), e0 =>
    simp only [vOut, Option.some.injEq, Prod.mk.injEq] at e0
    obtain ⟨rfl, rfl, rfl⟩ := e0
    exact ⟨s'.c, s'.h, does_of_run hm hC e1 hV, rfl⟩
end Go.Sx
