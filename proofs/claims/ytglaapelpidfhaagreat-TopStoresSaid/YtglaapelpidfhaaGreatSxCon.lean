/- Symbolic executor, part 19: contracts of calls that give values alone, and runs from nothing. No condition. -/
import Derived.Test.YtglaapelpidfhaaGreatSxTop
namespace Go.Sx
variable {P : Program}

/-- What was there is as it was; the streams too. -/
structure Old (w w' : World) : Prop where
  os : w'.os = w.os
  tape : w'.tape = w.tape
  output : w'.output = w.output
  size : w.heap.size ≤ w'.heap.size
  keep : ∀ b, b < w.heap.size → w'.heap[b]? = w.heap[b]?
theorem Old.refl (w : World) : Old w w := ⟨rfl, rfl, rfl, Nat.le_refl _, fun _ _ => rfl⟩
def noOne : Nat → Option Nat := fun _ => none
theorem Frame.old {ow' : Nat → Option Nat} {w w' : World} (h : Frame noOne w ow' w') : Old w w' :=
  ⟨h.os, h.tape, h.output, h.size, fun b hb => (h.keep b hb rfl).2⟩
theorem Sat.old {r : Env} {ow : Nat → Option Nat} {h : Heap} {w w' : World} (hs : Sat P r ow h w) (ho : Old w w') : Sat P r ow h w' :=
  ⟨fun n c hn => Chunk.sat_keep (fun b hb => ho.keep b (hs.bound b n hb)) (fun _ => Iff.rfl) (hs.chunk n c hn), fun b n e => Nat.lt_of_lt_of_le (hs.bound b n e) ho.size, hs.known⟩
theorem Frame.of_old {r : Env} {ow : Nat → Option Nat} {h : Heap} {w w' : World} (_ : Sat P r ow h w) (ho : Old w w') : Frame ow w ow w' :=
  ⟨ho.os, ho.tape, ho.output, ho.size, fun b hb e => ⟨e, ho.keep b hb⟩⟩
theorem Post.old {r : Env} {ow : Nat → Option Nat} {s : St} {w w' : World} (hs : Sat P r ow s.h w) (ho : Old w w') : Post P r ow w s r ow w' s :=
  ⟨⟨fun _ _ e => e, fun _ _ _ => rfl, fun _ _ e => e⟩, hs.old ho, Frame.of_old hs ho, New.refl _ _ _, Nat.le_refl _, fun b _ e => .inl ⟨b, e⟩⟩

/-- The call gives a value, and changes nothing that was there. -/
def Gives (P : Program) (f : FuncId) (args : List Value) (v : Value) : Prop :=
  ∀ (r : Env) (us : Array Value) (w : World), RelL r args us.toList → Calls P f us w fun e w' => ∃ u, e = .returned u ∧ Rel r v u ∧ Old w w'
theorem Gives.snd {f : FuncId} {args : List Value} {v : Value} (h : Gives P f args v) : TaskSnd P (X.pure (.val v)) (.call f args) := by
  intro d s res s' hx
  obtain ⟨rfl, rfl⟩ := pure_some hx
  refine ⟨id, fun _ r ow w hs _ us hu => ?_⟩
  exact Calls.mono (h r us w hu) fun e w' ⟨u, he, hv, ho⟩ => ⟨r, ow, u, he, Post.old hs ho, hv⟩

/-- Nothing is named. -/
def nil : Env := ⟨fun _ => none, fun _ => 0, fun _ => none⟩
def s0 : St := ⟨0, 0, [], [], [], []⟩
theorem sat_nil (w : World) : Sat P nil noOne s0.h w := ⟨fun _ _ h => by simp [s0, Heap.get] at h, fun _ _ h => by simp [noOne] at h, fun _ _ h => by simp [noOne] at h⟩
/-- A run from nothing. -/
theorem run_calls (hm : P.follows .mixedOrders = true) {C : Contracts} (hC : Holds P C) {n : Nat} {f : FuncId} {args : List Value} {d : Advice} {s' : St} {v : Value}
    (h : ex P C n (.call f args) d s0 = some (.val v, s')) (hV : VCs s'.V) {w : World} {us : Array Value} (hu : RelL nil args us.toList) :
    Calls P f us w fun e w' => ∃ r' u, e = .returned u ∧ Rel r' v u ∧ Old w w' :=
  Calls.mono (ex_calls hm hC h hV (sat_nil w) (fun n _ _ => ⟨rfl, rfl⟩) hu) fun e w' ⟨r', ow', u, he, hp, hv⟩ => ⟨r', u, he, hv, hp.frame.old⟩

/-- The value that a run comes to. -/
def valOf : Option (ARes × St) → Option Value
  | some (.val v, _) => some v
  | _ => none
/-- What is to be shown beside it. -/
def vcsOf : Option (ARes × St) → List VC
  | some (_, s) => s.V
  | none => []
theorem run_of {o : Option (ARes × St)} {v : Value} {L : List VC} (h1 : valOf o = some v) (h2 : vcsOf o = L) : ∃ s', o = some (.val v, s') ∧ s'.V = L := by
  match o, h1, h2 with
  | some (.val _, s), h1, h2 =>
    simp only [valOf, Option.some.injEq] at h1
    subst h1
    exact ⟨s, rfl, h2⟩
/-- All that is to be shown by a look. -/
def allB : List VC → Bool
  | [] => true
  | .b x :: l => x && allB l
  | .t _ _ :: l => allB l
  | .p _ :: _ => false
theorem allB_ok : ∀ {L : List VC}, allB L = true → VCs L
  | [], _ => fun _ h => by cases h
  | .b x :: l, h => by
    simp only [allB, Bool.and_eq_true] at h
    intro v hv
    cases hv with
    | head => exact h.1
    | tail _ hv => exact allB_ok h.2 v hv
  | .t _ _ :: l, h => by
    simp only [allB] at h
    intro v hv
    cases hv with
    | head => trivial
    | tail _ hv => exact allB_ok h v hv
  | .p _ :: _, h => by simp [allB] at h
/-- What a run comes to, and what is to be shown beside it. -/
def outOf : Option (ARes × St) → Option (Value × List VC)
  | some (.val v, s) => some (v, s.V)
  | _ => none
theorem out_of {o : Option (ARes × St)} {v : Value} {L : List VC} (h : outOf o = some (v, L)) : ∃ s', o = some (.val v, s') ∧ s'.V = L := by
  match o, h with
  | some (.val _, s), h =>
    simp only [outOf, Option.some.injEq, Prod.mk.injEq] at h
    obtain ⟨rfl, h2⟩ := h
    exact ⟨s, rfl, h2⟩
theorem vcs_nil : VCs [] := fun _ h => by cases h
theorem vcs_cons {v : VC} {L : List VC} (h : v.ok) (k : VCs L) : VCs (v :: L) := fun x hx => by
  cases hx with
  | head => exact h
  | tail _ hx => exact k x hx
/-! Values without a name, told apart by a look. -/
def eachL (p : Value → Bool) : List Value → Bool
  | [] => true
  | v :: l => p v && eachL p l
def bare : Nat → Value → Bool
  | 0, _ => false
  | f + 1, v => match v with
    | .bool _ | .int _ _ | .string _ | .pointer none | .slice none 0 0 | .map none | .nilFunc | .nilIface => true
    | .iface _ v => bare f v
    | .agg ⟨l⟩ => eachL (bare f) l
    | .tuple ⟨l⟩ => eachL (bare f) l
    | _ => false
theorem eachL_eq {p : Value → Bool} {r : Env} (hp : ∀ v u, p v = true → Rel r v u → u = v) : ∀ {l us : List Value}, eachL p l = true → RelL r l us → us = l
  | [], _, _, h => by cases h; rfl
  | v :: l, _, hl, h => by
    cases h with
    | cons hx ht =>
      simp only [eachL, Bool.and_eq_true] at hl
      rw [hp v _ hl.1 hx, eachL_eq hp hl.2 ht]
theorem bare_eq {r : Env} : ∀ (f : Nat) (v u : Value), bare f v = true → Rel r v u → u = v
  | 0, v, u, h, _ => by simp [bare] at h
  | f + 1, v, u, h, hr => by
    unfold bare at h
    split at h
    · cases hr; rfl
    · cases hr; rfl
    · cases hr; rfl
    · cases hr; rfl
    · cases hr; rfl
    · cases hr; rfl
    · cases hr; rfl
    · cases hr; rfl
    · cases hr with | iface hb => rw [bare_eq f _ _ h hb]
    · obtain ⟨ys, rfl, hl⟩ := hr.agg_inv
      have := eachL_eq (bare_eq f) h hl
      obtain ⟨ys⟩ := ys
      simp only at this
      rw [this]
    · obtain ⟨ys, rfl, hl⟩ := hr.tuple_inv
      have := eachL_eq (bare_eq f) h hl
      obtain ⟨ys⟩ := ys
      simp only at this
      rw [this]
    · cases h
theorem eachL_rel {p : Value → Bool} {r : Env} (hp : ∀ v, p v = true → Rel r v v) : ∀ {l : List Value}, eachL p l = true → RelL r l l
  | [], _ => .nil
  | v :: l, hl => by
    simp only [eachL, Bool.and_eq_true] at hl
    exact .cons (hp v hl.1) (eachL_rel hp hl.2)
theorem bare_rel {r : Env} : ∀ (f : Nat) (v : Value), bare f v = true → Rel r v v
  | 0, v, h => by simp [bare] at h
  | f + 1, v, h => by
    unfold bare at h
    split at h
    · exact .bool _
    · exact .int _ _
    · exact .string _
    · exact .ptrNil
    · exact .sliceNil
    · exact .mapNil
    · exact .nilFunc
    · exact .nilIface
    · exact .iface (bare_rel f _ h)
    · exact RelL.mkAgg (eachL_rel (bare_rel f) h)
    · exact RelL.mkTuple (eachL_rel (bare_rel f) h)
    · cases h
/-- A contract out of a run from nothing. -/
theorem gives_of_run (hm : P.follows .mixedOrders = true) {C : Contracts} (hC : Holds P C) {n : Nat} {f : FuncId} {args : List Value} {d : Advice} {v : Value} {L : List VC}
    (h : outOf (ex P C n (.call f args) d s0) = some (v, L)) (hV : VCs L) (ha : eachL (bare 9) args = true) (hv : bare 9 v = true) : Gives P f args v := by
  intro r us w hu
  obtain ⟨s', h1, h2⟩ := out_of h
  subst h2
  have hus : us.toList = args := eachL_eq (bare_eq 9) ha hu
  have hu' : RelL nil args us.toList := by rw [hus]; exact eachL_rel (bare_rel 9) ha
  exact Calls.mono (run_calls hm hC h1 hV hu') fun e w' ⟨r', u, he, hr, ho⟩ => ⟨u, he, by rw [bare_eq 9 v u hv hr]; exact bare_rel 9 v hv, ho⟩
/-- Contracts of calls that give values. -/
structure GiveC (P : Program) (C : Contracts) : Prop where
  all : ∀ t x, C t = some x → ∃ f xs v, t = .call f xs ∧ x = X.pure (.val v) ∧ Gives P f xs v
theorem GiveC.holds {C : Contracts} (h : GiveC P C) : Holds P C :=
  ⟨fun t x e => by obtain ⟨f, xs, v, rfl, rfl, _⟩ := h.all t x e; exact Local.pure _,
   fun t x e => by obtain ⟨f, xs, v, rfl, rfl, g⟩ := h.all t x e; exact g.snd⟩
theorem noC_gives : GiveC P noC := ⟨fun _ _ h => by simp [noC] at h⟩
/-- One contract more. -/
def addC (C : Contracts) (f : FuncId) (g : List Value → Option Value) : Contracts := fun t => match t with
  | .call k xs => match Nat.beq k f with
    | true => (match g xs with
      | some v => some (X.pure (.val v))
      | none => none)
    | false => C (.call k xs)
  | t => C t
theorem GiveC.add {C : Contracts} (h : GiveC P C) {f : FuncId} {g : List Value → Option Value} (hg : ∀ xs v, g xs = some v → Gives P f xs v) : GiveC P (addC C f g) := ⟨fun t x e => by
  unfold addC at e
  split at e
  · rename_i k xs
    cases hb : Nat.beq k f with
    | true =>
      simp only [hb] at e
      have := Nat.eq_of_beq_eq_true hb
      subst this
      cases hx : g xs with
      | none => simp [hx] at e
      | some v =>
        simp only [hx, Option.some.injEq] at e
        exact ⟨_, _, _, rfl, e.symm, hg xs v hx⟩
    | false =>
      simp only [hb] at e
      exact h.all _ _ e
  · exact h.all _ _ e⟩
end Go.Sx
