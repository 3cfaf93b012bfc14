/- Symbolic executor, part 25: what a round comes to, held against what the next one begins with. No condition. -/
import Derived.Test.YtglaapelpidfhaaGreatSxFar
namespace Go.Sx
variable {P : Program}

def maskV : Value → Value → Value
  | .chan none, _ => .chan none
  | .iface _ (.chan none), .iface t _ => .iface t (.chan none)
  | _, v => v
def maskL : List Value → List Value → List Value
  | [], _ => []
  | _ :: _, [] => []
  | t :: ts, v :: vs => maskV t v :: maskL ts vs
theorem maskV_cover {t v : Value} {ts vs : List Value} (h : maskV t v = t) (hc : Cover ts vs) : Cover (t :: ts) (v :: vs) := by
  unfold maskV at h
  split at h
  · exact .any hc
  · cases h; exact .ifc rfl hc
  · exact .same h.symm hc
theorem maskL_cover : ∀ {ts vs : List Value}, maskL ts vs = ts → Cover ts vs
  | [], _, _ => .nil
  | _ :: _, [], h => by cases h
  | t :: ts, v :: vs, h => by
    simp only [maskL, List.cons.injEq] at h
    exact maskV_cover h.1 (maskL_cover h.2)
def maskC : Chunk → Chunk → Chunk
  | .cells ts _, .cells vs t => .cells (maskL ts vs) t
  | _, x => x
theorem maskC_into {x' x : Chunk} {nm : Nat → Option Nat} (hx : ∀ z, x ≠ .sem z) (h : maskC x' (x.ren nm) = x') : ChunkInto (x.ren nm) x' := by
  cases x with
  | cells vs t =>
    cases x' with
    | cells ts t' =>
      simp only [Chunk.ren, maskC, Chunk.cells.injEq] at h
      obtain ⟨h1, rfl⟩ := h
      exact .cells (maskL_cover h1)
    | _ => simp [Chunk.ren, maskC] at h
  | map es =>
    have h' : Chunk.map (es.map fun p => (renV nm 9 p.1, renV nm 9 p.2)) = x' := by
      rw [← h]; cases x' <;> rfl
    subst h'
    exact .map rfl (Cover.refl _) (Cover.refl _)
  | args B w0 =>
    have h' : Chunk.args B w0 = x' := by rw [← h]; cases x' <;> rfl
    subst h'
    exact .args
  | sem z => exact absurd rfl (hx z)
  | bag e m =>
    have h' : Chunk.bag e m = x' := by rw [← h]; cases x' <;> rfl
    subst h'
    exact .bag (Nat.le_refl _)
def noSem : Chunk → Bool
  | .sem _ => false
  | _ => true
/-- A piece held against a target: by its looks, or (a row of open length) by a condition. -/
def holdC (nm : Nat → Option Nat) (loose : Bool) (x' x : Chunk) : Option (Chunk × List VC) := match loose with
  | false => some (maskC x' (x.ren nm), [])
  | true => match x', x.ren nm with
    | .cells ts t', .cells vs t => match Nat.beq t t' with
      | true => some (.cells ts t', [.p (Cover ts vs)])
      | false => none
    | _, _ => none
theorem holdC_into {nm : Nat → Option Nat} {loose : Bool} {x' x : Chunk} {L : List VC} (hx : ∀ z, x ≠ .sem z) (h : holdC nm loose x' x = some (x', L)) (hV : VCs L) : ChunkInto (x.ren nm) x' := by
  unfold holdC at h
  cases loose with
  | false =>
    simp only [Option.some.injEq, Prod.mk.injEq] at h
    exact maskC_into hx h.1
  | true =>
    simp only at h
    cases x with
    | cells l t0 =>
      cases x' with
      | cells ts t' =>
        simp only [Chunk.ren] at h
        split at h
        · rename_i e
          have := Nat.eq_of_beq_eq_true e
          subst this
          simp only [Option.some.injEq, Prod.mk.injEq, true_and] at h
          subst h
          exact .cells (vcs_head hV)
        · cases h
      | _ => simp [Chunk.ren] at h
    | _ => cases x' <;> simp [Chunk.ren] at h
def maskH (nm : Nat → Option Nat) (h2 : Heap) : List (Nat × Bool) → Heap → Option (Heap × List VC)
  | [], [] => some ([], [])
  | (s, b) :: ss, (_, x') :: h' => match h2.get s with
    | some x => match noSem x with
      | true => match nm s with
        | some m => match holdC nm b x' x with
          | some (y, L) => match maskH nm h2 ss h' with
            | some (g, L') => some ((m, y) :: g, L ++ L')
            | none => none
          | none => none
        | none => none
      | false => none
    | none => none
  | _, _ => none
theorem maskH_get {nm : Nat → Option Nat} {h2 : Heap} {n : Nat} {y : Chunk} : ∀ {ss : List (Nat × Bool)} {h' : Heap} {L : List VC}, maskH nm h2 ss h' = some (h', L) → VCs L → h'.get n = some y →
    ∃ s x, nm s = some n ∧ h2.get s = some x ∧ ChunkInto (x.ren nm) y
  | [], [], _, _, _, hg => by cases hg
  | [], _ :: _, _, h, _, _ => by simp [maskH] at h
  | _ :: _, [], _, h, _, _ => by simp [maskH] at h
  | (s, b) :: ss, (k, x') :: h', L, h, hV, hg => by
    simp only [maskH] at h
    cases e1 : h2.get s with
    | none => simp [e1] at h
    | some x =>
      simp only [e1] at h
      cases e2 : noSem x with
      | false => simp [e2] at h
      | true =>
        simp only [e2] at h
        cases e3 : nm s with
        | none => simp [e3] at h
        | some m =>
          simp only [e3] at h
          cases e6 : holdC nm b x' x with
          | none => simp [e6] at h
          | some q =>
            obtain ⟨z, L1⟩ := q
            simp only [e6] at h
            cases e4 : maskH nm h2 ss h' with
            | none => simp [e4] at h
            | some g =>
              obtain ⟨g, L2⟩ := g
              simp only [e4, Option.some.injEq, List.cons.injEq, Prod.mk.injEq] at h
              obtain ⟨⟨⟨rfl, rfl⟩, rfl⟩, rfl⟩ := h
              have hV1 : VCs L1 := fun v hv => hV v (List.mem_append_left _ hv)
              have hV2 : VCs L2 := fun v hv => hV v (List.mem_append_right _ hv)
              simp only [Heap.get, nbeq] at hg
              by_cases e5 : m = n
              · subst e5
                simp only [decide_true, if_true, Option.some.injEq] at hg
                subst hg
                exact ⟨s, x, e3, e1, holdC_into (fun z e => by subst e; simp [noSem] at e2) e6 hV1⟩
              · simp only [e5, decide_false, Bool.false_eq_true, if_false] at hg
                exact maskH_get e4 hV2 hg
/-- The way out, the temporaries and pieces that are looked at, how many temporaries, the counter, the conditions. -/
def rOutM (nm : Nat → Option Nat) (l : List (Nat × Value)) (ss : List (Nat × Bool)) (h' : Heap) : Option (ARes × St) → Option (SExit × List Value × Nat × Nat × Heap × List VC × List VC)
  | some (.out e T, s) => match maskH nm s.h ss h' with
    | some (g, L) => some (e, maskL (l.map (·.2)) ((l.map (·.1)).map fun k => renV nm 9 (T.getD k undef)), T.length, s.c, g, L, s.V)
    | none => none
  | _ => none
theorem rOutM_does (hm : P.follows .mixedOrders = true) {C : Contracts} (hC : Holds P C) {ρ : Names} {c0 c1 n : Nat} {t : Task} {d : Advice} {c : Nat} {h h' : Heap} {l : List (Nat × Value)} {ss : List (Nat × Bool)} {e : SExit} {len c2 : Nat} {L L' : List VC}
    (e0 : rOutM (nameOf ρ c0 c1) l ss h' (exF P C n t d (stOf c h)) = some (e, l.map (·.2), len, c2, h', L', L)) (hV' : VCs L') (hV : VCs L) :
    ∃ T2 h2, Does P c h c2 h2 t (.out e T2) ∧ RenTo ρ c0 c1 h2 T2 h' (mkT len 0 l) := by
  match e1 : exF P C n t d (stOf c h), e0 with
  | some (.out e' T, s'), e0 =>
    simp only [rOutM] at e0
    cases e2 : maskH (nameOf ρ c0 c1) s'.h ss h' with
    | none => simp [e2] at e0
    | some g =>
      obtain ⟨g, L1⟩ := g
      simp only [e2, Option.some.injEq, Prod.mk.injEq] at e0
      obtain ⟨rfl, h1, rfl, rfl, rfl, rfl, rfl⟩ := e0
      exact ⟨T, s'.h, does_of_far hm hC e1 hV, ⟨fun n y hg => maskH_get e2 hV' hg, fun r r2 us hb hr => mkT_ren rfl rfl (maskL_cover h1) r r2 us hb hr⟩⟩
/-- A round goes on with the next. -/
def Goes (P : Program) (c0 cm c1 : Nat) (hm : Heap) (code : Code) (T : List Value) (hm' : Heap) (T' : List Value) : Prop :=
  ∃ ρ T2 c2 h2, Names.ok ρ c0 cm = true ∧ c2 ≤ c1 ∧ Does P cm hm c2 h2 (.code code T) (.out .normal T2) ∧ RenTo ρ c0 c1 h2 T2 hm' T'
/-- A round ends the loop. -/
def Ends (P : Program) (c0 cm c1 : Nat) (hm : Heap) (code : Code) (T : List Value) (e : SExit) (h1 : Heap) (Tf : List Value) : Prop :=
  ∃ ρ T2 c2 h2, Names.ok ρ c0 c1 = true ∧ c2 ≤ c1 ∧ Does P cm hm c2 h2 (.code code T) (.out e T2) ∧ RenTo ρ c0 c1 h2 T2 h1 Tf
theorem Goes.mid {c0 cm c1 : Nat} {h0 hm hm' h1 : Heap} {code : Code} {T T' Tf : List Value} {e : SExit} (h : Goes P c0 cm c1 hm code T hm' T') (h0m : c0 ≤ cm) (hm1 : cm ≤ c1) (hn : Mid P c0 h0 cm hm' c1 h1 code T' e Tf) : Mid P c0 h0 cm hm c1 h1 code T e Tf := by
  obtain ⟨ρ, T2, c2, h2, a, b, c, d⟩ := h
  exact mid_step a h0m hm1 b c d hn
theorem Ends.mid {c0 cm c1 : Nat} {h0 hm h1 : Heap} {code : Code} {T Tf : List Value} {e : SExit} (h : Ends P c0 cm c1 hm code T e h1 Tf) (he : e ≠ .normal) (h0m : c0 ≤ cm) : Mid P c0 h0 cm hm c1 h1 code T e Tf := by
  obtain ⟨ρ, T2, c2, h2, a, b, c, d⟩ := h
  exact mid_end he a h0m b c d
theorem goes_of (hm : P.follows .mixedOrders = true) {C : Contracts} (hC : Holds P C) (ρ : Names) {c0 cm c1 n : Nat} {code : Code} {T : List Value} {d : Advice} {h h' : Heap} {l : List (Nat × Value)} (ss : List (Nat × Bool)) {len c2 : Nat} {L L' : List VC}
    (e0 : rOutM (nameOf ρ c0 c1) l ss h' (exF P C n (.code code T) d (stOf cm h)) = some (.normal, l.map (·.2), len, c2, h', L', L)) (hρ : Names.ok ρ c0 cm = true) (hc : Nat.ble c2 c1 = true) (hV' : VCs L') (hV : VCs L) : Goes P c0 cm c1 h code T h' (mkT len 0 l) := by
  obtain ⟨T2, h2, a, b⟩ := rOutM_does hm hC e0 hV' hV
  exact ⟨ρ, T2, c2, h2, hρ, Nat.le_of_ble_eq_true hc, a, b⟩
theorem ends_of (hm : P.follows .mixedOrders = true) {C : Contracts} (hC : Holds P C) (ρ : Names) {c0 cm c1 n : Nat} {code : Code} {T : List Value} {d : Advice} {h h' : Heap} {l : List (Nat × Value)} (ss : List (Nat × Bool)) {e : SExit} {len c2 : Nat} {L L' : List VC}
    (e0 : rOutM (nameOf ρ c0 c1) l ss h' (exF P C n (.code code T) d (stOf cm h)) = some (e, l.map (·.2), len, c2, h', L', L)) (hρ : Names.ok ρ c0 c1 = true) (hc : Nat.ble c2 c1 = true) (hV' : VCs L') (hV : VCs L) : Ends P c0 cm c1 h code T e h' (mkT len 0 l) := by
  obtain ⟨T2, h2, a, b⟩ := rOutM_does hm hC e0 hV' hV
  exact ⟨ρ, T2, c2, h2, hρ, Nat.le_of_ble_eq_true hc, a, b⟩
/-- The loop's entry: a heap of which less is told, under other names. -/
def maskEntry (nm : Nat → Option Nat) (l : List (Nat × Value)) (ss : List (Nat × Bool)) (h0 : Heap) (T0 : List Value) (h' : Heap) : Option (List Value × Nat × Heap × List VC) := match maskH nm h0 ss h' with
  | some (g, L) => some (maskL (l.map (·.2)) ((l.map (·.1)).map fun k => renV nm 9 (T0.getD k undef)), T0.length, g, L)
  | none => none
theorem entry_of {ρ : Names} {c0 c1 len : Nat} {h0 h' : Heap} {T0 : List Value} {l : List (Nat × Value)} (ss : List (Nat × Bool)) {L : List VC} (e0 : maskEntry (nameOf ρ c0 c1) l ss h0 T0 h' = some (l.map (·.2), len, h', L)) (hV : VCs L) : RenTo ρ c0 c1 h0 T0 h' (mkT len 0 l) := by
  unfold maskEntry at e0
  cases e2 : maskH (nameOf ρ c0 c1) h0 ss h' with
  | none => simp [e2] at e0
  | some g =>
    obtain ⟨g, L1⟩ := g
    simp only [e2, Option.some.injEq, Prod.mk.injEq] at e0
    obtain ⟨h1, rfl, rfl, rfl⟩ := e0
    exact ⟨fun n y hg => maskH_get e2 hV hg, fun r r2 us hb hr => mkT_ren rfl rfl (maskL_cover h1) r r2 us hb hr⟩
/-- A row of which nothing is told but its length. -/
def anyRow (n : Nat) : List Value := List.replicate n (.chan none)
theorem any_cover : ∀ {n : Nat} {l : List Value}, n ≤ l.length → Cover (anyRow n) l
  | 0, _, _ => .nil
  | n + 1, [], h => by simp at h
  | n + 1, _ :: l, h => .any (any_cover (by simpa using h))
end Go.Sx
