/- Symbolic executor, part 24: runs in which a loop's end may be told by advice in called functions, too; contracts at every call. No condition. -/
import Derived.Test.YtglaapelpidfhaaGreatSxRen
namespace Go.Sx
variable {P : Program}

def codeF (P : Program) (ro rec : Rec) (c : Code) (T : List Value) : X ARes := match c with
  | .region _ ops false => X.bind (seqOps P rec ops.toList ops.toList T) fun T' => X.pure (.out .normal T')
  | c => stepT P ro rec (.code c T)
def stepF (P : Program) (ro rec : Rec) : Task → X ARes
  | .inLoop c T => X.bind X.tick fun a => stepLoop P ro rec c T a
  | .call f as => stepT P ro rec (.call f as)
  | .inScope c b T => stepT P ro rec (.inScope c b T)
  | .code c T => codeF P ro rec c T
def exF (P : Program) (C : Contracts) : Nat → Rec
  | 0 => fun _ => X.fail
  | n + 1 => fun t => match C t with
    | some x => x
    | none => stepF P (ex P C n) (exF P C n) t
theorem stepF_snd (hm : P.follows .mixedOrders = true) {ro rec : Rec} (ho : RecSnd P ro) (hr : RecMono P rec) (t : Task) : MonoX (stepF P ro rec t) ∧ TaskSnd P (stepF P ro rec t) t := by
  have hL := stepL_snd hm ho hr
  cases t with
  | inLoop c T => exact ⟨hL.mono (.inLoop c T), hL.snd (.inLoop c T)⟩
  | call f as => exact ⟨hL.mono (.call f as), hL.snd (.call f as)⟩
  | inScope c b T => exact ⟨hL.mono (.inScope c b T), hL.snd (.inScope c b T)⟩
  | code c T =>
    show MonoX (codeF P ro rec c T) ∧ TaskSnd P (codeF P ro rec c T) (.code c T)
    unfold codeF
    split
    · rename_i id ops
      refine ⟨MonoX.bind (MonoX.seqOps hr.mono _ _ _) fun _ => MonoX.pure _, fun d s res s' h => ?_⟩
      obtain ⟨T', s1, h1, h2⟩ := bind_some h
      obtain ⟨rfl, rfl⟩ := pure_some h2
      obtain ⟨g1, g2⟩ := seqOps_snd hr ops.toList 0 T T' d s s1 (by simp) h1
      refine ⟨g1, fun hV r ow w hs hf a ha hd => wp_region ?_⟩
      rw [List.range_eq_range']
      exact g2 hV r ow w a hs hf ha hd _ fun r' ow' a' w' hp ha' hd' => ⟨trivial, hd', r', ow', hp, ha'⟩
    · exact ⟨hL.mono (.code _ T), hL.snd (.code _ T)⟩
theorem exF_snd (hm : P.follows .mixedOrders = true) {C : Contracts} (hC : Holds P C) : ∀ n, RecMono P (exF P C n)
  | 0 => ⟨fun _ => MonoX.fail, fun _ _ _ _ _ h => by simp [exF, X.fail] at h⟩
  | n + 1 => by
    refine ⟨fun t => ?_, fun t => ?_⟩
    · simp only [exF]
      cases e : C t with
      | some x => exact (hC.loc t x e).monoX
      | none => exact (stepF_snd hm (ex_snd hm hC n) (exF_snd hm hC n) t).1
    · simp only [exF]
      cases e : C t with
      | some x => exact hC.snd t x e
      | none => exact (stepF_snd hm (ex_snd hm hC n) (exF_snd hm hC n) t).2
/-- What a run tells of a task. -/
theorem does_of_far (hm : P.follows .mixedOrders = true) {C : Contracts} (hC : Holds P C) {n : Nat} {t : Task} {d : Advice} {c : Nat} {h : Heap} {res : ARes} {s' : St}
    (e : exF P C n t d (stOf c h) = some (res, s')) (hV : VCs s'.V) : Does P c h s'.c s'.h t res := by
  have hr := exF_snd hm hC n
  refine ⟨hr.mono t d _ _ s' e, fun r ow w hs hf => ?_⟩
  have := (hr.snd t d _ _ s' e).2 hV r ow w hs hf
  cases t <;> cases res <;> try trivial
  · exact fun us hu => Calls.mono (this us hu) fun e w' ⟨r', ow', u, he, hp, hv⟩ => ⟨r', ow', u, he, ⟨hp.le, hp.sat, hp.frame, hp.new, hp.mono, hp.own⟩, hv⟩
  · exact fun a ha hd => wp_mono (this a ha hd) fun e' a' w' ⟨q1, q2, r3, o3, q3, q4⟩ => ⟨q1, q2, r3, o3, ⟨q3.le, q3.sat, q3.frame, q3.new, q3.mono, q3.own⟩, q4⟩
  · exact fun a ha hd => LoopWp.mono (this a ha hd) fun e' a' w' ⟨q1, q2, r3, o3, q3, q4⟩ => ⟨q1, q2, r3, o3, ⟨q3.le, q3.sat, q3.frame, q3.new, q3.mono, q3.own⟩, q4⟩
  · intro a ha hd b k cs
    obtain ⟨e3, a3, w3, ⟨q1, q2, r3, o3, q3, q4⟩, q5⟩ := this a ha hd b k cs
    exact ⟨e3, a3, w3, ⟨q1, q2, r3, o3, ⟨q3.le, q3.sat, q3.frame, q3.new, q3.mono, q3.own⟩, q4⟩, q5⟩
theorem vFar_does (hm : P.follows .mixedOrders = true) {C : Contracts} (hC : Holds P C) {n : Nat} {t : Task} {d : Advice} {c : Nat} {h : Heap} {v : Value} {x : Option Chunk} {L : List VC}
    (e0 : vOut (exF P C n t d (stOf c h)) = some (v, x, L)) (hV : VCs L) : ∃ c1 h1, Does P c h c1 h1 t (.val v) ∧ h1.get 0 = x := by
  match e1 : exF P C n t d (stOf c h), e0 with
  | some (.val v', s'), e0 =>
    simp only [vOut, Option.some.injEq, Prod.mk.injEq] at e0
    obtain ⟨rfl, rfl, rfl⟩ := e0
    exact ⟨s'.c, s'.h, does_of_far hm hC e1 hV, rfl⟩
theorem rFar_does (hm : P.follows .mixedOrders = true) {C : Contracts} (hC : Holds P C) {nm : Nat → Option Nat} {n : Nat} {t : Task} {d : Advice} {c : Nat} {h : Heap} {slots ss : List Nat} {e : SExit} {vs : List Value} {len c2 : Nat} {ys : List (Option Chunk)} {L : List VC}
    (e0 : rOutR nm slots ss (exF P C n t d (stOf c h)) = some (e, vs, len, c2, ys, L)) (hV : VCs L) :
    ∃ T2 h2, Does P c h c2 h2 t (.out e T2) ∧ (slots.map fun k => renV nm 9 (T2.getD k undef)) = vs ∧ T2.length = len ∧ (ss.map fun n => (h2.get n).map (Chunk.ren nm)) = ys := by
  match e1 : exF P C n t d (stOf c h), e0 with
  | some (.out e' T, s'), e0 =>
    simp only [rOutR, Option.some.injEq, Prod.mk.injEq] at e0
    obtain ⟨rfl, rfl, rfl, rfl, rfl, rfl⟩ := e0
    exact ⟨T, s'.h, does_of_far hm hC e1 hV, rfl, rfl, rfl⟩
end Go.Sx
