/- Symbolic executor, part 21: calls whose arguments lie in old memory. No condition. -/
import Derived.Test.YtglaapelpidfhaaGreatSxLoop
import Derived.Deep.Slices
namespace Go.Sx
variable {P : Program}

/-- Name 0 owns all old memory. -/
def argsEnv : Env := ⟨fun _ => none, fun _ => 0, fun n => if n = 0 then some undef else none⟩
def argsOwn (w : World) : Nat → Option Nat := fun b => if b < w.heap.size then some 0 else none
def argsHeap (w : World) : Heap := [(0, .args w.heap.size w)]
theorem args_sat (w : World) : Sat P argsEnv (argsOwn w) (argsHeap w) w := by
  refine ⟨fun n c h => ?_, fun b n h => ?_, fun b n h => ?_⟩
  · simp only [argsHeap, Heap.get, nbeq] at h
    by_cases e : (0 : Nat) = n
    · subst e
      simp only [decide_true, if_true, Option.some.injEq] at h
      subst h
      exact fun b hb => ⟨by simp [argsOwn, hb], rfl⟩
    · simp [e] at h
  · unfold argsOwn at h
    split at h
    · assumption
    · cases h
  · unfold argsOwn at h
    split at h
    · cases h; right; simp [argsEnv]
    · cases h
theorem args_fresh (c : Nat) : Fresh argsEnv 1 c := fun n h1 _ => ⟨rfl, by simp only [argsEnv]; rw [if_neg (by omega)]⟩
theorem args_old {r' : Env} {ow' : Nat → Option Nat} {w w' : World} {s s' : St} (hp : Post P argsEnv (argsOwn w) w s r' ow' w' s') (h0 : s'.h.get 0 = some (.args w.heap.size w)) : Old w w' :=
  ⟨hp.frame.os, hp.frame.tape, hp.frame.output, hp.frame.size, fun b hb => (hp.sat.chunk 0 _ h0 b hb).2⟩
/-- A call over old memory. -/
theorem args_calls {f : FuncId} {args : List Value} {w : World} {c1 : Nat} {h1 : Heap} {v : Value} (hd : Does P 1 (argsHeap w) c1 h1 (.call f args) (.val v)) (h0 : h1.get 0 = some (.args w.heap.size w))
    {us : Array Value} (hu : RelL argsEnv args us.toList) : Calls P f us w fun e w' => ∃ r' u, e = .returned u ∧ Rel r' v u ∧ Old w w' :=
  Calls.mono (hd.2 argsEnv (argsOwn w) w (args_sat w) (args_fresh c1) us hu) fun e w' ⟨r', ow', u, he, hp, hv⟩ => ⟨r', u, he, hv, args_old hp h0⟩

/-- A value of the old memory as it stands for itself. -/
def lit : Value → Value
  | .slice (some a) l c => .slice (some ⟨a.block, a.off, some 0⟩) l c
  | v => v
def litOk : Value → Prop
  | .bool _ | .int _ _ | .string _ | .slice none 0 0 => True
  | .slice (some a) l c => (a.spot = none ∨ l = 0) ∧ l ≤ c
  | _ => False
theorem lit_rel {r : Env} : ∀ {v : Value}, litOk v → Rel r (lit v) v
  | .bool _, _ => .bool _
  | .int _ _, _ => .int _ _
  | .string _, _ => .string _
  | .slice none 0 0, _ => .sliceNil
  | .slice (some ⟨b, off, sp⟩) l c, h => by
    obtain ⟨h1, h2⟩ := h
    exact .litSlice h2 h1
theorem args_cells {w : World} {b off : Nat} {vs : List Value} (hb : b < w.heap.size) (h : ∀ (j : Nat) (v : Value), vs[j]? = some v → litOk v ∧ w.cell? ⟨b, off + j, none⟩ = some v) : ArgCells w.heap.size w b off (vs.map lit) := by
  refine ⟨hb, fun j v e => ?_⟩
  rw [List.getElem?_map] at e
  obtain ⟨u, e1, rfl⟩ := Option.map_eq_some_iff.1 e
  obtain ⟨h1, h2⟩ := h j u e1
  exact ⟨u, h2, fun r => lit_rel h1⟩
end Go.Sx
