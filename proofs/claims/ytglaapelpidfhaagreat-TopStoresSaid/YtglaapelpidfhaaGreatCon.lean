/- Contracts that the walks lean on: awake, errors.Is of codes, whether limits may be. No condition. -/
import Derived.Test.YtglaapelpidfhaaGreatSxRnd
import Derived.Test.YtglaapelpidfhaaGreatRight
import Derived.Test.YtglaapelpidfhaaGreatIs
namespace Go.Proofs.YtglaapelpidfhaaGreat
open Go Go.Sx
theorem awake_run : outOf (ex Tryz.prog noC 800 (.call 19 []) [] s0) = some (.bool true, []) := by kernel_rfl
theorem awake_gives : Gives Tryz.prog 19 [] (.bool true) := gives_of_run mixed noC_gives.holds awake_run vcs_nil rfl rfl
theorem is_gives (a b : Int) : Gives Tryz.prog 62 [.iface 60 (.int .i64 a), .iface 60 (.int .i64 b)] (.bool (decide (a = b))) := by
  intro r us w hu
  have hus : us = #[.iface 60 (.int .i64 a), .iface 60 (.int .i64 b)] := by
    have := eachL_eq (bare_eq 9) (l := [.iface 60 (.int .i64 a), .iface 60 (.int .i64 b)]) rfl hu
    obtain ⟨us⟩ := us
    simp only at this
    rw [this]
  subst hus
  by_cases h : a = b
  · subst h
    exact Calls.mono (is_same a w) fun e w' ⟨he, hw⟩ => ⟨_, he, by simp only [decide_true]; exact (.bool _), by subst hw; exact Old.refl _⟩
  · exact Calls.mono (is_other a b h w) fun e w' ⟨he, hw⟩ => ⟨_, he, by simp only [decide_eq_false h]; exact (.bool _), by subst hw; exact Old.refl _⟩
def onNone (v : Value) : List Value → Option Value
  | [] => some v
  | _ => none
def onCodes : List Value → Option Value
  | [.iface 60 (.int .i64 a), .iface 60 (.int .i64 b)] => some (.bool (decide (a = b)))
  | _ => none
def onLims : List Value → Option Value
  | [.agg ⟨[.int .i64 a, .int .i64 b, .int .i64 c, .int .i64 d, .int .i64 e, .int .i64 g]⟩] => some (.bool (rightB a b c d e g))
  | _ => none
theorem onNone_some {v u : Value} {xs : List Value} (h : onNone v xs = some u) : xs = [] ∧ u = v := by
  unfold onNone at h
  split at h
  · cases h; exact ⟨rfl, rfl⟩
  · cases h
theorem onCodes_some {u : Value} {xs : List Value} (h : onCodes xs = some u) : Gives Tryz.prog 62 xs u := by
  unfold onCodes at h
  split at h
  · cases h; exact is_gives _ _
  · cases h
theorem onLims_some {f : FuncId} (hf : ∀ a b c d e g, Gives Tryz.prog f (lims a b c d e g) (.bool (rightB a b c d e g))) {u : Value} {xs : List Value} (h : onLims xs = some u) : Gives Tryz.prog f xs u := by
  unfold onLims at h
  split at h
  · cases h; exact hf _ _ _ _ _ _
  · cases h
def con : Contracts := addC (addC (addC (addC noC 66 onLims) 22 onLims) 62 onCodes) 19 (onNone (.bool true))
theorem con_gives : GiveC Tryz.prog con :=
  (((noC_gives.add fun _ _ h => onLims_some right66 h).add fun _ _ h => onLims_some right22 h).add fun _ _ h => onCodes_some h).add fun _ _ h => by
    obtain ⟨rfl, rfl⟩ := onNone_some h; exact awake_gives
/-- The code of a function; a part of it. -/
noncomputable def bodyC (f : Nat) : Code := match Tryz.prog.funcs[f]? with
  | some fn => (match fn.body with
    | some c => c
    | none => .skip)
  | none => .skip
def subC : List Nat → Code → Code
  | [], c => c
  | k :: p, c => match c with
    | .seq a b => (match k with
      | 0 => subC p a
      | _ => subC p b)
    | .cond _ a b => (match k with
      | 0 => subC p a
      | _ => subC p b)
    | .block _ a => subC p a
    | .loop a => subC p a
    | .scope a => subC p a
    | c => c
end Go.Proofs.YtglaapelpidfhaaGreat
