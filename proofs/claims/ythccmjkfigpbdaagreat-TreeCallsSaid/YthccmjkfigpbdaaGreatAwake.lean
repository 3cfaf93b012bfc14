/- The call of awake, and the contracts that the walks lean on. No condition. -/
import Derived.Test.YthccmjkfigpbdaaGreatAwakeRun
import Derived.Test.YthccmjkfigpbdaaGreatIs
namespace Go.Proofs.YthccmjkfigpbdaaGreat
open Go Go.Sx
theorem awake_gives : Gives Tryz.prog 4 [] (.bool true) := by
  intro r us w hu
  obtain ⟨s', h, hV⟩ := of_yes awakeRun
  have hu' : RelL nil [] us.toList := by
    have := hu.length
    have : us.toList = [] := List.eq_nil_of_length_eq_zero this.symm
    rw [this]; exact .nil
  exact Calls.mono (run_calls mixed noC_holds h hV hu') fun e w' ⟨r', u, he, hv, ho⟩ => by
    cases hv
    exact ⟨_, he, (.bool _), ho⟩
/-- errors.Is of codes; awake. -/
def con : Contracts := fun t => match t with
  | .call f xs => match Nat.beq f 18 with
    | true => match xs with
      | [.iface 34 (.int .i64 a), .iface 34 (.int .i64 b)] => some (X.pure (.val (.bool (decide (a = b)))))
      | _ => none
    | false => match Nat.beq f 4 with
      | true => match xs with
        | [] => some (X.pure (.val (.bool true)))
        | _ => none
      | false => none
  | _ => none
theorem is_gives (a b : Int) : Gives Tryz.prog 18 [.iface 34 (.int .i64 a), .iface 34 (.int .i64 b)] (.bool (decide (a = b))) := by
  intro r us w hu
  have hus : us = #[.iface 34 (.int .i64 a), .iface 34 (.int .i64 b)] := by
    obtain ⟨us⟩ := us
    cases hu with
    | cons h1 h2 => cases h2 with
      | cons h3 h4 => cases h4; cases h1 with
        | iface h1 => cases h1; cases h3 with
          | iface h3 => cases h3; rfl
  subst hus
  by_cases h : a = b
  · subst h
    exact Calls.mono (is_same a w) fun e w' ⟨he, hw⟩ => ⟨_, he, by simp only [decide_true]; exact (.bool _), by subst hw; exact Old.refl _⟩
  · exact Calls.mono (is_other a b h w) fun e w' ⟨he, hw⟩ => ⟨_, he, by simp only [decide_eq_false h]; exact (.bool _), by subst hw; exact Old.refl _⟩
theorem con_cases {t : Task} {x : X ARes} (h : con t = some x) : ∃ f xs v, t = .call f xs ∧ x = X.pure (.val v) ∧ Gives Tryz.prog f xs v := by
  unfold con at h
  split at h
  · rename_i f xs
    split at h
    · rename_i hf
      have hf := Nat.eq_of_beq_eq_true hf
      subst hf
      split at h
      · cases h; exact ⟨_, _, _, rfl, rfl, is_gives _ _⟩
      · cases h
    · split at h
      · rename_i hf
        have hf := Nat.eq_of_beq_eq_true hf
        subst hf
        split at h
        · cases h; exact ⟨_, _, _, rfl, rfl, awake_gives⟩
        · cases h
      · cases h
  · cases h
theorem con_holds : Holds Tryz.prog con :=
  ⟨fun t x h => by obtain ⟨f, xs, v, rfl, rfl, _⟩ := con_cases h; exact Local.pure _,
   fun t x h => by obtain ⟨f, xs, v, rfl, rfl, g⟩ := con_cases h; exact g.snd⟩
end Go.Proofs.YthccmjkfigpbdaaGreat
