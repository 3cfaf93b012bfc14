/- The call of awake, run from nothing. No condition. -/
import Derived.Test.YthccmjkfigpbdaaGreatSxCon
import Derived.Test.YthccmjkfigpbdaaGreatProg
namespace Go.Proofs.YthccmjkfigpbdaaGreat
open Go Go.Sx
theorem mixed : Tryz.prog.follows .mixedOrders = true := by decide
/-- Is the run's end the truth, with nothing to show? -/
def yes : Option (ARes × St) → Bool
  | some (.val (.bool true), s) => match s.V with
    | [] => true
    | _ => false
  | _ => false
theorem of_yes {o : Option (ARes × St)} (h : yes o = true) : ∃ s', o = some (.val (.bool true), s') ∧ VCs s'.V := by
  match o, h with
  | some (.val (.bool true), s), h =>
    refine ⟨s, rfl, ?_⟩
    cases e : s.V with
    | nil => exact fun _ h => by cases h
    | cons x l => simp [yes, e] at h
theorem awakeRun : yes (ex Tryz.prog noC 400 (.call 4 []) [] s0) = true := by decide +kernel
end Go.Proofs.YthccmjkfigpbdaaGreat
