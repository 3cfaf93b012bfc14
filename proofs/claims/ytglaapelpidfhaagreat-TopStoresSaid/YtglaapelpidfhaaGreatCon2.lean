/- One more contract: rowlocktop's head. No condition. -/
import Derived.Test.YtglaapelpidfhaaGreatCon
import Derived.Test.YtglaapelpidfhaaGreatSxMask
import Derived.KernelRfl
namespace Go.Proofs.YtglaapelpidfhaaGreat
open Go Go.Sx
theorem head_run : outOf (ex Tryz.prog con 800 (.call 6 []) [] s0) = some (.bool true, []) := by kernel_rfl
theorem head_gives : Gives Tryz.prog 6 [] (.bool true) := gives_of_run mixed con_gives.holds head_run vcs_nil rfl rfl
def con2 : Contracts := addC con 6 (onNone (.bool true))
theorem con2_gives : GiveC Tryz.prog con2 := con_gives.add fun _ _ h => by
  obtain ⟨rfl, rfl⟩ := onNone_some h; exact head_gives
end Go.Proofs.YtglaapelpidfhaaGreat
