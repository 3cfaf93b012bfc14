/- engine.awake: the call over the program's own table. No condition. -/
import Derived.Test.YtkmicbhnfochjaaGreatDoorMAwkA

namespace Go.Proofs.YtkmicbhnfochjaaGreatDoor
open Go Go.Sx Go.Eng
set_option maxRecDepth 1000000 in
set_option maxHeartbeats 0 in
theorem awk_run (B : Nat) (w0 : World) : vOut (exF Tryz.prog conE6 5000 (.call 4 []) [(533, .loop [2, 8, 11, 105, 106, 107] [1, 13, 15, 16, 17, 18, 19, 20, 21, 26, 27, 34, 35, 36, 37, 38, 39, 40, 45, 46, 50, 51, 52, 54, 55, 56, 57, 58, 59, 61, 62, 63, 65] 191 rnX (.exit 2) rnTX)] (stOf 1 [(0, .args B w0)])) =
    some (.bool true, some (.args B w0), [.p (Does Tryz.prog 66 rnH 191 rnX (.inLoop rnc rnT) (.out (.exit 2) rnTX)), .p (StableAt glob B ∧ glob w0), .p (StableAt glob B ∧ glob w0), .p (StableAt glob B ∧ glob w0), .p (StableAt glob B ∧ glob w0)]) := by kernel_rfl
end Go.Proofs.YtkmicbhnfochjaaGreatDoor
