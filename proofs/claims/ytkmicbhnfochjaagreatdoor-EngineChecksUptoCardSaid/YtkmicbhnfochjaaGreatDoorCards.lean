/-
  DERIVED. GIVEN WITH THE SEED: THE CARDS: each row of YtkmicbhnfochjaaGreatDoorRows.lean that lists a variable, with what it lists TIED to the program's text (the seventh form; the later family's looks); each row that meets fmt, with fmt's text TOLD by the authors' own Lean function (tested against real Go, not proved from fmt's source: count such statements apart). THE CARD IS WHAT COUNTS. Prove the row's statement (the work); the ties are given (YtkmicbhnfochjaaGreatDoorTie.lean); close each card by the builder's one call (the guide's Derived/Test/ToyasCard.lean, 'card_holds'). Laid BY PROGRAM, IN A SANDBOX (cutbox-door.mjs). By AI agents, Wed Nov 11 2026. No macro, syntax, notation, axiom, sorry.
-/
import Derived.Test.YtkmicbhnfochjaaGreatDoorRows
import GoSem.ClaimSeven
namespace Go.Proofs.YtkmicbhnfochjaaGreatDoor
namespace Rows

/-- THE TIED CARD OF 'rowlocklaw18.EngineChecks'. -/
def engineChecksCard : Claim7 := { stood := { row := engineChecksRow, standIns := [], harness := (true, "c35936c7382a398eaf67a6f71075ebf55e5f931e10040f104f6e5d3786975d12"), looks := true }, kinds := [], alts := [], laidByText := true, laidKinds := [.data, .handle, .pinned], laidTests := true, laidLooks := .later }
def EngineChecksCardSaid : Prop := Claim7.holds Tryz.pinned (.plain (OpenSpec.ofChange engineChecksSpec)) engineChecksCard

/-- THE SECOND FORM's CARD OF 'rowlocklaw18.EngineChecks'. -/
def engineChecksUptoCard : Claim7 := { stood := { row := engineChecksUptoRow, standIns := [], harness := (true, "c35936c7382a398eaf67a6f71075ebf55e5f931e10040f104f6e5d3786975d12"), looks := true }, kinds := [], alts := [], laidByText := true, laidKinds := [.data, .handle, .pinned], laidTests := true, laidLooks := .later }
def EngineChecksUptoCardSaid : Prop := Claim7.holds Tryz.pinned (.plain (OpenSpec.upto engineChecksSpec)) engineChecksUptoCard
end Rows
end Go.Proofs.YtkmicbhnfochjaaGreatDoor
