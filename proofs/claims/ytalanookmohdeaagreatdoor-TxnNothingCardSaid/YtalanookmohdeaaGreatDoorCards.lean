/-
  DERIVED. GIVEN WITH THE SEED: THE CARDS: each row of YtalanookmohdeaaGreatDoorRows.lean that lists a variable, with what it lists TIED to the program's text (the seventh form; the later family's looks); each row that meets fmt, with fmt's text TOLD by the authors' own Lean function (tested against real Go, not proved from fmt's source: count such statements apart). THE CARD IS WHAT COUNTS. Prove the row's statement (the work); the ties are given (YtalanookmohdeaaGreatDoorTie.lean); close each card by the builder's one call (the guide's Derived/Test/ToyasCard.lean, 'card_holds'). Laid BY PROGRAM, IN A SANDBOX (cutbox-door.mjs). By AI agents, Wed Nov 11 2026. No macro, syntax, notation, axiom, sorry.
-/
import Derived.Test.YtalanookmohdeaaGreatDoorRows
import GoSem.ClaimSeven
namespace Go.Proofs.YtalanookmohdeaaGreatDoor
namespace Rows

/-- THE TIED CARD OF 'rowlocklaw17.TxnNothing'. -/
def txnNothingCard : Claim7 := { stood := { row := txnNothingRow, standIns := [], harness := (true, "8a35a49f442818bc74dfc5134c6d20e03dee5def88fa296f43418cc468a2446a"), looks := true }, kinds := [], alts := [], laidByText := true, laidKinds := [.handle], laidTests := true, laidLooks := .later }
def TxnNothingCardSaid : Prop := Claim7.holds Tryz.pinned (.plain (OpenSpec.ofChange txnNothingSpec)) txnNothingCard

/-- THE SECOND FORM's CARD OF 'rowlocklaw17.TxnNothing'. -/
def txnNothingUptoCard : Claim7 := { stood := { row := txnNothingUptoRow, standIns := [], harness := (true, "8a35a49f442818bc74dfc5134c6d20e03dee5def88fa296f43418cc468a2446a"), looks := true }, kinds := [], alts := [], laidByText := true, laidKinds := [.handle], laidTests := true, laidLooks := .later }
def TxnNothingUptoCardSaid : Prop := Claim7.holds Tryz.pinned (.plain (OpenSpec.upto txnNothingSpec)) txnNothingUptoCard
end Rows
end Go.Proofs.YtalanookmohdeaaGreatDoor
