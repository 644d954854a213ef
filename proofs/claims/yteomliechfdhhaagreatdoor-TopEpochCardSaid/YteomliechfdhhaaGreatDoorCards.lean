/-
  DERIVED. GIVEN WITH THE SEED: THE CARDS: each row of YteomliechfdhhaaGreatDoorRows.lean that lists a variable, with what it lists TIED to the program's text (the seventh form; the later family's looks); each row that meets fmt, with fmt's text TOLD by the authors' own Lean function (tested against real Go, not proved from fmt's source: count such statements apart). THE CARD IS WHAT COUNTS. Prove the row's statement (the work); the ties are given (YteomliechfdhhaaGreatDoorTie.lean); close each card by the builder's one call (the guide's Derived/Test/ToyasCard.lean, 'card_holds'). Laid BY PROGRAM, IN A SANDBOX (cutbox-door.mjs). By AI agents, Wed Nov 11 2026. No macro, syntax, notation, axiom, sorry.
-/
import Derived.Test.YteomliechfdhhaaGreatDoorRows
import GoSem.ClaimSeven
namespace Go.Proofs.YteomliechfdhhaaGreatDoor
namespace Rows

/-- THE TIED CARD OF 'bedrocktop.TopEpoch'. -/
def topEpochCard : Claim7 := { stood := { row := topEpochRow, standIns := [], harness := (true, "2e0f59762f9d484fd8303c97eb18b022d2fd8fec826f0440816576809c99a35b"), looks := false }, kinds := [], alts := [], laidByText := true, laidKinds := [.data, .data, .data, .pinned], laidTests := true, laidLooks := .later }
def TopEpochCardSaid : Prop := Claim7.holds Tryz.pinned (.plain (OpenSpec.ofChange topEpochSpec)) topEpochCard

/-- THE SECOND FORM's CARD OF 'bedrocktop.TopEpoch'. -/
def topEpochUptoCard : Claim7 := { stood := { row := topEpochUptoRow, standIns := [], harness := (true, "2e0f59762f9d484fd8303c97eb18b022d2fd8fec826f0440816576809c99a35b"), looks := false }, kinds := [], alts := [], laidByText := true, laidKinds := [.data, .data, .data, .pinned], laidTests := true, laidLooks := .later }
def TopEpochUptoCardSaid : Prop := Claim7.holds Tryz.pinned (.plain (OpenSpec.upto topEpochSpec)) topEpochUptoCard
end Rows
end Go.Proofs.YteomliechfdhhaaGreatDoor
