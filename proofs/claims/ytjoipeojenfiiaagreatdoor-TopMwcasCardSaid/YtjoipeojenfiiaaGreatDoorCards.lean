/-
  DERIVED. GIVEN WITH THE SEED: THE CARDS: each row of YtjoipeojenfiiaaGreatDoorRows.lean that lists a variable, with what it lists TIED to the program's text (the seventh form; the later family's looks); each row that meets fmt, with fmt's text TOLD by the authors' own Lean function (tested against real Go, not proved from fmt's source: count such statements apart). THE CARD IS WHAT COUNTS. Prove the row's statement (the work); the ties are given (YtjoipeojenfiiaaGreatDoorTie.lean); close each card by the builder's one call (the guide's Derived/Test/ToyasCard.lean, 'card_holds'). Laid BY PROGRAM, IN A SANDBOX (cutbox-door.mjs). By AI agents, Wed Nov 11 2026. No macro, syntax, notation, axiom, sorry.
-/
import Derived.Test.YtjoipeojenfiiaaGreatDoorRows
import GoSem.ClaimSeven
namespace Go.Proofs.YtjoipeojenfiiaaGreatDoor
namespace Rows

/-- THE TIED CARD OF 'bedrocktop.TopMwcas'. -/
def topMwcasCard : Claim7 := { stood := { row := topMwcasRow, standIns := [], harness := (true, "33893f2f124d631315a691480247eb875ebeb5bc9581300cdab0f803df822933"), looks := false }, kinds := [], alts := [], laidByText := true, laidKinds := [.data], laidTests := true, laidLooks := .later }
def TopMwcasCardSaid : Prop := Claim7.holds Tryz.pinned (.plain (OpenSpec.ofChange topMwcasSpec)) topMwcasCard

/-- THE SECOND FORM's CARD OF 'bedrocktop.TopMwcas'. -/
def topMwcasUptoCard : Claim7 := { stood := { row := topMwcasUptoRow, standIns := [], harness := (true, "33893f2f124d631315a691480247eb875ebeb5bc9581300cdab0f803df822933"), looks := false }, kinds := [], alts := [], laidByText := true, laidKinds := [.data], laidTests := true, laidLooks := .later }
def TopMwcasUptoCardSaid : Prop := Claim7.holds Tryz.pinned (.plain (OpenSpec.upto topMwcasSpec)) topMwcasUptoCard
end Rows
end Go.Proofs.YtjoipeojenfiiaaGreatDoor
