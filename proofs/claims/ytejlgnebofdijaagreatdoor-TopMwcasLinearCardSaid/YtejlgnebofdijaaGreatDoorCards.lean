/-
  DERIVED. GIVEN WITH THE SEED: THE CARDS: each row of YtejlgnebofdijaaGreatDoorRows.lean that lists a variable, with what it lists TIED to the program's text (the seventh form; the later family's looks); each row that meets fmt, with fmt's text TOLD by the authors' own Lean function (tested against real Go, not proved from fmt's source: count such statements apart). THE CARD IS WHAT COUNTS. Prove the row's statement (the work); the ties are given (YtejlgnebofdijaaGreatDoorTie.lean); close each card by the builder's one call (the guide's Derived/Test/ToyasCard.lean, 'card_holds'). Laid BY PROGRAM, IN A SANDBOX (cutbox-door.mjs). By AI agents, Wed Nov 11 2026. No macro, syntax, notation, axiom, sorry.
-/
import Derived.Test.YtejlgnebofdijaaGreatDoorRows
import GoSem.ClaimSeven
namespace Go.Proofs.YtejlgnebofdijaaGreatDoor
namespace Rows

/-- THE TIED CARD OF 'bedrocktop.TopMwcasLinear'. -/
def topMwcasLinearCard : Claim7 := { stood := { row := topMwcasLinearRow, standIns := [], harness := (true, "d8d817da6f9bdb7ec806c5da28c483150e2910bbad792d5b5048796513ab69ee"), looks := true }, kinds := [], alts := [], laidByText := true, laidKinds := [.data, .data, .data, .data], laidTests := true, laidLooks := .later }
def TopMwcasLinearCardSaid : Prop := Claim7.holds Tryz.pinned (.plain (OpenSpec.ofChange topMwcasLinearSpec)) topMwcasLinearCard

/-- THE SECOND FORM's CARD OF 'bedrocktop.TopMwcasLinear'. -/
def topMwcasLinearUptoCard : Claim7 := { stood := { row := topMwcasLinearUptoRow, standIns := [], harness := (true, "d8d817da6f9bdb7ec806c5da28c483150e2910bbad792d5b5048796513ab69ee"), looks := true }, kinds := [], alts := [], laidByText := true, laidKinds := [.data, .data, .data, .data], laidTests := true, laidLooks := .later }
def TopMwcasLinearUptoCardSaid : Prop := Claim7.holds Tryz.pinned (.plain (OpenSpec.upto topMwcasLinearSpec)) topMwcasLinearUptoCard
end Rows
end Go.Proofs.YtejlgnebofdijaaGreatDoor
