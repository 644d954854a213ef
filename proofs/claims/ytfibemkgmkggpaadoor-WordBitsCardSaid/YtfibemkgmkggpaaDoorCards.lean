/-
  DERIVED. GIVEN WITH THE SEED: THE CARDS: each row of YtfibemkgmkggpaaDoorRows.lean that lists a variable, with what it lists TIED to the program's text (the seventh form; the later family's looks); each row that meets fmt, with fmt's text TOLD by the authors' own Lean function (tested against real Go, not proved from fmt's source: count such statements apart). THE CARD IS WHAT COUNTS. Prove the row's statement (the work); the ties are given (YtfibemkgmkggpaaDoorTie.lean); close each card by the builder's one call (the guide's Derived/Test/ToyasCard.lean, 'card_holds'). Laid BY PROGRAM, IN A SANDBOX (cutbox-door.mjs). By AI agents, Wed Nov 11 2026. No macro, syntax, notation, axiom, sorry.
-/
import Derived.Test.YtfibemkgmkggpaaDoorRows
import GoSem.ClaimSeven
namespace Go.Proofs.YtfibemkgmkggpaaDoor
namespace Rows

/-- THE TIED CARD OF 'bedrocklaw01.WordBits'. -/
def wordBitsCard : Claim7 := { stood := { row := wordBitsRow, standIns := [], harness := (true, "109fae52d0a6812f60fd3a232850815ab5512812ad6e0a5b98900563f785bcf2"), looks := false }, kinds := [], alts := [], laidByText := true, laidKinds := [.data], laidTests := true, laidLooks := .later }
def WordBitsCardSaid : Prop := Claim7.holds Tryd.pinned (.plain (OpenSpec.ofChange wordBitsSpec)) wordBitsCard

/-- THE SECOND FORM's CARD OF 'bedrocklaw01.WordBits'. -/
def wordBitsUptoCard : Claim7 := { stood := { row := wordBitsUptoRow, standIns := [], harness := (true, "109fae52d0a6812f60fd3a232850815ab5512812ad6e0a5b98900563f785bcf2"), looks := false }, kinds := [], alts := [], laidByText := true, laidKinds := [.data], laidTests := true, laidLooks := .later }
def WordBitsUptoCardSaid : Prop := Claim7.holds Tryd.pinned (.plain (OpenSpec.upto wordBitsSpec)) wordBitsUptoCard
end Rows
end Go.Proofs.YtfibemkgmkggpaaDoor
