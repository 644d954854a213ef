/-
  DERIVED. GIVEN WITH THE SEED: THE CARDS: each row of YtncckikanillmaaGreatDoorRows.lean that lists a variable, with what it lists TIED to the program's text (the seventh form; the later family's looks); each row that meets fmt, with fmt's text TOLD by the authors' own Lean function (tested against real Go, not proved from fmt's source: count such statements apart). THE CARD IS WHAT COUNTS. Prove the row's statement (the work); the ties are given (YtncckikanillmaaGreatDoorTie.lean); close each card by the builder's one call (the guide's Derived/Test/ToyasCard.lean, 'card_holds'). Laid BY PROGRAM, IN A SANDBOX (cutbox-door.mjs). By AI agents, Wed Nov 11 2026. No macro, syntax, notation, axiom, sorry.
-/
import Derived.Test.YtncckikanillmaaGreatDoorRows
import GoSem.ClaimSeven
namespace Go.Proofs.YtncckikanillmaaGreatDoor
namespace Rows

/-- THE TIED CARD OF 'bedrocklaw25.PoolSizes'. -/
def poolSizesCard : Claim7 := { stood := { row := poolSizesRow, standIns := [], harness := (true, "a30f580fdff4a547f875dad57be4eb5b8b9e8b664be5068ca36fe3812e21d03c"), looks := false }, kinds := [], alts := [], laidByText := true, laidKinds := [.data, .data, .data, .pinned], laidTests := true, laidLooks := .later }
def PoolSizesCardSaid : Prop := Claim7.holds Tryz.pinned (.plain (OpenSpec.ofChange poolSizesSpec)) poolSizesCard

/-- THE TIED CARD OF 'bedrocklaw25.PoolBusy'. -/
def poolBusyCard : Claim7 := { stood := { row := poolBusyRow, standIns := [], harness := (true, "a30f580fdff4a547f875dad57be4eb5b8b9e8b664be5068ca36fe3812e21d03c"), looks := false }, kinds := [], alts := [], laidByText := true, laidKinds := [.data, .data, .data, .pinned], laidTests := true, laidLooks := .later }
def PoolBusyCardSaid : Prop := Claim7.holds Tryz.pinned (.plain (OpenSpec.ofChange poolBusySpec)) poolBusyCard

/-- THE SECOND FORM's CARD OF 'bedrocklaw25.PoolSizes'. -/
def poolSizesUptoCard : Claim7 := { stood := { row := poolSizesUptoRow, standIns := [], harness := (true, "a30f580fdff4a547f875dad57be4eb5b8b9e8b664be5068ca36fe3812e21d03c"), looks := false }, kinds := [], alts := [], laidByText := true, laidKinds := [.data, .data, .data, .pinned], laidTests := true, laidLooks := .later }
def PoolSizesUptoCardSaid : Prop := Claim7.holds Tryz.pinned (.plain (OpenSpec.upto poolSizesSpec)) poolSizesUptoCard

/-- THE SECOND FORM's CARD OF 'bedrocklaw25.PoolBusy'. -/
def poolBusyUptoCard : Claim7 := { stood := { row := poolBusyUptoRow, standIns := [], harness := (true, "a30f580fdff4a547f875dad57be4eb5b8b9e8b664be5068ca36fe3812e21d03c"), looks := false }, kinds := [], alts := [], laidByText := true, laidKinds := [.data, .data, .data, .pinned], laidTests := true, laidLooks := .later }
def PoolBusyUptoCardSaid : Prop := Claim7.holds Tryz.pinned (.plain (OpenSpec.upto poolBusySpec)) poolBusyUptoCard
end Rows
end Go.Proofs.YtncckikanillmaaGreatDoor
