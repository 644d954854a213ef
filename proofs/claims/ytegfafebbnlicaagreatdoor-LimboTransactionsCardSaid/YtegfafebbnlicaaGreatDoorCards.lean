/-
  DERIVED. GIVEN WITH THE SEED: THE CARDS: each row of YtegfafebbnlicaaGreatDoorRows.lean that lists a variable, with what it lists TIED to the program's text (the seventh form; the later family's looks); each row that meets fmt, with fmt's text TOLD by the authors' own Lean function (tested against real Go, not proved from fmt's source: count such statements apart). THE CARD IS WHAT COUNTS. Prove the row's statement (the work); the ties are given (YtegfafebbnlicaaGreatDoorTie.lean); close each card by the builder's one call (the guide's Derived/Test/ToyasCard.lean, 'card_holds'). Laid BY PROGRAM, IN A SANDBOX (cutbox-door.mjs). By AI agents, Wed Nov 11 2026. No macro, syntax, notation, axiom, sorry.
-/
import Derived.Test.YtegfafebbnlicaaGreatDoorRows
import GoSem.ClaimSeven
namespace Go.Proofs.YtegfafebbnlicaaGreatDoor
namespace Rows

/-- THE TIED CARD OF 'bedrocklaw26.LimboTransactions'. -/
def limboTransactionsCard : Claim7 := { stood := { row := limboTransactionsRow, standIns := [], harness := (true, "dd7f2a2ae8265582ad408bf758216098450eca16a1dd73371958d85f087684bc"), looks := false }, kinds := [], alts := [], laidByText := true, laidKinds := [.data, .data, .data, .pinned], laidTests := true, laidLooks := .later }
def LimboTransactionsCardSaid : Prop := Claim7.holds Tryz.pinned (.plain (OpenSpec.ofChange limboTransactionsSpec)) limboTransactionsCard

/-- THE SECOND FORM's CARD OF 'bedrocklaw26.LimboTransactions'. -/
def limboTransactionsUptoCard : Claim7 := { stood := { row := limboTransactionsUptoRow, standIns := [], harness := (true, "dd7f2a2ae8265582ad408bf758216098450eca16a1dd73371958d85f087684bc"), looks := false }, kinds := [], alts := [], laidByText := true, laidKinds := [.data, .data, .data, .pinned], laidTests := true, laidLooks := .later }
def LimboTransactionsUptoCardSaid : Prop := Claim7.holds Tryz.pinned (.plain (OpenSpec.upto limboTransactionsSpec)) limboTransactionsUptoCard
end Rows
end Go.Proofs.YtegfafebbnlicaaGreatDoor
