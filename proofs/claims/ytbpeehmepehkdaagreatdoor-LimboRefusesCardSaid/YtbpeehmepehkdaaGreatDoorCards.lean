/-
  DERIVED. GIVEN WITH THE SEED: THE CARDS: each row of YtbpeehmepehkdaaGreatDoorRows.lean that lists a variable, with what it lists TIED to the program's text (the seventh form; the later family's looks); each row that meets fmt, with fmt's text TOLD by the authors' own Lean function (tested against real Go, not proved from fmt's source: count such statements apart). THE CARD IS WHAT COUNTS. Prove the row's statement (the work); the ties are given (YtbpeehmepehkdaaGreatDoorTie.lean); close each card by the builder's one call (the guide's Derived/Test/ToyasCard.lean, 'card_holds'). Laid BY PROGRAM, IN A SANDBOX (cutbox-door.mjs). By AI agents, Wed Nov 11 2026. No macro, syntax, notation, axiom, sorry.
-/
import Derived.Test.YtbpeehmepehkdaaGreatDoorRows
import GoSem.ClaimSeven
namespace Go.Proofs.YtbpeehmepehkdaaGreatDoor
namespace Rows

/-- THE TIED CARD OF 'bedrocklaw26.LimboPlays'. -/
def limboPlaysCard : Claim7 := { stood := { row := limboPlaysRow, standIns := [], harness := (true, "cb9c5d5c701b63195827eca1a3e6796760024f64ed2fb8b768f7157a09136ac8"), looks := false }, kinds := [], alts := [], laidByText := true, laidKinds := [.data, .data, .data, .pinned], laidTests := true, laidLooks := .later }
def LimboPlaysCardSaid : Prop := Claim7.holds Tryz.pinned (.plain (OpenSpec.ofChange limboPlaysSpec)) limboPlaysCard

/-- THE TIED CARD OF 'bedrocklaw26.LimboForms'. -/
def limboFormsCard : Claim7 := { stood := { row := limboFormsRow, standIns := [], harness := (true, "cb9c5d5c701b63195827eca1a3e6796760024f64ed2fb8b768f7157a09136ac8"), looks := false }, kinds := [], alts := [], laidByText := true, laidKinds := [.data, .data, .data, .pinned], laidTests := true, laidLooks := .later }
def LimboFormsCardSaid : Prop := Claim7.holds Tryz.pinned (.plain (OpenSpec.ofChange limboFormsSpec)) limboFormsCard

/-- THE TIED CARD OF 'bedrocklaw26.LimboRefuses'. -/
def limboRefusesCard : Claim7 := { stood := { row := limboRefusesRow, standIns := [], harness := (true, "cb9c5d5c701b63195827eca1a3e6796760024f64ed2fb8b768f7157a09136ac8"), looks := false }, kinds := [], alts := [], laidByText := true, laidKinds := [.data, .data, .data, .pinned], laidTests := true, laidLooks := .later }
def LimboRefusesCardSaid : Prop := Claim7.holds Tryz.pinned (.plain (OpenSpec.ofChange limboRefusesSpec)) limboRefusesCard

/-- THE TIED CARD OF 'bedrocklaw26.LimboHolds'. -/
def limboHoldsCard : Claim7 := { stood := { row := limboHoldsRow, standIns := [], harness := (true, "cb9c5d5c701b63195827eca1a3e6796760024f64ed2fb8b768f7157a09136ac8"), looks := false }, kinds := [], alts := [], laidByText := true, laidKinds := [.data, .data, .data, .pinned], laidTests := true, laidLooks := .later }
def LimboHoldsCardSaid : Prop := Claim7.holds Tryz.pinned (.plain (OpenSpec.ofChange limboHoldsSpec)) limboHoldsCard

/-- THE TIED CARD OF 'bedrocklaw26.LimboMany'. -/
def limboManyCard : Claim7 := { stood := { row := limboManyRow, standIns := [], harness := (true, "cb9c5d5c701b63195827eca1a3e6796760024f64ed2fb8b768f7157a09136ac8"), looks := false }, kinds := [], alts := [], laidByText := true, laidKinds := [.data, .data, .data, .pinned], laidTests := true, laidLooks := .later }
def LimboManyCardSaid : Prop := Claim7.holds Tryz.pinned (.plain (OpenSpec.ofChange limboManySpec)) limboManyCard

/-- THE SECOND FORM's CARD OF 'bedrocklaw26.LimboPlays'. -/
def limboPlaysUptoCard : Claim7 := { stood := { row := limboPlaysUptoRow, standIns := [], harness := (true, "cb9c5d5c701b63195827eca1a3e6796760024f64ed2fb8b768f7157a09136ac8"), looks := false }, kinds := [], alts := [], laidByText := true, laidKinds := [.data, .data, .data, .pinned], laidTests := true, laidLooks := .later }
def LimboPlaysUptoCardSaid : Prop := Claim7.holds Tryz.pinned (.plain (OpenSpec.upto limboPlaysSpec)) limboPlaysUptoCard

/-- THE SECOND FORM's CARD OF 'bedrocklaw26.LimboForms'. -/
def limboFormsUptoCard : Claim7 := { stood := { row := limboFormsUptoRow, standIns := [], harness := (true, "cb9c5d5c701b63195827eca1a3e6796760024f64ed2fb8b768f7157a09136ac8"), looks := false }, kinds := [], alts := [], laidByText := true, laidKinds := [.data, .data, .data, .pinned], laidTests := true, laidLooks := .later }
def LimboFormsUptoCardSaid : Prop := Claim7.holds Tryz.pinned (.plain (OpenSpec.upto limboFormsSpec)) limboFormsUptoCard

/-- THE SECOND FORM's CARD OF 'bedrocklaw26.LimboRefuses'. -/
def limboRefusesUptoCard : Claim7 := { stood := { row := limboRefusesUptoRow, standIns := [], harness := (true, "cb9c5d5c701b63195827eca1a3e6796760024f64ed2fb8b768f7157a09136ac8"), looks := false }, kinds := [], alts := [], laidByText := true, laidKinds := [.data, .data, .data, .pinned], laidTests := true, laidLooks := .later }
def LimboRefusesUptoCardSaid : Prop := Claim7.holds Tryz.pinned (.plain (OpenSpec.upto limboRefusesSpec)) limboRefusesUptoCard

/-- THE SECOND FORM's CARD OF 'bedrocklaw26.LimboHolds'. -/
def limboHoldsUptoCard : Claim7 := { stood := { row := limboHoldsUptoRow, standIns := [], harness := (true, "cb9c5d5c701b63195827eca1a3e6796760024f64ed2fb8b768f7157a09136ac8"), looks := false }, kinds := [], alts := [], laidByText := true, laidKinds := [.data, .data, .data, .pinned], laidTests := true, laidLooks := .later }
def LimboHoldsUptoCardSaid : Prop := Claim7.holds Tryz.pinned (.plain (OpenSpec.upto limboHoldsSpec)) limboHoldsUptoCard

/-- THE SECOND FORM's CARD OF 'bedrocklaw26.LimboMany'. -/
def limboManyUptoCard : Claim7 := { stood := { row := limboManyUptoRow, standIns := [], harness := (true, "cb9c5d5c701b63195827eca1a3e6796760024f64ed2fb8b768f7157a09136ac8"), looks := false }, kinds := [], alts := [], laidByText := true, laidKinds := [.data, .data, .data, .pinned], laidTests := true, laidLooks := .later }
def LimboManyUptoCardSaid : Prop := Claim7.holds Tryz.pinned (.plain (OpenSpec.upto limboManySpec)) limboManyUptoCard
end Rows
end Go.Proofs.YtbpeehmepehkdaaGreatDoor
