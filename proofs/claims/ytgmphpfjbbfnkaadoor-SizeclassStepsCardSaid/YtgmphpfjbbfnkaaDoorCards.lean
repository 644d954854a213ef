/-
  DERIVED. GIVEN WITH THE SEED: THE CARDS: each row of YtgmphpfjbbfnkaaDoorRows.lean that lists a variable, with what it lists TIED to the program's text (the seventh form; the later family's looks); each row that meets fmt, with fmt's text TOLD by the authors' own Lean function (tested against real Go, not proved from fmt's source: count such statements apart). THE CARD IS WHAT COUNTS. Prove the row's statement (the work); the ties are given (YtgmphpfjbbfnkaaDoorTie.lean); close each card by the builder's one call (the guide's Derived/Test/ToyasCard.lean, 'card_holds'). Laid BY PROGRAM, IN A SANDBOX (cutbox-door.mjs). By AI agents, Wed Nov 11 2026. No macro, syntax, notation, axiom, sorry.
-/
import Derived.Test.YtgmphpfjbbfnkaaDoorRows
import GoSem.ClaimSeven
namespace Go.Proofs.YtgmphpfjbbfnkaaDoor
namespace Rows

/-- THE TIED CARD OF 'bedrocklaw19.SizeclassFits'. -/
def sizeclassFitsCard : Claim7 := { stood := { row := sizeclassFitsRow, standIns := [], harness := (true, "cf4dfc10ffecd01a1171b7cc81a6e9d8cfb89e1737aec6881e2853a172cf9341"), looks := false }, kinds := [], alts := [], laidByText := true, laidKinds := [.data], laidTests := true, laidLooks := .later }
def SizeclassFitsCardSaid : Prop := Claim7.holds Tryd.pinned (.plain (OpenSpec.ofChange sizeclassFitsSpec)) sizeclassFitsCard

/-- THE TIED CARD OF 'bedrocklaw19.SizeclassOffsets'. -/
def sizeclassOffsetsCard : Claim7 := { stood := { row := sizeclassOffsetsRow, standIns := [], harness := (true, "cf4dfc10ffecd01a1171b7cc81a6e9d8cfb89e1737aec6881e2853a172cf9341"), looks := false }, kinds := [], alts := [], laidByText := true, laidKinds := [.data], laidTests := true, laidLooks := .later }
def SizeclassOffsetsCardSaid : Prop := Claim7.holds Tryd.pinned (.plain (OpenSpec.ofChange sizeclassOffsetsSpec)) sizeclassOffsetsCard

/-- THE TIED CARD OF 'bedrocklaw19.SizeclassFinds'. -/
def sizeclassFindsCard : Claim7 := { stood := { row := sizeclassFindsRow, standIns := [], harness := (true, "cf4dfc10ffecd01a1171b7cc81a6e9d8cfb89e1737aec6881e2853a172cf9341"), looks := false }, kinds := [], alts := [], laidByText := true, laidKinds := [.data], laidTests := true, laidLooks := .later }
def SizeclassFindsCardSaid : Prop := Claim7.holds Tryd.pinned (.plain (OpenSpec.ofChange sizeclassFindsSpec)) sizeclassFindsCard

/-- THE TIED CARD OF 'bedrocklaw19.SizeclassApart'. -/
def sizeclassApartCard : Claim7 := { stood := { row := sizeclassApartRow, standIns := [], harness := (true, "cf4dfc10ffecd01a1171b7cc81a6e9d8cfb89e1737aec6881e2853a172cf9341"), looks := false }, kinds := [], alts := [], laidByText := true, laidKinds := [.data], laidTests := true, laidLooks := .later }
def SizeclassApartCardSaid : Prop := Claim7.holds Tryd.pinned (.plain (OpenSpec.ofChange sizeclassApartSpec)) sizeclassApartCard

/-- THE TIED CARD OF 'bedrocklaw19.SizeclassWords'. -/
def sizeclassWordsCard : Claim7 := { stood := { row := sizeclassWordsRow, standIns := [], harness := (true, "cf4dfc10ffecd01a1171b7cc81a6e9d8cfb89e1737aec6881e2853a172cf9341"), looks := false }, kinds := [], alts := [], laidByText := true, laidKinds := [.data], laidTests := true, laidLooks := .later }
def SizeclassWordsCardSaid : Prop := Claim7.holds Tryd.pinned (.plain (OpenSpec.ofChange sizeclassWordsSpec)) sizeclassWordsCard

/-- THE TIED CARD OF 'bedrocklaw19.SizeclassSteps'. -/
def sizeclassStepsCard : Claim7 := { stood := { row := sizeclassStepsRow, standIns := [], harness := (true, "cf4dfc10ffecd01a1171b7cc81a6e9d8cfb89e1737aec6881e2853a172cf9341"), looks := false }, kinds := [], alts := [], laidByText := true, laidKinds := [.data], laidTests := true, laidLooks := .later }
def SizeclassStepsCardSaid : Prop := Claim7.holds Tryd.pinned (.plain (OpenSpec.ofChange sizeclassStepsSpec)) sizeclassStepsCard

/-- THE SECOND FORM's CARD OF 'bedrocklaw19.SizeclassFits'. -/
def sizeclassFitsUptoCard : Claim7 := { stood := { row := sizeclassFitsUptoRow, standIns := [], harness := (true, "cf4dfc10ffecd01a1171b7cc81a6e9d8cfb89e1737aec6881e2853a172cf9341"), looks := false }, kinds := [], alts := [], laidByText := true, laidKinds := [.data], laidTests := true, laidLooks := .later }
def SizeclassFitsUptoCardSaid : Prop := Claim7.holds Tryd.pinned (.plain (OpenSpec.upto sizeclassFitsSpec)) sizeclassFitsUptoCard

/-- THE SECOND FORM's CARD OF 'bedrocklaw19.SizeclassOffsets'. -/
def sizeclassOffsetsUptoCard : Claim7 := { stood := { row := sizeclassOffsetsUptoRow, standIns := [], harness := (true, "cf4dfc10ffecd01a1171b7cc81a6e9d8cfb89e1737aec6881e2853a172cf9341"), looks := false }, kinds := [], alts := [], laidByText := true, laidKinds := [.data], laidTests := true, laidLooks := .later }
def SizeclassOffsetsUptoCardSaid : Prop := Claim7.holds Tryd.pinned (.plain (OpenSpec.upto sizeclassOffsetsSpec)) sizeclassOffsetsUptoCard

/-- THE SECOND FORM's CARD OF 'bedrocklaw19.SizeclassFinds'. -/
def sizeclassFindsUptoCard : Claim7 := { stood := { row := sizeclassFindsUptoRow, standIns := [], harness := (true, "cf4dfc10ffecd01a1171b7cc81a6e9d8cfb89e1737aec6881e2853a172cf9341"), looks := false }, kinds := [], alts := [], laidByText := true, laidKinds := [.data], laidTests := true, laidLooks := .later }
def SizeclassFindsUptoCardSaid : Prop := Claim7.holds Tryd.pinned (.plain (OpenSpec.upto sizeclassFindsSpec)) sizeclassFindsUptoCard

/-- THE SECOND FORM's CARD OF 'bedrocklaw19.SizeclassApart'. -/
def sizeclassApartUptoCard : Claim7 := { stood := { row := sizeclassApartUptoRow, standIns := [], harness := (true, "cf4dfc10ffecd01a1171b7cc81a6e9d8cfb89e1737aec6881e2853a172cf9341"), looks := false }, kinds := [], alts := [], laidByText := true, laidKinds := [.data], laidTests := true, laidLooks := .later }
def SizeclassApartUptoCardSaid : Prop := Claim7.holds Tryd.pinned (.plain (OpenSpec.upto sizeclassApartSpec)) sizeclassApartUptoCard

/-- THE SECOND FORM's CARD OF 'bedrocklaw19.SizeclassWords'. -/
def sizeclassWordsUptoCard : Claim7 := { stood := { row := sizeclassWordsUptoRow, standIns := [], harness := (true, "cf4dfc10ffecd01a1171b7cc81a6e9d8cfb89e1737aec6881e2853a172cf9341"), looks := false }, kinds := [], alts := [], laidByText := true, laidKinds := [.data], laidTests := true, laidLooks := .later }
def SizeclassWordsUptoCardSaid : Prop := Claim7.holds Tryd.pinned (.plain (OpenSpec.upto sizeclassWordsSpec)) sizeclassWordsUptoCard

/-- THE SECOND FORM's CARD OF 'bedrocklaw19.SizeclassSteps'. -/
def sizeclassStepsUptoCard : Claim7 := { stood := { row := sizeclassStepsUptoRow, standIns := [], harness := (true, "cf4dfc10ffecd01a1171b7cc81a6e9d8cfb89e1737aec6881e2853a172cf9341"), looks := false }, kinds := [], alts := [], laidByText := true, laidKinds := [.data], laidTests := true, laidLooks := .later }
def SizeclassStepsUptoCardSaid : Prop := Claim7.holds Tryd.pinned (.plain (OpenSpec.upto sizeclassStepsSpec)) sizeclassStepsUptoCard
end Rows
end Go.Proofs.YtgmphpfjbbfnkaaDoor
