/-
  NARROWER THAN 'FOR EVERY INPUT', by the rows' own cells (each row's printed sentence says how): SizeclassFits: laid · SizeclassOffsets: laid · SizeclassFinds: laid · SizeclassApart: laid · SizeclassWords: laid · SizeclassSteps: laid.
  DERIVED. THE GIVEN ROWS OF THIS SEAT. 6 by the template 'for every input the law returns true; each argument reads behind the call as it read before'; 0 by the template 'total and deterministic' (their statements: YtgmphpfjbbfnkaaDoorTotals.lean).
  GIVEN WITH THE SEED: the statements are not yours to turn. If you find one false, say at which input.
  Laid BY PROGRAM, IN A SANDBOX (cutbox-rows.mjs): the forced cells as the released guide's own fill.sh prints them over the translation c0968f7f73f80059… (all of the seat's roots in one cut). By AI agents, Wed Nov 11 2026. No macro, syntax, notation, axiom, sorry.
-/
import Derived.Test.YtgmphpfjbbfnkaaDoorChecked
import GoSem.Claim
import GoSem.ClaimJoined
import GoSem.ClaimMapViews
import Derived.JoinedTies
import Derived.KernelRfl
namespace Go.Proofs.YtgmphpfjbbfnkaaDoor
/- THE CELL 'sum', in the pinned program and in every row, IS THE sha256 OF THE DUMP (.gsa) THAT YtgmphpfjbbfnkaaDoorProg.lean LOADS. Nothing in Lean hashes anything: it is a label: what it is worth is what the hold of that sum in a sandbox is worth. -/
noncomputable def Tryd.pinned : Pinned := { name := "ytgmphpfjbbfnkaadoor", sum := "c0968f7f73f80059565d541db20fc4c7d71409591f543fe503d96e5ec80e2d50", checked := Tryd.checked }
namespace Rows
def none {H : Type} : Left H := { results := [], args := [] }

/- WHAT THE LISTED PACKAGE-LEVEL VARIABLES READ AS WHEN THE CALL BEGINS. Each datum BY PROGRAM (the guide's laid-datum.mjs) off the statement by which the dump's own 'gosem.cut.vars' lays the variable. In a bare row this is a premise. The card (YtgmphpfjbbfnkaaDoorCards.lean) ties it to the program's text. -/
def laid_bedrock_sizeclass_payload {H : Type} : DataW H := .agg [.lit (.int .i64 3), .lit (.int .i64 7), .lit (.int .i64 15), .lit (.int .i64 31), .lit (.int .i64 60)]

/-- 'bedrocklaw19.SizeclassFits': WHATEVER THE INPUT: true; the input reads as it did. -/
def sizeclassFitsSpec : ChangeSpec := { name := "sizeclassFits", fn := fun _ => fun
  | [d] => { results := [.lit (.bool true)], args := [d] }
  | _ => none }
def sizeclassFitsRow : OpenClaim := { program := "ytgmphpfjbbfnkaadoor", sum := "c0968f7f73f80059565d541db20fc4c7d71409591f543fe503d96e5ec80e2d50", func := "bedrock/bedrocklaw19.SizeclassFits", spec := "sizeclassFits", named := ["bedrock/sizeclass.payload"], apart := false, laid := [("bedrock/sizeclass.payload", laid_bedrock_sizeclass_payload)] }
def SizeclassFitsSaid : Prop := sizeclassFitsRow.holds Tryd.pinned (OpenSpec.ofChange sizeclassFitsSpec)

/-- ITS FALSE NEIGHBOUR: 'it returns false'. Refute it at one input. -/
def sizeclassFitsWrong : ChangeSpec := { name := "sizeclassFits", fn := fun _ => fun
  | [d] => { results := [.lit (.bool false)], args := [d] }
  | _ => none }
def SizeclassFitsWrongFalsely : Prop := sizeclassFitsRow.holds Tryd.pinned (OpenSpec.ofChange sizeclassFitsWrong)

/-- 'bedrocklaw19.SizeclassOffsets': WHATEVER THE INPUT: true; the input reads as it did. -/
def sizeclassOffsetsSpec : ChangeSpec := { name := "sizeclassOffsets", fn := fun _ => fun
  | [d1, d2] => { results := [.lit (.bool true)], args := [d1, d2] }
  | _ => none }
def sizeclassOffsetsRow : OpenClaim := { program := "ytgmphpfjbbfnkaadoor", sum := "c0968f7f73f80059565d541db20fc4c7d71409591f543fe503d96e5ec80e2d50", func := "bedrock/bedrocklaw19.SizeclassOffsets", spec := "sizeclassOffsets", named := ["bedrock/sizeclass.payload"], apart := false, laid := [("bedrock/sizeclass.payload", laid_bedrock_sizeclass_payload)] }
def SizeclassOffsetsSaid : Prop := sizeclassOffsetsRow.holds Tryd.pinned (OpenSpec.ofChange sizeclassOffsetsSpec)

/-- ITS FALSE NEIGHBOUR: 'it returns false'. Refute it at one input. -/
def sizeclassOffsetsWrong : ChangeSpec := { name := "sizeclassOffsets", fn := fun _ => fun
  | [d1, d2] => { results := [.lit (.bool false)], args := [d1, d2] }
  | _ => none }
def SizeclassOffsetsWrongFalsely : Prop := sizeclassOffsetsRow.holds Tryd.pinned (OpenSpec.ofChange sizeclassOffsetsWrong)

/-- 'bedrocklaw19.SizeclassFinds': WHATEVER THE INPUT: true; the input reads as it did. -/
def sizeclassFindsSpec : ChangeSpec := { name := "sizeclassFinds", fn := fun _ => fun
  | [d1, d2] => { results := [.lit (.bool true)], args := [d1, d2] }
  | _ => none }
def sizeclassFindsRow : OpenClaim := { program := "ytgmphpfjbbfnkaadoor", sum := "c0968f7f73f80059565d541db20fc4c7d71409591f543fe503d96e5ec80e2d50", func := "bedrock/bedrocklaw19.SizeclassFinds", spec := "sizeclassFinds", named := ["bedrock/sizeclass.payload"], apart := false, laid := [("bedrock/sizeclass.payload", laid_bedrock_sizeclass_payload)] }
def SizeclassFindsSaid : Prop := sizeclassFindsRow.holds Tryd.pinned (OpenSpec.ofChange sizeclassFindsSpec)

/-- ITS FALSE NEIGHBOUR: 'it returns false'. Refute it at one input. -/
def sizeclassFindsWrong : ChangeSpec := { name := "sizeclassFinds", fn := fun _ => fun
  | [d1, d2] => { results := [.lit (.bool false)], args := [d1, d2] }
  | _ => none }
def SizeclassFindsWrongFalsely : Prop := sizeclassFindsRow.holds Tryd.pinned (OpenSpec.ofChange sizeclassFindsWrong)

/-- 'bedrocklaw19.SizeclassApart': WHATEVER THE INPUT: true; the input reads as it did. -/
def sizeclassApartSpec : ChangeSpec := { name := "sizeclassApart", fn := fun _ => fun
  | [d] => { results := [.lit (.bool true)], args := [d] }
  | _ => none }
def sizeclassApartRow : OpenClaim := { program := "ytgmphpfjbbfnkaadoor", sum := "c0968f7f73f80059565d541db20fc4c7d71409591f543fe503d96e5ec80e2d50", func := "bedrock/bedrocklaw19.SizeclassApart", spec := "sizeclassApart", named := ["bedrock/sizeclass.payload"], apart := false, laid := [("bedrock/sizeclass.payload", laid_bedrock_sizeclass_payload)] }
def SizeclassApartSaid : Prop := sizeclassApartRow.holds Tryd.pinned (OpenSpec.ofChange sizeclassApartSpec)

/-- ITS FALSE NEIGHBOUR: 'it returns false'. Refute it at one input. -/
def sizeclassApartWrong : ChangeSpec := { name := "sizeclassApart", fn := fun _ => fun
  | [d] => { results := [.lit (.bool false)], args := [d] }
  | _ => none }
def SizeclassApartWrongFalsely : Prop := sizeclassApartRow.holds Tryd.pinned (OpenSpec.ofChange sizeclassApartWrong)

/-- 'bedrocklaw19.SizeclassWords': WHATEVER THE INPUT: true; the input reads as it did. -/
def sizeclassWordsSpec : ChangeSpec := { name := "sizeclassWords", fn := fun _ => fun
  | [d] => { results := [.lit (.bool true)], args := [d] }
  | _ => none }
def sizeclassWordsRow : OpenClaim := { program := "ytgmphpfjbbfnkaadoor", sum := "c0968f7f73f80059565d541db20fc4c7d71409591f543fe503d96e5ec80e2d50", func := "bedrock/bedrocklaw19.SizeclassWords", spec := "sizeclassWords", named := ["bedrock/sizeclass.payload"], apart := false, laid := [("bedrock/sizeclass.payload", laid_bedrock_sizeclass_payload)] }
def SizeclassWordsSaid : Prop := sizeclassWordsRow.holds Tryd.pinned (OpenSpec.ofChange sizeclassWordsSpec)

/-- ITS FALSE NEIGHBOUR: 'it returns false'. Refute it at one input. -/
def sizeclassWordsWrong : ChangeSpec := { name := "sizeclassWords", fn := fun _ => fun
  | [d] => { results := [.lit (.bool false)], args := [d] }
  | _ => none }
def SizeclassWordsWrongFalsely : Prop := sizeclassWordsRow.holds Tryd.pinned (OpenSpec.ofChange sizeclassWordsWrong)

/-- 'bedrocklaw19.SizeclassSteps': WHATEVER THE INPUT: true; the input reads as it did. -/
def sizeclassStepsSpec : ChangeSpec := { name := "sizeclassSteps", fn := fun _ => fun
  | [d1, d2] => { results := [.lit (.bool true)], args := [d1, d2] }
  | _ => none }
def sizeclassStepsRow : OpenClaim := { program := "ytgmphpfjbbfnkaadoor", sum := "c0968f7f73f80059565d541db20fc4c7d71409591f543fe503d96e5ec80e2d50", func := "bedrock/bedrocklaw19.SizeclassSteps", spec := "sizeclassSteps", named := ["bedrock/sizeclass.payload"], apart := false, laid := [("bedrock/sizeclass.payload", laid_bedrock_sizeclass_payload)] }
def SizeclassStepsSaid : Prop := sizeclassStepsRow.holds Tryd.pinned (OpenSpec.ofChange sizeclassStepsSpec)

/-- ITS FALSE NEIGHBOUR: 'it returns false'. Refute it at one input. -/
def sizeclassStepsWrong : ChangeSpec := { name := "sizeclassSteps", fn := fun _ => fun
  | [d1, d2] => { results := [.lit (.bool false)], args := [d1, d2] }
  | _ => none }
def SizeclassStepsWrongFalsely : Prop := sizeclassStepsRow.holds Tryd.pinned (OpenSpec.ofChange sizeclassStepsWrong)

/- THE SECOND FORM. 'bulk': how many values and letters a reading holds, each counted each time it is reached (what is shared counts as often as it is met; a slice's spare places count too). A statement '..UptoSaid' is the law's where the arguments, and the package variables that the reading takes, are together of bulk at most 1048576: NARROWER than '..Said'. Prove '..Said' where nothing that the law and all that it calls make is longer than what came in: it says more and counts as full. Else prove '..UptoSaid'. A law counts once. -/
mutual
def uptoBulk {H : Type} : DataW H → Nat
  | .lit (.string bytes) => bytes.length + 1
  | .lit _ => 1
  | .nil => 1
  | .ptr d => uptoBulk d + 1
  | .slice elems spare => uptoBulkAll elems + uptoBulkAll spare + 1
  | .agg parts => uptoBulkAll parts + 1
  | .iface _ d => uptoBulk d + 1
  | .map entries => uptoBulkEntries entries + 1
  | .held _ => 1
def uptoBulkAll {H : Type} : List (DataW H) → Nat
  | [] => 0
  | d :: r => uptoBulk d + uptoBulkAll r
def uptoBulkEntries {H : Type} : List (Lit × DataW H) → Nat
  | [] => 0
  | x :: r => uptoBulkEntry x + uptoBulkEntries r
def uptoBulkEntry {H : Type} : Lit × DataW H → Nat
  | (.string bytes, d) => bytes.length + uptoBulk d + 1
  | (_, d) => uptoBulk d + 1
 end
def uptoSmall : (H : Type) → List (DataW H) → Bool := fun _ ds => decide (uptoBulkAll ds ≤ 1048576)
def OpenSpec.upto (s : _root_.Go.ChangeSpec) : _root_.Go.OpenSpec := { _root_.Go.OpenSpec.ofChange s with cond := some uptoSmall }

/-- 'bedrocklaw19.SizeclassFits', WHERE WHAT IT READS IS OF BULK AT MOST 1048576: true; the input reads as it did. -/
def sizeclassFitsUptoRow : OpenClaim := { program := "ytgmphpfjbbfnkaadoor", sum := "c0968f7f73f80059565d541db20fc4c7d71409591f543fe503d96e5ec80e2d50", func := "bedrock/bedrocklaw19.SizeclassFits", spec := "sizeclassFits", named := ["bedrock/sizeclass.payload"], apart := false, laid := [("bedrock/sizeclass.payload", laid_bedrock_sizeclass_payload)], narrowed := true }
def SizeclassFitsUptoSaid : Prop := sizeclassFitsUptoRow.holds Tryd.pinned (OpenSpec.upto sizeclassFitsSpec)

/-- 'bedrocklaw19.SizeclassOffsets', WHERE WHAT IT READS IS OF BULK AT MOST 1048576: true; the input reads as it did. -/
def sizeclassOffsetsUptoRow : OpenClaim := { program := "ytgmphpfjbbfnkaadoor", sum := "c0968f7f73f80059565d541db20fc4c7d71409591f543fe503d96e5ec80e2d50", func := "bedrock/bedrocklaw19.SizeclassOffsets", spec := "sizeclassOffsets", named := ["bedrock/sizeclass.payload"], apart := false, laid := [("bedrock/sizeclass.payload", laid_bedrock_sizeclass_payload)], narrowed := true }
def SizeclassOffsetsUptoSaid : Prop := sizeclassOffsetsUptoRow.holds Tryd.pinned (OpenSpec.upto sizeclassOffsetsSpec)

/-- 'bedrocklaw19.SizeclassFinds', WHERE WHAT IT READS IS OF BULK AT MOST 1048576: true; the input reads as it did. -/
def sizeclassFindsUptoRow : OpenClaim := { program := "ytgmphpfjbbfnkaadoor", sum := "c0968f7f73f80059565d541db20fc4c7d71409591f543fe503d96e5ec80e2d50", func := "bedrock/bedrocklaw19.SizeclassFinds", spec := "sizeclassFinds", named := ["bedrock/sizeclass.payload"], apart := false, laid := [("bedrock/sizeclass.payload", laid_bedrock_sizeclass_payload)], narrowed := true }
def SizeclassFindsUptoSaid : Prop := sizeclassFindsUptoRow.holds Tryd.pinned (OpenSpec.upto sizeclassFindsSpec)

/-- 'bedrocklaw19.SizeclassApart', WHERE WHAT IT READS IS OF BULK AT MOST 1048576: true; the input reads as it did. -/
def sizeclassApartUptoRow : OpenClaim := { program := "ytgmphpfjbbfnkaadoor", sum := "c0968f7f73f80059565d541db20fc4c7d71409591f543fe503d96e5ec80e2d50", func := "bedrock/bedrocklaw19.SizeclassApart", spec := "sizeclassApart", named := ["bedrock/sizeclass.payload"], apart := false, laid := [("bedrock/sizeclass.payload", laid_bedrock_sizeclass_payload)], narrowed := true }
def SizeclassApartUptoSaid : Prop := sizeclassApartUptoRow.holds Tryd.pinned (OpenSpec.upto sizeclassApartSpec)

/-- 'bedrocklaw19.SizeclassWords', WHERE WHAT IT READS IS OF BULK AT MOST 1048576: true; the input reads as it did. -/
def sizeclassWordsUptoRow : OpenClaim := { program := "ytgmphpfjbbfnkaadoor", sum := "c0968f7f73f80059565d541db20fc4c7d71409591f543fe503d96e5ec80e2d50", func := "bedrock/bedrocklaw19.SizeclassWords", spec := "sizeclassWords", named := ["bedrock/sizeclass.payload"], apart := false, laid := [("bedrock/sizeclass.payload", laid_bedrock_sizeclass_payload)], narrowed := true }
def SizeclassWordsUptoSaid : Prop := sizeclassWordsUptoRow.holds Tryd.pinned (OpenSpec.upto sizeclassWordsSpec)

/-- 'bedrocklaw19.SizeclassSteps', WHERE WHAT IT READS IS OF BULK AT MOST 1048576: true; the input reads as it did. -/
def sizeclassStepsUptoRow : OpenClaim := { program := "ytgmphpfjbbfnkaadoor", sum := "c0968f7f73f80059565d541db20fc4c7d71409591f543fe503d96e5ec80e2d50", func := "bedrock/bedrocklaw19.SizeclassSteps", spec := "sizeclassSteps", named := ["bedrock/sizeclass.payload"], apart := false, laid := [("bedrock/sizeclass.payload", laid_bedrock_sizeclass_payload)], narrowed := true }
def SizeclassStepsUptoSaid : Prop := sizeclassStepsUptoRow.holds Tryd.pinned (OpenSpec.upto sizeclassStepsSpec)

end Rows
end Go.Proofs.YtgmphpfjbbfnkaaDoor
