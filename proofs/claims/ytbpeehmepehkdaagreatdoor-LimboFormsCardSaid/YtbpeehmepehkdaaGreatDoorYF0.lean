/- Part 53. -/
import Derived.Test.YtbpeehmepehkdaaGreatDoorRows
import Derived.WalkKit
import Derived.ProofKit
import Derived.Deep.DeepHandedRow
set_option maxHeartbeats 8000000
set_option maxRecDepth 20000
set_option linter.all false
namespace Go.Proofs.YtbpeehmepehkdaaGreatDoor.limboFormsDone
open Tryz
section
open Go.ChangeShapes Go.WideShapes Go.ChangeAt Go.RowKit
theorem fInPlace:pinned.checked.prog.inPlace 4=Rows.limboFormsRow.inPlace:=by kernel_rfl
theorem fUnfollowed:pinned.checked.prog.unfollowed 4=Rows.limboFormsRow.unfollowed:=by kernel_rfl
theorem fRecurses:pinned.checked.prog.recurses 4=Rows.limboFormsRow.recurses:=by kernel_rfl
theorem fNamed:pinned.checked.prog.varsNamed 4=Rows.limboFormsRow.named:=by kernel_rfl
theorem closed:joinedFacts pinned.checked.prog 4 Tryz.f4 (OpenSpec.ofChange Rows.limboFormsSpec).bare Rows.limboFormsRow=true:=by
 unfold joinedFacts;rw [fInPlace,fUnfollowed,fRecurses,fNamed]
 kernel_rfl
end
end Go.Proofs.YtbpeehmepehkdaaGreatDoor.limboFormsDone
