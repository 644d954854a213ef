/- Part 49. -/
import Derived.Test.YtbpeehmepehkdaaGreatDoorRows
import Derived.WalkKit
import Derived.ProofKit
import Derived.Deep.DeepHandedRow
set_option maxHeartbeats 8000000
set_option maxRecDepth 20000
set_option linter.all false
namespace Go.Proofs.YtbpeehmepehkdaaGreatDoor.limboPlaysDone
open Tryz
section
open Go.ChangeShapes Go.WideShapes Go.ChangeAt Go.RowKit
theorem fInPlace:pinned.checked.prog.inPlace 3=Rows.limboPlaysRow.inPlace:=by kernel_rfl
theorem fUnfollowed:pinned.checked.prog.unfollowed 3=Rows.limboPlaysRow.unfollowed:=by kernel_rfl
theorem fRecurses:pinned.checked.prog.recurses 3=Rows.limboPlaysRow.recurses:=by kernel_rfl
theorem fNamed:pinned.checked.prog.varsNamed 3=Rows.limboPlaysRow.named:=by kernel_rfl
theorem closed:joinedFacts pinned.checked.prog 3 Tryz.f3 (OpenSpec.ofChange Rows.limboPlaysSpec).bare Rows.limboPlaysRow=true:=by
 unfold joinedFacts;rw [fInPlace,fUnfollowed,fRecurses,fNamed]
 kernel_rfl
end
end Go.Proofs.YtbpeehmepehkdaaGreatDoor.limboPlaysDone
