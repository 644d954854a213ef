/- Part 4. -/
import Derived.Test.YteomliechfdhhaaGreatDoorRows
import Derived.Test.YteomliechfdhhaaGreatDoorCards
import Derived.Test.YteomliechfdhhaaGreatDoorTie
import Derived.WalkKit
import Derived.ProofKit
import Derived.Deep.DeepHandedRow
set_option maxHeartbeats 8000000
set_option maxRecDepth 20000
set_option linter.all false
namespace Go.Proofs.YteomliechfdhhaaGreatDoor.topEpochDone
open Tryz
section
open Go.ChangeShapes Go.WideShapes Go.ChangeAt Go.RowKit
theorem ZJx:false=Rows.topEpochRow.goesBy pinned.checked.prog:=by kernel_rfl
end
end Go.Proofs.YteomliechfdhhaaGreatDoor.topEpochDone
