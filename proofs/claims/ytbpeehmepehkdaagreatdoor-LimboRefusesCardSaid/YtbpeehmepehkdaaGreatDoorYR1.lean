/- Part 62. -/
import Derived.Test.YtbpeehmepehkdaaGreatDoorRows
import Derived.Test.YtbpeehmepehkdaaGreatDoorCards
import Derived.Test.YtbpeehmepehkdaaGreatDoorTie
import Derived.WalkKit
import Derived.ProofKit
import Derived.Deep.DeepHandedRow
set_option maxHeartbeats 8000000
set_option maxRecDepth 20000
set_option linter.all false
namespace Go.Proofs.YtbpeehmepehkdaaGreatDoor.limboRefusesDone
open Tryz
section
open Go.ChangeShapes Go.WideShapes Go.ChangeAt Go.RowKit
theorem cGoes:false=Rows.limboRefusesRow.goesBy pinned.checked.prog:=by kernel_rfl
end
end Go.Proofs.YtbpeehmepehkdaaGreatDoor.limboRefusesDone
