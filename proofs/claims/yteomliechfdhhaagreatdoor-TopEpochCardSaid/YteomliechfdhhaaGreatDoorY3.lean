/- Part 3. -/
import Derived.Test.YteomliechfdhhaaGreatDoorRows
import Derived.WalkKit
import Derived.ProofKit
import Derived.Deep.DeepHandedRow
set_option maxHeartbeats 8000000
set_option maxRecDepth 20000
set_option linter.all false
namespace Go.Proofs.YteomliechfdhhaaGreatDoor.topEpochDone
open Tryz
section
open Go.ChangeShapes Go.WideShapes Go.ChangeAt Go.RowKit
theorem ZGP:pinned.checked.prog.inPlace 3=Rows.topEpochRow.inPlace:=by kernel_rfl
theorem ZB6:pinned.checked.prog.unfollowed 3=Rows.topEpochRow.unfollowed:=by kernel_rfl
theorem ZE3:pinned.checked.prog.recurses 3=Rows.topEpochRow.recurses:=by kernel_rfl
theorem ZJD:pinned.checked.prog.varsNamed 3=Rows.topEpochRow.named:=by kernel_rfl
theorem ZI3:joinedFacts pinned.checked.prog 3 Tryz.f3 (OpenSpec.ofChange Rows.topEpochSpec).bare Rows.topEpochRow=true:=by
 unfold joinedFacts;rw [ZGP,ZB6,ZE3,ZJD]
 kernel_rfl
end
end Go.Proofs.YteomliechfdhhaaGreatDoor.topEpochDone
