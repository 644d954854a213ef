/- Part 57. -/
import Derived.Test.YtbpeehmepehkdaaGreatDoorRows
import Derived.WalkKit
import Derived.ProofKit
import Derived.Deep.DeepHandedRow
set_option maxHeartbeats 8000000
set_option maxRecDepth 20000
set_option linter.all false
namespace Go.Proofs.YtbpeehmepehkdaaGreatDoor.limboHoldsDone
open Tryz
section
open Go.ChangeShapes Go.WideShapes Go.ChangeAt Go.RowKit
theorem fInPlace:pinned.checked.prog.inPlace 6=Rows.limboHoldsRow.inPlace:=by kernel_rfl
theorem fUnfollowed:pinned.checked.prog.unfollowed 6=Rows.limboHoldsRow.unfollowed:=by kernel_rfl
theorem fRecurses:pinned.checked.prog.recurses 6=Rows.limboHoldsRow.recurses:=by kernel_rfl
theorem fNamed:pinned.checked.prog.varsNamed 6=Rows.limboHoldsRow.named:=by kernel_rfl
theorem closed:joinedFacts pinned.checked.prog 6 Tryz.f6 (OpenSpec.ofChange Rows.limboHoldsSpec).bare Rows.limboHoldsRow=true:=by
 unfold joinedFacts;rw [fInPlace,fUnfollowed,fRecurses,fNamed]
 kernel_rfl
end
end Go.Proofs.YtbpeehmepehkdaaGreatDoor.limboHoldsDone
