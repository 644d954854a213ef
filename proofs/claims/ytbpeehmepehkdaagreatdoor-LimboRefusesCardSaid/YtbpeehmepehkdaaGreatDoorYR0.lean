/- Part 61. -/
import Derived.Test.YtbpeehmepehkdaaGreatDoorRows
import Derived.WalkKit
import Derived.ProofKit
import Derived.Deep.DeepHandedRow
set_option maxHeartbeats 8000000
set_option maxRecDepth 20000
set_option linter.all false
namespace Go.Proofs.YtbpeehmepehkdaaGreatDoor.limboRefusesDone
open Tryz
section
open Go.ChangeShapes Go.WideShapes Go.ChangeAt Go.RowKit
theorem fInPlace:pinned.checked.prog.inPlace 5=Rows.limboRefusesRow.inPlace:=by kernel_rfl
theorem fUnfollowed:pinned.checked.prog.unfollowed 5=Rows.limboRefusesRow.unfollowed:=by kernel_rfl
theorem fRecurses:pinned.checked.prog.recurses 5=Rows.limboRefusesRow.recurses:=by kernel_rfl
theorem fNamed:pinned.checked.prog.varsNamed 5=Rows.limboRefusesRow.named:=by kernel_rfl
theorem closed:joinedFacts pinned.checked.prog 5 Tryz.f5 (OpenSpec.ofChange Rows.limboRefusesSpec).bare Rows.limboRefusesRow=true:=by
 unfold joinedFacts;rw [fInPlace,fUnfollowed,fRecurses,fNamed]
 kernel_rfl
end
end Go.Proofs.YtbpeehmepehkdaaGreatDoor.limboRefusesDone
