/-
  What the form asks of the program's text, at PoolBusy: piece by piece, so that no piece is too great.
-/
import Derived.Test.YtncckikanillmaaGreatDoorRows
import Derived.WalkKit
import Derived.ProofKit
import Derived.Deep.DeepHandedRow
namespace Go.Proofs.YtncckikanillmaaGreatDoor.poolBusyDone
open Go.ChangeShapes Go.WideShapes Go.ChangeAt Go.RowKit
theorem fInPlace : Tryz.pinned.checked.prog.inPlace 4 = Rows.poolBusyRow.inPlace := by kernel_rfl
theorem fUnfollowed : Tryz.pinned.checked.prog.unfollowed 4 = Rows.poolBusyRow.unfollowed := by kernel_rfl
theorem fRecurses : Tryz.pinned.checked.prog.recurses 4 = Rows.poolBusyRow.recurses := by kernel_rfl
theorem fNamed : Tryz.pinned.checked.prog.varsNamed 4 = Rows.poolBusyRow.named := by kernel_rfl
theorem closed : joinedFacts Tryz.pinned.checked.prog 4 Tryz.f4 (OpenSpec.ofChange Rows.poolBusySpec).bare Rows.poolBusyRow = true := by
  unfold joinedFacts
  rw [fInPlace, fUnfollowed, fRecurses, fNamed]
  kernel_rfl
end Go.Proofs.YtncckikanillmaaGreatDoor.poolBusyDone
