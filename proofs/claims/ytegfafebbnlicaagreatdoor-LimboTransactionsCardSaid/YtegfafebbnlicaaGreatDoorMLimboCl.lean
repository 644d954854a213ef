/-
  What the form asks of the program's text, at LimboTransactions: piece by piece, so that no piece is too great.
-/
import Derived.Test.YtegfafebbnlicaaGreatDoorRows
import Derived.WalkKit
import Derived.ProofKit
import Derived.Deep.DeepHandedRow
namespace Go.Proofs.YtegfafebbnlicaaGreatDoor.limboTransactionsDone
open Go.ChangeShapes Go.WideShapes Go.ChangeAt Go.RowKit
theorem fInPlace : Tryz.pinned.checked.prog.inPlace 3 = Rows.limboTransactionsRow.inPlace := by kernel_rfl
theorem fUnfollowed : Tryz.pinned.checked.prog.unfollowed 3 = Rows.limboTransactionsRow.unfollowed := by kernel_rfl
theorem fRecurses : Tryz.pinned.checked.prog.recurses 3 = Rows.limboTransactionsRow.recurses := by kernel_rfl
theorem fNamed : Tryz.pinned.checked.prog.varsNamed 3 = Rows.limboTransactionsRow.named := by kernel_rfl
theorem closed : joinedFacts Tryz.pinned.checked.prog 3 Tryz.f3 (OpenSpec.ofChange Rows.limboTransactionsSpec).bare Rows.limboTransactionsRow = true := by
  unfold joinedFacts
  rw [fInPlace, fUnfollowed, fRecurses, fNamed]
  kernel_rfl
end Go.Proofs.YtegfafebbnlicaaGreatDoor.limboTransactionsDone
