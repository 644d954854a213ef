/-
  PoolBusy on the thread 1, reckoned by the kernel.
-/
import Derived.Test.YtncckikanillmaaGreatDoorMBz
namespace Go.Proofs.YtncckikanillmaaGreatDoor.Ev
open Go
theorem busy_run1 (other : Int) (t u : TypeId) : (busyOk 1 false other t u, busyOk 1 true other t u) = (busyGood other t u, busyGood other t u) := by kernel_rfl
end Go.Proofs.YtncckikanillmaaGreatDoor.Ev
