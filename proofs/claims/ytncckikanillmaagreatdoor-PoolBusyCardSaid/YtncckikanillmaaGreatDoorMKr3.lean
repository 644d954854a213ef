/-
  PoolBusy on the thread 3, reckoned by the kernel.
-/
import Derived.Test.YtncckikanillmaaGreatDoorMBz
namespace Go.Proofs.YtncckikanillmaaGreatDoor.Ev
open Go
theorem busy_run3 (other : Int) (t u : TypeId) : (busyOk 3 false other t u, busyOk 3 true other t u) = (busyGood other t u, busyGood other t u) := by kernel_rfl
end Go.Proofs.YtncckikanillmaaGreatDoor.Ev
