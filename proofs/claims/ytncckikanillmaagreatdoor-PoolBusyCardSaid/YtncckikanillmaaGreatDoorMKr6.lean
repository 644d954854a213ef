/-
  PoolBusy on the thread 6, reckoned by the kernel.
-/
import Derived.Test.YtncckikanillmaaGreatDoorMBz
namespace Go.Proofs.YtncckikanillmaaGreatDoor.Ev
open Go
theorem busy_run6 (other : Int) (t u : TypeId) : (busyOk 6 false other t u, busyOk 6 true other t u) = (busyGood other t u, busyGood other t u) := by kernel_rfl
end Go.Proofs.YtncckikanillmaaGreatDoor.Ev
