/-
  PoolBusy on the thread 0, reckoned by the kernel.
-/
import Derived.Test.YtncckikanillmaaGreatDoorMBz
namespace Go.Proofs.YtncckikanillmaaGreatDoor.Ev
open Go
theorem busy_run0 (other : Int) (t u : TypeId) : (busyOk 0 false other t u, busyOk 0 true other t u) = (busyGood other t u, busyGood other t u) := by kernel_rfl
end Go.Proofs.YtncckikanillmaaGreatDoor.Ev
