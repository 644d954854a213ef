/-
  PoolBusy on the thread 7, reckoned by the kernel.
-/
import Derived.Test.YtncckikanillmaaGreatDoorMBz
namespace Go.Proofs.YtncckikanillmaaGreatDoor.Ev
open Go
theorem busy_run7 (other : Int) (t u : TypeId) : (busyOk 7 false other t u, busyOk 7 true other t u) = (busyGood other t u, busyGood other t u) := by kernel_rfl
end Go.Proofs.YtncckikanillmaaGreatDoor.Ev
