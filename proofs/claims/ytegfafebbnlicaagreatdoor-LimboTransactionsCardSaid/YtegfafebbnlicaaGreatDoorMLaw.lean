/-
  awake of the limbo's law, reckoned by the kernel.
-/
import Derived.Test.YtegfafebbnlicaaGreatDoorMGl
namespace Go.Proofs.YtegfafebbnlicaaGreatDoor.Ev
open Go
theorem awake_run (t u : TypeId) : trueG (call0 5 [] (st0 t u)) = some (t, u) := by kernel_rfl
end Go.Proofs.YtegfafebbnlicaaGreatDoor.Ev
