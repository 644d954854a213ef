/-
  LimboTransactions: slots 20 to 24, reckoned by the kernel.
-/
import Derived.Test.YtegfafebbnlicaaGreatDoorMLzA
namespace Go.Proofs.YtegfafebbnlicaaGreatDoor.Ev
open Go
theorem lz_run20 (pt nt : TypeId) (c u : Bool) : lzI pt nt 20 c u = lzGood pt nt c u := by kernel_rfl
theorem lz_run21 (pt nt : TypeId) (c u : Bool) : lzI pt nt 21 c u = lzGood pt nt c u := by kernel_rfl
theorem lz_run22 (pt nt : TypeId) (c u : Bool) : lzI pt nt 22 c u = lzGood pt nt c u := by kernel_rfl
theorem lz_run23 (pt nt : TypeId) (c u : Bool) : lzI pt nt 23 c u = lzGood pt nt c u := by kernel_rfl
theorem lz_run24 (pt nt : TypeId) (c u : Bool) : lzI pt nt 24 c u = lzGood pt nt c u := by kernel_rfl
end Go.Proofs.YtegfafebbnlicaaGreatDoor.Ev
