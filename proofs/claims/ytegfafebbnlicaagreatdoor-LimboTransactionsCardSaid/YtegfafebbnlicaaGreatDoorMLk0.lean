/-
  LimboTransactions: slots 0 to 4, reckoned by the kernel.
-/
import Derived.Test.YtegfafebbnlicaaGreatDoorMLzA
namespace Go.Proofs.YtegfafebbnlicaaGreatDoor.Ev
open Go
theorem lz_run0 (pt nt : TypeId) (c u : Bool) : lzI pt nt 0 c u = lzGood pt nt c u := by kernel_rfl
theorem lz_run1 (pt nt : TypeId) (c u : Bool) : lzI pt nt 1 c u = lzGood pt nt c u := by kernel_rfl
theorem lz_run2 (pt nt : TypeId) (c u : Bool) : lzI pt nt 2 c u = lzGood pt nt c u := by kernel_rfl
theorem lz_run3 (pt nt : TypeId) (c u : Bool) : lzI pt nt 3 c u = lzGood pt nt c u := by kernel_rfl
theorem lz_run4 (pt nt : TypeId) (c u : Bool) : lzI pt nt 4 c u = lzGood pt nt c u := by kernel_rfl
end Go.Proofs.YtegfafebbnlicaaGreatDoor.Ev
