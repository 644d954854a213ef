/-
  LimboTransactions: slots 25 to 29, reckoned by the kernel.
-/
import Derived.Test.YtegfafebbnlicaaGreatDoorMLzA
namespace Go.Proofs.YtegfafebbnlicaaGreatDoor.Ev
open Go
theorem lz_run25 (pt nt : TypeId) (c u : Bool) : lzI pt nt 25 c u = lzGood pt nt c u := by kernel_rfl
theorem lz_run26 (pt nt : TypeId) (c u : Bool) : lzI pt nt 26 c u = lzGood pt nt c u := by kernel_rfl
theorem lz_run27 (pt nt : TypeId) (c u : Bool) : lzI pt nt 27 c u = lzGood pt nt c u := by kernel_rfl
theorem lz_run28 (pt nt : TypeId) (c u : Bool) : lzI pt nt 28 c u = lzGood pt nt c u := by kernel_rfl
theorem lz_run29 (pt nt : TypeId) (c u : Bool) : lzI pt nt 29 c u = lzGood pt nt c u := by kernel_rfl
end Go.Proofs.YtegfafebbnlicaaGreatDoor.Ev
