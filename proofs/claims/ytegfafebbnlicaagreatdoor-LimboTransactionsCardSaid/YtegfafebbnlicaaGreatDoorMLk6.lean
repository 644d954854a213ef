/-
  LimboTransactions: slots 30 to 34, reckoned by the kernel.
-/
import Derived.Test.YtegfafebbnlicaaGreatDoorMLzA
namespace Go.Proofs.YtegfafebbnlicaaGreatDoor.Ev
open Go
theorem lz_run30 (pt nt : TypeId) (c u : Bool) : lzI pt nt 30 c u = lzGood pt nt c u := by kernel_rfl
theorem lz_run31 (pt nt : TypeId) (c u : Bool) : lzI pt nt 31 c u = lzGood pt nt c u := by kernel_rfl
theorem lz_run32 (pt nt : TypeId) (c u : Bool) : lzI pt nt 32 c u = lzGood pt nt c u := by kernel_rfl
theorem lz_run33 (pt nt : TypeId) (c u : Bool) : lzI pt nt 33 c u = lzGood pt nt c u := by kernel_rfl
theorem lz_run34 (pt nt : TypeId) (c u : Bool) : lzI pt nt 34 c u = lzGood pt nt c u := by kernel_rfl
end Go.Proofs.YtegfafebbnlicaaGreatDoor.Ev
