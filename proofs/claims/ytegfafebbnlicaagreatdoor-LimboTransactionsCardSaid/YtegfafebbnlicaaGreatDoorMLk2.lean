/-
  LimboTransactions: slots 10 to 14, reckoned by the kernel.
-/
import Derived.Test.YtegfafebbnlicaaGreatDoorMLzA
namespace Go.Proofs.YtegfafebbnlicaaGreatDoor.Ev
open Go
theorem lz_run10 (pt nt : TypeId) (c u : Bool) : lzI pt nt 10 c u = lzGood pt nt c u := by kernel_rfl
theorem lz_run11 (pt nt : TypeId) (c u : Bool) : lzI pt nt 11 c u = lzGood pt nt c u := by kernel_rfl
theorem lz_run12 (pt nt : TypeId) (c u : Bool) : lzI pt nt 12 c u = lzGood pt nt c u := by kernel_rfl
theorem lz_run13 (pt nt : TypeId) (c u : Bool) : lzI pt nt 13 c u = lzGood pt nt c u := by kernel_rfl
theorem lz_run14 (pt nt : TypeId) (c u : Bool) : lzI pt nt 14 c u = lzGood pt nt c u := by kernel_rfl
end Go.Proofs.YtegfafebbnlicaaGreatDoor.Ev
