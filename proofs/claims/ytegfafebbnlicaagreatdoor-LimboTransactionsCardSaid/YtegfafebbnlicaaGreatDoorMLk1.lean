/-
  LimboTransactions: slots 5 to 9, reckoned by the kernel.
-/
import Derived.Test.YtegfafebbnlicaaGreatDoorMLzA
namespace Go.Proofs.YtegfafebbnlicaaGreatDoor.Ev
open Go
theorem lz_run5 (pt nt : TypeId) (c u : Bool) : lzI pt nt 5 c u = lzGood pt nt c u := by kernel_rfl
theorem lz_run6 (pt nt : TypeId) (c u : Bool) : lzI pt nt 6 c u = lzGood pt nt c u := by kernel_rfl
theorem lz_run7 (pt nt : TypeId) (c u : Bool) : lzI pt nt 7 c u = lzGood pt nt c u := by kernel_rfl
theorem lz_run8 (pt nt : TypeId) (c u : Bool) : lzI pt nt 8 c u = lzGood pt nt c u := by kernel_rfl
theorem lz_run9 (pt nt : TypeId) (c u : Bool) : lzI pt nt 9 c u = lzGood pt nt c u := by kernel_rfl
end Go.Proofs.YtegfafebbnlicaaGreatDoor.Ev
