/-
  LimboTransactions: slots 15 to 19, reckoned by the kernel.
-/
import Derived.Test.YtegfafebbnlicaaGreatDoorMLzA
namespace Go.Proofs.YtegfafebbnlicaaGreatDoor.Ev
open Go
theorem lz_run15 (pt nt : TypeId) (c u : Bool) : lzI pt nt 15 c u = lzGood pt nt c u := by kernel_rfl
theorem lz_run16 (pt nt : TypeId) (c u : Bool) : lzI pt nt 16 c u = lzGood pt nt c u := by kernel_rfl
theorem lz_run17 (pt nt : TypeId) (c u : Bool) : lzI pt nt 17 c u = lzGood pt nt c u := by kernel_rfl
theorem lz_run18 (pt nt : TypeId) (c u : Bool) : lzI pt nt 18 c u = lzGood pt nt c u := by kernel_rfl
theorem lz_run19 (pt nt : TypeId) (c u : Bool) : lzI pt nt 19 c u = lzGood pt nt c u := by kernel_rfl
end Go.Proofs.YtegfafebbnlicaaGreatDoor.Ev
