/-
  LimboTransactions: slots 35 to 39, reckoned by the kernel.
-/
import Derived.Test.YtegfafebbnlicaaGreatDoorMLzA
namespace Go.Proofs.YtegfafebbnlicaaGreatDoor.Ev
open Go
theorem lz_run35 (pt nt : TypeId) (c u : Bool) : lzI pt nt 35 c u = lzGood pt nt c u := by kernel_rfl
theorem lz_run36 (pt nt : TypeId) (c u : Bool) : lzI pt nt 36 c u = lzGood pt nt c u := by kernel_rfl
theorem lz_run37 (pt nt : TypeId) (c u : Bool) : lzI pt nt 37 c u = lzGood pt nt c u := by kernel_rfl
theorem lz_run38 (pt nt : TypeId) (c u : Bool) : lzI pt nt 38 c u = lzGood pt nt c u := by kernel_rfl
theorem lz_run39 (pt nt : TypeId) (c u : Bool) : lzI pt nt 39 c u = lzGood pt nt c u := by kernel_rfl
end Go.Proofs.YtegfafebbnlicaaGreatDoor.Ev
