/-
  The library's sort at uint64, after the worked proofs of the kit (Derived/Sort: Assembly).
-/
import Derived.Test.YtegfafebbnlicaaGreatDoorProg
import Derived.Sort.AssemblyPlain
import Derived.Lib.AgreeW
import Derived.Test.YtegfafebbnlicaaGreatDoorMSrt1
import Derived.Test.YtegfafebbnlicaaGreatDoorMSrt2
import Derived.Test.YtegfafebbnlicaaGreatDoorMSrt4
import Derived.Test.YtegfafebbnlicaaGreatDoorMSrt5
namespace Go.Proofs.YtegfafebbnlicaaGreatDoor.Srt
open Go.Sort Go.RowKit
set_option linter.unusedVariables false

/-! ### At int -/
theorem callees13 : Callees13 where
  ins := insertionSort_int
  brk := breakPatterns_int
  piv := choosePivot_int
  par := partialInsertionSort_int
  peq := partitionEqualOrdered_int
  prt := partitionOrdered_int

theorem plain13 : Plain13 where
  swo := swo_ltInt
  ins := insertionSort_holds
  par := partialInsertionSort_holds
  prt := partition_holds _
  peq := partitionEqual_holds _
  pdq := pdq_sorts _

theorem pdqWalkInt : pdqWalk_int := fun blk off cap a b limit d w hH hb hab hbd hsz hl hB =>
  pdqsort_int callees13 plain13 (b - a + 1) blk off cap a b limit d w (by omega) hH hb hab hbd hsz hl hB

theorem sort_int_eq (zs : List Int) : Sort.sort ltInt zs.toArray = (zs.mergeSort fun x y => decide (x ≤ y)).toArray := by
  rw [← sortInt zs]

/-- slices.Sort at []int. -/
theorem slices_Sort_int (blk off cap : Nat) (zs : List Int) (w : World) (hH : Holds (Value.int .u64) w blk off zs.toArray) (hblk : blk < w.heap.size) (hsz : zs.length < 4611686018427387904) :
    Calls Tryz.prog 129 #[.slice (some ⟨blk, off, none⟩) zs.length cap] w fun e w' =>
      e = .returned (.tuple #[]) ∧ ∃ n os, w' = grow (putRow (Value.int .u64) (Sort.ahead w n) blk off (zs.mergeSort fun x y => decide (x ≤ y)).toArray) os := by
  have h := Sort_int pdqWalkInt blk off cap zs.toArray w hH hblk (by simpa using hsz)
  rw [sort_int_eq] at h
  simpa using h

/-! ### At string -/
/-! ### A false neighbour -/
end Go.Proofs.YtegfafebbnlicaaGreatDoor.Srt
