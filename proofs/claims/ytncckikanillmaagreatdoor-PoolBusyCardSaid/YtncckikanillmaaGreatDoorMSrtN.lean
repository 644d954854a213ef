/-
  slices.Sort of no element at uint64 (the kit's worked walk for int, turned).
-/
import Derived.Test.YtncckikanillmaaGreatDoorMSrt6
namespace Go.Proofs.YtncckikanillmaaGreatDoor.Srt
open Go Go.RowKit Go.Sort
set_option linter.unusedVariables false

theorem insertionSort_none (p : Option Addr) (cap : Nat) (w : World) :
    Calls Tryz.prog 294 #[.slice p 0 cap, .int .i64 0, .int .i64 0] w fun e w' => e = .returned (.tuple #[]) ∧ w' = w := by
  go_enter Tryz.func294, Tryz.ntmps294
  go_wp2
  refine wp_loop_rounds 1 ?_
  rw [rounds_succ]
  go_wp2
  go_end0
  exact ⟨rfl, rfl⟩
set_option maxRecDepth 100000 in
theorem pdqsort_none (p : Option Addr) (cap : Nat) (w : World) :
    Calls Tryz.prog 254 #[.slice p 0 cap, .int .i64 0, .int .i64 0, .int .i64 0] w fun e w' => e = .returned (.tuple #[]) ∧ w' = w := by
  go_enter Tryz.func254, Tryz.ntmps254
  go_wp2
  refine wp_loop_rounds 1 ?_
  rw [rounds_succ]
  go_wp2_with (first | (go_at_call 294; refine (insertionSort_none p cap _).mono ?_; rintro e w' ⟨rfl, rfl⟩))
  refine bodyPost_ret (results_none rfl _ _ _) rfl ?_
  exact ⟨rfl, rfl⟩
set_option maxRecDepth 100000 in
theorem sort_none (p : Option Addr) (cap : Nat) (w : World) :
    Calls Tryz.prog 174 #[.slice p 0 cap] w fun e w' => e = .returned (.tuple #[]) ∧ w' = w := by
  have hLen : ∀ w, Calls Tryz.prog 255 #[.int .u64 0] w fun e w' => e = .returned (.int .i64 0) ∧ w' = w := fun w => bits_Len 0 w (by omega) (by omega)
  go_enter Tryz.func174, Tryz.ntmps174
  go_wp2_with (first
    | (go_at_call 255; refine (hLen _).mono ?_; rintro e w' ⟨rfl, rfl⟩)
    | (go_at_call 254; refine (pdqsort_none p cap _).mono ?_; rintro e w' ⟨rfl, rfl⟩))
  go_end0
  exact ⟨rfl, rfl⟩
end Go.Proofs.YtncckikanillmaaGreatDoor.Srt
