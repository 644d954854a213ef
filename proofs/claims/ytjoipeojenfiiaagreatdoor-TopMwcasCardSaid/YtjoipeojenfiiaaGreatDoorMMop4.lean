/-
  execute and load of the package mwcas.
-/
import Derived.Test.YtjoipeojenfiiaaGreatDoorMMop3
import Derived.BigQuiet
namespace Go.Proofs.YtjoipeojenfiiaaGreatDoor.Dv
open Go.RowKit
set_option linter.unusedVariables false

theorem mexecute_dev {w : World} {A : DAd} {s : DSt} {F : Nat → Option Role} (h : Dev w A s F) {i : Nat} (hi : i < 8) {x : Ins} (hx : x.Ok) (hex : s.ex < 1000000) :
    Calls Tryz.prog 130 #[ptr (A.t i), .agg #[.int .u8 x.op, u64 x.off, u64 x.val]] w fun r w' => r = .returned (.tuple #[]) ∧ Went w A F (s.exec i x) w' := by
  obtain ⟨op, off, v⟩ := x
  obtain ⟨h1, h2, ho, hv⟩ := hx
  dsimp only at h1 h2 ho hv
  have hop : op = 1 ∨ op = 2 ∨ op = 3 := by omega
  rcases hop with rfl | rfl | rfl
  · have HS := Lib.hid (store_dev (h.alloc (.cells #[.int .u8 1, u64 off, u64 v] 139)) hi ho hv hex)
    clear h
    unfold ptr u64 at *
    go_enter Tryz.func130, Tryz.ntmps130
    go_wp2_with fail
    refine HS.out.mono ?_
    rintro e w' ⟨rfl, F', g1, g2⟩
    have G := Lib.hid (show Went w A F (s.exec i ⟨1, off, v⟩) w' from ⟨F', g1, (Moved.alloc w _).trans g2⟩)
    clear g1 g2
    go_wp2_with fail
    go_returns
    exact ⟨rfl, G.out⟩
  · have HS := Lib.hid (flush_dev (h.alloc (.cells #[.int .u8 2, u64 off, u64 v] 139)) hi ho hex)
    clear h
    unfold ptr u64 at *
    go_enter Tryz.func130, Tryz.ntmps130
    go_wp2_with fail
    refine HS.out.mono ?_
    rintro e w' ⟨rfl, g1, g2⟩
    have G := Lib.hid (show Went w A F (s.exec i ⟨2, off, v⟩) w' from ⟨F, g1, (Moved.alloc w _).trans g2⟩)
    clear g1 g2
    go_wp2_with fail
    go_returns
    exact ⟨rfl, G.out⟩
  · have HS := Lib.hid (fence_dev (h.alloc (.cells #[.int .u8 3, u64 off, u64 v] 139)) hi hex)
    clear h
    unfold ptr u64 at *
    go_enter Tryz.func130, Tryz.ntmps130
    go_wp2_with fail
    refine HS.out.mono ?_
    rintro e w' ⟨rfl, g1, g2⟩
    have G := Lib.hid (show Went w A F (s.exec i ⟨3, off, v⟩) w' from ⟨F, g1, (Moved.alloc w _).trans g2⟩)
    clear g1 g2
    go_wp2_with fail
    go_returns
    exact ⟨rfl, G.out⟩
end Go.Proofs.YtjoipeojenfiiaaGreatDoor.Dv
