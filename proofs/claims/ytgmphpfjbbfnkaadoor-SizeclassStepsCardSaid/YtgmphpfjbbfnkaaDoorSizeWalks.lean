/-
  The functions of the package sizeclass and of its reference bedrockref19, each walked once: what each returns, for every argument, in every world that holds the table of payloads; none changes the world.
-/
import Derived.Test.YtgmphpfjbbfnkaaDoorRows
import Derived.WalkKit
import Derived.WalkLawsBesides
import Derived.WalkSpells
import Derived.Deep.QuietTactic
import Derived.BigQuiet
import Derived.Outline
import Derived.Lib.Hide
import Derived.Handy
namespace Go.Proofs.YtgmphpfjbbfnkaaDoor.Size
open Go.RowKit

/-- The payload of a class, 0 for other numbers. -/
def wds (c : Int) : Int := if c = 0 then 3 else if c = 1 then 7 else if c = 2 then 15 else if c = 3 then 31 else if c = 4 then 60 else 0
theorem wds_cases (c : Int) : (c < 0 ∨ 5 ≤ c) ∧ wds c = 0 ∨ c = 0 ∧ wds c = 3 ∨ c = 1 ∧ wds c = 7 ∨ c = 2 ∧ wds c = 15 ∨ c = 3 ∧ wds c = 31 ∨ c = 4 ∧ wds c = 60 := by
  unfold wds
  repeat' split
  all_goals omega

/-- The blocks of a chunk. -/
def per (c : Int) : Int := if c = 0 then 62 else if c = 1 then 31 else if c = 2 then 15 else if c = 3 then 7 else if c = 4 then 4 else 0

/-- The first class of at least n words, and the error's number. -/
def cls (n : Int) : Int × Int := if n < 1 then (0, 1) else if n ≤ 3 then (0, 0) else if n ≤ 7 then (1, 0) else if n ≤ 15 then (2, 0) else if n ≤ 31 then (3, 0) else if n ≤ 60 then (4, 0) else (0, 9)

/-- The table of payloads lies in its variable. -/
structure Tab (w : World) : Prop where
  c0 : w.cell? ⟨0, 0, none⟩ = some (.int .i64 3)
  c1 : w.cell? ⟨0, 1, none⟩ = some (.int .i64 7)
  c2 : w.cell? ⟨0, 2, none⟩ = some (.int .i64 15)
  c3 : w.cell? ⟨0, 3, none⟩ = some (.int .i64 31)
  c4 : w.cell? ⟨0, 4, none⟩ = some (.int .i64 60)

theorem words_any (c : Int) (w : World) (T : Tab w) :
    Calls Tryd.prog 12 #[.int .i64 c] w fun e w' => e = .returned (.int .i64 (wds c)) ∧ w = w' := by
  obtain ⟨h0, h1, h2, h3, h4⟩ := T
  rcases (show c < 0 ∨ 5 ≤ c ∨ c = 0 ∨ c = 1 ∨ c = 2 ∨ c = 3 ∨ c = 4 by omega) with h | h | rfl | rfl | rfl | rfl | rfl
  · have hw : wds c = 0 := by have := wds_cases c; omega
    rw [hw]; clear hw
    go_enter Tryd.func12, Tryd.ntmps12
    go_wp2
    go_ret
    exact ⟨rfl, rfl⟩
  · have hw : wds c = 0 := by have := wds_cases c; omega
    rw [hw]; clear hw
    go_enter Tryd.func12, Tryd.ntmps12
    go_wp2
    go_ret
    exact ⟨rfl, rfl⟩
  all_goals
    go_enter Tryd.func12, Tryd.ntmps12
    go_wp2
    go_ret
    exact ⟨rfl, rfl⟩

theorem rwords_any (c : Int) (w : World) :
    Calls Tryd.prog 14 #[.int .i64 c] w fun e w' => e = .returned (.int .i64 (wds c)) ∧ w = w' := by
  rcases (show (c < 0 ∨ 5 ≤ c) ∨ c = 0 ∨ c = 1 ∨ c = 2 ∨ c = 3 ∨ c = 4 by omega) with h | rfl | rfl | rfl | rfl | rfl
  · have hw : wds c = 0 := by have := wds_cases c; omega
    rw [hw]; clear hw
    have n0 : (c == 0) = false := by simp; omega
    have n1 : (c == 1) = false := by simp; omega
    have n2 : (c == 2) = false := by simp; omega
    have n3 : (c == 3) = false := by simp; omega
    have n4 : (c == 4) = false := by simp; omega
    go_enter Tryd.func14, Tryd.ntmps14
    go_wp2
    go_ret
    exact ⟨rfl, rfl⟩
  all_goals
    go_enter Tryd.func14, Tryd.ntmps14
    go_wp2
    go_ret
    exact ⟨rfl, rfl⟩

theorem per_any (c : Int) (w : World) (T : Tab w) :
    Calls Tryd.prog 18 #[.int .i64 c] w fun e w' => e = .returned (.int .i64 (per c)) ∧ w = w' := by
  rcases wds_cases c with ⟨h, hw⟩ | ⟨rfl, hw⟩ | ⟨rfl, hw⟩ | ⟨rfl, hw⟩ | ⟨rfl, hw⟩ | ⟨rfl, hw⟩
  · have hp : per c = 0 := by unfold per; repeat (rw [if_neg (by omega)])
    rw [hp]; clear hp
    have HW := Lib.hid hw; clear hw
    go_enter Tryd.func18, Tryd.ntmps18
    go_wp2_with fail
    refine (words_any c _ T).mono ?_
    rintro e w' ⟨rfl, rfl⟩
    rw [HW.out]
    go_wp2
    go_ret
    exact ⟨rfl, rfl⟩
  all_goals
    have HW := Lib.hid hw; clear hw
    go_enter Tryd.func18, Tryd.ntmps18
    go_wp2_with fail
    refine (words_any _ _ T).mono ?_
    rintro e w' ⟨rfl, rfl⟩
    rw [HW.out]
    go_wp2
    go_ret
    exact ⟨rfl, rfl⟩

theorem count_any (w : World) : Calls Tryd.prog 19 #[] w fun e w' => e = .returned (.int .i64 5) ∧ w = w' := by
  go_enter Tryd.func19, Tryd.ntmps19
  go_wp2
  go_ret
  exact ⟨rfl, rfl⟩

theorem class_any (n : Int) (w : World) (T : Tab w) :
    Calls Tryd.prog 9 #[.int .i64 n] w fun e w' => e = .returned (.tuple #[.int .i64 (cls n).1, .int .i64 (cls n).2]) ∧ w = w' := by
  obtain ⟨h0, h1, h2, h3, h4⟩ := T
  rcases (show n < 1 ∨ (1 ≤ n ∧ n ≤ 3) ∨ (3 < n ∧ n ≤ 7) ∨ (7 < n ∧ n ≤ 15) ∨ (15 < n ∧ n ≤ 31) ∨ (31 < n ∧ n ≤ 60) ∨ 60 < n by omega) with h | h | h | h | h | h | h
  all_goals
    first
    | have hc : cls n = (0, 1) := by simp [cls, h]
    | have hc : cls n = (0, 9) := by unfold cls; repeat (rw [if_neg (by omega)])
    | have hc : cls n = (0, 0) := by unfold cls; repeat (first | rw [if_pos (by omega)] | rw [if_neg (by omega)])
    | have hc : cls n = (1, 0) := by unfold cls; repeat (first | rw [if_pos (by omega)] | rw [if_neg (by omega)])
    | have hc : cls n = (2, 0) := by unfold cls; repeat (first | rw [if_pos (by omega)] | rw [if_neg (by omega)])
    | have hc : cls n = (3, 0) := by unfold cls; repeat (first | rw [if_pos (by omega)] | rw [if_neg (by omega)])
    | have hc : cls n = (4, 0) := by unfold cls; repeat (first | rw [if_pos (by omega)] | rw [if_neg (by omega)])
  all_goals
    rw [hc]; clear hc
    go_enter Tryd.func9, Tryd.ntmps9
    go_wp2
  · go_ret2
    exact ⟨rfl, rfl⟩
  all_goals
    go_rounds 6
    go_ret2
    exact ⟨rfl, rfl⟩
end Go.Proofs.YtgmphpfjbbfnkaaDoor.Size
