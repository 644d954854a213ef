/-
  The six laws of chapter 19, walked: each returns true for every argument in every world that holds the table of payloads, and leaves the world as it is.
-/
import Derived.Test.YtgmphpfjbbfnkaaDoorSizeMore
namespace Go.Proofs.YtgmphpfjbbfnkaaDoor.Size
open Go.RowKit

theorem fits (n : Int) (w : World) (T : Tab w) :
    Calls Tryd.prog 3 #[.int .i64 n] w fun e w' => e = .returned (.bool true) ∧ w = w' := by
  rcases (show n < 1 ∨ (1 ≤ n ∧ n ≤ 3) ∨ (3 < n ∧ n ≤ 7) ∨ (7 < n ∧ n ≤ 15) ∨ (15 < n ∧ n ≤ 31) ∨ (31 < n ∧ n ≤ 60) ∨ 60 < n by omega) with h | h | h | h | h | h | h
  all_goals
    first
    | have hc : cls n = (0, 1) := by simp [cls, h]
    | have hc : cls n = (0, 9) := by unfold cls; repeat (rw [if_neg (by omega)])
    | have hc : cls n = (0, 0) := by unfold cls; repeat (first | rw [if_pos (by omega)] | rw [if_neg (by omega)])
    | have hc : cls n = (1, 0) := by unfold cls; repeat (first | rw [if_pos (by omega)] | rw [if_neg (by omega)])
    | have hc : cls n = (2, 0) := by unfold cls; repeat (first | rw [if_pos (by omega)] | rw [if_neg (by omega)])
    | have hc : cls n = (3, 0) := by unfold cls; repeat (first | rw [if_pos (by omega)] | rw [if_neg (by omega)])
    | have hc : cls n = (4, 0) := by unfold cls; repeat (first | rw [if_pos (by omega)] | rw [if_neg (by omega)])
  all_goals
    have HC := Lib.hid hc; clear hc
    go_enter Tryd.func3, Tryd.ntmps3
    go_wp2_with fail
    refine (class_any _ _ T).mono ?_
    rintro e w' ⟨rfl, rfl⟩
    rw [HC.out]
    go_wp2_with fail
    refine (rclass_any _ _).mono ?_
    rintro e w' ⟨rfl, rfl⟩
    rw [HC.out]
    go_wp2_with fail
    refine (awake_any _ T).mono ?_
    rintro e w' ⟨rfl, rfl⟩
    go_wp2_with fail
  · go_ret
    exact ⟨rfl, rfl⟩
  · refine (words_any _ _ T).mono ?_
    rintro e w' ⟨rfl, rfl⟩
    rw [show wds 0 = 3 from rfl]
    go_wp2_with fail
    go_ret
    exact ⟨rfl, rfl⟩
  · refine (words_any _ _ T).mono ?_
    rintro e w' ⟨rfl, rfl⟩
    rw [show wds 1 = 7 from rfl]
    go_wp2_with fail
    refine (words_any _ _ T).mono ?_
    rintro e w' ⟨rfl, rfl⟩
    rw [show wds 0 = 3 from rfl]
    go_wp2_with fail
    go_ret
    exact ⟨rfl, rfl⟩
  · refine (words_any _ _ T).mono ?_
    rintro e w' ⟨rfl, rfl⟩
    rw [show wds 2 = 15 from rfl]
    go_wp2_with fail
    refine (words_any _ _ T).mono ?_
    rintro e w' ⟨rfl, rfl⟩
    rw [show wds 1 = 7 from rfl]
    go_wp2_with fail
    go_ret
    exact ⟨rfl, rfl⟩
  · refine (words_any _ _ T).mono ?_
    rintro e w' ⟨rfl, rfl⟩
    rw [show wds 3 = 31 from rfl]
    go_wp2_with fail
    refine (words_any _ _ T).mono ?_
    rintro e w' ⟨rfl, rfl⟩
    rw [show wds 2 = 15 from rfl]
    go_wp2_with fail
    go_ret
    exact ⟨rfl, rfl⟩
  · refine (words_any _ _ T).mono ?_
    rintro e w' ⟨rfl, rfl⟩
    rw [show wds 4 = 60 from rfl]
    go_wp2_with fail
    refine (words_any _ _ T).mono ?_
    rintro e w' ⟨rfl, rfl⟩
    rw [show wds 3 = 31 from rfl]
    go_wp2_with fail
    go_ret
    exact ⟨rfl, rfl⟩
  · go_ret
    exact ⟨rfl, rfl⟩

theorem words_law (c : Int) (w : World) (T : Tab w) :
    Calls Tryd.prog 7 #[.int .i64 c] w fun e w' => e = .returned (.bool true) ∧ w = w' := by
  go_enter Tryd.func7, Tryd.ntmps7
  go_wp2_with fail
  refine (awake_any _ T).mono ?_
  rintro e w' ⟨rfl, rfl⟩
  go_wp2_with fail
  refine (count_any _).mono ?_
  rintro e w' ⟨rfl, rfl⟩
  go_wp2_with fail
  refine (words_any _ _ T).mono ?_
  rintro e w' ⟨rfl, rfl⟩
  go_wp2_with fail
  refine (rwords_any _ _).mono ?_
  rintro e w' ⟨rfl, rfl⟩
  go_wp2_with fail
  refine (per_any _ _ T).mono ?_
  rintro e w' ⟨rfl, rfl⟩
  go_wp2_with fail
  refine (rper_any _ _).mono ?_
  rintro e w' ⟨rfl, rfl⟩
  go_wp2_with fail
  go_ret
  exact ⟨rfl, rfl⟩

theorem offsets (c i : Int) (w : World) (T : Tab w) :
    Calls Tryd.prog 4 #[.int .i64 c, .int .i64 i] w fun e w' => e = .returned (.bool true) ∧ w = w' := by
  rcases (show (c < 0 ∨ 5 ≤ c) ∨ (0 ≤ c ∧ c ≤ 4) by omega) with h | ⟨h0, h1⟩
  · have hw : wds c = 0 := by have := wds_cases c; omega
    have hp : per c = 0 := by unfold per; repeat (rw [if_neg (by omega)])
    have ho : off c i = (0, 1) := by unfold off; rw [if_pos hp]
    have HO := Lib.hid ho; have HW := Lib.hid hw; clear ho hw hp
    go_enter Tryd.func4, Tryd.ntmps4
    go_wp2_with fail
    refine (offset_any _ _ _ T).mono ?_
    rintro e w' ⟨rfl, rfl⟩
    rw [HO.out]
    go_wp2_with fail
    refine (rwords_any _ _).mono ?_
    rintro e w' ⟨rfl, rfl⟩
    rw [HW.out]
    go_wp2_with fail
    refine (awake_any _ T).mono ?_
    rintro e w' ⟨rfl, rfl⟩
    go_wp2_with fail
    go_ret
    exact ⟨rfl, rfl⟩
  · have hp : 1 ≤ per c := by unfold per; repeat' split
                              all_goals omega
    have hs : 1 ≤ wds c ∧ wds c ≤ 60 := by have := wds_cases c; omega
    have hp2 := (per_bd c).2
    by_cases hi : i < 0 ∨ per c ≤ i
    · have ho : off c i = (0, 2) := by unfold off; rw [if_neg (by omega), if_pos hi]
      generalize hP : per c = p at *
      generalize hW : wds c = s at *
      have HO := Lib.hid ho; have HP := Lib.hid hP; have HW := Lib.hid hW; clear ho hP hW
      have hne : (s == 0) = false := by simp; omega
      rcases (show i < 0 ∨ (0 ≤ i ∧ p ≤ i) by omega) with hi | ⟨hi0, hi⟩
      · go_enter Tryd.func4, Tryd.ntmps4
        go_wp2_with fail
        refine (offset_any _ _ _ T).mono ?_
        rintro e w' ⟨rfl, rfl⟩
        rw [HO.out]
        go_wp2_with fail
        refine (rwords_any _ _).mono ?_
        rintro e w' ⟨rfl, rfl⟩
        rw [HW.out]
        go_wp2_with fail
        refine (awake_any _ T).mono ?_
        rintro e w' ⟨rfl, rfl⟩
        go_wp2_with fail
        go_ret
        exact ⟨rfl, rfl⟩
      · go_enter Tryd.func4, Tryd.ntmps4
        go_wp2_with fail
        refine (offset_any _ _ _ T).mono ?_
        rintro e w' ⟨rfl, rfl⟩
        rw [HO.out]
        go_wp2_with fail
        refine (rwords_any _ _).mono ?_
        rintro e w' ⟨rfl, rfl⟩
        rw [HW.out]
        go_wp2_with fail
        refine (rper_any _ _).mono ?_
        rintro e w' ⟨rfl, rfl⟩
        rw [HP.out]
        go_wp2_with fail
        refine (awake_any _ T).mono ?_
        rintro e w' ⟨rfl, rfl⟩
        go_wp2_with fail
        go_ret
        exact ⟨rfl, rfl⟩
    · have ho : off c i = (8 + i * (wds c + 1), 0) := by unfold off; rw [if_neg (by omega), if_neg hi]
      have hi0 : 0 ≤ i := by omega
      have hi1 : i < per c := by omega
      clear hi
      generalize hP : per c = p at *
      have HO := Lib.hid ho; have HP := Lib.hid hP; clear ho hP
      have hne : (wds c == 0) = false := by simp; omega
      go_enter Tryd.func4, Tryd.ntmps4
      go_wp2_with fail
      refine (offset_any _ _ _ T).mono ?_
      rintro e w' ⟨rfl, rfl⟩
      rw [HO.out]
      go_wp2_with fail
      refine (rwords_any _ _).mono ?_
      rintro e w' ⟨rfl, rfl⟩
      go_wp2_with fail
      refine (rper_any _ _).mono ?_
      rintro e w' ⟨rfl, rfl⟩
      rw [HP.out]
      go_wp2_with fail
      refine (awake_any _ T).mono ?_
      rintro e w' ⟨rfl, rfl⟩
      go_wp2_with fail
      refine (roffset_any _ _ _ h0 h1 hi0 (by omega)).mono ?_
      rintro e w' ⟨rfl, rfl⟩
      go_wp2_with fail
      go_ret
      exact ⟨rfl, rfl⟩

theorem steps (a b : Int) (w : World) (T : Tab w) (a0 : 0 ≤ a) (a1 : a ≤ 255) (b0 : 0 ≤ b) (b1 : b ≤ 255) :
    Calls Tryd.prog 8 #[.int .u8 a, .int .u8 b] w fun e w' => e = .returned (.bool true) ∧ w = w' := by
  have hx : ∀ n : Int, 1 ≤ n → n ≤ 60 → (cls n).2 = 0 ∧ 0 ≤ (cls n).1 ∧ (cls n).1 ≤ 4 := by
    intro n h0 h1
    unfold cls
    repeat' split
    all_goals simp
    omega
  have hm : ∀ m n : Int, 1 ≤ m → m ≤ n → n ≤ 60 → (cls m).1 ≤ (cls n).1 := by
    intro m n h0 h1 h2
    unfold cls
    repeat' split
    all_goals simp
    all_goals omega
  have hA := hx (1 + a % 60) (by omega) (by omega)
  have hB := hx (1 + b % 60) (by omega) (by omega)
  have hAB := hm (1 + a % 60) (1 + b % 60)
  generalize hca : cls (1 + a % 60) = ca at *
  generalize hcb : cls (1 + b % 60) = cb at *
  obtain ⟨c, e1⟩ := ca
  obtain ⟨d, e2⟩ := cb
  obtain ⟨rfl, hc0, hc1⟩ : e1 = 0 ∧ 0 ≤ c ∧ c ≤ 4 := hA
  obtain ⟨rfl, hd0, hd1⟩ : e2 = 0 ∧ 0 ≤ d ∧ d ≤ 4 := hB
  have HA := Lib.hid hca; have HB := Lib.hid hcb
  clear hca hcb hx hm
  by_cases hgt : (1 + b % 60) < (1 + a % 60)
  · clear hAB
    go_enter Tryd.func8, Tryd.ntmps8
    go_wp2_with fail
    refine (class_any _ _ T).mono ?_
    rintro e w' ⟨rfl, rfl⟩
    rw [HA.out]
    go_wp2_with fail
    refine (class_any _ _ T).mono ?_
    rintro e w' ⟨rfl, rfl⟩
    rw [HB.out]
    go_wp2_with fail
    refine (awake_any _ T).mono ?_
    rintro e w' ⟨rfl, rfl⟩
    go_wp2_with fail
    refine (count_any _).mono ?_
    rintro e w' ⟨rfl, rfl⟩
    go_wp2_with fail
    refine (words_any _ _ T).mono ?_
    rintro e w' ⟨rfl, rfl⟩
    rw [show wds 4 = 60 from rfl]
    go_wp2_with fail
    go_ret
    exact ⟨rfl, rfl⟩
  · have hcd : c ≤ d := hAB (by omega) (by omega) (by omega)
    clear hAB
    go_enter Tryd.func8, Tryd.ntmps8
    go_wp2_with fail
    refine (class_any _ _ T).mono ?_
    rintro e w' ⟨rfl, rfl⟩
    rw [HA.out]
    go_wp2_with fail
    refine (class_any _ _ T).mono ?_
    rintro e w' ⟨rfl, rfl⟩
    rw [HB.out]
    go_wp2_with fail
    refine (awake_any _ T).mono ?_
    rintro e w' ⟨rfl, rfl⟩
    go_wp2_with fail
    refine (count_any _).mono ?_
    rintro e w' ⟨rfl, rfl⟩
    go_wp2_with fail
    refine (words_any _ _ T).mono ?_
    rintro e w' ⟨rfl, rfl⟩
    rw [show wds 4 = 60 from rfl]
    go_wp2_with fail
    go_ret
    exact ⟨rfl, rfl⟩
end Go.Proofs.YtgmphpfjbbfnkaaDoor.Size
