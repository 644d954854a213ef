/-
  The functions of sizeclass and bedrockref19 that call others: each by the contracts of what it calls.
-/
import Derived.Test.YtgmphpfjbbfnkaaDoorSizeWalks
namespace Go.Proofs.YtgmphpfjbbfnkaaDoor.Size
open Go.RowKit

theorem rclass_any (n : Int) (w : World) :
    Calls Tryd.prog 10 #[.int .i64 n] w fun e w' => e = .returned (.tuple #[.int .i64 (cls n).1, .int .i64 (cls n).2]) ∧ w = w' := by
  rcases (show n < 1 ∨ (1 ≤ n ∧ n ≤ 3) ∨ (3 < n ∧ n ≤ 7) ∨ (7 < n ∧ n ≤ 15) ∨ (15 < n ∧ n ≤ 31) ∨ (31 < n ∧ n ≤ 60) ∨ 60 < n by omega) with h | h | h | h | h | h | h
  all_goals
    first
    | have hc : cls n = (0, 1) := by simp [cls, h]
    | have hc : cls n = (0, 9) := by unfold cls; repeat (rw [if_neg (by omega)])
    | have hc : cls n = (0, 0) := by unfold cls; repeat (first | rw [if_pos (by omega)] | rw [if_neg (by omega)])
    | have hc : cls n = (1, 0) := by unfold cls; repeat (first | rw [if_pos (by omega)] | rw [if_neg (by omega)])
    | have hc : cls n = (2, 0) := by unfold cls; repeat (first | rw [if_pos (by omega)] | rw [if_neg (by omega)])
    | have hc : cls n = (3, 0) := by unfold cls; repeat (first | rw [if_pos (by omega)] | rw [if_neg (by omega)])
    | have hc : cls n = (4, 0) := by unfold cls; repeat (first | rw [if_pos (by omega)] | rw [if_neg (by omega)])
  all_goals
    rw [hc]; clear hc
    go_enter Tryd.func10, Tryd.ntmps10
    go_wp2
  · go_ret2
    exact ⟨rfl, rfl⟩
  all_goals
    go_rounds 6
    go_ret2
    exact ⟨rfl, rfl⟩

theorem rper_no (c : Int) (w : World) (h : c < 0 ∨ 5 ≤ c) :
    Calls Tryd.prog 15 #[.int .i64 c] w fun e w' => e = .returned (.int .i64 0) ∧ w = w' := by
  have hw : wds c = 0 := by have := wds_cases c; omega
  have HW := Lib.hid hw; clear hw
  go_enter Tryd.func15, Tryd.ntmps15
  go_wp2_with fail
  refine wp_loop_rounds 1 ?_
  rw [rounds_succ]
  go_wp2_with fail
  refine (rwords_any c _).mono ?_
  rintro e w' ⟨rfl, rfl⟩
  rw [HW.out]
  go_wp2_with fail
  go_ret
  exact ⟨rfl, rfl⟩

theorem rper_yes (c p s : Int) (w : World) (hw : wds c = s) (h0 : 1 ≤ s) (h1 : s ≤ 60) (hp0 : 0 ≤ p) (hp1 : p ≤ 62) (hlast : 256 < 8 + (p + 1) * (s + 1)) (hlow : ∀ k : Int, 0 ≤ k → k < p → 8 + (k + 1) * (s + 1) ≤ 256) :
    Calls Tryd.prog 15 #[.int .i64 c] w fun e w' => e = .returned (.int .i64 p) ∧ w = w' := by
  have HW := Lib.hid hw; clear hw
  have HL := Lib.hid hlow; clear hlow
  go_enter Tryd.func15, Tryd.ntmps15
  go_wp2_with fail
  go_loop [3] (fun v => ∃ k : Int, 0 ≤ k ∧ k ≤ p ∧ v = .int .i64 k) (fun v => (p - intOf v).toNat)
  case atStart => exact ⟨0, by omega, by omega, rfl⟩
  case round =>
    obtain ⟨k, hk0, hk1, rfl⟩ := hrel
    by_cases hlt : k < p
    · have hm := HL.out k hk0 hlt
      have hn : 0 ≤ (k + 1) * (s + 1) := Int.mul_nonneg (by omega) (by omega)
      go_wp2_with fail
      refine (rwords_any c _).mono ?_
      rintro e w' ⟨rfl, rfl⟩
      rw [HW.out]
      go_wp2_with fail
      refine (rwords_any c _).mono ?_
      rintro e w' ⟨rfl, rfl⟩
      rw [HW.out]
      go_wp2_with fail
      go_round
      case rel => exact ⟨k + 1, by omega, by omega, rfl⟩
      case measure => simp [intOf]; omega
    · obtain rfl : k = p := by omega
      have hn : (k + 1) * (s + 1) ≤ 63 * 61 := Int.mul_le_mul (by omega) (by omega) (by omega) (by omega)
      go_wp2_with fail
      refine (rwords_any c _).mono ?_
      rintro e w' ⟨rfl, rfl⟩
      rw [HW.out]
      go_wp2_with fail
      refine (rwords_any c _).mono ?_
      rintro e w' ⟨rfl, rfl⟩
      rw [HW.out]
      go_wp2_with fail
      go_ret
      exact ⟨rfl, rfl⟩

theorem rper_any (c : Int) (w : World) :
    Calls Tryd.prog 15 #[.int .i64 c] w fun e w' => e = .returned (.int .i64 (per c)) ∧ w = w' := by
  rcases wds_cases c with ⟨h, hw⟩ | ⟨rfl, hw⟩ | ⟨rfl, hw⟩ | ⟨rfl, hw⟩ | ⟨rfl, hw⟩ | ⟨rfl, hw⟩
  · have hp : per c = 0 := by unfold per; repeat (rw [if_neg (by omega)])
    rw [hp]
    exact rper_no c w h
  all_goals exact rper_yes _ _ _ w hw (by omega) (by omega) (by decide) (by decide) (by decide) (fun k h0 h1 => by simp [per] at h1; omega)

theorem roffset_any (c i : Int) (w : World) (hc0 : 0 ≤ c) (hc1 : c ≤ 4) (h0 : 0 ≤ i) (h1 : i ≤ 100) :
    Calls Tryd.prog 16 #[.int .i64 c, .int .i64 i] w fun e w' => e = .returned (.int .i64 (8 + i * (wds c + 1))) ∧ w = w' := by
  rcases wds_cases c with ⟨h, hw⟩ | ⟨rfl, hw⟩ | ⟨rfl, hw⟩ | ⟨rfl, hw⟩ | ⟨rfl, hw⟩ | ⟨rfl, hw⟩
  · omega
  all_goals
    rw [hw]
    have HW := Lib.hid hw; clear hw
    go_enter Tryd.func16, Tryd.ntmps16
    go_wp2_with fail
    refine (rwords_any _ _).mono ?_
    rintro e w' ⟨rfl, rfl⟩
    rw [HW.out]
    go_wp2_with fail
    go_ret
    exact ⟨rfl, rfl⟩

/-- What Offset returns: the word, and the error's number. -/
def off (c i : Int) : Int × Int := if per c = 0 then (0, 1) else if i < 0 ∨ per c ≤ i then (0, 2) else (8 + i * (wds c + 1), 0)

theorem Tab.cell {w : World} (T : Tab w) (k : Nat) (hk : k < 5) : w.cell? ⟨0, k, none⟩ = some (.int .i64 (wds k)) := by
  rcases (show k = 0 ∨ k = 1 ∨ k = 2 ∨ k = 3 ∨ k = 4 by omega) with rfl | rfl | rfl | rfl | rfl
  · exact T.c0
  · exact T.c1
  · exact T.c2
  · exact T.c3
  · exact T.c4

theorem offset_yes (k : Nat) (s p i : Int) (w : World) (T : Tab w) (hk : k < 5) (hc : w.cell? ⟨0, k, none⟩ = some (.int .i64 s)) (hp : per k = p) (s0 : 1 ≤ s) (s1 : s ≤ 60) (p0 : 1 ≤ p) (p1 : p ≤ 62) :
    Calls Tryd.prog 13 #[.int .i64 k, .int .i64 i] w fun e w' => e = .returned (.tuple #[.int .i64 (if i < 0 ∨ p ≤ i then (0, 2) else (8 + i * (s + 1), 0) : Int × Int).1, .int .i64 (if i < 0 ∨ p ≤ i then (0, 2) else (8 + i * (s + 1), 0) : Int × Int).2]) ∧ w = w' := by
  have HP := Lib.hid hp; clear hp
  have hne : (p == 0) = false := by simp; omega
  rcases (show i < 0 ∨ (0 ≤ i ∧ p ≤ i) ∨ (0 ≤ i ∧ i < p) from by omega) with h | ⟨hi, h⟩ | ⟨hi, h⟩
  · rw [if_pos (.inl h)]
    go_enter Tryd.func13, Tryd.ntmps13
    go_wp2_with fail
    refine (per_any _ _ T).mono ?_
    rintro e w' ⟨rfl, rfl⟩
    rw [HP.out]
    go_wp2_with fail
    go_ret2
    exact ⟨rfl, rfl⟩
  · rw [if_pos (.inr h)]
    go_enter Tryd.func13, Tryd.ntmps13
    go_wp2_with fail
    refine (per_any _ _ T).mono ?_
    rintro e w' ⟨rfl, rfl⟩
    rw [HP.out]
    go_wp2_with fail
    go_ret2
    exact ⟨rfl, rfl⟩
  · rw [if_neg (by omega)]
    have hn0 : 0 ≤ i * (s + 1) := Int.mul_nonneg (by omega) (by omega)
    have hn1 : i * (s + 1) ≤ 62 * 61 := Int.mul_le_mul (by omega) (by omega) (by omega) (by omega)
    go_enter Tryd.func13, Tryd.ntmps13
    go_wp2_with fail
    refine (per_any _ _ T).mono ?_
    rintro e w' ⟨rfl, rfl⟩
    rw [HP.out]
    go_wp2_with fail
    go_ret2
    exact ⟨rfl, rfl⟩

theorem offset_any (c i : Int) (w : World) (T : Tab w) :
    Calls Tryd.prog 13 #[.int .i64 c, .int .i64 i] w fun e w' => e = .returned (.tuple #[.int .i64 (off c i).1, .int .i64 (off c i).2]) ∧ w = w' := by
  rcases wds_cases c with ⟨h, hw⟩ | ⟨rfl, hw⟩ | ⟨rfl, hw⟩ | ⟨rfl, hw⟩ | ⟨rfl, hw⟩ | ⟨rfl, hw⟩
  · have hp : per c = 0 := by unfold per; repeat (rw [if_neg (by omega)])
    have ho : off c i = (0, 1) := by unfold off; rw [if_pos hp]
    rw [ho]; clear ho
    have HP := Lib.hid hp; clear hp hw
    go_enter Tryd.func13, Tryd.ntmps13
    go_wp2_with fail
    refine (per_any c _ T).mono ?_
    rintro e w' ⟨rfl, rfl⟩
    rw [HP.out]
    go_wp2_with fail
    go_ret2
    exact ⟨rfl, rfl⟩
  all_goals
    refine offset_yes _ _ _ i w T (by decide) (Tab.cell T _ (by decide)) rfl (by decide) (by decide) (by decide) (by decide)

/-- What Find returns. -/
def fnd (c x : Int) : Int × Bool := if per c = 0 ∨ x ≤ 8 ∨ 256 ≤ x then (0, false) else if ¬ (x - 8 - 1) % (wds c + 1) = 0 ∨ per c ≤ (x - 8 - 1) / (wds c + 1) then (0, false) else ((x - 8 - 1) / (wds c + 1), true)

theorem find_no (c x : Int) (w : World) (T : Tab w) (h : per c = 0 ∨ x ≤ 8 ∨ 256 ≤ x) (p0 : 0 ≤ per c) (p1 : per c ≤ 62) :
    Calls Tryd.prog 17 #[.int .i64 c, .int .i64 x] w fun e w' => e = .returned (.tuple #[.int .i64 0, .bool false]) ∧ w = w' := by
  generalize hp : per c = p at *
  have HP := Lib.hid hp; clear hp
  by_cases hz : p = 0
  · subst hz; clear h
    go_enter Tryd.func17, Tryd.ntmps17
    go_wp2_with fail
    refine (per_any _ _ T).mono ?_
    rintro e w' ⟨rfl, rfl⟩
    rw [HP.out]
    go_wp2_with fail
    go_ret2
    exact ⟨rfl, rfl⟩
  · have hne : (p == 0) = false := by simp; omega
    rcases (show x ≤ 8 ∨ (8 < x ∧ 256 ≤ x) by omega) with h' | ⟨h8, h'⟩
    all_goals
      clear h hz
      go_enter Tryd.func17, Tryd.ntmps17
      go_wp2_with fail
      refine (per_any _ _ T).mono ?_
      rintro e w' ⟨rfl, rfl⟩
      rw [HP.out]
      go_wp2_with fail
      go_ret2
      exact ⟨rfl, rfl⟩

theorem find_yes (k : Nat) (s p x : Int) (w : World) (T : Tab w) (hk : k < 5) (hc : w.cell? ⟨0, k, none⟩ = some (.int .i64 s)) (hp : per k = p) (s0 : 1 ≤ s) (s1 : s ≤ 60) (p0 : 1 ≤ p) (p1 : p ≤ 62) (hi : 8 < x) (h : x < 256) (r : Int × Bool)
    (hr : r = if ¬ (x - 8 - 1) % (s + 1) = 0 ∨ p ≤ (x - 8 - 1) / (s + 1) then (0, false) else ((x - 8 - 1) / (s + 1), true)) :
    Calls Tryd.prog 17 #[.int .i64 k, .int .i64 x] w fun e w' => e = .returned (.tuple #[.int .i64 r.1, .bool r.2]) ∧ w = w' := by
  have HP := Lib.hid hp; clear hp
  have hne : (p == 0) = false := by simp; omega
  by_cases hm : (x - 8 - 1) % (s + 1) = 0
  · by_cases hq : p ≤ (x - 8 - 1) / (s + 1)
    · rw [if_pos (.inr hq)] at hr
      subst hr
      go_enter Tryd.func17, Tryd.ntmps17
      go_wp2_with fail
      refine (per_any _ _ T).mono ?_
      rintro e w' ⟨rfl, rfl⟩
      rw [HP.out]
      go_wp2_with fail
      go_ret2
      exact ⟨rfl, rfl⟩
    · rw [if_neg (by rintro (a | a); exact a hm; exact hq a)] at hr
      subst hr
      go_enter Tryd.func17, Tryd.ntmps17
      go_wp2_with fail
      refine (per_any _ _ T).mono ?_
      rintro e w' ⟨rfl, rfl⟩
      rw [HP.out]
      go_wp2_with fail
      go_ret2
      exact ⟨rfl, rfl⟩
  · rw [if_pos (.inl hm)] at hr
    subst hr
    have hmb : ((x - 8 - 1) % (s + 1) != 0) = true := by simpa using hm
    go_enter Tryd.func17, Tryd.ntmps17
    go_wp2_with fail
    refine (per_any _ _ T).mono ?_
    rintro e w' ⟨rfl, rfl⟩
    rw [HP.out]
    go_wp2_with fail
    go_ret2
    exact ⟨rfl, rfl⟩

theorem per_bd (c : Int) : 0 ≤ per c ∧ per c ≤ 62 := by unfold per; repeat' split
                                                        all_goals omega

theorem find_any (c x : Int) (w : World) (T : Tab w) :
    Calls Tryd.prog 17 #[.int .i64 c, .int .i64 x] w fun e w' => e = .returned (.tuple #[.int .i64 (fnd c x).1, .bool (fnd c x).2]) ∧ w = w' := by
  by_cases h : per c = 0 ∨ x ≤ 8 ∨ 256 ≤ x
  · have : fnd c x = (0, false) := by unfold fnd; rw [if_pos h]
    rw [this]
    exact find_no c x w T h (per_bd c).1 (per_bd c).2
  · have hx : 8 < x ∧ x < 256 := by omega
    have hp : per c ≠ 0 := by omega
    have hr : fnd c x = if ¬ (x - 8 - 1) % (wds c + 1) = 0 ∨ per c ≤ (x - 8 - 1) / (wds c + 1) then (0, false) else ((x - 8 - 1) / (wds c + 1), true) := by unfold fnd; rw [if_neg h]
    rcases wds_cases c with ⟨h', _⟩ | ⟨rfl, hw⟩ | ⟨rfl, hw⟩ | ⟨rfl, hw⟩ | ⟨rfl, hw⟩ | ⟨rfl, hw⟩
    · exact absurd (by unfold per; repeat (rw [if_neg (by omega)])) hp
    · exact find_yes 0 _ _ x w T (by decide) (Tab.cell T _ (by decide)) rfl (by decide) (by decide) (by decide) (by decide) hx.1 hx.2 _ hr
    · exact find_yes 1 _ _ x w T (by decide) (Tab.cell T _ (by decide)) rfl (by decide) (by decide) (by decide) (by decide) hx.1 hx.2 _ hr
    · exact find_yes 2 _ _ x w T (by decide) (Tab.cell T _ (by decide)) rfl (by decide) (by decide) (by decide) (by decide) hx.1 hx.2 _ hr
    · exact find_yes 3 _ _ x w T (by decide) (Tab.cell T _ (by decide)) rfl (by decide) (by decide) (by decide) (by decide) hx.1 hx.2 _ hr
    · exact find_yes 4 _ _ x w T (by decide) (Tab.cell T _ (by decide)) rfl (by decide) (by decide) (by decide) (by decide) hx.1 hx.2 _ hr

theorem awake_any (w : World) (T : Tab w) : Calls Tryd.prog 11 #[] w fun e w' => e = .returned (.bool true) ∧ w = w' := by
  go_enter Tryd.func11, Tryd.ntmps11
  go_wp2_with fail
  refine (class_any _ _ T).mono ?_
  rintro e w' ⟨rfl, rfl⟩
  rw [show cls 8 = (2, 0) from rfl]
  go_wp2_with fail
  refine (offset_any _ _ _ T).mono ?_
  rintro e w' ⟨rfl, rfl⟩
  rw [show off 2 1 = (24, 0) from rfl]
  go_wp2_with fail
  refine (find_any _ _ _ T).mono ?_
  rintro e w' ⟨rfl, rfl⟩
  rw [show fnd 2 25 = (1, true) from rfl]
  go_wp2_with fail
  refine (class_any _ _ T).mono ?_
  rintro e w' ⟨rfl, rfl⟩
  rw [show cls 61 = (0, 9) from rfl]
  go_wp2_with fail
  go_ret
  exact ⟨rfl, rfl⟩
end Go.Proofs.YtgmphpfjbbfnkaaDoor.Size
