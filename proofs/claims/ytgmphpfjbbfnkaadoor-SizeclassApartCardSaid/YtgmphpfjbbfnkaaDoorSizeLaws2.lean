/-
  The two laws of chapter 19 with a loop, walked.
-/
import Derived.Test.YtgmphpfjbbfnkaaDoorSizeMore
namespace Go.Proofs.YtgmphpfjbbfnkaaDoor.Size
open Go.RowKit

/-- The word at which the payload of block k begins. -/
def pay (c k : Int) : Int := 8 + k * (wds c + 1) + 1
theorem fnd_hit (c k x : Int) (h0 : 0 ≤ k) (h1 : k < per c) (hx : pay c k = x) : fnd c x = (k, true) := by
  unfold pay at hx
  have hp := per_bd c
  have hs : per c * (wds c + 1) ≤ 248 ∧ 2 ≤ wds c + 1 := by
    rcases wds_cases c with ⟨h, hw⟩ | ⟨rfl, hw⟩ | ⟨rfl, hw⟩ | ⟨rfl, hw⟩ | ⟨rfl, hw⟩ | ⟨rfl, hw⟩
    · have hp : per c = 0 := by unfold per; repeat (rw [if_neg (by omega)])
      omega
    all_goals decide
  have hk : 0 ≤ k * (wds c + 1) := Int.mul_nonneg h0 (by omega)
  have hk2 : (k + 1) * (wds c + 1) ≤ per c * (wds c + 1) := Int.mul_le_mul_of_nonneg_right (by omega) (by omega)
  rw [Int.add_mul] at hk2
  have e : x - 8 - 1 = k * (wds c + 1) := by omega
  unfold fnd
  rw [if_neg (by omega), e, Int.mul_ediv_cancel _ (by omega), Int.mul_emod_left, if_neg (by omega)]
theorem fnd_miss (c x : Int) (h : ∀ k, 0 ≤ k → k < per c → pay c k ≠ x) : fnd c x = (0, false) := by
  have hp := per_bd c
  unfold fnd
  split
  · rfl
  · rename_i h1
    split
    · rfl
    · rename_i h2
      have hm : (x - 8 - 1) % (wds c + 1) = 0 := by
        by_cases e : (x - 8 - 1) % (wds c + 1) = 0
        · exact e
        · exact absurd (.inl e) h2
      have hd := Int.mul_ediv_cancel' (Int.dvd_of_emod_eq_zero hm)
      have hw := wds_cases c
      have hq : 0 ≤ (x - 8 - 1) / (wds c + 1) := Int.ediv_nonneg (by omega) (by omega)
      refine absurd ?_ (h ((x - 8 - 1) / (wds c + 1)) hq (by omega))
      unfold pay
      rw [Int.mul_comm]
      omega

theorem per_valid (c : Int) : 0 < per c → 0 ≤ c ∧ c ≤ 4 := by
  unfold per
  repeat' split
  all_goals omega

theorem finds (c x : Int) (w : World) (T : Tab w) :
    Calls Tryd.prog 5 #[.int .i64 c, .int .i64 x] w fun e w' => e = .returned (.bool true) ∧ w = w' := by
  have hhit := fnd_hit c
  have hmiss := fnd_miss c x
  have hpb := per_bd c
  have hv : 0 < per c → 0 ≤ c ∧ c ≤ 4 := per_valid c
  generalize hf : fnd c x = f at *
  generalize hp : per c = p at *
  have HF := Lib.hid hf; have HP := Lib.hid hp; have HH := Lib.hid hhit; have HM := Lib.hid hmiss
  clear hf hp hhit hmiss
  go_enter Tryd.func5, Tryd.ntmps5
  go_wp2_with fail
  refine (find_any _ _ _ T).mono ?_
  rintro e w' ⟨rfl, rfl⟩
  rw [HF.out]
  go_wp2_with fail
  refine (rper_any _ _).mono ?_
  rintro e w' ⟨rfl, rfl⟩
  rw [HP.out]
  go_wp2_with fail
  go_loop [16] (fun v => ∃ k : Int, 0 ≤ k ∧ k ≤ p ∧ Hid (∀ j, 0 ≤ j → j < k → pay c j ≠ x) ∧ v = .int .i64 k) (fun v => (p - intOf v).toNat)
  case atStart => exact ⟨0, by omega, by omega, Lib.hid (fun j h0 h1 => by omega), rfl⟩
  case round =>
    obtain ⟨k, hk0, hk1, HN, rfl⟩ := hrel
    by_cases hlt : k < p
    · have hc := hv (by omega)
      have hb0 : 0 ≤ k * (wds c + 1) := Int.mul_nonneg hk0 (by have := wds_cases c; omega)
      have hb1 : k * (wds c + 1) ≤ 62 * 61 := Int.mul_le_mul (by omega) (by have := wds_cases c; omega) (by have := wds_cases c; omega) (by omega)
      by_cases hx : pay c k = x
      · have hff := HH.out k x hk0 hlt hx
        rw [HF.out] at hff
        subst hff
        have hxb : (8 + k * (wds c + 1) + 1 == x) = true := by simpa [pay] using hx
        have HX := Lib.hid hx; clear hx
        clear hv
        go_wp2_with fail
        refine (roffset_any _ _ _ hc.1 hc.2 hk0 (by omega)).mono ?_
        rintro e w' ⟨rfl, rfl⟩
        go_wp2_with fail
        refine (awake_any _ T).mono ?_
        rintro e w' ⟨rfl, rfl⟩
        go_wp2_with fail
        go_ret
        exact ⟨rfl, rfl⟩
      · have hxb : (8 + k * (wds c + 1) + 1 == x) = false := by simpa [pay] using hx
        have HX := Lib.hid hx; clear hx hv
        go_wp2_with fail
        refine (roffset_any _ _ _ hc.1 hc.2 hk0 (by omega)).mono ?_
        rintro e w' ⟨rfl, rfl⟩
        go_wp2_with fail
        go_round
        case rel => exact ⟨k + 1, by omega, by omega, Lib.hid (fun j h0 h1 => by
          by_cases hj : j = k
          · subst hj; exact HX.out
          · exact HN.out j h0 (by omega)), rfl⟩
        case measure => simp [intOf]; omega
    · obtain rfl : k = p := by omega
      have hff := HM.out HN.out
      subst hff
      clear hv
      go_wp2_with fail
      refine (awake_any _ T).mono ?_
      rintro e w' ⟨rfl, rfl⟩
      go_wp2_with fail
      go_ret
      exact ⟨rfl, rfl⟩

theorem apart (a : Int) (w : World) (T : Tab w) (a0 : 0 ≤ a) (a1 : a ≤ 255) :
    Calls Tryd.prog 6 #[.int .u8 a] w fun e w' => e = .returned (.bool true) ∧ w = w' := by
  have hc0 : 0 ≤ a % 5 := by omega
  have hc1 : a % 5 ≤ 4 := by omega
  have hoff : ∀ i, 0 ≤ i → i < per (a % 5) → off (a % 5) i = (8 + i * (wds (a % 5) + 1), 0) := fun i h0 h1 => by
    unfold off
    rw [if_neg (by omega), if_neg (by omega)]
  have hs : per (a % 5) * (wds (a % 5) + 1) ≤ 248 ∧ 248 < (per (a % 5) + 1) * (wds (a % 5) + 1) ∧ 1 ≤ per (a % 5) ∧ per (a % 5) ≤ 62 ∧ 1 ≤ wds (a % 5) ∧ wds (a % 5) ≤ 60 := by
    generalize a % 5 = c at *
    rcases (show c = 0 ∨ c = 1 ∨ c = 2 ∨ c = 3 ∨ c = 4 by omega) with rfl | rfl | rfl | rfl | rfl <;> decide
  generalize hp : per (a % 5) = p at *
  generalize hw : wds (a % 5) = s at *
  have HP := Lib.hid hp; have HW := Lib.hid hw; have HO := Lib.hid hoff
  clear hp hw hoff
  obtain ⟨hs1, hs2, p0, p1, s0, s1⟩ := hs
  rw [Int.add_mul] at hs2
  have d1 : decide (p < 1) = false := by simp; omega
  have d2 : decide (64 < p) = false := by simp; omega
  go_enter Tryd.func6, Tryd.ntmps6
  go_wp2_with fail
  refine (per_any _ _ T).mono ?_
  rintro e w' ⟨rfl, rfl⟩
  rw [HP.out]
  go_wp2_with fail
  refine (words_any _ _ T).mono ?_
  rintro e w' ⟨rfl, rfl⟩
  rw [HW.out]
  go_wp2_with fail
  refine (awake_any _ T).mono ?_
  rintro e w' ⟨rfl, rfl⟩
  go_wp2_with fail
  go_loop [6, 29] (fun e v => ∃ k : Int, 0 ≤ k ∧ k ≤ p ∧ e = .int .i64 (8 + k * (s + 1)) ∧ v = .int .i64 k) (fun _ v => (p - intOf v).toNat)
  case atStart => exact ⟨0, by omega, by omega, by simp, rfl⟩
  case round =>
    obtain ⟨k, hk0, hk1, rfl, rfl⟩ := hrel
    by_cases hlt : k < p
    · have hb0 : 0 ≤ k * (s + 1) := Int.mul_nonneg hk0 (by omega)
      have hb1 : k * (s + 1) ≤ 62 * 61 := Int.mul_le_mul (by omega) (by omega) (by omega) (by omega)
      go_wp2_with fail
      refine (offset_any _ _ _ T).mono ?_
      rintro e w' ⟨rfl, rfl⟩
      rw [HO.out k hk0 hlt]
      go_wp2_with fail
      go_round
      case rel => exact ⟨k + 1, by omega, by omega, by rw [Int.add_mul]; congr 1; omega, rfl⟩
      case measure => simp [intOf]; omega
    · obtain rfl : k = p := by omega
      have d3 : decide (256 < 8 + k * (s + 1) + 1 + s) = true := by simp; omega
      go_wp2_with fail
      go_ret
      exact ⟨rfl, rfl⟩
end Go.Proofs.YtgmphpfjbbfnkaaDoor.Size
