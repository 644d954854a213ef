/-
  The functions of the package word on words alone, and their references, each walked once.
-/
import Derived.Test.YtfibemkgmkggpaaRows
import Derived.Test.YtfibemkgmkggpaaWordPlain
import Derived.WalkKit
import Derived.WalkLawsBesides
import Derived.WalkSpells
import Derived.Deep.QuietTactic
import Derived.BigQuiet
import Derived.Outline
import Derived.Lib.Hide
import Derived.Handy
namespace Go.Proofs.Ytfibemkgmkggpaa.Word
open Go.RowKit

theorem ret_u64 {a b : Int} (h : a = b) : Ending.returned (.int .u64 a) = .returned (.int .u64 b) := by rw [h]

theorem mask_any (n : Nat) (w : World) (h0 : 1 ≤ n) (h1 : n ≤ 64) :
    Calls Try.prog 35 #[.int .i64 n] w fun e w' => e = .returned (.int .u64 ((2 ^ n - 1 : Nat) : Int)) ∧ w = w' := by
  rw [← mask_eq n h1]
  go_enter Try.func35, Try.ntmps35
  go_wp2_with fail
  go_ret
  exact ⟨ret_u64 (by congr 2), rfl⟩

theorem valid_yes (s n : Nat) (w : World) (h0 : 1 ≤ n) (h : s + n ≤ 64) :
    Calls Try.prog 34 #[.int .i64 s, .int .i64 n] w fun e w' => e = .returned (.bool true) ∧ w = w' := by
  have d : decide ((s : Int) ≤ 64 - n) = true := by simp; omega
  go_enter Try.func34, Try.ntmps34
  go_wp2_with fail
  go_ret
  exact ⟨rfl, rfl⟩

theorem valid_no (s n : Int) (w : World) (h : ¬ (0 ≤ s ∧ 1 ≤ n ∧ n ≤ 64 ∧ s ≤ 64 - n)) :
    Calls Try.prog 34 #[.int .i64 s, .int .i64 n] w fun e w' => e = .returned (.bool false) ∧ w = w' := by
  rcases (show s < 0 ∨ (0 ≤ s ∧ n < 1) ∨ (0 ≤ s ∧ 1 ≤ n ∧ 64 < n) ∨ (0 ≤ s ∧ 1 ≤ n ∧ n ≤ 64 ∧ 64 - n < s) by omega) with h1 | ⟨h1, h2⟩ | ⟨h1, h2, h3⟩ | ⟨h1, h2, h3, h4⟩
  · clear h
    have d : decide (0 ≤ s) = false := by simp; omega
    go_enter Try.func34, Try.ntmps34
    go_wp2_with fail
    go_ret
    exact ⟨rfl, rfl⟩
  · clear h
    have d : decide (1 ≤ n) = false := by simp; omega
    go_enter Try.func34, Try.ntmps34
    go_wp2_with fail
    go_ret
    exact ⟨rfl, rfl⟩
  · clear h
    have d : decide (n ≤ 64) = false := by simp; omega
    go_enter Try.func34, Try.ntmps34
    go_wp2_with fail
    go_ret
    exact ⟨rfl, rfl⟩
  · clear h
    have d : decide (s ≤ 64 - n) = false := by simp; omega
    go_enter Try.func34, Try.ntmps34
    go_wp2_with fail
    go_ret
    exact ⟨rfl, rfl⟩

theorem rvalid_yes (s n : Nat) (w : World) (h0 : 1 ≤ n) (h : s + n ≤ 64) :
    Calls Try.prog 36 #[.int .i64 s, .int .i64 n] w fun e w' => e = .returned (.bool true) ∧ w = w' := by
  have d : decide ((n : Int) ≤ 64 - s) = true := by simp; omega
  go_enter Try.func36, Try.ntmps36
  go_wp2_with fail
  go_ret
  exact ⟨rfl, rfl⟩

theorem rvalid_no (s n : Int) (w : World) (h : ¬ (0 ≤ s ∧ 1 ≤ n ∧ n ≤ 64 ∧ s ≤ 64 - n)) :
    Calls Try.prog 36 #[.int .i64 s, .int .i64 n] w fun e w' => e = .returned (.bool false) ∧ w = w' := by
  rcases (show s < 0 ∨ (0 ≤ s ∧ n < 1) ∨ (0 ≤ s ∧ 1 ≤ n ∧ 63 < s) ∨ (0 ≤ s ∧ 1 ≤ n ∧ s ≤ 63 ∧ 64 - s < n) by omega) with h1 | ⟨h1, h2⟩ | ⟨h1, h2, h3⟩ | ⟨h1, h2, h3, h4⟩
  · clear h
    have d : decide (0 ≤ s) = false := by simp; omega
    go_enter Try.func36, Try.ntmps36
    go_wp2_with fail
    go_ret
    exact ⟨rfl, rfl⟩
  · clear h
    have d : decide (1 ≤ n) = false := by simp; omega
    go_enter Try.func36, Try.ntmps36
    go_wp2_with fail
    go_ret
    exact ⟨rfl, rfl⟩
  · clear h
    have d : decide (s ≤ 63) = false := by simp; omega
    go_enter Try.func36, Try.ntmps36
    go_wp2_with fail
    go_ret
    exact ⟨rfl, rfl⟩
  · clear h
    have d : decide (n ≤ 64 - s) = false := by simp; omega
    go_enter Try.func36, Try.ntmps36
    go_wp2_with fail
    go_ret
    exact ⟨rfl, rfl⟩

theorem bit_raw (x i : Nat) (hx : x < 18446744073709551616) : bits .and .u64 ((x : Int) / 2 ^ i) 1 = ((x / 2 ^ i % 2 : Nat) : Int) := by
  have e : ((x : Int) / 2 ^ i) = ((x / 2 ^ i : Nat) : Int) := by simp
  rw [e, show (1 : Int) = ((1 : Nat) : Int) from rfl, u64_and_nat _ _ (Nat.lt_of_le_of_lt (Nat.div_le_self _ _) hx) (by decide), nat_mask1]

theorem bit_any (x : Nat) (i : Int) (w : World) (hx : x < 18446744073709551616) (h0 : 0 ≤ i) (hi : i < 64) :
    Calls Try.prog 37 #[.int .u64 x, .int .i64 i] w fun e w' => e = .returned (.int .u64 ((x / 2 ^ i.toNat % 2 : Nat) : Int)) ∧ w = w' := by
  rw [← bit_raw x i.toNat hx]
  have x1 : (x : Int) ≤ 18446744073709551615 := by omega
  have HX := Lib.hid hx; clear hx
  go_enter Try.func37, Try.ntmps37
  go_wp2_with fail
  go_ret
  exact ⟨rfl, rfl⟩

theorem field_yes (x s n : Nat) (w : World) (hx : x < 18446744073709551616) (h0 : 1 ≤ n) (h : s + n ≤ 64) :
    Calls Try.prog 12 #[.int .u64 x, .int .i64 s, .int .i64 n] w fun e w' => e = .returned (.int .u64 ((fld x s n : Nat) : Int)) ∧ w = w' := by
  rw [← field_eq x s n hx (by omega)]
  have x1 : (x : Int) ≤ 18446744073709551615 := by omega
  have HX := Lib.hid hx; clear hx
  go_enter Try.func12, Try.ntmps12
  go_wp2_with fail
  refine (valid_yes s n _ h0 h).mono ?_
  rintro e w' ⟨rfl, rfl⟩
  go_wp2_with fail
  refine (mask_any n _ h0 (by omega)).mono ?_
  rintro e w' ⟨rfl, rfl⟩
  go_wp2_with fail
  go_ret
  exact ⟨rfl, rfl⟩

theorem field_no (x s n : Int) (w : World) (h : ¬ (0 ≤ s ∧ 1 ≤ n ∧ n ≤ 64 ∧ s ≤ 64 - n)) :
    Calls Try.prog 12 #[.int .u64 x, .int .i64 s, .int .i64 n] w fun e w' => e = .returned (.int .u64 0) ∧ w = w' := by
  have H := Lib.hid h; clear h
  go_enter Try.func12, Try.ntmps12
  go_wp2_with fail
  refine (valid_no s n _ H.out).mono ?_
  rintro e w' ⟨rfl, rfl⟩
  go_wp2_with fail
  go_ret
  exact ⟨rfl, rfl⟩

theorem setfield_yes (x s n v : Nat) (w : World) (hx : x < 18446744073709551616) (hv : v < 18446744073709551616) (h0 : 1 ≤ n) (h : s + n ≤ 64) :
    Calls Try.prog 14 #[.int .u64 x, .int .i64 s, .int .i64 n, .int .u64 v] w fun e w' => e = .returned (.int .u64 ((setf x s n v : Nat) : Int)) ∧ w = w' := by
  rw [← setfield_eq x s n v hx hv h]
  have x1 : (x : Int) ≤ 18446744073709551615 := by omega
  have v1 : (v : Int) ≤ 18446744073709551615 := by omega
  have HX := Lib.hid hx; have HV := Lib.hid hv; clear hx hv
  go_enter Try.func14, Try.ntmps14
  go_wp2_with fail
  refine (valid_yes s n _ h0 h).mono ?_
  rintro e w' ⟨rfl, rfl⟩
  go_wp2_with fail
  refine (mask_any n _ h0 (by omega)).mono ?_
  rintro e w' ⟨rfl, rfl⟩
  go_wp2_with fail
  go_ret
  exact ⟨rfl, rfl⟩

theorem setfield_no (x s n v : Int) (w : World) (h : ¬ (0 ≤ s ∧ 1 ≤ n ∧ n ≤ 64 ∧ s ≤ 64 - n)) :
    Calls Try.prog 14 #[.int .u64 x, .int .i64 s, .int .i64 n, .int .u64 v] w fun e w' => e = .returned (.int .u64 x) ∧ w = w' := by
  have H := Lib.hid h; clear h
  go_enter Try.func14, Try.ntmps14
  go_wp2_with fail
  refine (valid_no s n _ H.out).mono ?_
  rintro e w' ⟨rfl, rfl⟩
  go_wp2_with fail
  go_ret
  exact ⟨rfl, rfl⟩

theorem rfield_no (x s n : Int) (w : World) (h : ¬ (0 ≤ s ∧ 1 ≤ n ∧ n ≤ 64 ∧ s ≤ 64 - n)) :
    Calls Try.prog 13 #[.int .u64 x, .int .i64 s, .int .i64 n] w fun e w' => e = .returned (.int .u64 0) ∧ w = w' := by
  have H := Lib.hid h; clear h
  go_enter Try.func13, Try.ntmps13
  go_wp2_with fail
  refine (rvalid_no s n _ H.out).mono ?_
  rintro e w' ⟨rfl, rfl⟩
  go_wp2_with fail
  go_ret
  exact ⟨rfl, rfl⟩

theorem rfield_yes (x s n : Nat) (w : World) (hx : x < 18446744073709551616) (h0 : 1 ≤ n) (h : s + n ≤ 64) :
    Calls Try.prog 13 #[.int .u64 x, .int .i64 s, .int .i64 n] w fun e w' => e = .returned (.int .u64 ((fld x s n : Nat) : Int)) ∧ w = w' := by
  have HX := Lib.hid hx; clear hx
  go_enter Try.func13, Try.ntmps13
  go_wp2_with fail
  refine (rvalid_yes s n _ h0 h).mono ?_
  rintro e w' ⟨rfl, rfl⟩
  go_wp2_with fail
  go_loop [7, 8] (fun v i => ∃ j : Nat, j ≤ n ∧ v = .int .u64 ((fld x (s + j) (n - j) : Nat) : Int) ∧ i = .int .i64 ((j : Int) - 1)) (fun _ i => (intOf i + 1).toNat)
  case atStart => exact ⟨n, Nat.le_refl _, by simp [fld, Nat.mod_one], rfl⟩
  case round =>
    obtain ⟨j, hj, rfl, rfl⟩ := hrel
    cases j with
    | zero =>
      have d : decide ((0 : Int) ≤ ((0 : Nat) : Int) - 1) = false := by decide
      go_wp2_with fail
      go_ret
      exact ⟨rfl, rfl⟩
    | succ k =>
      have hs := fld_step x s n k (by omega)
      have hb : fld x (s + (k + 1)) (n - (k + 1)) ≤ 9223372036854775807 := by
        have h1 : fld x (s + (k + 1)) (n - (k + 1)) < 2 ^ (n - (k + 1)) := Nat.mod_lt _ (Nat.two_pow_pos _)
        have h2 : 2 ^ (n - (k + 1)) ≤ 2 ^ 63 := Nat.pow_le_pow_right (by decide) (by omega)
        omega
      obtain ⟨F, hF⟩ : ∃ F, F = fld x (s + (k + 1)) (n - (k + 1)) := ⟨_, rfl⟩
      rw [← hF] at hs hb ⊢
      have HS := Lib.hid hs; clear hs hF
      have hb' : (F : Int) ≤ 9223372036854775807 := by omega
      clear hb
      have e : (((k + 1 : Nat) : Int) - 1) = (k : Int) := by omega
      rw [e]; clear e
      go_wp2_with fail
      refine (bit_any x _ _ HX.out (by omega) (by omega)).mono ?_
      rintro e w' ⟨rfl, rfl⟩
      rw [show ((s : Int) + (k : Int)).toNat = s + k from by omega]
      have hbit : ((x / 2 ^ (s + k) % 2 : Nat) : Int) ≤ 1 := by omega
      obtain ⟨B, hB⟩ : ∃ B, B = x / 2 ^ (s + k) % 2 := ⟨_, rfl⟩
      rw [← hB] at hbit ⊢
      have HB := Lib.hid hB; clear hB
      go_wp2_with fail
      go_round
      case rel => exact ⟨k, by omega, by rw [HS.out, ← HB.out]; congr 1, rfl⟩
      case measure => simp [intOf]


theorem rsetfield_no (x s n v : Int) (w : World) (h : ¬ (0 ≤ s ∧ 1 ≤ n ∧ n ≤ 64 ∧ s ≤ 64 - n)) :
    Calls Try.prog 15 #[.int .u64 x, .int .i64 s, .int .i64 n, .int .u64 v] w fun e w' => e = .returned (.int .u64 x) ∧ w = w' := by
  have H := Lib.hid h; clear h
  go_enter Try.func15, Try.ntmps15
  go_wp2_with fail
  refine (rvalid_no s n _ H.out).mono ?_
  rintro e w' ⟨rfl, rfl⟩
  go_wp2_with fail
  go_ret
  exact ⟨rfl, rfl⟩

theorem rsetfield_yes (x s n v : Nat) (w : World) (hx : x < 18446744073709551616) (hv : v < 18446744073709551616) (h0 : 1 ≤ n) (h : s + n ≤ 64) :
    Calls Try.prog 15 #[.int .u64 x, .int .i64 s, .int .i64 n, .int .u64 v] w fun e w' => e = .returned (.int .u64 ((setf x s n v : Nat) : Int)) ∧ w = w' := by
  have HX := Lib.hid hx; have HV := Lib.hid hv; clear hx hv
  have HR : Hid (setf x s n v < 18446744073709551616) := Lib.hid (setf_lt x s n v h HX.out)
  have HBit : Hid (∀ i, setf x s n v / 2 ^ i % 2 = if s ≤ i ∧ i < s + n then v / 2 ^ (i - s) % 2 else x / 2 ^ i % 2) := Lib.hid (fun i => setf_bit x s n v i h HX.out)
  obtain ⟨R, hR⟩ : ∃ R, R = setf x s n v := ⟨_, rfl⟩
  rw [← hR] at HR HBit ⊢
  clear hR
  go_enter Try.func15, Try.ntmps15
  go_wp2_with fail
  refine (rvalid_yes s n _ h0 h).mono ?_
  rintro e w' ⟨rfl, rfl⟩
  go_wp2_with fail
  go_loop [9, 10] (fun o i => ∃ j : Nat, j ≤ 64 ∧ o = .int .u64 ((R / 2 ^ j : Nat) : Int) ∧ i = .int .i64 ((j : Int) - 1)) (fun _ i => (intOf i + 1).toNat)
  case atStart => exact ⟨64, Nat.le_refl _, by rw [Nat.div_eq_of_lt (show R < 2 ^ 64 from HR.out)]; rfl, rfl⟩
  case round =>
    obtain ⟨j, hj, rfl, rfl⟩ := hrel
    cases j with
    | zero =>
      have d : decide ((0 : Int) ≤ ((0 : Nat) : Int) - 1) = false := by decide
      go_wp2_with fail
      go_ret
      exact ⟨by simp, rfl⟩
    | succ k =>
      have hb : R / 2 ^ (k + 1) ≤ 9223372036854775807 := by
        have h1 : R / 2 ^ (k + 1) ≤ R / 2 ^ 1 := Nat.div_le_div_left (Nat.pow_le_pow_right (by decide) (by omega)) (by decide)
        have h2 := HR.out
        omega
      have hs := shift_step R k
      rw [HBit.out k] at hs
      obtain ⟨F, hF⟩ : ∃ F, F = R / 2 ^ (k + 1) := ⟨_, rfl⟩
      rw [← hF] at hs hb ⊢
      have hb' : (F : Int) ≤ 9223372036854775807 := by omega
      clear hb hF
      have e : (((k + 1 : Nat) : Int) - 1) = (k : Int) := by omega
      rw [e]; clear e
      by_cases hin : s ≤ k ∧ k < s + n
      · rw [if_pos hin] at hs
        have HS := Lib.hid hs; clear hs
        obtain ⟨i1, i2⟩ := hin
        have d1 : decide ((s : Int) ≤ k) = true := by simp; omega
        have d2 : decide ((k : Int) - s < n) = true := by simp; omega
        go_wp2_with fail
        refine (bit_any x _ _ HX.out (by omega) (by omega)).mono ?_
        rintro e w' ⟨rfl, rfl⟩
        have hbit0 : ((x / 2 ^ (k : Int).toNat % 2 : Nat) : Int) ≤ 1 := by omega
        generalize x / 2 ^ (k : Int).toNat % 2 = B0 at hbit0 ⊢
        go_wp2_with fail
        refine (bit_any v _ _ HV.out (by omega) (by omega)).mono ?_
        rintro e w' ⟨rfl, rfl⟩
        rw [show ((k : Int) - (s : Int)).toNat = k - s from by omega]
        have hbit : ((v / 2 ^ (k - s) % 2 : Nat) : Int) ≤ 1 := by omega
        obtain ⟨B, hB⟩ : ∃ B, B = v / 2 ^ (k - s) % 2 := ⟨_, rfl⟩
        rw [← hB] at hbit ⊢
        have HB := Lib.hid hB; clear hB
        go_wp2_with fail
        go_round
        case rel => exact ⟨k, by omega, by rw [HS.out, ← HB.out]; congr 1, rfl⟩
        case measure => simp [intOf]
      · rw [if_neg hin] at hs
        have HS := Lib.hid hs; clear hs
        have hout : k < s ∨ (s ≤ k ∧ s + n ≤ k) := by omega
        clear hin
        rcases hout with i1 | ⟨i1, i2⟩
        · have d1 : decide ((s : Int) ≤ k) = false := by simp; omega
          go_wp2_with fail
          refine (bit_any x _ _ HX.out (by omega) (by omega)).mono ?_
          rintro e w' ⟨rfl, rfl⟩
          rw [show ((k : Int)).toNat = k from by omega]
          have hbit : ((x / 2 ^ k % 2 : Nat) : Int) ≤ 1 := by omega
          obtain ⟨B, hB⟩ : ∃ B, B = x / 2 ^ k % 2 := ⟨_, rfl⟩
          rw [← hB] at hbit ⊢
          have HB := Lib.hid hB; clear hB
          go_wp2_with fail
          go_round
          case rel => exact ⟨k, by omega, by rw [HS.out, ← HB.out]; congr 1, rfl⟩
          case measure => simp [intOf]
        · have d1 : decide ((s : Int) ≤ k) = true := by simp; omega
          have d2 : decide ((k : Int) - s < n) = false := by simp; omega
          go_wp2_with fail
          refine (bit_any x _ _ HX.out (by omega) (by omega)).mono ?_
          rintro e w' ⟨rfl, rfl⟩
          rw [show ((k : Int)).toNat = k from by omega]
          have hbit : ((x / 2 ^ k % 2 : Nat) : Int) ≤ 1 := by omega
          obtain ⟨B, hB⟩ : ∃ B, B = x / 2 ^ k % 2 := ⟨_, rfl⟩
          rw [← hB] at hbit ⊢
          have HB := Lib.hid hB; clear hB
          go_wp2_with fail
          go_round
          case rel => exact ⟨k, by omega, by rw [HS.out, ← HB.out]; congr 1, rfl⟩
          case measure => simp [intOf]
end Go.Proofs.Ytfibemkgmkggpaa.Word
