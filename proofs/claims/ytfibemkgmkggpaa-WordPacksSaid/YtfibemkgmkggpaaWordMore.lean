/-
  AlignUp, Line, Span, Mix, Order, Unorder of the package word, and their references, each walked once.
-/
import Derived.Test.YtfibemkgmkggpaaWordWalks
namespace Go.Proofs.Ytfibemkgmkggpaa.Word
open Go.RowKit

theorem ret_pair {a b c d : Int} {k l : IntKind} (h : a = b) (h' : c = d) : Ending.returned (.tuple #[.int k a, .int l c]) = .returned (.tuple #[.int k b, .int l d]) := by rw [h, h']

theorem rones_any (x : Nat) (w : World) (hx : x < 18446744073709551616) :
    Calls Try.prog 38 #[.int .u64 x] w fun e w' => e = .returned (.int .i64 ((ones x 64 : Nat) : Int)) ∧ w = w' := by
  have HX := Lib.hid hx; clear hx
  go_enter Try.func38, Try.ntmps38
  go_wp2_with fail
  go_loop [3, 4] (fun n i => ∃ k : Nat, k ≤ 64 ∧ n = .int .i64 ((ones x k : Nat) : Int) ∧ i = .int .i64 k) (fun _ i => (64 - intOf i).toNat)
  case atStart => exact ⟨0, by omega, rfl, rfl⟩
  case round =>
    obtain ⟨k, hk, rfl, rfl⟩ := hrel
    by_cases hlt : k < 64
    · have hs : ones x (k + 1) = ones x k + x / 2 ^ k % 2 := rfl
      have hb := ones_le x k
      obtain ⟨F, hF⟩ : ∃ F, F = ones x k := ⟨_, rfl⟩
      rw [← hF] at hs hb ⊢
      have HS := Lib.hid hs; clear hs hF
      have hb' : (F : Int) ≤ 64 := by omega
      clear hb
      go_wp2_with fail
      refine (bit_any x _ _ HX.out (by omega) (by omega)).mono ?_
      rintro e w' ⟨rfl, rfl⟩
      rw [show ((k : Int)).toNat = k from by omega]
      have hbit : ((x / 2 ^ k % 2 : Nat) : Int) ≤ 1 := by omega
      obtain ⟨B, hB⟩ : ∃ B, B = x / 2 ^ k % 2 := ⟨_, rfl⟩
      rw [← hB] at hbit ⊢
      have HB := Lib.hid hB; clear hB
      go_wp2_with fail
      go_round
      case rel => exact ⟨k + 1, by omega, by rw [HS.out, ← HB.out]; congr 1, by go_num⟩
      case measure => simp [intOf]; omega
    · obtain rfl : k = 64 := by omega
      go_wp2_with fail
      go_ret
      exact ⟨rfl, rfl⟩

/-! ### AlignUp -/
/-- The smallest multiple of a that is not less than x, and the error's number. -/
def aln (x a : Nat) : Nat × Nat := if ¬ (a ≠ 0 ∧ a &&& (a - 1) = 0) then (0, 1) else if x % a = 0 then (x, 0) else if 18446744073709551615 - a < x - x % a then (0, 2) else (x - x % a + a, 0)

theorem and_raw (x a : Nat) (hx : x < 18446744073709551616) (h0 : 1 ≤ a) (ha : a < 18446744073709551616) : bits .and .u64 (x : Int) ((a : Int) - 1) = ((x &&& (a - 1) : Nat) : Int) := by
  rw [show ((a : Int) - 1) = ((a - 1 : Nat) : Int) from by omega]
  exact u64_and_nat _ _ hx (by omega)
theorem or_raw (x a : Nat) (hx : x < 18446744073709551616) (h0 : 1 ≤ a) (ha : a < 18446744073709551616) : bits .or .u64 (x : Int) ((a : Int) - 1) = ((x ||| (a - 1) : Nat) : Int) := by
  rw [show ((a : Int) - 1) = ((a - 1 : Nat) : Int) from by omega]
  exact u64_or_nat _ _ hx (by omega)
theorem or_low (x j : Nat) : x ||| (2 ^ j - 1) = x - x % 2 ^ j + (2 ^ j - 1) := by
  have h1 := nat_join j (x - x % 2 ^ j) (2 ^ j - 1) (by
    have := Nat.div_add_mod x (2 ^ j)
    rw [show x - x % 2 ^ j = 2 ^ j * (x / 2 ^ j) from by omega]
    exact Nat.mul_mod_right _ _) (by have := Nat.two_pow_pos j; omega)
  rw [← h1]
  apply Nat.eq_of_testBit_eq
  intro i
  rw [Nat.testBit_or, Nat.testBit_or, Nat.testBit_two_pow_sub_one]
  by_cases hi : i < j
  · simp [hi]
  · simp [hi]
    have : x - x % 2 ^ j = 2 ^ j * (x / 2 ^ j) := by have := Nat.div_add_mod x (2 ^ j); omega
    rw [this, Nat.testBit_two_pow_mul, Nat.testBit_div_two_pow]
    simp [show j ≤ i by omega]

theorem align_any (x a : Nat) (w : World) (hx : x < 18446744073709551616) (ha : a < 18446744073709551616) :
    Calls Try.prog 16 #[.int .u64 x, .int .u64 a] w fun e w' => e = .returned (.tuple #[.int .u64 ((aln x a).1 : Nat), .int .i64 ((aln x a).2 : Nat)]) ∧ w = w' := by
  have x1 : (x : Int) ≤ 18446744073709551615 := by omega
  have a1 : (a : Int) ≤ 18446744073709551615 := by omega
  by_cases h0 : a = 0
  · subst h0
    rw [show aln x 0 = (0, 1) from rfl]
    clear ha hx
    go_enter Try.func16, Try.ntmps16
    go_wp2_with fail
    go_ret2
    exact ⟨rfl, rfl⟩
  · have r1 := and_raw a a ha (by omega) ha
    have n0 : ((a : Int) == 0) = false := by simp; omega
    have a0 : (1 : Int) ≤ a := by omega
    by_cases hp : a &&& (a - 1) = 0
    · have r2 := and_raw x a hx (by omega) ha
      have r3 := or_raw x a hx (by omega) ha
      obtain ⟨j, rfl⟩ := pow_of_pred a 64 ha h0 hp
      rw [hp] at r1
      rw [Nat.and_two_pow_sub_one_eq_mod] at r2
      rw [or_low] at r3
      have hbase : aln x (2 ^ j) = if x % 2 ^ j = 0 then (x, 0) else if 18446744073709551615 - 2 ^ j < x - x % 2 ^ j then (0, 2) else (x - x % 2 ^ j + 2 ^ j, 0) := by unfold aln; rw [if_neg (by simp [hp])]
      have hor : x ||| (2 ^ j - 1) < 18446744073709551616 := Nat.or_lt_two_pow (n := 64) hx (by omega)
      rw [or_low] at hor
      have hml : x % 2 ^ j ≤ x := Nat.mod_le _ _
      obtain ⟨A, hA⟩ : ∃ A, A = 2 ^ j := ⟨_, rfl⟩
      rw [← hA] at a1 h0 r1 n0 a0 hp r2 r3 hbase hor hml ha ⊢
      obtain ⟨m, hm⟩ : ∃ m, m = x % A := ⟨_, rfl⟩
      rw [← hm] at r2 r3 hbase hor hml
      by_cases hz : m = 0
      · rw [if_pos hz] at hbase
        rw [hbase]
        rw [hz] at r2
        clear hbase hor hml r3 hx ha hp hm hA h0
        go_enter Try.func16, Try.ntmps16
        go_wp2_with fail
        go_ret2
        exact ⟨rfl, rfl⟩
      · rw [if_neg hz] at hbase
        have m0 : ((m : Int) == 0) = false := by simp; omega
        by_cases hr : 18446744073709551615 - A < x - m
        · rw [if_pos hr] at hbase
          rw [hbase]
          have hlast : x - m + (A - 1) = 18446744073709551615 := by omega
          rw [hlast] at r3
          clear hbase hor hml hx ha hp hm hA h0 hlast hr hz
          go_enter Try.func16, Try.ntmps16
          go_wp2_with fail
          go_ret2
          exact ⟨rfl, rfl⟩
        · rw [if_neg hr] at hbase
          rw [hbase]
          obtain ⟨L, hL⟩ : ∃ L, L = x - m + (A - 1) := ⟨_, rfl⟩
          rw [← hL] at r3
          have hL2 : (L : Int) ≤ 18446744073709551614 := by omega
          have hL3 : Hid ((L : Int) + 1 = ((x - m + A : Nat) : Int)) := Lib.hid (by omega)
          have n2 : ((L : Int) == 18446744073709551615) = false := by simp; omega
          clear hbase hor hml hx ha hp hm hA h0 hr hz hL
          go_enter Try.func16, Try.ntmps16
          go_wp2_with fail
          go_ret2
          exact ⟨ret_pair hL3.out rfl, rfl⟩
    · have hbase : aln x a = (0, 1) := by unfold aln; rw [if_pos (by simp [hp])]
      rw [hbase]
      obtain ⟨P, hP⟩ : ∃ P, P = a &&& (a - 1) := ⟨_, rfl⟩
      rw [← hP] at r1 hp
      have n1 : ((P : Int) != 0) = true := by simp; omega
      clear hbase hP hx ha h0 hp
      go_enter Try.func16, Try.ntmps16
      go_wp2_with fail
      go_ret2
      exact ⟨rfl, rfl⟩

theorem ralign_any (x a : Nat) (w : World) (hx : x < 18446744073709551616) (ha : a < 18446744073709551616) :
    Calls Try.prog 17 #[.int .u64 x, .int .u64 a] w fun e w' => e = .returned (.tuple #[.int .u64 ((aln x a).1 : Nat), .int .i64 ((aln x a).2 : Nat)]) ∧ w = w' := by
  have x1 : (x : Int) ≤ 18446744073709551615 := by omega
  have a1 : (a : Int) ≤ 18446744073709551615 := by omega
  have HA := Lib.hid ha
  have ho := ones_one a ha
  have hol := ones_le a 64
  obtain ⟨O, hO⟩ : ∃ O, O = ones a 64 := ⟨_, rfl⟩
  rw [← hO] at ho hol
  have HO := Lib.hid hO; clear hO
  by_cases h1 : O = 1
  · have hp := ho.1 h1
    subst h1
    have hbase : aln x a = if x % a = 0 then (x, 0) else if 18446744073709551615 - a < x - x % a then (0, 2) else (x - x % a + a, 0) := by unfold aln; rw [if_neg (by simpa using hp)]
    have a0 : (1 : Int) ≤ a := by omega
    have hml : x % a ≤ x := Nat.mod_le _ _
    have hma : x % a < a := Nat.mod_lt _ (by omega)
    have hcast : (x : Int) % (a : Int) = ((x % a : Nat) : Int) := by simp
    obtain ⟨m, hm⟩ : ∃ m, m = x % a := ⟨_, rfl⟩
    rw [← hm] at hbase hml hma hcast
    clear ho hol hm hp
    by_cases hz : m = 0
    · rw [if_pos hz] at hbase
      rw [hbase]
      subst hz
      clear hbase hml hma hx ha
      go_enter Try.func17, Try.ntmps17
      go_wp2_with fail
      refine (rones_any a _ HA.out).mono ?_
      rintro e w' ⟨rfl, rfl⟩
      rw [← HO.out]
      go_wp2_with fail
      go_ret2
      exact ⟨rfl, rfl⟩
    · rw [if_neg hz] at hbase
      have m0 : ((m : Int) == 0) = false := by simp; omega
      by_cases hr : 18446744073709551615 - a < x - m
      · rw [if_pos hr] at hbase
        rw [hbase]
        have d : decide (18446744073709551615 - (a : Int) < (x : Int) - (m : Int)) = true := by simp; omega
        clear hbase hma hx ha hr hz
        go_enter Try.func17, Try.ntmps17
        go_wp2_with fail
        refine (rones_any a _ HA.out).mono ?_
        rintro e w' ⟨rfl, rfl⟩
        rw [← HO.out]
        go_wp2_with fail
        go_ret2
        exact ⟨rfl, rfl⟩
      · rw [if_neg hr] at hbase
        rw [hbase]
        have d : decide (18446744073709551615 - (a : Int) < (x : Int) - (m : Int)) = false := by simp; omega
        have hf : Hid ((x : Int) - m + a = ((x - m + a : Nat) : Int)) := Lib.hid (by omega)
        have hs : (x : Int) - m + a ≤ 18446744073709551615 := by omega
        clear hbase hma hx ha hr hz
        go_enter Try.func17, Try.ntmps17
        go_wp2_with fail
        refine (rones_any a _ HA.out).mono ?_
        rintro e w' ⟨rfl, rfl⟩
        rw [← HO.out]
        go_wp2_with fail
        go_ret2
        exact ⟨ret_pair hf.out rfl, rfl⟩
  · have hbase : aln x a = (0, 1) := by unfold aln; rw [if_pos (fun h => h1 (ho.2 h))]
    rw [hbase]
    have n1 : ((O : Int) != 1) = true := by simp; omega
    clear hbase ho h1 hx ha
    go_enter Try.func17, Try.ntmps17
    go_wp2_with fail
    refine (rones_any a _ HA.out).mono ?_
    rintro e w' ⟨rfl, rfl⟩
    rw [← HO.out]
    go_wp2_with fail
    go_ret2
    exact ⟨rfl, rfl⟩
end Go.Proofs.Ytfibemkgmkggpaa.Word
