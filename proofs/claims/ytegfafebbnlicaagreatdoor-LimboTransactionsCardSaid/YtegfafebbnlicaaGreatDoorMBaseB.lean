/-
  Plain arithmetic for chapter 01: fields of words, popcount, alignment, the xor with the top bit, the mixing function. No program in sight.
  Plain arithmetic for Pack and Unpack: words out of bytes and back. No program in sight.
-/
import Derived.Laws.BitsAllLaws
import Derived.Lib.Hide
namespace Go.Proofs.YtegfafebbnlicaaGreatDoor.Word

/-! ### bits of natural numbers -/
theorem bit_eq (x i : Nat) : x / 2 ^ i % 2 = (x.testBit i).toNat := by
  rw [Nat.testBit_eq_decide_div_mod_eq]
  rcases Nat.mod_two_eq_zero_or_one (x / 2 ^ i) with h | h <;> simp [h]

theorem eq_of_bits {x y : Nat} (h : ∀ i, x / 2 ^ i % 2 = y / 2 ^ i % 2) : x = y := by
  apply Nat.eq_of_testBit_eq
  intro i
  have := h i
  rw [bit_eq, bit_eq] at this
  cases hx : x.testBit i <;> cases hy : y.testBit i <;> simp_all

theorem bit_high {x i n : Nat} (h : x < 2 ^ n) (hi : n ≤ i) : x / 2 ^ i % 2 = 0 := by
  rw [Nat.div_eq_of_lt (Nat.lt_of_lt_of_le h (Nat.pow_le_pow_right (by decide) hi))]

/-- A number's upper part, one bit further. -/
theorem shift_step (R i : Nat) : R / 2 ^ i = 2 * (R / 2 ^ (i + 1)) + R / 2 ^ i % 2 := by
  rw [Nat.pow_succ, ← Nat.div_div_eq_div_mul]
  omega

/-! ### fields -/
/-- The field of n bits at s. -/
def fld (x s n : Nat) : Nat := x / 2 ^ s % 2 ^ n
/-- x with that field replaced by the lowest n bits of v. -/
def setf (x s n v : Nat) : Nat := (x &&& (18446744073709551615 - (2 ^ n - 1) * 2 ^ s)) ||| (v % 2 ^ n) * 2 ^ s

theorem fld_bit (x s n i : Nat) : fld x s n / 2 ^ i % 2 = if i < n then x / 2 ^ (s + i) % 2 else 0 := by
  unfold fld
  rw [bit_eq, bit_eq, Nat.testBit_mod_two_pow, Nat.testBit_div_two_pow, Nat.add_comm]
  by_cases h : i < n
  · rw [if_pos h]; simp [h]
  · rw [if_neg h]; simp [h]

theorem setf_bit (x s n v i : Nat) (h : s + n ≤ 64) (hx : x < 18446744073709551616) : setf x s n v / 2 ^ i % 2 = if s ≤ i ∧ i < s + n then v / 2 ^ (i - s) % 2 else x / 2 ^ i % 2 := by
  unfold setf
  rw [bit_eq, bit_eq, bit_eq, Nat.testBit_or, Nat.testBit_and]
  have e : (18446744073709551615 - (2 ^ n - 1) * 2 ^ s).testBit i = (decide (i < 64) && !(decide (s ≤ i) && decide (i - s < n))) := by
    have hlt : (2 ^ n - 1) * 2 ^ s < 2 ^ 64 := by
      have h1 : (2 ^ n - 1) * 2 ^ s < 2 ^ n * 2 ^ s := Nat.mul_lt_mul_of_pos_right (by have := Nat.two_pow_pos n; omega) (Nat.two_pow_pos s)
      rw [← Nat.pow_add] at h1
      exact Nat.lt_of_lt_of_le h1 (Nat.pow_le_pow_right (by decide) (by omega))
    have : 18446744073709551615 - (2 ^ n - 1) * 2 ^ s = 2 ^ 64 - ((2 ^ n - 1) * 2 ^ s + 1) := by omega
    rw [this, Nat.testBit_two_pow_sub_succ hlt, Nat.mul_comm, Nat.testBit_two_pow_mul, Nat.testBit_two_pow_sub_one]
  rw [e, Nat.mul_comm (v % 2 ^ n), Nat.testBit_two_pow_mul, Nat.testBit_mod_two_pow]
  by_cases hi : i < 64
  · by_cases h1 : s ≤ i
    · by_cases h2 : i - s < n
      · rw [if_pos ⟨h1, by omega⟩]; simp [hi, h1, h2]
      · rw [if_neg (by omega)]; simp [hi, h1, h2]
    · rw [if_neg (by omega)]; simp [hi, h1]
  · rw [if_neg (by omega)]
    have hb : x.testBit i = false := Nat.testBit_lt_two_pow (Nat.lt_of_lt_of_le (show x < 2 ^ 64 from hx) (Nat.pow_le_pow_right (by decide) (by omega)))
    have h2 : ¬ i - s < n := by omega
    simp [hi, h2, hb]

theorem setf_lt (x s n v : Nat) (h : s + n ≤ 64) (hx : x < 18446744073709551616) : setf x s n v < 18446744073709551616 := by
  unfold setf
  have h1 : (v % 2 ^ n) * 2 ^ s < 2 ^ 64 := by
    have h1 : (v % 2 ^ n) * 2 ^ s < 2 ^ n * 2 ^ s := Nat.mul_lt_mul_of_pos_right (Nat.mod_lt _ (Nat.two_pow_pos n)) (Nat.two_pow_pos s)
    rw [← Nat.pow_add] at h1
    exact Nat.lt_of_lt_of_le h1 (Nat.pow_le_pow_right (by decide) (by omega))
  exact Nat.or_lt_two_pow (n := 64) (Nat.lt_of_le_of_lt Nat.and_le_left hx) h1

theorem fld_setf (x s n v : Nat) (h : s + n ≤ 64) (hx : x < 18446744073709551616) : fld (setf x s n v) s n = v % 2 ^ n := by
  apply eq_of_bits
  intro i
  rw [fld_bit, setf_bit _ _ _ _ _ h hx]
  have e : v % 2 ^ n = fld v 0 n := by simp [fld]
  rw [e, fld_bit]
  by_cases hi : i < n
  · rw [if_pos hi, if_pos hi, if_pos (by omega)]
    congr 2; congr 1; omega
  · rw [if_neg hi, if_neg hi]

theorem setf_setf (x s n v : Nat) (h : s + n ≤ 64) (hx : x < 18446744073709551616) : setf (setf x s n v) s n (fld x s n) = x := by
  apply eq_of_bits
  intro i
  rw [setf_bit _ _ _ _ _ h (setf_lt x s n v h hx), setf_bit _ _ _ _ _ h hx]
  by_cases hi : s ≤ i ∧ i < s + n
  · rw [if_pos hi, fld_bit, if_pos (by omega)]
    congr 2; congr 1; omega
  · rw [if_neg hi, if_neg hi]

theorem fld_other (x s n v o : Nat) (h : s + n ≤ 64) (hx : x < 18446744073709551616) (ho : ¬ (s ≤ o ∧ o < s + n)) : fld (setf x s n v) o 1 = fld x o 1 := by
  unfold fld
  rw [Nat.pow_one, setf_bit _ _ _ _ _ h hx, if_neg ho]

theorem fld_lt (x s n : Nat) (hx : x < 18446744073709551616) : fld x s n < 18446744073709551616 :=
  Nat.lt_of_le_of_lt (Nat.le_trans (Nat.mod_le _ _) (Nat.div_le_self _ _)) hx

/-- The mask of n bits, as the program makes it. -/
theorem mask_eq (n : Nat) (h : n ≤ 64) : (18446744073709551615 : Int) / 2 ^ (64 - n) = ((2 ^ n - 1 : Nat) : Int) := by
  have e : (18446744073709551615 : Int) / 2 ^ (64 - n) = ((18446744073709551615 / 2 ^ (64 - n) : Nat) : Int) := by simp
  rw [e]
  congr 1
  have hp : 2 ^ 64 = 2 ^ n * 2 ^ (64 - n) := by rw [← Nat.pow_add]; congr 1; omega
  have h1 : 18446744073709551615 = 2 ^ n * 2 ^ (64 - n) - 1 := by rw [← hp]
  rw [h1]
  have hq := Nat.two_pow_pos (64 - n)
  have hn := Nat.two_pow_pos n
  rw [show 2 ^ n * 2 ^ (64 - n) - 1 = (2 ^ (64 - n) - 1) + (2 ^ n - 1) * 2 ^ (64 - n) from by rw [Nat.sub_mul]; have := Nat.le_mul_of_pos_left (2 ^ (64 - n)) hn; omega]
  rw [Nat.add_mul_div_right _ _ hq, Nat.div_eq_of_lt (by omega)]
  omega

theorem field_eq (x s n : Nat) (hx : x < 18446744073709551616) (hn : n ≤ 64) :
    bits .and .u64 ((x : Int) / 2 ^ s) ((2 ^ n - 1 : Nat) : Int) = ((fld x s n : Nat) : Int) := by
  have e : ((x : Int) / 2 ^ s) = ((x / 2 ^ s : Nat) : Int) := by simp
  have hm : 2 ^ n - 1 < 18446744073709551616 := by
    have : 2 ^ n ≤ 2 ^ 64 := Nat.pow_le_pow_right (by decide) hn
    omega
  rw [e, u64_and_nat _ _ (Nat.lt_of_le_of_lt (Nat.div_le_self _ _) hx) hm, Nat.and_two_pow_sub_one_eq_mod]
  rfl

theorem setfield_eq (x s n v : Nat) (hx : x < 18446744073709551616) (hv : v < 18446744073709551616) (h : s + n ≤ 64) :
    bits .or .u64 (bits .andNot .u64 (x : Int) (IntKind.u64.wrap (((2 ^ n - 1 : Nat) : Int) * 2 ^ s))) (IntKind.u64.wrap (bits .and .u64 (v : Int) ((2 ^ n - 1 : Nat) : Int) * 2 ^ s)) = ((setf x s n v : Nat) : Int) := by
  have hm : 2 ^ n - 1 < 18446744073709551616 := by
    have : 2 ^ n ≤ 2 ^ 64 := Nat.pow_le_pow_right (by decide) (show n ≤ 64 by omega)
    omega
  have hb : ∀ k, k < 2 ^ n → k * 2 ^ s < 18446744073709551616 := fun k hk => by
    have h1 : k * 2 ^ s < 2 ^ n * 2 ^ s := Nat.mul_lt_mul_of_pos_right hk (Nat.two_pow_pos s)
    rw [← Nat.pow_add] at h1
    exact Nat.lt_of_lt_of_le h1 (Nat.pow_le_pow_right (n := 2) (j := 64) (by decide) (by omega))
  have h1 := hb (2 ^ n - 1) (by have := Nat.two_pow_pos n; omega)
  have h2 := hb (v % 2 ^ n) (Nat.mod_lt _ (Nat.two_pow_pos n))
  have e1 : IntKind.u64.wrap (((2 ^ n - 1 : Nat) : Int) * 2 ^ s) = (((2 ^ n - 1) * 2 ^ s : Nat) : Int) := by
    rw [IntKind.wrap_u64, Int.natCast_mul, Int.natCast_pow]
    have : ((2 ^ n - 1 : Nat) : Int) * ((2 : Nat) : Int) ^ s = (((2 ^ n - 1) * 2 ^ s : Nat) : Int) := by rw [Int.natCast_mul, Int.natCast_pow]
    rw [show ((2 : Nat) : Int) = (2 : Int) from rfl] at *
    rw [this]
    omega
  have e2 : IntKind.u64.wrap (((v % 2 ^ n : Nat) : Int) * 2 ^ s) = (((v % 2 ^ n) * 2 ^ s : Nat) : Int) := by
    rw [IntKind.wrap_u64]
    have : ((v % 2 ^ n : Nat) : Int) * (2 : Int) ^ s = (((v % 2 ^ n) * 2 ^ s : Nat) : Int) := by rw [Int.natCast_mul, Int.natCast_pow]; rfl
    rw [this]
    omega
  rw [u64_and_nat _ _ hv hm, Nat.and_two_pow_sub_one_eq_mod, e1, e2, u64_andNot_nat _ _ hx h1, u64_or_nat _ _ (Nat.lt_of_le_of_lt Nat.and_le_left hx) h2]
  rfl

/-! ### the reference's loops -/
theorem fld_step (x s n j : Nat) (hj : j < n) : fld x (s + j) (n - j) = 2 * fld x (s + (j + 1)) (n - (j + 1)) + x / 2 ^ (s + j) % 2 := by
  unfold fld
  have e : n - j = (n - (j + 1)) + 1 := by omega
  rw [e, ← Nat.add_assoc s j 1, Nat.pow_succ 2 (s + j), ← Nat.div_div_eq_div_mul]
  generalize x / 2 ^ (s + j) = y
  rw [Nat.pow_succ, Nat.mul_comm, Nat.mod_mul]
  omega

/-! ### popcount -/
def pop : Nat → Nat → Nat
  | 0, _ => 0
  | n + 1, x => x % 2 + pop n (x / 2)

/-- The number of bits set among the first k. -/
def ones (x : Nat) : Nat → Nat
  | 0 => 0
  | k + 1 => ones x k + x / 2 ^ k % 2

theorem ones_le (x k : Nat) : ones x k ≤ k := by
  induction k with
  | zero => simp [ones]
  | succ k ih => simp only [ones]; omega

theorem ones_half (x k : Nat) : ones x (k + 1) = x % 2 + ones (x / 2) k := by
  induction k with
  | zero => simp [ones]
  | succ k ih =>
    rw [ones, ih, ones, Nat.div_div_eq_div_mul, ← Nat.pow_succ', Nat.succ_eq_add_one, Nat.add_assoc]

theorem ones_zero (k : Nat) : ones 0 k = 0 := by
  induction k with
  | zero => rfl
  | succ k ih => simp [ones, ih]

theorem and_pred_odd (b : Nat) : (2 * b + 1) &&& (2 * b + 1 - 1) = 2 * b := by
  apply eq_of_bits
  intro i
  rw [bit_eq, bit_eq, Nat.testBit_and, Nat.add_sub_cancel]
  cases i with
  | zero => simp
  | succ i => rw [Nat.testBit_succ, Nat.testBit_succ, show (2 * b + 1) / 2 = b from by omega, show 2 * b / 2 = b from by omega, Bool.and_self]

theorem and_pred_even (b : Nat) (hb : 0 < b) : (2 * b) &&& (2 * b - 1) = 2 * (b &&& (b - 1)) := by
  apply Nat.eq_of_testBit_eq
  intro i
  rw [Nat.testBit_and]
  cases i with
  | zero => simp
  | succ i => rw [Nat.testBit_succ, Nat.testBit_succ, Nat.testBit_succ, show (2 * b - 1) / 2 = b - 1 from by omega, show 2 * b / 2 = b from by omega, show 2 * (b &&& (b - 1)) / 2 = b &&& (b - 1) from by omega, Nat.testBit_and]

/-- x & (x - 1) has one bit less. -/
theorem ones_pred (k x : Nat) (h0 : 0 < x) (h : x < 2 ^ k) : ones (x &&& (x - 1)) k + 1 = ones x k := by
  induction k generalizing x with
  | zero => simp at h; omega
  | succ k ih =>
    rw [ones_half, ones_half]
    by_cases hp : x % 2 = 1
    · obtain ⟨b, rfl⟩ : ∃ b, x = 2 * b + 1 := ⟨x / 2, by omega⟩
      rw [and_pred_odd, show 2 * b % 2 = 0 by omega, show (2 * b + 1) % 2 = 1 by omega, show 2 * b / 2 = b by omega, show (2 * b + 1) / 2 = b by omega]
      omega
    · obtain ⟨b, rfl⟩ : ∃ b, x = 2 * b := ⟨x / 2, by omega⟩
      have hb : 0 < b := by omega
      have hk : b < 2 ^ k := by rw [Nat.pow_succ] at h; omega
      rw [and_pred_even b hb, show 2 * (b &&& (b - 1)) % 2 = 0 by omega, show 2 * (b &&& (b - 1)) / 2 = b &&& (b - 1) by omega, show 2 * b / 2 = b by omega, show 2 * b % 2 = 0 by omega]
      have := ih b hb hk
      omega

theorem ones_pos (k x : Nat) (h0 : 0 < x) (h : x < 2 ^ k) : 0 < ones x k := by
  have := ones_pred k x h0 h
  omega

theorem ones_eq_zero (k x : Nat) (h : x < 2 ^ k) : ones x k = 0 ↔ x = 0 := by
  constructor
  · intro e
    by_cases hx : 0 < x
    · have := ones_pos k x hx h; omega
    · omega
  · rintro rfl; exact ones_zero k

theorem ones_one (a : Nat) (h : a < 18446744073709551616) : ones a 64 = 1 ↔ a ≠ 0 ∧ a &&& (a - 1) = 0 := by
  have h' : a < 2 ^ 64 := h
  constructor
  · intro e
    have ha : 0 < a := by
      by_cases hx : 0 < a
      · exact hx
      · obtain rfl : a = 0 := by omega
        rw [ones_zero] at e; omega
    have hp := ones_pred 64 a ha h'
    refine ⟨by omega, ?_⟩
    exact (ones_eq_zero 64 _ (Nat.lt_of_le_of_lt Nat.and_le_left h')).1 (by omega)
  · rintro ⟨h0, h1⟩
    have hp := ones_pred 64 a (by omega) h'
    rw [h1, ones_zero] at hp
    omega

/-- A number with one bit set is a power of two. -/
theorem pow_of_pred (a : Nat) (k : Nat) (h : a < 2 ^ k) (h0 : a ≠ 0) (h1 : a &&& (a - 1) = 0) : ∃ j, a = 2 ^ j := by
  induction k generalizing a with
  | zero => simp at h; omega
  | succ k ih =>
    by_cases hp : a % 2 = 1
    · obtain ⟨b, rfl⟩ : ∃ b, a = 2 * b + 1 := ⟨a / 2, by omega⟩
      rw [and_pred_odd] at h1
      exact ⟨0, by omega⟩
    · obtain ⟨b, rfl⟩ : ∃ b, a = 2 * b := ⟨a / 2, by omega⟩
      rw [and_pred_even b (by omega)] at h1
      obtain ⟨j, hj⟩ := ih b (by rw [Nat.pow_succ] at h; omega) (by omega) (by omega)
      exact ⟨j + 1, by rw [Nat.pow_succ]; omega⟩

/-! ### the top bit -/
theorem xor_top (a : Nat) (h : a < 18446744073709551616) : a ^^^ 9223372036854775808 = (a + 9223372036854775808) % 18446744073709551616 := by
  have hd : (a ^^^ 9223372036854775808) / 2 ^ 63 = (a / 2 ^ 63) ^^^ 1 := by rw [Nat.xor_div_two_pow]
  have hm : (a ^^^ 9223372036854775808) % 2 ^ 63 = a % 2 ^ 63 := by rw [Nat.xor_mod_two_pow]; simp
  have hq : a / 2 ^ 63 = 0 ∨ a / 2 ^ 63 = 1 := by omega
  have h1 := Nat.div_add_mod (a ^^^ 9223372036854775808) (2 ^ 63)
  have h2 := Nat.div_add_mod a (2 ^ 63)
  rw [hd, hm] at h1
  rcases hq with hq | hq
  · rw [hq] at h1 h2
    rw [show (0 : Nat) ^^^ 1 = 1 from rfl] at h1
    omega
  · rw [hq] at h1 h2
    rw [show (1 : Nat) ^^^ 1 = 0 from rfl] at h1
    omega

/-! ### the mixing function -/
def xs (x s : Nat) : Nat := x ^^^ x / 2 ^ s
theorem xs_lt (x s : Nat) (h : x < 18446744073709551616) : xs x s < 18446744073709551616 :=
  Nat.xor_lt_two_pow (n := 64) h (Nat.lt_of_le_of_lt (Nat.div_le_self _ _) h)
theorem xs_inv (x s : Nat) (h : x < 18446744073709551616) (hs : 64 ≤ s + s + s) : xs x s ^^^ xs x s / 2 ^ s ^^^ xs x s / 2 ^ (s + s) = x := by
  unfold xs
  rw [Nat.xor_div_two_pow, Nat.xor_div_two_pow, Nat.div_div_eq_div_mul, ← Nat.pow_add, Nat.div_div_eq_div_mul, ← Nat.pow_add]
  have hz : x / 2 ^ (s + (s + s)) = 0 := Nat.div_eq_of_lt (Nat.lt_of_lt_of_le (show x < 2 ^ 64 from h) (Nat.pow_le_pow_right (by decide) (by omega)))
  rw [hz, Nat.xor_zero]
  generalize x / 2 ^ s = b
  generalize x / 2 ^ (s + s) = c
  rw [Nat.xor_assoc x b, ← Nat.xor_assoc b b c, Nat.xor_self, Nat.zero_xor, Nat.xor_assoc, Nat.xor_self, Nat.xor_zero]
theorem xs_inj (x y s : Nat) (hx : x < 18446744073709551616) (hy : y < 18446744073709551616) (hs : 64 ≤ s + s + s) (h : xs x s = xs y s) : x = y := by
  rw [← xs_inv x s hx hs, ← xs_inv y s hy hs, h]
theorem mul_inj (a b C D : Nat) (ha : a < 18446744073709551616) (hb : b < 18446744073709551616) (hC : C * D % 18446744073709551616 = 1) (h : a * C % 18446744073709551616 = b * C % 18446744073709551616) : a = b := by
  have key : ∀ z, z < 18446744073709551616 → z * C % 18446744073709551616 * D % 18446744073709551616 = z := fun z hz => by
    rw [Nat.mod_mul_mod, Nat.mul_assoc, Nat.mul_mod, hC, Nat.mul_one, Nat.mod_mod, Nat.mod_eq_of_lt hz]
  rw [← key a ha, ← key b hb, h]
def mix (x : Nat) : Nat := xs (xs (xs x 30 * 13787848793156543929 % 18446744073709551616) 27 * 10723151780598845931 % 18446744073709551616) 31
theorem mix_inj (x y : Nat) (hx : x < 18446744073709551616) (hy : y < 18446744073709551616) (h : mix x = mix y) : x = y := by
  unfold mix at h
  have m : ∀ z : Nat, z % 18446744073709551616 < 18446744073709551616 := fun z => Nat.mod_lt _ (by decide)
  have h1 := xs_inj _ _ 31 (m _) (m _) (by decide) h
  have h2 := mul_inj _ _ 10723151780598845931 3573116690164977347 (xs_lt _ _ (m _)) (xs_lt _ _ (m _)) (by decide) h1
  have h3 := xs_inj _ _ 27 (m _) (m _) (by decide) h2
  have h4 := mul_inj _ _ 13787848793156543929 10871156337175269513 (xs_lt _ _ hx) (xs_lt _ _ hy) (by decide) h3
  exact xs_inj _ _ 30 hx hy (by decide) h4
theorem step_eq (x s d C : Nat) (hd : 2 ^ s = d) (hx : x < 18446744073709551616) : IntKind.u64.wrap (bits .xor .u64 (x : Int) ((x : Int) / (d : Int)) * (C : Int)) = ((xs x s * C % 18446744073709551616 : Nat) : Int) := by
  subst hd
  exact mixStep_u64 x (2 ^ s) C hx
theorem last_eq (x s d : Nat) (hd : 2 ^ s = d) (hx : x < 18446744073709551616) : bits .xor .u64 (x : Int) ((x : Int) / (d : Int)) = ((xs x s : Nat) : Int) := by
  subst hd
  exact xorShift_u64 x (2 ^ s) hx
theorem mix_eq (x : Nat) (hx : x < 18446744073709551616) (m1 m2 : Int) (h1 : m1 = IntKind.u64.wrap (bits .xor .u64 (x : Int) ((x : Int) / 1073741824) * 13787848793156543929))
    (h2 : m2 = IntKind.u64.wrap (bits .xor .u64 m1 (m1 / 134217728) * 10723151780598845931)) : bits .xor .u64 m2 (m2 / 2147483648) = ((mix x : Nat) : Int) := by
  have e1 := h1.trans (step_eq x 30 1073741824 13787848793156543929 (by decide) hx)
  have l1 : xs x 30 * 13787848793156543929 % 18446744073709551616 < 18446744073709551616 := Nat.mod_lt _ (by decide)
  unfold mix
  obtain ⟨a, ha⟩ : ∃ a, a = xs x 30 * 13787848793156543929 % 18446744073709551616 := ⟨_, rfl⟩
  rw [← ha] at e1 l1 ⊢
  subst e1
  have e2 := h2.trans (step_eq a 27 134217728 10723151780598845931 (by decide) l1)
  have l2 : xs a 27 * 10723151780598845931 % 18446744073709551616 < 18446744073709551616 := Nat.mod_lt _ (by decide)
  obtain ⟨b, hb⟩ : ∃ b, b = xs a 27 * 10723151780598845931 % 18446744073709551616 := ⟨_, rfl⟩
  rw [← hb] at e2 l2 ⊢
  subst e2
  exact last_eq b 31 2147483648 (by decide) l2
end Go.Proofs.YtegfafebbnlicaaGreatDoor.Word

namespace Go.Proofs.YtegfafebbnlicaaGreatDoor.Word

/-- Byte i of a list of numbers, 0 behind its end. -/
def byt (zs : List Int) (i : Nat) : Nat := (zs.getD i 0).toNat
/-- All are bytes. -/
def Bytes (zs : List Int) : Prop := ∀ i, byt zs i < 256
/-- The first m bytes of word j, little-endian. -/
def pw (zs : List Int) (j : Nat) : Nat → Nat
  | 0 => 0
  | m + 1 => pw zs j m + byt zs (8 * j + m) * 2 ^ (8 * m)
/-- Word j when the first k bytes have been packed. -/
def cellK (zs : List Int) (k j : Nat) : Nat := pw zs j (min 8 (k - 8 * j))
def nw (n : Nat) : Nat := (n + 7) / 8
/-- m words when the first k bytes have been packed. -/
def packK (zs : List Int) (k m : Nat) : List Int := (List.range m).map fun j => ((cellK zs k j : Nat) : Int)
def pack (zs : List Int) : List Int := packK zs zs.length (nw zs.length)

theorem pw_lt {zs : List Int} (h : Bytes zs) (j m : Nat) : pw zs j m < 2 ^ (8 * m) := by
  induction m with
  | zero => simp [pw]
  | succ m ih =>
    have hb := h (8 * j + m)
    simp only [pw]
    have e : 2 ^ (8 * (m + 1)) = 256 * 2 ^ (8 * m) := by rw [Nat.mul_add, Nat.pow_add]; omega
    rw [e]
    have h1 : byt zs (8 * j + m) * 2 ^ (8 * m) ≤ 255 * 2 ^ (8 * m) := Nat.mul_le_mul_right _ (by omega)
    omega
theorem cellK_lt {zs : List Int} (h : Bytes zs) (k j : Nat) : cellK zs k j < 18446744073709551616 := by
  have h1 := pw_lt h j (min 8 (k - 8 * j))
  have h2 : 2 ^ (8 * min 8 (k - 8 * j)) ≤ 2 ^ 64 := Nat.pow_le_pow_right (by decide) (by omega)
  unfold cellK
  omega
theorem cellK_zero (zs : List Int) (j : Nat) : cellK zs 0 j = 0 := by simp [cellK, pw]
theorem cellK_other (zs : List Int) (k j : Nat) (h : j ≠ k / 8) : cellK zs (k + 1) j = cellK zs k j := by
  unfold cellK
  congr 1
  omega
theorem cellK_here (zs : List Int) (k : Nat) : cellK zs (k + 1) (k / 8) = cellK zs k (k / 8) + byt zs k * 2 ^ (8 * (k % 8)) := by
  unfold cellK
  rw [show min 8 (k + 1 - 8 * (k / 8)) = k % 8 + 1 from by omega, show min 8 (k - 8 * (k / 8)) = k % 8 from by omega]
  simp only [pw]
  rw [show 8 * (k / 8) + k % 8 = k from by omega]
theorem cellK_low {zs : List Int} (h : Bytes zs) (k : Nat) : cellK zs k (k / 8) < 2 ^ (8 * (k % 8)) := by
  unfold cellK
  rw [show min 8 (k - 8 * (k / 8)) = k % 8 from by omega]
  exact pw_lt h _ _
theorem part_lt {zs : List Int} (h : Bytes zs) (k : Nat) : byt zs k * 2 ^ (8 * (k % 8)) < 18446744073709551616 := by
  have hb := h k
  have h1 : byt zs k * 2 ^ (8 * (k % 8)) ≤ 255 * 2 ^ (8 * (k % 8)) := Nat.mul_le_mul_right _ (by omega)
  have h2 : 2 ^ (8 * (k % 8)) ≤ 2 ^ 56 := Nat.pow_le_pow_right (by decide) (by omega)
  omega
theorem sum_lt {zs : List Int} (h : Bytes zs) (k : Nat) : cellK zs k (k / 8) + byt zs k * 2 ^ (8 * (k % 8)) < 18446744073709551616 := by
  rw [← cellK_here]
  exact cellK_lt h _ _

/-- One step with 'or'. -/
theorem step_or {zs : List Int} (h : Bytes zs) (k : Nat) (b : Int) (hb : b = byt zs k) :
    bits .or .u64 ((cellK zs k (k / 8) : Nat) : Int) (IntKind.u64.wrap (b * 2 ^ (8 * (k % 8)))) = ((cellK zs (k + 1) (k / 8) : Nat) : Int) := by
  have h1 := part_lt h k
  have e : IntKind.u64.wrap (b * 2 ^ (8 * (k % 8))) = ((byt zs k * 2 ^ (8 * (k % 8)) : Nat) : Int) := by
    have e2 : b * (2 : Int) ^ (8 * (k % 8)) = ((byt zs k * 2 ^ (8 * (k % 8)) : Nat) : Int) := by rw [hb, Int.natCast_mul, Int.natCast_pow]; rfl
    rw [e2, IntKind.wrap_u64]
    omega
  rw [e, u64_or_nat _ _ (cellK_lt h _ _) h1, Nat.or_comm, nat_join (8 * (k % 8)) _ _ (Nat.mul_mod_left _ _) (cellK_low h k), cellK_here, Nat.add_comm]
/-- One step with '+'. -/
theorem step_add {zs : List Int} (h : Bytes zs) (k : Nat) (b : Int) (hb : b = byt zs k) :
    IntKind.u64.wrap (((cellK zs k (k / 8) : Nat) : Int) + IntKind.u64.wrap (b * 2 ^ (8 * (k % 8)))) = ((cellK zs (k + 1) (k / 8) : Nat) : Int) := by
  have h1 := part_lt h k
  have h2 := sum_lt h k
  have e : IntKind.u64.wrap (b * 2 ^ (8 * (k % 8))) = ((byt zs k * 2 ^ (8 * (k % 8)) : Nat) : Int) := by
    have e2 : b * (2 : Int) ^ (8 * (k % 8)) = ((byt zs k * 2 ^ (8 * (k % 8)) : Nat) : Int) := by rw [hb, Int.natCast_mul, Int.natCast_pow]; rfl
    rw [e2, IntKind.wrap_u64]
    omega
  rw [e, IntKind.wrap_u64, cellK_here]
  omega

theorem packK_length (zs : List Int) (k m : Nat) : (packK zs k m).length = m := by simp [packK]
theorem packK_getD (zs : List Int) (k m j : Nat) (h : j < m) : (packK zs k m).getD j 0 = ((cellK zs k j : Nat) : Int) := by
  simp [packK, List.getD, h]
theorem packK_step (zs : List Int) (k m : Nat) : (packK zs k m).set (k / 8) ((cellK zs (k + 1) (k / 8) : Nat) : Int) = packK zs (k + 1) m := by
  apply List.ext_getElem?
  intro i
  rw [List.getElem?_set, packK_length]
  by_cases hi : k / 8 = i
  · subst hi
    rw [if_pos rfl]
    by_cases hm : k / 8 < m
    · rw [if_pos hm]; simp [packK, hm]
    · rw [if_neg hm, List.getElem?_eq_none (by rw [packK_length]; omega)]
  · rw [if_neg hi]
    by_cases hm : i < m
    · simp [packK, hm, cellK_other zs k i (fun e => hi e.symm)]
    · rw [List.getElem?_eq_none (by rw [packK_length]; omega), List.getElem?_eq_none (by rw [packK_length]; omega)]
theorem packK_zero (zs : List Int) (m : Nat) : packK zs 0 m = List.replicate m 0 := by
  rw [List.eq_replicate_iff]
  simp [packK, cellK_zero]
/-- At the head of a new word: one word more, still 0. -/
theorem packK_more (zs : List Int) (k : Nat) (h : k % 8 = 0) : packK zs k (nw k) ++ [0] = packK zs k (nw (k + 1)) := by
  have e : nw (k + 1) = nw k + 1 := by unfold nw; omega
  have e2 : cellK zs k (nw k) = 0 := by
    unfold cellK nw
    rw [show min 8 (k - 8 * ((k + 7) / 8)) = 0 from by omega]
    rfl
  rw [e]
  simp [packK, List.range_succ, e2]
theorem nw_same (k : Nat) (h : ¬ k % 8 = 0) : nw (k + 1) = nw k := by unfold nw; omega

/-! ### back -/
/-- Byte i of the words. -/
def ub (ws : List Int) (i : Nat) : Nat := (ws.getD (i / 8) 0).toNat / 2 ^ (8 * (i % 8)) % 256
def unpk (ws : List Int) (n : Nat) : List Int := (List.range n).map fun i => ((ub ws i : Nat) : Int)
theorem unpk_length (ws : List Int) (n : Nat) : (unpk ws n).length = n := by simp [unpk]
theorem unpk_succ (ws : List Int) (n : Nat) : unpk ws (n + 1) = unpk ws n ++ [((ub ws n : Nat) : Int)] := by simp [unpk, List.range_succ]
theorem pw_byte {zs : List Int} (h : Bytes zs) (j m t : Nat) (ht : t < m) : pw zs j m / 2 ^ (8 * t) % 256 = byt zs (8 * j + t) := by
  induction m with
  | zero => omega
  | succ m ih =>
    simp only [pw]
    by_cases e : t = m
    · subst e
      rw [Nat.add_mul_div_right _ _ (Nat.two_pow_pos _), Nat.div_eq_of_lt (pw_lt h j t), Nat.zero_add]
      exact Nat.mod_eq_of_lt (h _)
    · have e2 : byt zs (8 * j + m) * 2 ^ (8 * m) = (byt zs (8 * j + m) * 2 ^ (8 * (m - t - 1))) * 256 * 2 ^ (8 * t) := by
        rw [Nat.mul_assoc, Nat.mul_assoc, show 256 = 2 ^ 8 from rfl, ← Nat.pow_add, ← Nat.pow_add]
        congr 2
        omega
      rw [e2, Nat.add_mul_div_right _ _ (Nat.two_pow_pos _), Nat.add_mul_mod_self_right]
      exact ih (by omega)
theorem ub_pack {zs : List Int} (h : Bytes zs) (i : Nat) (hi : i < zs.length) : ub (pack zs) i = byt zs i := by
  unfold ub pack
  rw [packK_getD zs _ _ _ (by unfold nw; omega), Int.toNat_natCast]
  unfold cellK
  rw [pw_byte h _ _ _ (by omega)]
  congr 1
  omega
theorem unpk_pack {zs : List Int} (h : Bytes zs) (h0 : ∀ z ∈ zs, 0 ≤ z) : unpk (pack zs) zs.length = zs := by
  apply List.ext_getElem?
  intro i
  by_cases hi : i < zs.length
  · have hz := h0 zs[i] (List.getElem_mem hi)
    have e : byt zs i = zs[i].toNat := by simp [byt, List.getD, hi]
    simp [unpk, hi, ub_pack h i hi, e]
    omega
  · rw [List.getElem?_eq_none (by rw [unpk_length]; omega), List.getElem?_eq_none (by omega)]
/-- The last word of what Pack makes has nothing beyond the last byte. -/
theorem pack_top {zs : List Int} (h : Bytes zs) (hn : zs.length % 8 ≠ 0) : ((pack zs).getD (nw zs.length - 1) 0).toNat / 2 ^ (8 * (zs.length % 8)) = 0 := by
  unfold pack
  rw [packK_getD zs _ _ _ (by unfold nw; omega), Int.toNat_natCast]
  apply Nat.div_eq_of_lt
  unfold cellK
  rw [show min 8 (zs.length - 8 * (nw zs.length - 1)) = zs.length % 8 from by unfold nw; omega]
  exact pw_lt h _ _
/-- Nothing beyond bit 8r: all later bytes are 0. -/
theorem top_iff (X r : Nat) (hX : X < 18446744073709551616) : X / 2 ^ (8 * r) = 0 ↔ ∀ t, r ≤ t → t < 8 → X / 2 ^ (8 * t) % 256 = 0 := by
  constructor
  · intro h t h1 h2
    have : X / 2 ^ (8 * t) = 0 := by
      have hlt : X < 2 ^ (8 * r) := by
        rcases Nat.lt_or_ge X (2 ^ (8 * r)) with h' | h'
        · exact h'
        · have := Nat.div_pos h' (Nat.two_pow_pos _); omega
      exact Nat.div_eq_of_lt (Nat.lt_of_lt_of_le hlt (Nat.pow_le_pow_right (by decide) (by omega)))
    rw [this]
  · intro h
    have step : ∀ d, d ≤ 8 → r ≤ 8 - d → X / 2 ^ (8 * (8 - d)) = 0 := by
      intro d
      induction d with
      | zero => intro _ _; exact Nat.div_eq_of_lt hX
      | succ d ih =>
        intro hd hr
        have h1 := ih (by omega) (by omega)
        have h2 := h (8 - (d + 1)) hr (by omega)
        have e : X / 2 ^ (8 * (8 - d)) = X / 2 ^ (8 * (8 - (d + 1))) / 256 := by
          rw [Nat.div_div_eq_div_mul, show (256 : Nat) = 2 ^ 8 from rfl, ← Nat.pow_add]
          congr 2
          omega
        omega
    by_cases hr : r ≤ 8
    · have := step (8 - r) (by omega) (by omega)
      rwa [show 8 - (8 - r) = r from by omega] at this
    · exact Nat.div_eq_of_lt (Nat.lt_of_lt_of_le (show X < 2 ^ 64 from hX) (Nat.pow_le_pow_right (by decide) (by omega)))
end Go.Proofs.YtegfafebbnlicaaGreatDoor.Word
