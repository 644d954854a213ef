/-
  Plain arithmetic for the counting of bits: the parallel sums of math/bits, the lowest bit by a de Bruijn sequence, and the selection of a bit. No program in sight.
-/
import Derived.Test.YtfibemkgmkggpaaDoorWordPlain
import Derived.Lib.TrailingZeros
import Derived.Laws.Bits128
namespace Go.Proofs.YtfibemkgmkggpaaDoor.Word

/-! ### parallel sums -/
/-- n bytes c. -/
def rep (c : Nat) : Nat → Nat
  | 0 => 0
  | n + 1 => c + 256 * rep c n
theorem and_split (x y : Nat) : x &&& y = ((x % 256) &&& (y % 256)) + 256 * ((x / 256) &&& (y / 256)) := by
  have h1 := Nat.div_add_mod (x &&& y) (2 ^ 8)
  rw [Nat.and_div_two_pow, Nat.and_mod_two_pow] at h1
  have h2 : (2 : Nat) ^ 8 = 256 := by decide
  rw [h2] at h1
  omega
theorem and_rep (x c n : Nat) (hc : c < 256) : x &&& rep c (n + 1) = ((x % 256) &&& c) + 256 * ((x / 256) &&& rep c n) := by
  rw [and_split x (rep c (n + 1))]
  have h1 : rep c (n + 1) % 256 = c := by simp only [rep]; omega
  have h2 : rep c (n + 1) / 256 = rep c n := by simp only [rep]; omega
  rw [h1, h2]

def a8 (b : Nat) : Nat := (b / 2 &&& 85) + (b &&& 85)
def b8 (b : Nat) : Nat := (b / 4 &&& 51) + (b &&& 51)
def c8 (b : Nat) : Nat := (b / 16 + b) &&& 15
def pop8 (b : Nat) : Nat := b % 2 + b / 2 % 2 + b / 4 % 2 + b / 8 % 2 + b / 16 % 2 + b / 32 % 2 + b / 64 % 2 + b / 128 % 2

theorem low_a : ∀ b, b < 256 → ∀ c, c < 2 → ((b / 2 + 128 * c) &&& 85) = (b / 2 &&& 85) := by decide +kernel
theorem low_b : ∀ b, b < 256 → ∀ c, c < 4 → ((b / 4 + 64 * c) &&& 51) = (b / 4 &&& 51) := by decide +kernel
theorem low_c : ∀ b, b < 256 → ∀ c, c < 5 → b % 16 < 5 → b / 16 < 5 → ((b / 16 + 16 * c + b) &&& 15) = c8 b ∧ b / 16 + 16 * c + b < 256 := by decide +kernel
theorem a8_lt : ∀ b, b < 256 → a8 b < 256 := by decide +kernel
theorem b8_ok : ∀ b, b < 256 → b8 (a8 b) % 16 < 5 ∧ b8 (a8 b) / 16 < 5 := by decide +kernel
theorem c8_ok : ∀ b, b < 256 → c8 (b8 (a8 b)) = pop8 b := by decide +kernel
theorem pop8_le (b : Nat) : pop8 b ≤ 8 := by unfold pop8; omega

def sA (n x : Nat) : Nat := (x / 2 &&& rep 85 n) + (x &&& rep 85 n)
def sB (n y : Nat) : Nat := (y / 4 &&& rep 51 n) + (y &&& rep 51 n)
def sC (n z : Nat) : Nat := (z / 16 + z) &&& rep 15 n
/-- The sums of the bytes. -/
def sP : Nat → Nat → Nat
  | 0, _ => 0
  | n + 1, x => pop8 (x % 256) + 256 * sP n (x / 256)

theorem sA_succ (n x : Nat) : sA (n + 1) x = a8 (x % 256) + 256 * sA n (x / 256) := by
  unfold sA
  rw [and_rep _ _ _ (by decide), and_rep _ _ _ (by decide)]
  have h1 : x / 2 % 256 = x % 256 / 2 + 128 * (x / 256 % 2) := by omega
  have h2 : x / 2 / 256 = x / 256 / 2 := by omega
  rw [h1, h2, low_a _ (Nat.mod_lt _ (by decide)) _ (Nat.mod_lt _ (by decide))]
  unfold a8
  omega
theorem sB_succ (n y0 y1 : Nat) (h : y0 < 256) : sB (n + 1) (y0 + 256 * y1) = b8 y0 + 256 * sB n y1 := by
  unfold sB
  rw [and_rep _ _ _ (by decide), and_rep _ _ _ (by decide)]
  have h1 : (y0 + 256 * y1) / 4 % 256 = y0 / 4 + 64 * (y1 % 4) := by omega
  have h2 : (y0 + 256 * y1) / 4 / 256 = y1 / 4 := by omega
  have h3 : (y0 + 256 * y1) % 256 = y0 := by omega
  have h4 : (y0 + 256 * y1) / 256 = y1 := by omega
  rw [h1, h2, h3, h4, low_b _ h _ (Nat.mod_lt _ (by decide))]
  unfold b8
  omega
theorem sC_succ (n z0 z1 : Nat) (h : z0 < 256) (h1 : z0 % 16 < 5) (h2 : z0 / 16 < 5) (h3 : z1 % 16 < 5) : sC (n + 1) (z0 + 256 * z1) = c8 z0 + 256 * sC n z1 := by
  unfold sC
  rw [and_rep _ _ _ (by decide)]
  obtain ⟨e, hlt⟩ := low_c z0 h (z1 % 16) h3 h1 h2
  have h5 : ((z0 + 256 * z1) / 16 + (z0 + 256 * z1)) = (z0 / 16 + 16 * (z1 % 16) + z0) + 256 * (z1 / 16 + z1) := by omega
  rw [h5]
  have h6 : ((z0 / 16 + 16 * (z1 % 16) + z0) + 256 * (z1 / 16 + z1)) % 256 = z0 / 16 + 16 * (z1 % 16) + z0 := by omega
  have h7 : ((z0 / 16 + 16 * (z1 % 16) + z0) + 256 * (z1 / 16 + z1)) / 256 = z1 / 16 + z1 := by omega
  rw [h6, h7, e]
theorem sAB_low (n x : Nat) : sB n (sA n x) % 16 < 5 := by
  cases n with
  | zero => simp [sB, rep]
  | succ n =>
    have hb : x % 256 < 256 := Nat.mod_lt _ (by decide)
    rw [sA_succ, sB_succ _ _ _ (a8_lt _ hb)]
    have := (b8_ok _ hb).1
    omega
theorem sABC (n x : Nat) : sC n (sB n (sA n x)) = sP n x := by
  induction n generalizing x with
  | zero => simp [sC, sP, rep]
  | succ n ih =>
    have hb : x % 256 < 256 := Nat.mod_lt _ (by decide)
    have h := b8_ok _ hb
    rw [sA_succ, sB_succ _ _ _ (a8_lt _ hb), sC_succ _ _ _ (by omega) h.1 h.2 (sAB_low n _), ih, c8_ok _ hb]
    rfl

theorem ones_byte (x k : Nat) : ones x (k + 8) = pop8 (x % 256) + ones (x / 256) k := by
  rw [ones_half, ones_half, ones_half, ones_half, ones_half, ones_half, ones_half, ones_half]
  simp only [Nat.div_div_eq_div_mul]
  unfold pop8
  have e : ∀ k, x / 256 = k → ones (x / (2 * 2 * 2 * 2 * 2 * 2 * 2 * 2)) = ones k := fun k h => by rw [← h]
  rw [e _ rfl]
  omega

/-- The eight sums of the bytes, added up by shifts. -/
theorem sums (p0 p1 p2 p3 p4 p5 p6 p7 q R1 R2 R3 R4 R5 R6 d1 d2 : Nat) (h0 : p0 ≤ 8) (h1 : p1 ≤ 8) (h2 : p2 ≤ 8) (h3 : p3 ≤ 8) (h4 : p4 ≤ 8) (h5 : p5 ≤ 8) (h6 : p6 ≤ 8) (h7 : p7 ≤ 8)
    (hq : q = p0 + 256 * R1) (r1 : R1 = p1 + 256 * R2) (r2 : R2 = p2 + 256 * R3) (r3 : R3 = p3 + 256 * R4) (r4 : R4 = p4 + 256 * R5) (r5 : R5 = p5 + 256 * R6) (r6 : R6 = p6 + 256 * p7)
    (hd1 : d1 = q + q / 256) (hd2 : d2 = d1 + d1 / 65536) :
    (d2 + d2 / 4294967296) % 128 = p0 + p1 + p2 + p3 + p4 + p5 + p6 + p7 := by
  have e1 : q / 256 = R1 := by omega
  rw [e1] at hd1
  have e2 : d1 = (p0 + p1 + 256 * (p1 + p2)) + 65536 * (R2 + R3) := by omega
  have e3 : d1 / 65536 = R2 + R3 := by
    rw [e2]
    generalize R2 + R3 = T
    omega
  rw [e3] at hd2
  have e4 : d2 = q + R1 + R2 + R3 := by omega
  have a0 : q = (p0 + 256 * p1 + 65536 * p2 + 16777216 * p3) + 4294967296 * R4 := by omega
  have a1 : R1 = (p1 + 256 * p2 + 65536 * p3 + 16777216 * p4) + 4294967296 * R5 := by omega
  have a2 : R2 = (p2 + 256 * p3 + 65536 * p4 + 16777216 * p5) + 4294967296 * R6 := by omega
  have a3 : R3 = (p3 + 256 * p4 + 65536 * p5 + 16777216 * p6) + 4294967296 * p7 := by omega
  have e5 : d2 / 4294967296 = R4 + R5 + R6 + p7 := by
    rw [e4, a0, a1, a2, a3]
    clear e4 a0 a1 a2 a3 e2 e3 hd1 hd2 e1 hq r1 r2 r3 r4 r5 r6
    omega
  rw [e5, e4, hq]
  clear e5 e4 a0 a1 a2 a3 e2 e3 hd1 hd2 e1 hq
  omega

theorem sP_le (n x : Nat) (hn : n ≤ 8) : 255 * sP n x ≤ 8 * (256 ^ n - 1) := by
  induction n generalizing x with
  | zero => simp [sP]
  | succ n ih =>
    have h := ih (x / 256) (by omega)
    have hp := pop8_le (x % 256)
    simp only [sP]
    have : 256 ^ (n + 1) = 256 * 256 ^ n := by rw [Nat.pow_succ]; omega
    have hpos : 0 < 256 ^ n := Nat.pow_pos (by decide)
    omega

/-- What OnesCount64 comes to. -/
theorem ones_sum (x q d1 d2 : Nat) (hq : q = sP 8 x) (hd1 : d1 = q + q / 256) (hd2 : d2 = d1 + d1 / 65536) : (d2 + d2 / 4294967296) % 128 = ones x 64 := by
  have e : ones x 64 = pop8 (x % 256) + pop8 (x / 256 % 256) + pop8 (x / 256 / 256 % 256) + pop8 (x / 256 / 256 / 256 % 256) + pop8 (x / 256 / 256 / 256 / 256 % 256) + pop8 (x / 256 / 256 / 256 / 256 / 256 % 256) + pop8 (x / 256 / 256 / 256 / 256 / 256 / 256 % 256) + pop8 (x / 256 / 256 / 256 / 256 / 256 / 256 / 256 % 256) := by
    rw [ones_byte x 56, ones_byte _ 48, ones_byte _ 40, ones_byte _ 32, ones_byte _ 24, ones_byte _ 16, ones_byte _ 8, ones_byte _ 0]
    simp only [ones]
    omega
  rw [e]
  refine sums _ _ _ _ _ _ _ _ q (sP 7 (x / 256)) (sP 6 (x / 256 / 256)) (sP 5 (x / 256 / 256 / 256)) (sP 4 (x / 256 / 256 / 256 / 256)) (sP 3 (x / 256 / 256 / 256 / 256 / 256)) (sP 2 (x / 256 / 256 / 256 / 256 / 256 / 256)) d1 d2
    (pop8_le _) (pop8_le _) (pop8_le _) (pop8_le _) (pop8_le _) (pop8_le _) (pop8_le _) (pop8_le _) hq rfl rfl rfl rfl rfl ?_ hd1 hd2
  simp only [sP, Nat.mul_zero, Nat.add_zero]

/-! ### the selection of a bit -/
/-- The number of the set bit below which k bits are set, among the first f. -/
def selR : Nat → Nat → Nat → Option Nat
  | 0, _, _ => none
  | f + 1, x, k => if x % 2 = 1 then (if k = 0 then some 0 else (selR f (x / 2) (k - 1)).map (· + 1)) else (selR f (x / 2) k).map (· + 1)
def selV (x k : Nat) : Int := match selR 64 x k with | some i => (i : Int) | none => -1

theorem selR_pred (f x k : Nat) (h : 0 < x) : selR f (x &&& (x - 1)) k = selR f x (k + 1) := by
  induction f generalizing x k with
  | zero => rfl
  | succ f ih =>
    by_cases hp : x % 2 = 1
    · obtain ⟨b, rfl⟩ : ∃ b, x = 2 * b + 1 := ⟨x / 2, by omega⟩
      rw [and_pred_odd, selR, selR, if_neg (by omega), if_pos (by omega), if_neg (by omega), Nat.add_sub_cancel, show 2 * b / 2 = b by omega, show (2 * b + 1) / 2 = b by omega]
    · obtain ⟨b, rfl⟩ : ∃ b, x = 2 * b := ⟨x / 2, by omega⟩
      have hb : 0 < b := by omega
      rw [and_pred_even b hb, selR, selR, if_neg (by omega), if_neg (by omega), show 2 * (b &&& (b - 1)) / 2 = b &&& (b - 1) by omega, show 2 * b / 2 = b by omega, ih b k hb]
theorem selR_zero (f x : Nat) (h0 : 0 < x) (h : x < 2 ^ f) : selR f x 0 = some (Lib.ctzFrom f x) := by
  induction f generalizing x with
  | zero => simp at h; omega
  | succ f ih =>
    rw [selR, Lib.ctzFrom]
    by_cases hp : x % 2 = 1
    · rw [if_pos hp, if_pos hp, if_pos rfl]
    · rw [if_neg hp, if_neg hp, ih (x / 2) (by omega) (by rw [Nat.pow_succ] at h; omega), Nat.add_comm]
      rfl
theorem selR_none (f x k : Nat) (h : ones x f ≤ k) : selR f x k = none := by
  induction f generalizing x k with
  | zero => rfl
  | succ f ih =>
    rw [ones_half] at h
    rw [selR]
    by_cases hp : x % 2 = 1
    · rw [if_pos hp, if_neg (by omega), ih _ _ (by omega)]; rfl
    · rw [if_neg hp, ih _ _ (by omega)]; rfl

/-- After t steps of 'w & (w - 1)'. -/
def clr (x : Nat) : Nat → Nat
  | 0 => x
  | t + 1 => clr x t &&& (clr x t - 1)
theorem clr_le (x t : Nat) : clr x t ≤ x := by
  induction t with
  | zero => exact Nat.le_refl _
  | succ t ih => exact Nat.le_trans Nat.and_le_left ih
theorem clr_ones (x t : Nat) (hx : x < 18446744073709551616) (h : t ≤ ones x 64) : ones (clr x t) 64 + t = ones x 64 := by
  induction t with
  | zero => rfl
  | succ t ih =>
    have h1 := ih (by omega)
    have hlt : clr x t < 2 ^ 64 := Nat.lt_of_le_of_lt (clr_le x t) hx
    have hpos : 0 < clr x t := by
      rcases Nat.eq_zero_or_pos (clr x t) with e | e
      · rw [e, ones_zero] at h1; omega
      · exact e
    have h2 := ones_pred 64 (clr x t) hpos hlt
    simp only [clr]
    omega
theorem clr_pos (x t : Nat) (hx : x < 18446744073709551616) (h : t < ones x 64) : 0 < clr x t := by
  have h1 := clr_ones x t hx (by omega)
  rcases Nat.eq_zero_or_pos (clr x t) with e | e
  · rw [e, ones_zero] at h1; omega
  · exact e
theorem clr_sel (x t k : Nat) (hx : x < 18446744073709551616) (h : t ≤ ones x 64) : selR 64 (clr x t) k = selR 64 x (k + t) := by
  induction t generalizing k with
  | zero => rfl
  | succ t ih =>
    simp only [clr]
    rw [selR_pred 64 _ k (clr_pos x t hx (by omega)), ih (k + 1) (by omega)]
    congr 1
    omega
/-- What Select of the package word comes to. -/
theorem sel_clr (x k : Nat) (hx : x < 18446744073709551616) (h : k < ones x 64) : selV x k = (Lib.ctzFrom 64 (clr x k) : Int) := by
  have h1 := clr_sel x k 0 hx (by omega)
  rw [selR_zero 64 _ (clr_pos x k hx h) (Nat.lt_of_le_of_lt (clr_le x k) hx), Nat.zero_add] at h1
  unfold selV
  rw [← h1]
theorem sel_none (x k : Nat) (h : ones x 64 ≤ k) : selV x k = -1 := by
  unfold selV
  rw [selR_none 64 x k h]
theorem sel_low (x : Nat) (h0 : 0 < x) (hx : x < 18446744073709551616) : selV x 0 = (Lib.ctzFrom 64 x : Int) := by
  unfold selV
  rw [selR_zero 64 x h0 hx]

/-- The reference's loop: what is left of the search at bit i. -/
def SelAt (x k i : Nat) : Prop := ones x i ≤ k ∧ selR 64 x k = (selR (64 - i) (x / 2 ^ i) (k - ones x i)).map (· + i)
theorem selAt_zero (x k : Nat) : SelAt x k 0 := by
  refine ⟨Nat.zero_le _, ?_⟩
  simp [ones]
theorem selAt_skip (x k i : Nat) (hi : i < 64) (h : SelAt x k i) (hb : x / 2 ^ i % 2 = 0) : SelAt x k (i + 1) := by
  obtain ⟨h1, h2⟩ := h
  refine ⟨by simp only [ones]; omega, ?_⟩
  rw [h2, show 64 - i = (64 - (i + 1)) + 1 from by omega, selR, if_neg (by omega), Nat.div_div_eq_div_mul, ← Nat.pow_succ]
  simp only [ones]
  rw [hb, Nat.add_zero, Option.map_map]
  congr 1
  funext z
  show z + 1 + i = z + (i + 1)
  omega
theorem selAt_take (x k i : Nat) (hi : i < 64) (h : SelAt x k i) (hb : x / 2 ^ i % 2 = 1) (hk : ones x i ≠ k) : SelAt x k (i + 1) := by
  obtain ⟨h1, h2⟩ := h
  refine ⟨by simp only [ones]; omega, ?_⟩
  rw [h2, show 64 - i = (64 - (i + 1)) + 1 from by omega, selR, if_pos hb, if_neg (by omega), Nat.div_div_eq_div_mul, ← Nat.pow_succ]
  simp only [ones]
  rw [hb, Option.map_map, Nat.sub_add_eq]
  congr 1
  funext z
  show z + 1 + i = z + (i + 1)
  omega
theorem selAt_hit (x k i : Nat) (hi : i < 64) (h : SelAt x k i) (hb : x / 2 ^ i % 2 = 1) (hk : ones x i = k) : selV x k = (i : Int) := by
  obtain ⟨_, h2⟩ := h
  unfold selV
  rw [h2, show 64 - i = (64 - (i + 1)) + 1 from by omega, selR, if_pos hb, if_pos (by omega)]
  simp
theorem selAt_end (x k : Nat) (h : SelAt x k 64) : selV x k = -1 := by
  obtain ⟨_, h2⟩ := h
  unfold selV
  rw [h2]
  rfl
end Go.Proofs.YtfibemkgmkggpaaDoor.Word
