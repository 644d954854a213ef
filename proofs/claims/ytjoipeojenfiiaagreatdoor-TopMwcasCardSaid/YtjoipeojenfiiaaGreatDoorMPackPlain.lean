/-
  Plain arithmetic for Pack and Unpack: words out of bytes and back. No program in sight.
-/
import Derived.Test.YtjoipeojenfiiaaGreatDoorMWordPlain
namespace Go.Proofs.YtjoipeojenfiiaaGreatDoor.Word

/-- Byte i of a list of numbers, 0 behind its end. -/
def byt (zs : List Int) (i : Nat) : Nat := (zs.getD i 0).toNat
/-- All are bytes. -/
def Bytes (zs : List Int) : Prop := ∀ i, byt zs i < 256
/-- The first m bytes of word j, little-endian. -/
def pw (zs : List Int) (j : Nat) : Nat → Nat
  | 0 => 0
  | m + 1 => pw zs j m + byt zs (8 * j + m) * 2 ^ (8 * m)
/-- Word j when the first k bytes have been packed. -/
def cellK (zs : List Int) (k j : Nat) : Nat := pw zs j (min 8 (k - 8 * j))
def nw (n : Nat) : Nat := (n + 7) / 8
/-- m words when the first k bytes have been packed. -/
def packK (zs : List Int) (k m : Nat) : List Int := (List.range m).map fun j => ((cellK zs k j : Nat) : Int)
def pack (zs : List Int) : List Int := packK zs zs.length (nw zs.length)

theorem pw_lt {zs : List Int} (h : Bytes zs) (j m : Nat) : pw zs j m < 2 ^ (8 * m) := by
  induction m with
  | zero => simp [pw]
  | succ m ih =>
    have hb := h (8 * j + m)
    simp only [pw]
    have e : 2 ^ (8 * (m + 1)) = 256 * 2 ^ (8 * m) := by rw [Nat.mul_add, Nat.pow_add]; omega
    rw [e]
    have h1 : byt zs (8 * j + m) * 2 ^ (8 * m) ≤ 255 * 2 ^ (8 * m) := Nat.mul_le_mul_right _ (by omega)
    omega
theorem cellK_lt {zs : List Int} (h : Bytes zs) (k j : Nat) : cellK zs k j < 18446744073709551616 := by
  have h1 := pw_lt h j (min 8 (k - 8 * j))
  have h2 : 2 ^ (8 * min 8 (k - 8 * j)) ≤ 2 ^ 64 := Nat.pow_le_pow_right (by decide) (by omega)
  unfold cellK
  omega
theorem cellK_zero (zs : List Int) (j : Nat) : cellK zs 0 j = 0 := by simp [cellK, pw]
theorem cellK_other (zs : List Int) (k j : Nat) (h : j ≠ k / 8) : cellK zs (k + 1) j = cellK zs k j := by
  unfold cellK
  congr 1
  omega
theorem cellK_here (zs : List Int) (k : Nat) : cellK zs (k + 1) (k / 8) = cellK zs k (k / 8) + byt zs k * 2 ^ (8 * (k % 8)) := by
  unfold cellK
  rw [show min 8 (k + 1 - 8 * (k / 8)) = k % 8 + 1 from by omega, show min 8 (k - 8 * (k / 8)) = k % 8 from by omega]
  simp only [pw]
  rw [show 8 * (k / 8) + k % 8 = k from by omega]
theorem cellK_low {zs : List Int} (h : Bytes zs) (k : Nat) : cellK zs k (k / 8) < 2 ^ (8 * (k % 8)) := by
  unfold cellK
  rw [show min 8 (k - 8 * (k / 8)) = k % 8 from by omega]
  exact pw_lt h _ _
theorem part_lt {zs : List Int} (h : Bytes zs) (k : Nat) : byt zs k * 2 ^ (8 * (k % 8)) < 18446744073709551616 := by
  have hb := h k
  have h1 : byt zs k * 2 ^ (8 * (k % 8)) ≤ 255 * 2 ^ (8 * (k % 8)) := Nat.mul_le_mul_right _ (by omega)
  have h2 : 2 ^ (8 * (k % 8)) ≤ 2 ^ 56 := Nat.pow_le_pow_right (by decide) (by omega)
  omega
theorem sum_lt {zs : List Int} (h : Bytes zs) (k : Nat) : cellK zs k (k / 8) + byt zs k * 2 ^ (8 * (k % 8)) < 18446744073709551616 := by
  rw [← cellK_here]
  exact cellK_lt h _ _

/-- One step with 'or'. -/
theorem step_or {zs : List Int} (h : Bytes zs) (k : Nat) (b : Int) (hb : b = byt zs k) :
    bits .or .u64 ((cellK zs k (k / 8) : Nat) : Int) (IntKind.u64.wrap (b * 2 ^ (8 * (k % 8)))) = ((cellK zs (k + 1) (k / 8) : Nat) : Int) := by
  have h1 := part_lt h k
  have e : IntKind.u64.wrap (b * 2 ^ (8 * (k % 8))) = ((byt zs k * 2 ^ (8 * (k % 8)) : Nat) : Int) := by
    have e2 : b * (2 : Int) ^ (8 * (k % 8)) = ((byt zs k * 2 ^ (8 * (k % 8)) : Nat) : Int) := by rw [hb, Int.natCast_mul, Int.natCast_pow]; rfl
    rw [e2, IntKind.wrap_u64]
    omega
  rw [e, u64_or_nat _ _ (cellK_lt h _ _) h1, Nat.or_comm, nat_join (8 * (k % 8)) _ _ (Nat.mul_mod_left _ _) (cellK_low h k), cellK_here, Nat.add_comm]
/-- One step with '+'. -/
theorem step_add {zs : List Int} (h : Bytes zs) (k : Nat) (b : Int) (hb : b = byt zs k) :
    IntKind.u64.wrap (((cellK zs k (k / 8) : Nat) : Int) + IntKind.u64.wrap (b * 2 ^ (8 * (k % 8)))) = ((cellK zs (k + 1) (k / 8) : Nat) : Int) := by
  have h1 := part_lt h k
  have h2 := sum_lt h k
  have e : IntKind.u64.wrap (b * 2 ^ (8 * (k % 8))) = ((byt zs k * 2 ^ (8 * (k % 8)) : Nat) : Int) := by
    have e2 : b * (2 : Int) ^ (8 * (k % 8)) = ((byt zs k * 2 ^ (8 * (k % 8)) : Nat) : Int) := by rw [hb, Int.natCast_mul, Int.natCast_pow]; rfl
    rw [e2, IntKind.wrap_u64]
    omega
  rw [e, IntKind.wrap_u64, cellK_here]
  omega

theorem packK_length (zs : List Int) (k m : Nat) : (packK zs k m).length = m := by simp [packK]
theorem packK_getD (zs : List Int) (k m j : Nat) (h : j < m) : (packK zs k m).getD j 0 = ((cellK zs k j : Nat) : Int) := by
  simp [packK, List.getD, h]
theorem packK_step (zs : List Int) (k m : Nat) : (packK zs k m).set (k / 8) ((cellK zs (k + 1) (k / 8) : Nat) : Int) = packK zs (k + 1) m := by
  apply List.ext_getElem?
  intro i
  rw [List.getElem?_set, packK_length]
  by_cases hi : k / 8 = i
  · subst hi
    rw [if_pos rfl]
    by_cases hm : k / 8 < m
    · rw [if_pos hm]; simp [packK, hm]
    · rw [if_neg hm, List.getElem?_eq_none (by rw [packK_length]; omega)]
  · rw [if_neg hi]
    by_cases hm : i < m
    · simp [packK, hm, cellK_other zs k i (fun e => hi e.symm)]
    · rw [List.getElem?_eq_none (by rw [packK_length]; omega), List.getElem?_eq_none (by rw [packK_length]; omega)]
theorem packK_zero (zs : List Int) (m : Nat) : packK zs 0 m = List.replicate m 0 := by
  rw [List.eq_replicate_iff]
  simp [packK, cellK_zero]
/-- At the head of a new word: one word more, still 0. -/
theorem packK_more (zs : List Int) (k : Nat) (h : k % 8 = 0) : packK zs k (nw k) ++ [0] = packK zs k (nw (k + 1)) := by
  have e : nw (k + 1) = nw k + 1 := by unfold nw; omega
  have e2 : cellK zs k (nw k) = 0 := by
    unfold cellK nw
    rw [show min 8 (k - 8 * ((k + 7) / 8)) = 0 from by omega]
    rfl
  rw [e]
  simp [packK, List.range_succ, e2]
theorem nw_same (k : Nat) (h : ¬ k % 8 = 0) : nw (k + 1) = nw k := by unfold nw; omega

/-! ### back -/
/-- Byte i of the words. -/
def ub (ws : List Int) (i : Nat) : Nat := (ws.getD (i / 8) 0).toNat / 2 ^ (8 * (i % 8)) % 256
def unpk (ws : List Int) (n : Nat) : List Int := (List.range n).map fun i => ((ub ws i : Nat) : Int)
theorem unpk_length (ws : List Int) (n : Nat) : (unpk ws n).length = n := by simp [unpk]
theorem unpk_succ (ws : List Int) (n : Nat) : unpk ws (n + 1) = unpk ws n ++ [((ub ws n : Nat) : Int)] := by simp [unpk, List.range_succ]
theorem pw_byte {zs : List Int} (h : Bytes zs) (j m t : Nat) (ht : t < m) : pw zs j m / 2 ^ (8 * t) % 256 = byt zs (8 * j + t) := by
  induction m with
  | zero => omega
  | succ m ih =>
    simp only [pw]
    by_cases e : t = m
    · subst e
      rw [Nat.add_mul_div_right _ _ (Nat.two_pow_pos _), Nat.div_eq_of_lt (pw_lt h j t), Nat.zero_add]
      exact Nat.mod_eq_of_lt (h _)
    · have e2 : byt zs (8 * j + m) * 2 ^ (8 * m) = (byt zs (8 * j + m) * 2 ^ (8 * (m - t - 1))) * 256 * 2 ^ (8 * t) := by
        rw [Nat.mul_assoc, Nat.mul_assoc, show 256 = 2 ^ 8 from rfl, ← Nat.pow_add, ← Nat.pow_add]
        congr 2
        omega
      rw [e2, Nat.add_mul_div_right _ _ (Nat.two_pow_pos _), Nat.add_mul_mod_self_right]
      exact ih (by omega)
theorem ub_pack {zs : List Int} (h : Bytes zs) (i : Nat) (hi : i < zs.length) : ub (pack zs) i = byt zs i := by
  unfold ub pack
  rw [packK_getD zs _ _ _ (by unfold nw; omega), Int.toNat_natCast]
  unfold cellK
  rw [pw_byte h _ _ _ (by omega)]
  congr 1
  omega
theorem unpk_pack {zs : List Int} (h : Bytes zs) (h0 : ∀ z ∈ zs, 0 ≤ z) : unpk (pack zs) zs.length = zs := by
  apply List.ext_getElem?
  intro i
  by_cases hi : i < zs.length
  · have hz := h0 zs[i] (List.getElem_mem hi)
    have e : byt zs i = zs[i].toNat := by simp [byt, List.getD, hi]
    simp [unpk, hi, ub_pack h i hi, e]
    omega
  · rw [List.getElem?_eq_none (by rw [unpk_length]; omega), List.getElem?_eq_none (by omega)]
/-- The last word of what Pack makes has nothing beyond the last byte. -/
theorem pack_top {zs : List Int} (h : Bytes zs) (hn : zs.length % 8 ≠ 0) : ((pack zs).getD (nw zs.length - 1) 0).toNat / 2 ^ (8 * (zs.length % 8)) = 0 := by
  unfold pack
  rw [packK_getD zs _ _ _ (by unfold nw; omega), Int.toNat_natCast]
  apply Nat.div_eq_of_lt
  unfold cellK
  rw [show min 8 (zs.length - 8 * (nw zs.length - 1)) = zs.length % 8 from by unfold nw; omega]
  exact pw_lt h _ _
/-- Nothing beyond bit 8r: all later bytes are 0. -/
theorem top_iff (X r : Nat) (hX : X < 18446744073709551616) : X / 2 ^ (8 * r) = 0 ↔ ∀ t, r ≤ t → t < 8 → X / 2 ^ (8 * t) % 256 = 0 := by
  constructor
  · intro h t h1 h2
    have : X / 2 ^ (8 * t) = 0 := by
      have hlt : X < 2 ^ (8 * r) := by
        rcases Nat.lt_or_ge X (2 ^ (8 * r)) with h' | h'
        · exact h'
        · have := Nat.div_pos h' (Nat.two_pow_pos _); omega
      exact Nat.div_eq_of_lt (Nat.lt_of_lt_of_le hlt (Nat.pow_le_pow_right (by decide) (by omega)))
    rw [this]
  · intro h
    have step : ∀ d, d ≤ 8 → r ≤ 8 - d → X / 2 ^ (8 * (8 - d)) = 0 := by
      intro d
      induction d with
      | zero => intro _ _; exact Nat.div_eq_of_lt hX
      | succ d ih =>
        intro hd hr
        have h1 := ih (by omega) (by omega)
        have h2 := h (8 - (d + 1)) hr (by omega)
        have e : X / 2 ^ (8 * (8 - d)) = X / 2 ^ (8 * (8 - (d + 1))) / 256 := by
          rw [Nat.div_div_eq_div_mul, show (256 : Nat) = 2 ^ 8 from rfl, ← Nat.pow_add]
          congr 2
          omega
        omega
    by_cases hr : r ≤ 8
    · have := step (8 - r) (by omega) (by omega)
      rwa [show 8 - (8 - r) = r from by omega] at this
    · exact Nat.div_eq_of_lt (Nat.lt_of_lt_of_le (show X < 2 ^ 64 from hX) (Nat.pow_le_pow_right (by decide) (by omega)))
end Go.Proofs.YtjoipeojenfiiaaGreatDoor.Word
