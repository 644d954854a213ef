/-
  The functions on words that the law on bits reaches, each walked once (the same texts as for the other laws of the chapter).
-/
import Derived.Test.YtfibemkgmkggpaaDoorRows
import Derived.Test.YtfibemkgmkggpaaDoorWordPlain
import Derived.WalkKit
import Derived.WalkLawsBesides
import Derived.WalkSpells
import Derived.Deep.QuietTactic
import Derived.BigQuiet
import Derived.Outline
import Derived.Lib.Hide
import Derived.Handy
namespace Go.Proofs.YtfibemkgmkggpaaDoor.Word
open Go.RowKit


theorem ret_u64 {a b : Int} (h : a = b) : Ending.returned (.int .u64 a) = .returned (.int .u64 b) := by rw [h]
theorem mask_any (n : Nat) (w : World) (h0 : 1 ≤ n) (h1 : n ≤ 64) :
    Calls Tryd.prog 20 #[.int .i64 n] w fun e w' => e = .returned (.int .u64 ((2 ^ n - 1 : Nat) : Int)) ∧ w = w' := by
  rw [← mask_eq n h1]
  go_enter Tryd.func20, Tryd.ntmps20
  go_wp2_with fail
  go_ret
  exact ⟨ret_u64 (by congr 2), rfl⟩
theorem valid_yes (s n : Nat) (w : World) (h0 : 1 ≤ n) (h : s + n ≤ 64) :
    Calls Tryd.prog 19 #[.int .i64 s, .int .i64 n] w fun e w' => e = .returned (.bool true) ∧ w = w' := by
  have d : decide ((s : Int) ≤ 64 - n) = true := by simp; omega
  go_enter Tryd.func19, Tryd.ntmps19
  go_wp2_with fail
  go_ret
  exact ⟨rfl, rfl⟩
theorem bit_raw (x i : Nat) (hx : x < 18446744073709551616) : bits .and .u64 ((x : Int) / 2 ^ i) 1 = ((x / 2 ^ i % 2 : Nat) : Int) := by
  have e : ((x : Int) / 2 ^ i) = ((x / 2 ^ i : Nat) : Int) := by simp
  rw [e, show (1 : Int) = ((1 : Nat) : Int) from rfl, u64_and_nat _ _ (Nat.lt_of_le_of_lt (Nat.div_le_self _ _) hx) (by decide), nat_mask1]
theorem bit_any (x : Nat) (i : Int) (w : World) (hx : x < 18446744073709551616) (h0 : 0 ≤ i) (hi : i < 64) :
    Calls Tryd.prog 16 #[.int .u64 x, .int .i64 i] w fun e w' => e = .returned (.int .u64 ((x / 2 ^ i.toNat % 2 : Nat) : Int)) ∧ w = w' := by
  rw [← bit_raw x i.toNat hx]
  have x1 : (x : Int) ≤ 18446744073709551615 := by omega
  have HX := Lib.hid hx; clear hx
  go_enter Tryd.func16, Tryd.ntmps16
  go_wp2_with fail
  go_ret
  exact ⟨rfl, rfl⟩
theorem field_yes (x s n : Nat) (w : World) (hx : x < 18446744073709551616) (h0 : 1 ≤ n) (h : s + n ≤ 64) :
    Calls Tryd.prog 12 #[.int .u64 x, .int .i64 s, .int .i64 n] w fun e w' => e = .returned (.int .u64 ((fld x s n : Nat) : Int)) ∧ w = w' := by
  rw [← field_eq x s n hx (by omega)]
  have x1 : (x : Int) ≤ 18446744073709551615 := by omega
  have HX := Lib.hid hx; clear hx
  go_enter Tryd.func12, Tryd.ntmps12
  go_wp2_with fail
  refine (valid_yes s n _ h0 h).mono ?_
  rintro e w' ⟨rfl, rfl⟩
  go_wp2_with fail
  refine (mask_any n _ h0 (by omega)).mono ?_
  rintro e w' ⟨rfl, rfl⟩
  go_wp2_with fail
  go_ret
  exact ⟨rfl, rfl⟩
theorem setfield_yes (x s n v : Nat) (w : World) (hx : x < 18446744073709551616) (hv : v < 18446744073709551616) (h0 : 1 ≤ n) (h : s + n ≤ 64) :
    Calls Tryd.prog 13 #[.int .u64 x, .int .i64 s, .int .i64 n, .int .u64 v] w fun e w' => e = .returned (.int .u64 ((setf x s n v : Nat) : Int)) ∧ w = w' := by
  rw [← setfield_eq x s n v hx hv h]
  have x1 : (x : Int) ≤ 18446744073709551615 := by omega
  have v1 : (v : Int) ≤ 18446744073709551615 := by omega
  have HX := Lib.hid hx; have HV := Lib.hid hv; clear hx hv
  go_enter Tryd.func13, Tryd.ntmps13
  go_wp2_with fail
  refine (valid_yes s n _ h0 h).mono ?_
  rintro e w' ⟨rfl, rfl⟩
  go_wp2_with fail
  refine (mask_any n _ h0 (by omega)).mono ?_
  rintro e w' ⟨rfl, rfl⟩
  go_wp2_with fail
  go_ret
  exact ⟨rfl, rfl⟩
theorem ret_pair {a b c d : Int} {k l : IntKind} (h : a = b) (h' : c = d) : Ending.returned (.tuple #[.int k a, .int l c]) = .returned (.tuple #[.int k b, .int l d]) := by rw [h, h']
theorem rones_any (x : Nat) (w : World) (hx : x < 18446744073709551616) :
    Calls Tryd.prog 6 #[.int .u64 x] w fun e w' => e = .returned (.int .i64 ((ones x 64 : Nat) : Int)) ∧ w = w' := by
  have HX := Lib.hid hx; clear hx
  go_enter Tryd.func6, Tryd.ntmps6
  go_wp2_with fail
  go_loop [3, 4] (fun n i => ∃ k : Nat, k ≤ 64 ∧ n = .int .i64 ((ones x k : Nat) : Int) ∧ i = .int .i64 k) (fun _ i => (64 - intOf i).toNat)
  case atStart => exact ⟨0, by omega, rfl, rfl⟩
  case round =>
    obtain ⟨k, hk, rfl, rfl⟩ := hrel
    by_cases hlt : k < 64
    · have hs : ones x (k + 1) = ones x k + x / 2 ^ k % 2 := rfl
      have hb := ones_le x k
      obtain ⟨F, hF⟩ : ∃ F, F = ones x k := ⟨_, rfl⟩
      rw [← hF] at hs hb ⊢
      have HS := Lib.hid hs; clear hs hF
      have hb' : (F : Int) ≤ 64 := by omega
      clear hb
      go_wp2_with fail
      refine (bit_any x _ _ HX.out (by omega) (by omega)).mono ?_
      rintro e w' ⟨rfl, rfl⟩
      rw [show ((k : Int)).toNat = k from by omega]
      have hbit : ((x / 2 ^ k % 2 : Nat) : Int) ≤ 1 := by omega
      obtain ⟨B, hB⟩ : ∃ B, B = x / 2 ^ k % 2 := ⟨_, rfl⟩
      rw [← hB] at hbit ⊢
      have HB := Lib.hid hB; clear hB
      go_wp2_with fail
      go_round
      case rel => exact ⟨k + 1, by omega, by rw [HS.out, ← HB.out]; congr 1, by go_num⟩
      case measure => simp [intOf]; omega
    · obtain rfl : k = 64 := by omega
      go_wp2_with fail
      go_ret
      exact ⟨rfl, rfl⟩
/-- The smallest multiple of a that is not less than x, and the error's number. -/
def aln (x a : Nat) : Nat × Nat := if ¬ (a ≠ 0 ∧ a &&& (a - 1) = 0) then (0, 1) else if x % a = 0 then (x, 0) else if 18446744073709551615 - a < x - x % a then (0, 2) else (x - x % a + a, 0)
theorem and_raw (x a : Nat) (hx : x < 18446744073709551616) (h0 : 1 ≤ a) (ha : a < 18446744073709551616) : bits .and .u64 (x : Int) ((a : Int) - 1) = ((x &&& (a - 1) : Nat) : Int) := by
  rw [show ((a : Int) - 1) = ((a - 1 : Nat) : Int) from by omega]
  exact u64_and_nat _ _ hx (by omega)
theorem or_raw (x a : Nat) (hx : x < 18446744073709551616) (h0 : 1 ≤ a) (ha : a < 18446744073709551616) : bits .or .u64 (x : Int) ((a : Int) - 1) = ((x ||| (a - 1) : Nat) : Int) := by
  rw [show ((a : Int) - 1) = ((a - 1 : Nat) : Int) from by omega]
  exact u64_or_nat _ _ hx (by omega)
theorem or_low (x j : Nat) : x ||| (2 ^ j - 1) = x - x % 2 ^ j + (2 ^ j - 1) := by
  have h1 := nat_join j (x - x % 2 ^ j) (2 ^ j - 1) (by
    have := Nat.div_add_mod x (2 ^ j)
    rw [show x - x % 2 ^ j = 2 ^ j * (x / 2 ^ j) from by omega]
    exact Nat.mul_mod_right _ _) (by have := Nat.two_pow_pos j; omega)
  rw [← h1]
  apply Nat.eq_of_testBit_eq
  intro i
  rw [Nat.testBit_or, Nat.testBit_or, Nat.testBit_two_pow_sub_one]
  by_cases hi : i < j
  · simp [hi]
  · simp [hi]
    have : x - x % 2 ^ j = 2 ^ j * (x / 2 ^ j) := by have := Nat.div_add_mod x (2 ^ j); omega
    rw [this, Nat.testBit_two_pow_mul, Nat.testBit_div_two_pow]
    simp [show j ≤ i by omega]
theorem align_any (x a : Nat) (w : World) (hx : x < 18446744073709551616) (ha : a < 18446744073709551616) :
    Calls Tryd.prog 10 #[.int .u64 x, .int .u64 a] w fun e w' => e = .returned (.tuple #[.int .u64 ((aln x a).1 : Nat), .int .i64 ((aln x a).2 : Nat)]) ∧ w = w' := by
  have x1 : (x : Int) ≤ 18446744073709551615 := by omega
  have a1 : (a : Int) ≤ 18446744073709551615 := by omega
  by_cases h0 : a = 0
  · subst h0
    rw [show aln x 0 = (0, 1) from rfl]
    clear ha hx
    go_enter Tryd.func10, Tryd.ntmps10
    go_wp2_with fail
    go_ret2
    exact ⟨rfl, rfl⟩
  · have r1 := and_raw a a ha (by omega) ha
    have n0 : ((a : Int) == 0) = false := by simp; omega
    have a0 : (1 : Int) ≤ a := by omega
    by_cases hp : a &&& (a - 1) = 0
    · have r2 := and_raw x a hx (by omega) ha
      have r3 := or_raw x a hx (by omega) ha
      obtain ⟨j, rfl⟩ := pow_of_pred a 64 ha h0 hp
      rw [hp] at r1
      rw [Nat.and_two_pow_sub_one_eq_mod] at r2
      rw [or_low] at r3
      have hbase : aln x (2 ^ j) = if x % 2 ^ j = 0 then (x, 0) else if 18446744073709551615 - 2 ^ j < x - x % 2 ^ j then (0, 2) else (x - x % 2 ^ j + 2 ^ j, 0) := by unfold aln; rw [if_neg (by simp [hp])]
      have hor : x ||| (2 ^ j - 1) < 18446744073709551616 := Nat.or_lt_two_pow (n := 64) hx (by omega)
      rw [or_low] at hor
      have hml : x % 2 ^ j ≤ x := Nat.mod_le _ _
      obtain ⟨A, hA⟩ : ∃ A, A = 2 ^ j := ⟨_, rfl⟩
      rw [← hA] at a1 h0 r1 n0 a0 hp r2 r3 hbase hor hml ha ⊢
      obtain ⟨m, hm⟩ : ∃ m, m = x % A := ⟨_, rfl⟩
      rw [← hm] at r2 r3 hbase hor hml
      by_cases hz : m = 0
      · rw [if_pos hz] at hbase
        rw [hbase]
        rw [hz] at r2
        clear hbase hor hml r3 hx ha hp hm hA h0
        go_enter Tryd.func10, Tryd.ntmps10
        go_wp2_with fail
        go_ret2
        exact ⟨rfl, rfl⟩
      · rw [if_neg hz] at hbase
        have m0 : ((m : Int) == 0) = false := by simp; omega
        by_cases hr : 18446744073709551615 - A < x - m
        · rw [if_pos hr] at hbase
          rw [hbase]
          have hlast : x - m + (A - 1) = 18446744073709551615 := by omega
          rw [hlast] at r3
          clear hbase hor hml hx ha hp hm hA h0 hlast hr hz
          go_enter Tryd.func10, Tryd.ntmps10
          go_wp2_with fail
          go_ret2
          exact ⟨rfl, rfl⟩
        · rw [if_neg hr] at hbase
          rw [hbase]
          obtain ⟨L, hL⟩ : ∃ L, L = x - m + (A - 1) := ⟨_, rfl⟩
          rw [← hL] at r3
          have hL2 : (L : Int) ≤ 18446744073709551614 := by omega
          have hL3 : Hid ((L : Int) + 1 = ((x - m + A : Nat) : Int)) := Lib.hid (by omega)
          have n2 : ((L : Int) == 18446744073709551615) = false := by simp; omega
          clear hbase hor hml hx ha hp hm hA h0 hr hz hL
          go_enter Tryd.func10, Tryd.ntmps10
          go_wp2_with fail
          go_ret2
          exact ⟨ret_pair hL3.out rfl, rfl⟩
    · have hbase : aln x a = (0, 1) := by unfold aln; rw [if_pos (by simp [hp])]
      rw [hbase]
      obtain ⟨P, hP⟩ : ∃ P, P = a &&& (a - 1) := ⟨_, rfl⟩
      rw [← hP] at r1 hp
      have n1 : ((P : Int) != 0) = true := by simp; omega
      clear hbase hP hx ha h0 hp
      go_enter Tryd.func10, Tryd.ntmps10
      go_wp2_with fail
      go_ret2
      exact ⟨rfl, rfl⟩
theorem line_any (x : Nat) (w : World) (hx : x < 18446744073709551616) :
    Calls Tryd.prog 18 #[.int .u64 x] w fun e w' => e = .returned (.int .u64 ((x / 64 : Nat) : Int)) ∧ w = w' := by
  have x1 : (x : Int) ≤ 18446744073709551615 := by omega
  clear hx
  go_enter Tryd.func18, Tryd.ntmps18
  go_wp2_with fail
  go_ret
  exact ⟨rfl, rfl⟩
/-- The last byte of n bytes from x on. -/
def lst (x n : Nat) : Nat := if x + (n - 1) ≤ 18446744073709551615 then x + (n - 1) else 18446744073709551615
/-- The first line and the number of lines. -/
def spn (x n : Nat) : Nat × Nat := if n = 0 then (0, 0) else (x / 64, lst x n / 64 - x / 64 + 1)
theorem span_any (x n : Nat) (w : World) (hx : x < 18446744073709551616) (hn : n < 18446744073709551616) :
    Calls Tryd.prog 11 #[.int .u64 x, .int .u64 n] w fun e w' => e = .returned (.tuple #[.int .u64 ((spn x n).1 : Nat), .int .u64 ((spn x n).2 : Nat)]) ∧ w = w' := by
  have x1 : (x : Int) ≤ 18446744073709551615 := by omega
  have n1 : (n : Int) ≤ 18446744073709551615 := by omega
  have HX := Lib.hid hx
  by_cases h0 : n = 0
  · subst h0
    rw [show spn x 0 = (0, 0) from rfl]
    clear hx hn HX
    go_enter Tryd.func11, Tryd.ntmps11
    go_wp2_with fail
    go_ret2
    exact ⟨rfl, rfl⟩
  · have hs : spn x n = (x / 64, lst x n / 64 - x / 64 + 1) := by unfold spn; rw [if_neg h0]
    rw [hs]; clear hs
    have n0 : ((n : Int) == 0) = false := by simp; omega
    have n2 : (1 : Int) ≤ n := by omega
    by_cases hl : x + (n - 1) ≤ 18446744073709551615
    · have hL : lst x n = x + (n - 1) := by unfold lst; rw [if_pos hl]
      rw [hL]; clear hL
      have b1 : (x : Int) + (n - 1) ≤ 18446744073709551615 := by omega
      have d : decide ((x : Int) + (n - 1) < x) = false := by simp; omega
      have hf : Hid (((x + (n - 1)) / 64 : Int) - (x / 64 : Int) + 1 = (((x + (n - 1)) / 64 - x / 64 + 1 : Nat) : Int)) := Lib.hid (by omega)
      have hf2 : Hid (((x / 64 : Nat) : Int) = (x : Int) / 64) := Lib.hid (by omega)
      have e1 : Hid ((x : Int) + (n - 1) = ((x + (n - 1) : Nat) : Int)) := Lib.hid (by omega)
      have e2 : Hid (x + (n - 1) < 18446744073709551616) := Lib.hid (by omega)
      clear hx hn hl h0
      go_enter Tryd.func11, Tryd.ntmps11
      go_wp2_with fail
      refine (line_any x _ HX.out).mono ?_
      rintro e w' ⟨rfl, rfl⟩
      go_wp2_with fail
      rw [e1.out]
      refine (line_any _ _ e2.out).mono ?_
      rintro e w' ⟨rfl, rfl⟩
      go_wp2_with fail
      go_ret2
      exact ⟨ret_pair rfl (by omega), rfl⟩
    · have hL : lst x n = 18446744073709551615 := by unfold lst; rw [if_neg hl]
      rw [hL]; clear hL
      have b1 : IntKind.u64.wrap ((x : Int) + (n - 1)) = x + (n - 1) - 18446744073709551616 := by rw [IntKind.wrap_u64]; omega
      obtain ⟨L, hLL⟩ : ∃ L : Int, L = x + (n - 1) - 18446744073709551616 := ⟨_, rfl⟩
      rw [← hLL] at b1
      have d : decide (L < x) = true := by simp; omega
      clear hn hl h0 hLL
      go_enter Tryd.func11, Tryd.ntmps11
      go_wp2_with fail
      refine (line_any x _ HX.out).mono ?_
      rintro e w' ⟨rfl, rfl⟩
      go_wp2_with fail
      refine (line_any 18446744073709551615 _ (by decide)).mono ?_
      rintro e w' ⟨rfl, rfl⟩
      go_wp2_with fail
      go_ret2
      exact ⟨ret_pair rfl (by omega), rfl⟩
/-- One step of FNV-1a. -/
def fnv (h b : Int) : Int := IntKind.u64.wrap (bits .xor .u64 h b * 1099511628211)
def hsh (zs : List Int) : Int := zs.foldl fnv 14695981039346656037
theorem fnv_bd (h b : Int) : 0 ≤ fnv h b ∧ fnv h b ≤ 18446744073709551615 := by
  unfold fnv
  rw [IntKind.wrap_u64]
  omega
theorem hsh_bd (zs : List Int) : 0 ≤ hsh zs ∧ hsh zs ≤ 18446744073709551615 := by
  unfold hsh
  rcases List.eq_nil_or_concat zs with rfl | ⟨l, a, rfl⟩
  · decide
  · rw [List.concat_eq_append, List.foldl_append]; exact fnv_bd _ _
theorem hsh_snoc (zs : List Int) (b : Int) : hsh (zs ++ [b]) = fnv (hsh zs) b := by
  unfold hsh
  rw [List.foldl_append]
  rfl
/-- The slice value reads as these numbers: it is of that length, and if it is not empty its cells hold them. -/
def Row (k : IntKind) (w : World) (a : Option Addr) (len : Nat) (zs : List Int) : Prop :=
  zs.length = len ∧ len ≤ 9223372036854775807 ∧ (∀ n ∈ zs, (Lit.int k n).wf = true) ∧ (len = 0 ∨ ∃ b off, a = some ⟨b, off, none⟩ ∧ ∀ i, i < len → w.cell? ⟨b, off + i, none⟩ = some (.int k (zs.getD i 0)))
theorem hash_any (a : Option Addr) (len cap : Nat) (zs : List Int) (w : World) (hr : Row .u8 w a len zs) :
    Calls Tryd.prog 14 #[.slice a len cap] w fun e w' => e = .returned (.int .u64 (hsh zs)) ∧ w = w' := by
  obtain ⟨hl, hm, hwf, rfl | ⟨b, off, rfl, hc⟩⟩ := hr
  · obtain rfl : zs = [] := List.length_eq_zero_iff.1 hl
    rw [show hsh [] = 14695981039346656037 from rfl]
    clear hwf hl
    go_enter Tryd.func14, Tryd.ntmps14
    go_wp2_with fail
    refine wp_loop_rounds 1 ?_
    rw [rounds_succ]
    go_wp2_with fail
    go_ret
    exact ⟨rfl, rfl⟩
  · have HC := Lib.hid hc; have HW := Lib.hid hwf; have HL := Lib.hid hl
    clear hc hwf hl
    go_enter Tryd.func14, Tryd.ntmps14
    go_wp2_with fail
    go_loop [3, 8] (fun h i => ∃ k : Nat, k ≤ len ∧ h = .int .u64 (hsh (zs.take k)) ∧ i = .int .i64 k) (fun _ i => len - (intOf i).toNat)
    case atStart => exact ⟨0, Nat.zero_le _, rfl, rfl⟩
    case round =>
      obtain ⟨k, hk, rfl, rfl⟩ := hrel
      have hbd := hsh_bd (zs.take k)
      by_cases hlt : k < len
      · have hcell := HC.out k hlt
        have hz : 0 ≤ zs.getD k 0 ∧ zs.getD k 0 ≤ 255 := by
          have hkl : k < zs.length := by rw [HL.out]; exact hlt
          rw [List.getD_eq_getElem?_getD, List.getElem?_eq_getElem hkl]
          exact bounds_u8 (HW.out _ (List.getElem_mem hkl))
        have hsn : hsh (zs.take (k + 1)) = fnv (hsh (zs.take k)) (zs.getD k 0) := by
          have hkl : k < zs.length := by rw [HL.out]; exact hlt
          rw [List.take_succ_eq_append_getElem hkl, hsh_snoc, List.getD_eq_getElem?_getD, List.getElem?_eq_getElem hkl]
          rfl
        obtain ⟨F, hF⟩ : ∃ F, F = hsh (zs.take k) := ⟨_, rfl⟩
        obtain ⟨z, hzz⟩ : ∃ z, z = zs.getD k 0 := ⟨_, rfl⟩
        rw [← hF] at hbd hsn ⊢
        rw [← hzz] at hcell hz hsn
        have HS := Lib.hid hsn; clear hsn hF hzz
        go_wp2_with fail
        go_round
        case rel => exact ⟨k + 1, by omega, by rw [HS.out]; rfl, by go_num⟩
        case measure => simp [intOf]; omega
      · obtain rfl : k = len := by omega
        have ht : zs.take k = zs := List.take_of_length_le (by rw [HL.out]; exact Nat.le_refl _)
        rw [ht] at hbd ⊢
        clear ht
        go_wp2_with fail
        go_ret
        exact ⟨rfl, rfl⟩
theorem awake_any (w : World) : Calls Tryd.prog 4 #[] w fun e w' => e = .returned (.bool true) ∧ w = w' := by
  go_enter Tryd.func4, Tryd.ntmps4
  go_wp2_with fail
  refine (align_any 65 64 _ (by decide) (by decide)).mono ?_
  rintro e w' ⟨rfl, rfl⟩
  rw [show aln 65 64 = (128, 0) from by decide]
  go_wp2_with fail
  refine (span_any 60 8 _ (by decide) (by decide)).mono ?_
  rintro e w' ⟨rfl, rfl⟩
  rw [show spn 60 8 = (0, 2) from by decide]
  go_wp2_with fail
  refine (field_yes 65280 8 4 _ (by decide) (by decide) (by decide)).mono ?_
  rintro e w' ⟨rfl, rfl⟩
  rw [show fld 65280 8 4 = 15 from by decide]
  go_wp2_with fail
  refine (setfield_yes 65280 8 4 3 _ (by decide) (by decide) (by decide) (by decide)).mono ?_
  rintro e w' ⟨rfl, rfl⟩
  rw [show setf 65280 8 4 3 = 62208 from by decide]
  go_wp2_with fail
  refine (hash_any none 0 0 [] _ ⟨rfl, by decide, by simp, .inl rfl⟩).mono ?_
  rintro e w' ⟨rfl, rfl⟩
  rw [show hsh [] = 14695981039346656037 from rfl]
  go_wp2_with fail
  go_ret
  exact ⟨rfl, rfl⟩
end Go.Proofs.YtfibemkgmkggpaaDoor.Word
