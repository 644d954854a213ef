/-
  Line, Span, Mix, Hash, Order, Unorder of the package word, and their references, each walked once; the chapter's examples.
-/
import Derived.Test.YtfibemkgmkggpaaWordMore
namespace Go.Proofs.Ytfibemkgmkggpaa.Word
open Go.RowKit

theorem line_any (x : Nat) (w : World) (hx : x < 18446744073709551616) :
    Calls Try.prog 20 #[.int .u64 x] w fun e w' => e = .returned (.int .u64 ((x / 64 : Nat) : Int)) ∧ w = w' := by
  have x1 : (x : Int) ≤ 18446744073709551615 := by omega
  clear hx
  go_enter Try.func20, Try.ntmps20
  go_wp2_with fail
  go_ret
  exact ⟨rfl, rfl⟩

/-- The last byte of n bytes from x on. -/
def lst (x n : Nat) : Nat := if x + (n - 1) ≤ 18446744073709551615 then x + (n - 1) else 18446744073709551615
/-- The first line and the number of lines. -/
def spn (x n : Nat) : Nat × Nat := if n = 0 then (0, 0) else (x / 64, lst x n / 64 - x / 64 + 1)

theorem span_any (x n : Nat) (w : World) (hx : x < 18446744073709551616) (hn : n < 18446744073709551616) :
    Calls Try.prog 18 #[.int .u64 x, .int .u64 n] w fun e w' => e = .returned (.tuple #[.int .u64 ((spn x n).1 : Nat), .int .u64 ((spn x n).2 : Nat)]) ∧ w = w' := by
  have x1 : (x : Int) ≤ 18446744073709551615 := by omega
  have n1 : (n : Int) ≤ 18446744073709551615 := by omega
  have HX := Lib.hid hx
  by_cases h0 : n = 0
  · subst h0
    rw [show spn x 0 = (0, 0) from rfl]
    clear hx hn HX
    go_enter Try.func18, Try.ntmps18
    go_wp2_with fail
    go_ret2
    exact ⟨rfl, rfl⟩
  · have hs : spn x n = (x / 64, lst x n / 64 - x / 64 + 1) := by unfold spn; rw [if_neg h0]
    rw [hs]; clear hs
    have n0 : ((n : Int) == 0) = false := by simp; omega
    have n2 : (1 : Int) ≤ n := by omega
    by_cases hl : x + (n - 1) ≤ 18446744073709551615
    · have hL : lst x n = x + (n - 1) := by unfold lst; rw [if_pos hl]
      rw [hL]; clear hL
      have b1 : (x : Int) + (n - 1) ≤ 18446744073709551615 := by omega
      have d : decide ((x : Int) + (n - 1) < x) = false := by simp; omega
      have hf : Hid (((x + (n - 1)) / 64 : Int) - (x / 64 : Int) + 1 = (((x + (n - 1)) / 64 - x / 64 + 1 : Nat) : Int)) := Lib.hid (by omega)
      have hf2 : Hid (((x / 64 : Nat) : Int) = (x : Int) / 64) := Lib.hid (by omega)
      have e1 : Hid ((x : Int) + (n - 1) = ((x + (n - 1) : Nat) : Int)) := Lib.hid (by omega)
      have e2 : Hid (x + (n - 1) < 18446744073709551616) := Lib.hid (by omega)
      clear hx hn hl h0
      go_enter Try.func18, Try.ntmps18
      go_wp2_with fail
      refine (line_any x _ HX.out).mono ?_
      rintro e w' ⟨rfl, rfl⟩
      go_wp2_with fail
      rw [e1.out]
      refine (line_any _ _ e2.out).mono ?_
      rintro e w' ⟨rfl, rfl⟩
      go_wp2_with fail
      go_ret2
      exact ⟨ret_pair rfl (by omega), rfl⟩
    · have hL : lst x n = 18446744073709551615 := by unfold lst; rw [if_neg hl]
      rw [hL]; clear hL
      have b1 : IntKind.u64.wrap ((x : Int) + (n - 1)) = x + (n - 1) - 18446744073709551616 := by rw [IntKind.wrap_u64]; omega
      obtain ⟨L, hLL⟩ : ∃ L : Int, L = x + (n - 1) - 18446744073709551616 := ⟨_, rfl⟩
      rw [← hLL] at b1
      have d : decide (L < x) = true := by simp; omega
      clear hn hl h0 hLL
      go_enter Try.func18, Try.ntmps18
      go_wp2_with fail
      refine (line_any x _ HX.out).mono ?_
      rintro e w' ⟨rfl, rfl⟩
      go_wp2_with fail
      refine (line_any 18446744073709551615 _ (by decide)).mono ?_
      rintro e w' ⟨rfl, rfl⟩
      go_wp2_with fail
      go_ret2
      exact ⟨ret_pair rfl (by omega), rfl⟩

theorem rspan_any (x n : Nat) (w : World) (hx : x < 18446744073709551616) (hn : n < 18446744073709551616) :
    Calls Try.prog 19 #[.int .u64 x, .int .u64 n] w fun e w' => e = .returned (.tuple #[.int .u64 ((spn x n).1 : Nat), .int .u64 ((spn x n).2 : Nat)]) ∧ w = w' := by
  have x1 : (x : Int) ≤ 18446744073709551615 := by omega
  have n1 : (n : Int) ≤ 18446744073709551615 := by omega
  by_cases h0 : n = 0
  · subst h0
    rw [show spn x 0 = (0, 0) from rfl]
    clear hx hn
    go_enter Try.func19, Try.ntmps19
    go_wp2_with fail
    go_ret2
    exact ⟨rfl, rfl⟩
  · have hs : spn x n = (x / 64, lst x n / 64 - x / 64 + 1) := by unfold spn; rw [if_neg h0]
    rw [hs]; clear hs
    have n0 : ((n : Int) == 0) = false := by simp; omega
    have n2 : (1 : Int) ≤ n := by omega
    by_cases hl : x + (n - 1) ≤ 18446744073709551615
    · have hL : lst x n = x + (n - 1) := by unfold lst; rw [if_pos hl]
      rw [hL]; clear hL
      have b1 : (x : Int) + (n - 1) ≤ 18446744073709551615 := by omega
      have d : decide ((n : Int) - 1 ≤ 18446744073709551615 - x) = true := by simp; omega
      clear hx hn hl h0
      go_enter Try.func19, Try.ntmps19
      go_wp2_with fail
      go_ret2
      exact ⟨ret_pair rfl (by omega), rfl⟩
    · have hL : lst x n = 18446744073709551615 := by unfold lst; rw [if_neg hl]
      rw [hL]; clear hL
      have d : decide ((n : Int) - 1 ≤ 18446744073709551615 - x) = false := by simp; omega
      clear hn hl h0
      go_enter Try.func19, Try.ntmps19
      go_wp2_with fail
      go_ret2
      exact ⟨ret_pair rfl (by omega), rfl⟩

theorem mix_any (x : Nat) (w : World) (hx : x < 18446744073709551616) :
    Calls Try.prog 21 #[.int .u64 x] w fun e w' => e = .returned (.int .u64 ((mix x : Nat) : Int)) ∧ w = w' := by
  rw [← mix_eq x hx _ _ rfl rfl]
  have x1 : (x : Int) ≤ 18446744073709551615 := by omega
  clear hx
  go_enter Try.func21, Try.ntmps21
  go_wp2_with fail
  go_ret
  exact ⟨rfl, rfl⟩

theorem rmix_any (x : Nat) (w : World) (hx : x < 18446744073709551616) :
    Calls Try.prog 22 #[.int .u64 x] w fun e w' => e = .returned (.int .u64 ((mix x : Nat) : Int)) ∧ w = w' := by
  rw [← mix_eq x hx _ _ rfl rfl]
  have x1 : (x : Int) ≤ 18446744073709551615 := by omega
  clear hx
  go_enter Try.func22, Try.ntmps22
  go_wp2_with fail
  go_ret
  exact ⟨rfl, rfl⟩

/-- The order's image of a signed number. -/
def ord (x : Int) : Int := x + 9223372036854775808

theorem order_any (x : Int) (w : World) (x0 : -9223372036854775808 ≤ x) (x1 : x ≤ 9223372036854775807) :
    Calls Try.prog 25 #[.int .i64 x] w fun e w' => e = .returned (.int .u64 (ord x)) ∧ w = w' := by
  have e : ord x = IntKind.u64.wrap (IntKind.u64.wrap x + 9223372036854775808) := by unfold ord; rw [IntKind.wrap_u64, IntKind.wrap_u64]; omega
  rw [e]; clear e
  go_enter Try.func25, Try.ntmps25
  go_wp2_with fail
  go_ret
  exact ⟨rfl, rfl⟩

theorem rorder_any (x : Int) (w : World) (x0 : -9223372036854775808 ≤ x) (x1 : x ≤ 9223372036854775807) :
    Calls Try.prog 26 #[.int .i64 x] w fun e w' => e = .returned (.int .u64 (ord x)) ∧ w = w' := by
  have e : ord x = bits .xor .u64 (IntKind.u64.wrap x) 9223372036854775808 := by
    have hn : IntKind.u64.wrap x = ((x % 18446744073709551616).toNat : Int) := by rw [IntKind.wrap_u64]; omega
    have hl : (x % 18446744073709551616).toNat < 18446744073709551616 := by omega
    rw [hn, show (9223372036854775808 : Int) = ((9223372036854775808 : Nat) : Int) from rfl, u64_xor_nat _ _ hl (by decide), xor_top _ hl]
    unfold ord
    omega
  rw [e]; clear e
  go_enter Try.func26, Try.ntmps26
  go_wp2_with fail
  go_ret
  exact ⟨rfl, rfl⟩

theorem unorder_any (u : Int) (w : World) (u0 : 0 ≤ u) (u1 : u ≤ 18446744073709551615) :
    Calls Try.prog 27 #[.int .u64 u] w fun e w' => e = .returned (.int .i64 (u - 9223372036854775808)) ∧ w = w' := by
  have e : u - 9223372036854775808 = wrap64 (IntKind.u64.wrap (u - 9223372036854775808)) := by rw [IntKind.wrap_u64]; unfold wrap64; omega
  rw [e]; clear e
  go_enter Try.func27, Try.ntmps27
  go_wp2_with fail
  go_ret
  exact ⟨rfl, rfl⟩

/-! ### Hash -/
/-- One step of FNV-1a. -/
def fnv (h b : Int) : Int := IntKind.u64.wrap (bits .xor .u64 h b * 1099511628211)
def hsh (zs : List Int) : Int := zs.foldl fnv 14695981039346656037

theorem fnv_bd (h b : Int) : 0 ≤ fnv h b ∧ fnv h b ≤ 18446744073709551615 := by
  unfold fnv
  rw [IntKind.wrap_u64]
  omega
theorem hsh_bd (zs : List Int) : 0 ≤ hsh zs ∧ hsh zs ≤ 18446744073709551615 := by
  unfold hsh
  rcases List.eq_nil_or_concat zs with rfl | ⟨l, a, rfl⟩
  · decide
  · rw [List.concat_eq_append, List.foldl_append]; exact fnv_bd _ _
theorem hsh_snoc (zs : List Int) (b : Int) : hsh (zs ++ [b]) = fnv (hsh zs) b := by
  unfold hsh
  rw [List.foldl_append]
  rfl

/-- The slice value reads as these numbers: it is of that length, and if it is not empty its cells hold them. -/
def Row (k : IntKind) (w : World) (a : Option Addr) (len : Nat) (zs : List Int) : Prop :=
  zs.length = len ∧ len ≤ 9223372036854775807 ∧ (∀ n ∈ zs, (Lit.int k n).wf = true) ∧ (len = 0 ∨ ∃ b off, a = some ⟨b, off, none⟩ ∧ ∀ i, i < len → w.cell? ⟨b, off + i, none⟩ = some (.int k (zs.getD i 0)))

theorem hash_any (a : Option Addr) (len cap : Nat) (zs : List Int) (w : World) (hr : Row .u8 w a len zs) :
    Calls Try.prog 23 #[.slice a len cap] w fun e w' => e = .returned (.int .u64 (hsh zs)) ∧ w = w' := by
  obtain ⟨hl, hm, hwf, rfl | ⟨b, off, rfl, hc⟩⟩ := hr
  · obtain rfl : zs = [] := List.length_eq_zero_iff.1 hl
    rw [show hsh [] = 14695981039346656037 from rfl]
    clear hwf hl
    go_enter Try.func23, Try.ntmps23
    go_wp2_with fail
    refine wp_loop_rounds 1 ?_
    rw [rounds_succ]
    go_wp2_with fail
    go_ret
    exact ⟨rfl, rfl⟩
  · have HC := Lib.hid hc; have HW := Lib.hid hwf; have HL := Lib.hid hl
    clear hc hwf hl
    go_enter Try.func23, Try.ntmps23
    go_wp2_with fail
    go_loop [3, 8] (fun h i => ∃ k : Nat, k ≤ len ∧ h = .int .u64 (hsh (zs.take k)) ∧ i = .int .i64 k) (fun _ i => len - (intOf i).toNat)
    case atStart => exact ⟨0, Nat.zero_le _, rfl, rfl⟩
    case round =>
      obtain ⟨k, hk, rfl, rfl⟩ := hrel
      have hbd := hsh_bd (zs.take k)
      by_cases hlt : k < len
      · have hcell := HC.out k hlt
        have hz : 0 ≤ zs.getD k 0 ∧ zs.getD k 0 ≤ 255 := by
          have hkl : k < zs.length := by rw [HL.out]; exact hlt
          rw [List.getD_eq_getElem?_getD, List.getElem?_eq_getElem hkl]
          exact bounds_u8 (HW.out _ (List.getElem_mem hkl))
        have hsn : hsh (zs.take (k + 1)) = fnv (hsh (zs.take k)) (zs.getD k 0) := by
          have hkl : k < zs.length := by rw [HL.out]; exact hlt
          rw [List.take_succ_eq_append_getElem hkl, hsh_snoc, List.getD_eq_getElem?_getD, List.getElem?_eq_getElem hkl]
          rfl
        obtain ⟨F, hF⟩ : ∃ F, F = hsh (zs.take k) := ⟨_, rfl⟩
        obtain ⟨z, hzz⟩ : ∃ z, z = zs.getD k 0 := ⟨_, rfl⟩
        rw [← hF] at hbd hsn ⊢
        rw [← hzz] at hcell hz hsn
        have HS := Lib.hid hsn; clear hsn hF hzz
        go_wp2_with fail
        go_round
        case rel => exact ⟨k + 1, by omega, by rw [HS.out]; rfl, by go_num⟩
        case measure => simp [intOf]; omega
      · obtain rfl : k = len := by omega
        have ht : zs.take k = zs := List.take_of_length_le (by rw [HL.out]; exact Nat.le_refl _)
        rw [ht] at hbd ⊢
        clear ht
        go_wp2_with fail
        go_ret
        exact ⟨rfl, rfl⟩

theorem rhash_any (a : Option Addr) (len cap : Nat) (zs : List Int) (w : World) (hr : Row .u8 w a len zs) :
    Calls Try.prog 24 #[.slice a len cap] w fun e w' => e = .returned (.int .u64 (hsh zs)) ∧ w = w' := by
  obtain ⟨hl, hm, hwf, rfl | ⟨b, off, rfl, hc⟩⟩ := hr
  · obtain rfl : zs = [] := List.length_eq_zero_iff.1 hl
    rw [show hsh [] = 14695981039346656037 from rfl]
    clear hwf hl
    go_enter Try.func24, Try.ntmps24
    go_wp2_with fail
    refine wp_loop_rounds 1 ?_
    rw [rounds_succ]
    go_wp2_with fail
    go_ret
    exact ⟨rfl, rfl⟩
  · have HC := Lib.hid hc; have HW := Lib.hid hwf; have HL := Lib.hid hl
    clear hc hwf hl
    go_enter Try.func24, Try.ntmps24
    go_wp2_with fail
    go_loop [3, 8] (fun h i => ∃ k : Nat, k ≤ len ∧ h = .int .u64 (hsh (zs.take k)) ∧ i = .int .i64 k) (fun _ i => len - (intOf i).toNat)
    case atStart => exact ⟨0, Nat.zero_le _, rfl, rfl⟩
    case round =>
      obtain ⟨k, hk, rfl, rfl⟩ := hrel
      have hbd := hsh_bd (zs.take k)
      by_cases hlt : k < len
      · have hcell := HC.out k hlt
        have hz : 0 ≤ zs.getD k 0 ∧ zs.getD k 0 ≤ 255 := by
          have hkl : k < zs.length := by rw [HL.out]; exact hlt
          rw [List.getD_eq_getElem?_getD, List.getElem?_eq_getElem hkl]
          exact bounds_u8 (HW.out _ (List.getElem_mem hkl))
        have hsn : hsh (zs.take (k + 1)) = fnv (hsh (zs.take k)) (zs.getD k 0) := by
          have hkl : k < zs.length := by rw [HL.out]; exact hlt
          rw [List.take_succ_eq_append_getElem hkl, hsh_snoc, List.getD_eq_getElem?_getD, List.getElem?_eq_getElem hkl]
          rfl
        obtain ⟨F, hF⟩ : ∃ F, F = hsh (zs.take k) := ⟨_, rfl⟩
        obtain ⟨z, hzz⟩ : ∃ z, z = zs.getD k 0 := ⟨_, rfl⟩
        rw [← hF] at hbd hsn ⊢
        rw [← hzz] at hcell hz hsn
        have HS := Lib.hid hsn; clear hsn hF hzz
        go_wp2_with fail
        go_round
        case rel => exact ⟨k + 1, by omega, by rw [HS.out]; rfl, by go_num⟩
        case measure => simp [intOf]; omega
      · obtain rfl : k = len := by omega
        have ht : zs.take k = zs := List.take_of_length_le (by rw [HL.out]; exact Nat.le_refl _)
        rw [ht] at hbd ⊢
        clear ht
        go_wp2_with fail
        go_ret
        exact ⟨rfl, rfl⟩

theorem awake_any (w : World) : Calls Try.prog 11 #[] w fun e w' => e = .returned (.bool true) ∧ w = w' := by
  go_enter Try.func11, Try.ntmps11
  go_wp2_with fail
  refine (align_any 65 64 _ (by decide) (by decide)).mono ?_
  rintro e w' ⟨rfl, rfl⟩
  rw [show aln 65 64 = (128, 0) from by decide]
  go_wp2_with fail
  refine (span_any 60 8 _ (by decide) (by decide)).mono ?_
  rintro e w' ⟨rfl, rfl⟩
  rw [show spn 60 8 = (0, 2) from by decide]
  go_wp2_with fail
  refine (field_yes 65280 8 4 _ (by decide) (by decide) (by decide)).mono ?_
  rintro e w' ⟨rfl, rfl⟩
  rw [show fld 65280 8 4 = 15 from by decide]
  go_wp2_with fail
  refine (setfield_yes 65280 8 4 3 _ (by decide) (by decide) (by decide) (by decide)).mono ?_
  rintro e w' ⟨rfl, rfl⟩
  rw [show setf 65280 8 4 3 = 62208 from by decide]
  go_wp2_with fail
  refine (hash_any none 0 0 [] _ ⟨rfl, by decide, by simp, .inl rfl⟩).mono ?_
  rintro e w' ⟨rfl, rfl⟩
  rw [show hsh [] = 14695981039346656037 from rfl]
  go_wp2_with fail
  go_ret
  exact ⟨rfl, rfl⟩
end Go.Proofs.Ytfibemkgmkggpaa.Word
