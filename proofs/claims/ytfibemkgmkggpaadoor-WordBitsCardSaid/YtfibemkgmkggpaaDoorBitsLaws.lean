/-
  OnesCount64, TrailingZeros64, Ones, Lowest, Select and the reference's Select, each walked once; the law on bits.
-/
import Derived.Test.YtfibemkgmkggpaaDoorBitsWalks
import Derived.Test.YtfibemkgmkggpaaDoorBitsPlain
namespace Go.Proofs.YtfibemkgmkggpaaDoor.Word
open Go.RowKit

set_option maxRecDepth 100000 in
theorem onesCount_any (x : Nat) (w : World) (hx : x < 18446744073709551616) :
    Calls Tryd.prog 15 #[.int .u64 x] w fun e w' => e = .returned (.int .i64 ((ones x 64 : Nat) : Int)) ∧ w = w' := by
  have x1 : (x : Int) ≤ 18446744073709551615 := by omega
  have hABC := sABC 8 x
  unfold sC at hABC
  unfold sB at hABC
  unfold sA at hABC
  rw [show rep 85 8 = 6148914691236517205 from by decide, show rep 51 8 = 3689348814741910323 from by decide, show rep 15 8 = 1085102592571150095 from by decide] at hABC
  have hle := sP_le 8 x (by decide)
  have hon := ones_sum x (sP 8 x) _ _ rfl rfl rfl
  obtain ⟨c, hc⟩ : ∃ c, c = sP 8 x := ⟨_, rfl⟩
  rw [← hc] at hABC hle hon
  have r1 : bits .and .u64 ((x : Int) / 2) 6148914691236517205 = ((x / 2 &&& 6148914691236517205 : Nat) : Int) := by
    rw [show (x : Int) / 2 = ((x / 2 : Nat) : Int) from by omega]
    exact u64_and_nat _ 6148914691236517205 (by omega) (by decide)
  have r2 : bits .and .u64 (x : Int) 6148914691236517205 = ((x &&& 6148914691236517205 : Nat) : Int) := u64_and_nat _ 6148914691236517205 hx (by decide)
  have l1 : (x / 2 &&& 6148914691236517205) ≤ 6148914691236517205 := Nat.and_le_right
  have l2 : (x &&& 6148914691236517205) ≤ 6148914691236517205 := Nat.and_le_right
  obtain ⟨a1, ha1⟩ : ∃ a1, a1 = (x / 2 &&& 6148914691236517205) := ⟨_, rfl⟩
  obtain ⟨a2, ha2⟩ : ∃ a2, a2 = (x &&& 6148914691236517205) := ⟨_, rfl⟩
  rw [← ha1] at hABC r1 l1
  rw [← ha2] at hABC r2 l2
  have r3 : bits .and .u64 (((a1 : Int) + a2) / 4) 3689348814741910323 = (((a1 + a2) / 4 &&& 3689348814741910323 : Nat) : Int) := by
    rw [show ((a1 : Int) + a2) / 4 = (((a1 + a2) / 4 : Nat) : Int) from by omega]
    exact u64_and_nat _ 3689348814741910323 (by omega) (by decide)
  have r4 : bits .and .u64 ((a1 : Int) + a2) 3689348814741910323 = ((a1 + a2 &&& 3689348814741910323 : Nat) : Int) := by
    rw [show ((a1 : Int) + a2) = ((a1 + a2 : Nat) : Int) from by omega]
    exact u64_and_nat _ 3689348814741910323 (by omega) (by decide)
  have l3 : ((a1 + a2) / 4 &&& 3689348814741910323) ≤ 3689348814741910323 := Nat.and_le_right
  have l4 : (a1 + a2 &&& 3689348814741910323) ≤ 3689348814741910323 := Nat.and_le_right
  obtain ⟨b1, hb1⟩ : ∃ b1, b1 = ((a1 + a2) / 4 &&& 3689348814741910323) := ⟨_, rfl⟩
  obtain ⟨b2, hb2⟩ : ∃ b2, b2 = (a1 + a2 &&& 3689348814741910323) := ⟨_, rfl⟩
  rw [← hb1] at hABC r3 l3
  rw [← hb2] at hABC r4 l4
  have r5 : bits .and .u64 (((b1 : Int) + b2) / 16 + ((b1 : Int) + b2)) 1085102592571150095 = (c : Int) := by
    rw [show (((b1 : Int) + b2) / 16 + ((b1 : Int) + b2)) = (((b1 + b2) / 16 + (b1 + b2) : Nat) : Int) from by omega, ← hABC]
    exact u64_and_nat _ 1085102592571150095 (by omega) (by decide)
  have hc2 : (c : Int) ≤ 578721382704613384 := by
    have h256 : (256 : Nat) ^ 8 = 18446744073709551616 := by decide
    rw [h256] at hle
    omega
  have r6 : ∀ d1 d2 d3 : Int, d1 = c + c / 256 → d2 = d1 + d1 / 65536 → d3 = d2 + d2 / 4294967296 → bits .and .i64 d3 127 = ((ones x 64 : Nat) : Int) := by
    intro d1 d2 d3 h1 h2 h3
    rw [i64_and127, ← hon, h3, h2, h1]
    simp only [Int.natCast_emod, Int.natCast_add, Int.natCast_ediv]
    rfl
  have R6 := Lib.hid r6; have A1 : (a1 : Int) ≤ 6148914691236517205 := by omega
  have A2 : (a2 : Int) ≤ 6148914691236517205 := by omega
  have B1 : (b1 : Int) ≤ 3689348814741910323 := by omega
  have B2 : (b2 : Int) ≤ 3689348814741910323 := by omega
  clear r6 hon hle hABC hc ha1 ha2 hb1 hb2 l1 l2 l3 l4 hx
  go_enter Tryd.func15, Tryd.ntmps15
  go_wp2_with fail
  go_ret
  refine ⟨?_, rfl⟩
  rw [← R6.out _ _ _ rfl rfl rfl]
  rfl

theorem ones_any (x : Nat) (w : World) (hx : x < 18446744073709551616) :
    Calls Tryd.prog 5 #[.int .u64 x] w fun e w' => e = .returned (.int .i64 ((ones x 64 : Nat) : Int)) ∧ w = w' := by
  have HX := Lib.hid hx; clear hx
  go_enter Tryd.func5, Tryd.ntmps5
  go_wp2_with fail
  refine (onesCount_any x _ HX.out).mono ?_
  rintro e w' ⟨rfl, rfl⟩
  go_wp2_with fail
  go_ret
  exact ⟨rfl, rfl⟩

/-- The table of math/bits lies in its variable. -/
def BTab (w : World) : Prop := ∀ i, i < 64 → w.cell? ⟨0, i, none⟩ = some (.int .u8 ((Lib.deBruijn64tab.getD i 0 : Nat) : Int))

theorem trailing_any (x : Nat) (w : World) (hx : x < 18446744073709551616) (h0 : 0 < x) (T : BTab w) :
    Calls Tryd.prog 17 #[.int .u64 x] w fun e w' => e = .returned (.int .i64 ((Lib.ctzFrom 64 x : Nat) : Int)) ∧ w = w' := by
  obtain ⟨m, hm, hk⟩ := Lib.ctzFrom_spec 64 x h0 hx
  obtain ⟨k, hkk⟩ : ∃ k, k = Lib.ctzFrom 64 x := ⟨_, rfl⟩
  rw [← hkk] at hm hk ⊢
  have hand : x &&& (18446744073709551616 - x) = 2 ^ k := by
    have h := Lib.and_neg 64 k m (by rw [← hm]; exact hx)
    rw [← hm] at h
    exact h
  have hdb := Lib.deBruijn64_at k hk
  have hp : 2 ^ k < 18446744073709551616 := Nat.pow_lt_pow_right (a := 2) (n := 64) (by decide) hk
  have n0 : ((x : Int) == 0) = false := by simp; omega
  have x1 : (x : Int) ≤ 18446744073709551615 := by omega
  obtain ⟨P, hP⟩ : ∃ P, P = 2 ^ k := ⟨_, rfl⟩
  rw [← hP] at hand hdb hp
  have r1 : bits .and .u64 (x : Int) (IntKind.u64.wrap (-(x : Int))) = (P : Int) := by
    rw [show IntKind.u64.wrap (-(x : Int)) = ((18446744073709551616 - x : Nat) : Int) from by rw [IntKind.wrap_u64]; omega, u64_and_nat _ _ hx (by omega), hand]
  obtain ⟨Q, hQ⟩ : ∃ Q, Q = P * 285870213051353865 % 18446744073709551616 / 288230376151711744 := ⟨_, rfl⟩
  rw [← hQ] at hdb
  have r2 : IntKind.u64.wrap ((P : Int) * 285870213051353865) / 288230376151711744 = (Q : Int) := by
    rw [IntKind.wrap_u64, hQ]
    simp only [Int.natCast_emod, Int.natCast_mul, Int.natCast_ediv]
    rfl
  have hcell := T Q hdb.1
  rw [hdb.2] at hcell
  have hQ2 : (Q : Int) < 64 := by omega
  have hk2 : (k : Int) < 64 := by omega
  clear hm hk hkk hand hdb hp hP hQ hx h0
  have TT := Lib.hid T; clear T
  go_enter Tryd.func17, Tryd.ntmps17
  go_wp2_with fail
  go_ret
  exact ⟨rfl, rfl⟩

theorem lowest_any (x : Nat) (w : World) (hx : x < 18446744073709551616) (T : BTab w) :
    Calls Tryd.prog 7 #[.int .u64 x] w fun e w' => e = .returned (.int .i64 (selV x 0)) ∧ w = w' := by
  by_cases h0 : x = 0
  · subst h0
    rw [show selV 0 0 = -1 from by decide]
    clear T hx
    go_enter Tryd.func7, Tryd.ntmps7
    go_wp2_with fail
    go_ret
    exact ⟨rfl, rfl⟩
  · rw [sel_low x (by omega) hx]
    have n0 : ((x : Int) == 0) = false := by simp; omega
    have HX := Lib.hid hx; have H0 : Hid (0 < x) := Lib.hid (by omega); have TT := Lib.hid T; clear hx h0 T
    go_enter Tryd.func7, Tryd.ntmps7
    go_wp2_with fail
    refine (trailing_any x _ HX.out H0.out TT.out).mono ?_
    rintro e w' ⟨rfl, rfl⟩
    go_wp2_with fail
    go_ret
    exact ⟨rfl, rfl⟩

/-- The selected bit, for every number k. -/
def sel (x : Nat) (k : Int) : Int := if k < 0 then -1 else selV x k.toNat

theorem select_neg (x : Nat) (k : Int) (w : World) (hk : k < 0) :
    Calls Tryd.prog 9 #[.int .u64 x, .int .i64 k] w fun e w' => e = .returned (.int .i64 (-1)) ∧ w = w' := by
  go_enter Tryd.func9, Tryd.ntmps9
  go_wp2_with fail
  go_ret
  exact ⟨rfl, rfl⟩

theorem select_pos (x k : Nat) (w : World) (hx : x < 18446744073709551616) (T : BTab w) :
    Calls Tryd.prog 9 #[.int .u64 x, .int .i64 k] w fun e w' => e = .returned (.int .i64 (selV x k)) ∧ w = w' := by
  have dneg : decide ((k : Int) < 0) = false := by simp
  have hol := ones_le x 64
  obtain ⟨O, hO⟩ : ∃ O, O = ones x 64 := ⟨_, rfl⟩
  rw [← hO] at hol
  by_cases h : O ≤ k
  · rw [sel_none x k (by rw [← hO]; exact h)]
    have d : decide (O ≤ k) = true := by simp; omega
    have HX := Lib.hid hx; have HO := Lib.hid hO; clear hx T h hO
    go_enter Tryd.func9, Tryd.ntmps9
    go_wp2_with fail
    refine (ones_any x _ HX.out).mono ?_
    rintro e w' ⟨rfl, rfl⟩
    rw [← HO.out]
    go_wp2_with fail
    go_ret
    exact ⟨rfl, rfl⟩
  · have hs := sel_clr x k hx (by rw [← hO]; omega)
    have hsl : selV (clr x k) 0 = selV x k := by
      rw [hs, sel_low (clr x k) (clr_pos x k hx (by rw [← hO]; omega)) (Nat.lt_of_le_of_lt (clr_le x k) hx)]
    have d : decide (O ≤ k) = false := by simp; omega
    have hk : k < O := by omega
    have HX := Lib.hid hx; have HO := Lib.hid hO; have HS := Lib.hid hsl; have TT := Lib.hid T; clear hx T h hO hs hsl
    go_enter Tryd.func9, Tryd.ntmps9
    go_wp2_with fail
    refine (ones_any x _ HX.out).mono ?_
    rintro e w' ⟨rfl, rfl⟩
    rw [← HO.out]
    go_wp2_with fail
    go_loop [0, 14] (fun v i => ∃ t : Nat, t ≤ k ∧ v = .int .u64 ((clr x t : Nat) : Int) ∧ i = .int .i64 t) (fun _ i => k - (intOf i).toNat)
    case atStart => exact ⟨0, by omega, rfl, rfl⟩
    case round =>
      obtain ⟨t, ht, rfl, rfl⟩ := hrel
      by_cases hlt : t < k
      · have hpos := clr_pos x t HX.out (by rw [← HO.out]; omega)
        have hcl := Nat.lt_of_le_of_lt (clr_le x t) HX.out
        have hr := and_raw (clr x t) (clr x t) hcl (by omega) hcl
        have hs : Hid (clr x (t + 1) = (clr x t &&& (clr x t - 1))) := Lib.hid rfl
        obtain ⟨C, hC⟩ : ∃ C, C = clr x t := ⟨_, rfl⟩
        rw [← hC] at hpos hcl hr hs ⊢
        have hC1 : (C : Int) ≤ 18446744073709551615 := by omega
        have hC0 : (1 : Int) ≤ C := by omega
        clear hcl hpos hC
        go_wp2_with fail
        go_round
        case rel => exact ⟨t + 1, by omega, by rw [hs.out], by go_num⟩
        case measure => simp [intOf]; omega
      · obtain rfl : t = k := by omega
        go_wp2_with fail
        refine (lowest_any _ _ (Nat.lt_of_le_of_lt (clr_le x t) HX.out) TT.out).mono ?_
        rintro e w' ⟨rfl, rfl⟩
        rw [HS.out]
        go_wp2_with fail
        go_ret
        exact ⟨rfl, rfl⟩

theorem rselect_neg (x : Nat) (k : Int) (w : World) (hx : x < 18446744073709551616) (hk : k < 0) :
    Calls Tryd.prog 8 #[.int .u64 x, .int .i64 k] w fun e w' => e = .returned (.int .i64 (-1)) ∧ w = w' := by
  have HX := Lib.hid hx; clear hx
  go_enter Tryd.func8, Tryd.ntmps8
  go_wp2_with fail
  go_loop [5, 6] (fun b i => ∃ n t : Nat, n ≤ t ∧ t ≤ 64 ∧ b = .int .i64 n ∧ i = .int .i64 t) (fun _ i => 64 - (intOf i).toNat)
  case atStart => exact ⟨0, 0, by omega, by omega, rfl, rfl⟩
  case round =>
    obtain ⟨n, t, hn, ht, rfl, rfl⟩ := hrel
    by_cases hlt : t < 64
    · have hne : ((n : Int) == k) = false := by simp; omega
      go_wp2_with fail
      refine (bit_any x _ _ HX.out (by omega) (by omega)).mono ?_
      rintro e w' ⟨rfl, rfl⟩
      have hbit : x / 2 ^ ((t : Int)).toNat % 2 = 0 ∨ x / 2 ^ ((t : Int)).toNat % 2 = 1 := by omega
      generalize x / 2 ^ ((t : Int)).toNat % 2 = b at hbit ⊢
      rcases hbit with rfl | rfl
      · go_wp2_with fail
        go_round
        case rel => exact ⟨n, t + 1, by omega, by omega, rfl, by go_num⟩
        case measure => simp [intOf]; omega
      · go_wp2_with fail
        go_round
        case rel => exact ⟨n + 1, t + 1, by omega, by omega, by go_num, by go_num⟩
        case measure => simp [intOf]; omega
    · obtain rfl : t = 64 := by omega
      go_wp2_with fail
      go_ret
      exact ⟨rfl, rfl⟩

theorem rselect_pos (x k : Nat) (w : World) (hx : x < 18446744073709551616) :
    Calls Tryd.prog 8 #[.int .u64 x, .int .i64 k] w fun e w' => e = .returned (.int .i64 (selV x k)) ∧ w = w' := by
  have HX := Lib.hid hx; clear hx
  obtain ⟨V, hV⟩ : ∃ V, V = selV x k := ⟨_, rfl⟩
  rw [← hV]
  have HV := Lib.hid hV; clear hV
  go_enter Tryd.func8, Tryd.ntmps8
  go_wp2_with fail
  go_loop [5, 6] (fun b i => ∃ t : Nat, t ≤ 64 ∧ Hid (SelAt x k t) ∧ b = .int .i64 ((ones x t : Nat) : Int) ∧ i = .int .i64 t) (fun _ i => 64 - (intOf i).toNat)
  case atStart => exact ⟨0, by omega, Lib.hid (selAt_zero x k), rfl, rfl⟩
  case round =>
    obtain ⟨t, ht, HA, rfl, rfl⟩ := hrel
    by_cases hlt : t < 64
    · have hskip := Lib.hid (selAt_skip x k t hlt HA.out)
      have htake := Lib.hid (selAt_take x k t hlt HA.out)
      have hhit := Lib.hid (selAt_hit x k t hlt HA.out)
      have hs : Hid (ones x (t + 1) = ones x t + x / 2 ^ t % 2) := Lib.hid rfl
      have hle := ones_le x t
      obtain ⟨n, hn⟩ : ∃ n, n = ones x t := ⟨_, rfl⟩
      rw [← hn] at htake hhit hs hle ⊢
      have hnI : (n : Int) ≤ 64 := by omega
      have HN := Lib.hid hn; clear hn
      have hbit : x / 2 ^ t % 2 = 0 ∨ x / 2 ^ t % 2 = 1 := by omega
      by_cases hnk : n = k
      · have dk : (n == k) = true := by simpa using hnk
        have dk2 : ((n : Int) == (k : Int)) = true := by simp; omega
        have HNK := Lib.hid hnk; clear hnk
        go_wp2_with fail
        refine (bit_any x _ _ HX.out (by omega) (by omega)).mono ?_
        rintro e w' ⟨rfl, rfl⟩
        rw [show ((t : Int)).toNat = t from by omega]
        obtain ⟨b, hb⟩ : ∃ b, b = x / 2 ^ t % 2 := ⟨_, rfl⟩
        rw [← hb] at hbit hskip htake hhit hs ⊢
        clear hb
        rcases hbit with rfl | rfl
        · go_wp2_with fail
          go_round
          case rel => exact ⟨t + 1, by omega, Lib.hid (hskip.out (by simp)), by rw [hs.out]; rfl, by go_num⟩
          case measure => simp [intOf]; omega
        · go_wp2_with fail
          go_ret
          exact ⟨by rw [HV.out, hhit.out (by simp) HNK.out]; rfl, rfl⟩
      · have dk : (n == k) = false := by simpa using hnk
        have dk2 : ((n : Int) == (k : Int)) = false := by simp; omega
        have HNK := Lib.hid hnk; clear hnk
        go_wp2_with fail
        refine (bit_any x _ _ HX.out (by omega) (by omega)).mono ?_
        rintro e w' ⟨rfl, rfl⟩
        rw [show ((t : Int)).toNat = t from by omega]
        obtain ⟨b, hb⟩ : ∃ b, b = x / 2 ^ t % 2 := ⟨_, rfl⟩
        rw [← hb] at hbit hskip htake hhit hs ⊢
        clear hb
        rcases hbit with rfl | rfl
        · go_wp2_with fail
          go_round
          case rel => exact ⟨t + 1, by omega, Lib.hid (hskip.out (by simp)), by rw [hs.out]; rfl, by go_num⟩
          case measure => simp [intOf]; omega
        · go_wp2_with fail
          go_round
          case rel => exact ⟨t + 1, by omega, Lib.hid (htake.out (by simp) HNK.out), by rw [hs.out]; rfl, by go_num⟩
          case measure => simp [intOf]; omega
    · obtain rfl : t = 64 := by omega
      have hend := Lib.hid (selAt_end x k HA.out)
      go_wp2_with fail
      go_ret
      exact ⟨by rw [HV.out, hend.out]; rfl, rfl⟩

theorem bits_law (x : Nat) (k : Int) (w : World) (hx : x < 18446744073709551616) (T : BTab w) :
    Calls Tryd.prog 3 #[.int .u64 x, .int .i64 k] w fun e w' => e = .returned (.bool true) ∧ w = w' := by
  have HX := Lib.hid hx; have TT := Lib.hid T; clear hx T
  have hsel : Hid (∀ w, BTab w → Calls Tryd.prog 9 #[.int .u64 x, .int .i64 k] w fun e w' => e = .returned (.int .i64 (sel x k)) ∧ w = w') := Lib.hid (fun w T => by
    unfold sel
    by_cases hk : k < 0
    · rw [if_pos hk]; exact select_neg x k w hk
    · obtain ⟨n, rfl⟩ : ∃ n : Nat, k = n := ⟨k.toNat, by omega⟩
      rw [if_neg hk]
      exact select_pos x n w HX.out T)
  have hrsel : Hid (∀ w, Calls Tryd.prog 8 #[.int .u64 x, .int .i64 k] w fun e w' => e = .returned (.int .i64 (sel x k)) ∧ w = w') := Lib.hid (fun w => by
    unfold sel
    by_cases hk : k < 0
    · rw [if_pos hk]; exact rselect_neg x k w HX.out hk
    · obtain ⟨n, rfl⟩ : ∃ n : Nat, k = n := ⟨k.toNat, by omega⟩
      rw [if_neg hk]
      exact rselect_pos x n w HX.out)
  go_enter Tryd.func3, Tryd.ntmps3
  go_wp2_with fail
  refine (awake_any _).mono ?_
  rintro e w' ⟨rfl, rfl⟩
  go_wp2_with fail
  refine (ones_any x _ HX.out).mono ?_
  rintro e w' ⟨rfl, rfl⟩
  go_wp2_with fail
  refine (rones_any x _ HX.out).mono ?_
  rintro e w' ⟨rfl, rfl⟩
  go_wp2_with fail
  refine (lowest_any x _ HX.out TT.out).mono ?_
  rintro e w' ⟨rfl, rfl⟩
  go_wp2_with fail
  refine (rselect_pos x 0 _ HX.out).mono ?_
  rintro e w' ⟨rfl, rfl⟩
  go_wp2_with fail
  refine (hsel.out _ TT.out).mono ?_
  rintro e w' ⟨rfl, rfl⟩
  go_wp2_with fail
  refine (hrsel.out _).mono ?_
  rintro e w' ⟨rfl, rfl⟩
  go_wp2_with fail
  go_ret
  exact ⟨rfl, rfl⟩
end Go.Proofs.YtfibemkgmkggpaaDoor.Word
