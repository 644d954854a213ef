/-
  Six laws of chapter 01, walked: each returns true for every argument.
-/
import Derived.Test.YtfibemkgmkggpaaWordMore2
namespace Go.Proofs.Ytfibemkgmkggpaa.Word
open Go.RowKit

theorem orders (x y u : Int) (w : World) (x0 : -9223372036854775808 ≤ x) (x1 : x ≤ 9223372036854775807) (y0 : -9223372036854775808 ≤ y) (y1 : y ≤ 9223372036854775807) (u0 : 0 ≤ u) (u1 : u ≤ 18446744073709551615) :
    Calls Try.prog 8 #[.int .i64 x, .int .i64 y, .int .u64 u] w fun e w' => e = .returned (.bool true) ∧ w = w' := by
  have ox : 0 ≤ ord x ∧ ord x ≤ 18446744073709551615 := by unfold ord; omega
  have oy : 0 ≤ ord y ∧ ord y ≤ 18446744073709551615 := by unfold ord; omega
  have hlt : (decide (ord x < ord y) == decide (x < y)) = true := by unfold ord; simp
  have hux : Hid (ord x - 9223372036854775808 = x) := Lib.hid (by unfold ord; omega)
  have huu : Hid (ord (u - 9223372036854775808) = u) := Lib.hid (by unfold ord; omega)
  go_enter Try.func8, Try.ntmps8
  go_wp2_with fail
  refine (awake_any _).mono ?_
  rintro e w' ⟨rfl, rfl⟩
  go_wp2_with fail
  refine (order_any x _ x0 x1).mono ?_
  rintro e w' ⟨rfl, rfl⟩
  go_wp2_with fail
  refine (rorder_any x _ x0 x1).mono ?_
  rintro e w' ⟨rfl, rfl⟩
  go_wp2_with fail
  refine (order_any x _ x0 x1).mono ?_
  rintro e w' ⟨rfl, rfl⟩
  go_wp2_with fail
  refine (order_any y _ y0 y1).mono ?_
  rintro e w' ⟨rfl, rfl⟩
  go_wp2_with fail
  refine (order_any x _ x0 x1).mono ?_
  rintro e w' ⟨rfl, rfl⟩
  go_wp2_with fail
  refine (unorder_any _ _ ox.1 ox.2).mono ?_
  rintro e w' ⟨rfl, rfl⟩
  rw [hux.out]
  go_wp2_with fail
  refine (unorder_any _ _ u0 u1).mono ?_
  rintro e w' ⟨rfl, rfl⟩
  go_wp2_with fail
  refine (order_any _ _ (by omega) (by omega)).mono ?_
  rintro e w' ⟨rfl, rfl⟩
  rw [huu.out]
  go_wp2_with fail
  go_ret
  exact ⟨rfl, rfl⟩

theorem mixDiffers (x y : Nat) (w : World) (hx : x < 18446744073709551616) (hy : y < 18446744073709551616) :
    Calls Try.prog 7 #[.int .u64 x, .int .u64 y] w fun e w' => e = .returned (.bool true) ∧ w = w' := by
  have h : (((x : Int) == (y : Int)) == (((mix x : Nat) : Int) == ((mix y : Nat) : Int))) = true := by
    by_cases e : x = y
    · subst e; simp
    · have : mix x ≠ mix y := fun h => e (mix_inj x y hx hy h)
      have h1 : ((x : Int) == (y : Int)) = false := by simp; omega
      have h2 : (((mix x : Nat) : Int) == ((mix y : Nat) : Int)) = false := by simp; omega
      rw [h1, h2]; rfl
  have HX := Lib.hid hx; have HY := Lib.hid hy; clear hx hy
  go_enter Try.func7, Try.ntmps7
  go_wp2_with fail
  refine (awake_any _).mono ?_
  rintro e w' ⟨rfl, rfl⟩
  go_wp2_with fail
  refine (mix_any x _ HX.out).mono ?_
  rintro e w' ⟨rfl, rfl⟩
  go_wp2_with fail
  refine (mix_any y _ HY.out).mono ?_
  rintro e w' ⟨rfl, rfl⟩
  go_wp2_with fail
  go_ret
  exact ⟨rfl, rfl⟩

theorem hashes (x : Nat) (a : Option Addr) (len cap : Nat) (zs : List Int) (w : World) (hx : x < 18446744073709551616) (hr : Row .u8 w a len zs) :
    Calls Try.prog 6 #[.int .u64 x, .slice a len cap] w fun e w' => e = .returned (.bool true) ∧ w = w' := by
  have HX := Lib.hid hx; have HR := Lib.hid hr; clear hx hr
  go_enter Try.func6, Try.ntmps6
  go_wp2_with fail
  refine (awake_any _).mono ?_
  rintro e w' ⟨rfl, rfl⟩
  go_wp2_with fail
  refine (mix_any x _ HX.out).mono ?_
  rintro e w' ⟨rfl, rfl⟩
  go_wp2_with fail
  refine (rmix_any x _ HX.out).mono ?_
  rintro e w' ⟨rfl, rfl⟩
  go_wp2_with fail
  refine (hash_any a len cap zs _ HR.out).mono ?_
  rintro e w' ⟨rfl, rfl⟩
  go_wp2_with fail
  refine (rhash_any a len cap zs _ HR.out).mono ?_
  rintro e w' ⟨rfl, rfl⟩
  go_wp2_with fail
  go_ret
  exact ⟨rfl, rfl⟩

theorem aligns (x a n : Nat) (w : World) (hx : x < 18446744073709551616) (ha : a < 18446744073709551616) (hn : n < 18446744073709551616) :
    Calls Try.prog 5 #[.int .u64 x, .int .u64 a, .int .u64 n] w fun e w' => e = .returned (.bool true) ∧ w = w' := by
  have x1 : (x : Int) ≤ 18446744073709551615 := by omega
  have HX := Lib.hid hx; have HA := Lib.hid ha; have HN := Lib.hid hn; clear hx ha hn
  have he : Hid ((aln x a).2 ≤ 2) := Lib.hid (by unfold aln; repeat' split
                                                 all_goals simp)
  go_enter Try.func5, Try.ntmps5
  go_wp2_with fail
  refine (awake_any _).mono ?_
  rintro e w' ⟨rfl, rfl⟩
  go_wp2_with fail
  refine (align_any x a _ HX.out HA.out).mono ?_
  rintro e w' ⟨rfl, rfl⟩
  go_wp2_with fail
  refine (ralign_any x a _ HX.out HA.out).mono ?_
  rintro e w' ⟨rfl, rfl⟩
  go_wp2_with fail
  refine (span_any x n _ HX.out HN.out).mono ?_
  rintro e w' ⟨rfl, rfl⟩
  go_wp2_with fail
  refine (rspan_any x n _ HX.out HN.out).mono ?_
  rintro e w' ⟨rfl, rfl⟩
  have hb : (((aln x a).2 : Nat) : Int) ≤ 2 := by have := he.out; omega
  go_wp2_with fail
  refine (line_any x _ HX.out).mono ?_
  rintro e w' ⟨rfl, rfl⟩
  go_wp2_with fail
  go_ret
  exact ⟨rfl, rfl⟩

theorem fields_yes (x s n v : Nat) (w : World) (hx : x < 18446744073709551616) (hv : v < 18446744073709551616) (h0 : 1 ≤ n) (h : s + n ≤ 64) :
    Calls Try.prog 3 #[.int .u64 x, .agg #[.int .i64 s, .int .i64 n], .int .u64 v] w fun e w' => e = .returned (.bool true) ∧ Below w.heap.size w w' := by
  have HX := Lib.hid hx; have HV := Lib.hid hv; clear hx hv
  go_enter Try.func3, Try.ntmps3
  go_wp2_with fail
  go_quiet (fail)
  go_wp2_with fail
  refine (awake_any _).mono ?_
  rintro e w' ⟨rfl, rfl⟩
  go_wp2_with fail
  refine (field_yes x s n _ HX.out h0 h).mono ?_
  rintro e w' ⟨rfl, rfl⟩
  go_wp2_with fail
  refine (rfield_yes x s n _ HX.out h0 h).mono ?_
  rintro e w' ⟨rfl, rfl⟩
  go_wp2_with fail
  refine (setfield_yes x s n v _ HX.out HV.out h0 h).mono ?_
  rintro e w' ⟨rfl, rfl⟩
  go_wp2_with fail
  refine (rsetfield_yes x s n v _ HX.out HV.out h0 h).mono ?_
  rintro e w' ⟨rfl, rfl⟩
  go_wp2_with fail
  go_ret
  refine ⟨rfl, ?_⟩

  exact below_drewN ((Below.refl _ _).alloc (Nat.le_refl _) _) _

theorem fields_no (x v : Nat) (s n : Int) (w : World) (h : ¬ (0 ≤ s ∧ 1 ≤ n ∧ n ≤ 64 ∧ s ≤ 64 - n)) :
    Calls Try.prog 3 #[.int .u64 x, .agg #[.int .i64 s, .int .i64 n], .int .u64 v] w fun e w' => e = .returned (.bool true) ∧ Below w.heap.size w w' := by
  have H := Lib.hid h; clear h
  go_enter Try.func3, Try.ntmps3
  go_wp2_with fail
  go_quiet (fail)
  go_wp2_with fail
  refine (awake_any _).mono ?_
  rintro e w' ⟨rfl, rfl⟩
  go_wp2_with fail
  refine (field_no x s n _ H.out).mono ?_
  rintro e w' ⟨rfl, rfl⟩
  go_wp2_with fail
  refine (rfield_no x s n _ H.out).mono ?_
  rintro e w' ⟨rfl, rfl⟩
  go_wp2_with fail
  refine (setfield_no x s n v _ H.out).mono ?_
  rintro e w' ⟨rfl, rfl⟩
  go_wp2_with fail
  refine (rsetfield_no x s n v _ H.out).mono ?_
  rintro e w' ⟨rfl, rfl⟩
  go_wp2_with fail
  go_ret
  refine ⟨rfl, ?_⟩
  exact below_drewN ((Below.refl _ _).alloc (Nat.le_refl _) _) _

/-- A contract that leaves the world alone serves in a quiet region. -/
theorem quiet_left {P : Program} {f : FuncId} {args : Array Value} {w : World} {n : Nat} {v : Value}
    (h : Calls P f args (w.drewN n) fun e w' => e = .returned v ∧ w.drewN n = w') : Calls P f args (w.drewN n) fun e w' => e = .returned v ∧ ∃ m, w' = w.drewN m :=
  h.mono fun _ _ hh => ⟨hh.1, n, hh.2.symm⟩

theorem fieldSet_rest (x v a b c s n o R : Nat) (w : World) (hx : x < 18446744073709551616) (hv : v < 18446744073709551616) (hR : setf x s n v = R) (hs : (a : Int) % 64 = s) (_hs1 : s < 64) (hn : 1 + (b : Int) % (64 - s) = n) (hn0 : 1 ≤ n) (hn1 : s + n ≤ 64) (ho : (c : Int) % 64 = o) (_ho1 : o < 64) (ha : (a : Int) ≤ 255) (hb : (b : Int) ≤ 255) (hc : (c : Int) ≤ 255) :
    Calls Try.prog 4 #[.int .u64 x, .int .u64 v, .agg #[.int .u8 a, .int .u8 b, .int .u8 c]] w fun e w' => e = .returned (.bool true) ∧ Below w.heap.size w w' := by
  have hRl : Hid (R < 18446744073709551616) := Lib.hid (by rw [← hR]; exact setf_lt x s n v hn1 hx)
  have hback : Hid (setf R s n (fld x s n) = x) := Lib.hid (by rw [← hR]; exact setf_setf x s n v hn1 hx)
  have hflt : Hid (fld x s n < 18446744073709551616) := Lib.hid (fld_lt x s n hx)
  have hother : Hid (¬ (s ≤ o ∧ o < s + n) → fld R o 1 = fld x o 1) := Lib.hid (by rw [← hR]; exact fld_other x s n v o hn1 hx)
  have hread : Hid (fld R s n = v % 2 ^ n) := Lib.hid (by rw [← hR]; exact fld_setf x s n v hn1 hx)
  have HX := Lib.hid hx; have HV := Lib.hid hv; have HR := Lib.hid hR
  clear hx hv hR
  by_cases hn64 : n < 64
  · have hg : (n : Int) < 64 := by omega
    have hgd : decide ((n : Int) < 64) = true := by simp; omega
    obtain ⟨P, hP⟩ : ∃ P, P = 2 ^ n := ⟨_, rfl⟩
    have hPl : P < 18446744073709551616 := by rw [hP]; exact Nat.pow_lt_pow_right (a := 2) (n := 64) (by decide) hn64
    have hP0 : (1 : Int) ≤ P := by have := Nat.two_pow_pos n; omega
    have hw : IntKind.u64.wrap (2 ^ n) = (P : Int) := by
      have e : (2 : Int) ^ n = (P : Int) := by rw [hP]; simp
      rw [e, IntKind.wrap_u64]; omega
    have hq : (((fld R s n : Nat) : Int) != (v : Int) % (P : Int)) = false := by
      rw [hread.out, ← hP]; simp
    clear hPl
    have HP := Lib.hid hP; clear hP
    go_enter Try.func4, Try.ntmps4
    go_wp2_with fail
    refine (awake_any _).mono ?_
    rintro e w' ⟨rfl, rfl⟩
    go_wp2_with fail
    refine (setfield_yes x s n v _ HX.out HV.out hn0 hn1).mono ?_
    rintro e w' ⟨rfl, rfl⟩
    rw [HR.out]
    go_wp2_with fail
    go_quiet ((go_at_call 12; exact quiet_left (field_yes _ s n _ hRl.out hn0 hn1)))
    go_wp2_with fail
    refine (field_yes x s n _ HX.out hn0 hn1).mono ?_
    rintro e w' ⟨rfl, rfl⟩
    go_wp2_with fail
    refine (setfield_yes R s n _ _ hRl.out hflt.out hn0 hn1).mono ?_
    rintro e w' ⟨rfl, rfl⟩
    rw [hback.out]
    by_cases hin : s ≤ o ∧ o < s + n
    · have d1 : decide ((s : Int) ≤ o) = true := by simp; omega
      have d2 : decide ((o : Int) - s < n) = true := by simp; omega
      go_wp2_with fail
      go_ret
      exact ⟨rfl, below_drewN ((Below.refl _ _).alloc (Nat.le_refl _) _) _⟩
    · have hd : (((fld R o 1 : Nat) : Int) == ((fld x o 1 : Nat) : Int)) = true := by rw [hother.out hin]; simp
      rcases (show o < s ∨ (s ≤ o ∧ s + n ≤ o) by omega) with i1 | ⟨i1, i2⟩
      · have d1 : decide ((s : Int) ≤ o) = false := by simp; omega
        go_wp2_with fail
        refine (field_yes R o 1 _ hRl.out (by omega) (by omega)).mono ?_
        rintro e w' ⟨rfl, rfl⟩
        go_wp2_with fail
        refine (field_yes x o 1 _ HX.out (by omega) (by omega)).mono ?_
        rintro e w' ⟨rfl, rfl⟩
        go_wp2_with fail
        go_ret
        exact ⟨rfl, below_drewN ((Below.refl _ _).alloc (Nat.le_refl _) _) _⟩
      · have d1 : decide ((s : Int) ≤ o) = true := by simp; omega
        have d2 : decide ((o : Int) - s < n) = false := by simp; omega
        go_wp2_with fail
        refine (field_yes R o 1 _ hRl.out (by omega) (by omega)).mono ?_
        rintro e w' ⟨rfl, rfl⟩
        go_wp2_with fail
        refine (field_yes x o 1 _ HX.out (by omega) (by omega)).mono ?_
        rintro e w' ⟨rfl, rfl⟩
        go_wp2_with fail
        go_ret
        exact ⟨rfl, below_drewN ((Below.refl _ _).alloc (Nat.le_refl _) _) _⟩
  · have hgd : decide ((n : Int) < 64) = false := by simp; omega
    go_enter Try.func4, Try.ntmps4
    go_wp2_with fail
    refine (awake_any _).mono ?_
    rintro e w' ⟨rfl, rfl⟩
    go_wp2_with fail
    refine (setfield_yes x s n v _ HX.out HV.out hn0 hn1).mono ?_
    rintro e w' ⟨rfl, rfl⟩
    rw [HR.out]
    go_wp2_with fail
    go_quiet (fail)
    go_wp2_with fail
    refine (field_yes x s n _ HX.out hn0 hn1).mono ?_
    rintro e w' ⟨rfl, rfl⟩
    go_wp2_with fail
    refine (setfield_yes R s n _ _ hRl.out hflt.out hn0 hn1).mono ?_
    rintro e w' ⟨rfl, rfl⟩
    rw [hback.out]
    have d1 : decide ((s : Int) ≤ o) = true := by simp; omega
    have d2 : decide ((o : Int) - s < n) = true := by simp; omega
    go_wp2_with fail
    go_ret
    exact ⟨rfl, below_drewN ((Below.refl _ _).alloc (Nat.le_refl _) _) _⟩
end Go.Proofs.Ytfibemkgmkggpaa.Word
