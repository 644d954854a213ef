/-
  The reference's Unpack, walked; and the two laws on Pack and Unpack.
-/
import Derived.Test.YtfibemkgmkggpaaPackMore
namespace Go.Proofs.Ytfibemkgmkggpaa.Word
open Go.RowKit

/-- The first test of the reference refuses: another number of words. -/
theorem runpack_len (a : Option Addr) (len cap n : Nat) (w : World) (hl : (len : Int) ≤ 9223372036854775807) (hn : (n : Int) ≤ 9223372036854775807) (h : len ≠ nw n) :
    Calls Try.prog 29 #[.slice a len cap, .int .i64 n] w fun e w' => e = .returned (.tuple #[.slice none 0 0, .int .i64 11]) ∧ w = w' := by
  have dneg : decide ((n : Int) < 0) = false := by simp
  by_cases h0 : n = 0
  · subst h0
    have hlen : 0 < len := by unfold nw at h; omega
    have hlI : (0 : Int) < (len : Int) := by omega
    clear h
    have d1 : decide ((len : Int) < 0) = false := by simp
    go_enter Try.func29, Try.ntmps29
    go_wp2_with fail
    all_goals go_ret2
    all_goals exact ⟨rfl, rfl⟩
  · have h1 : ((n : Int) - 1) / 8 + 1 = ((nw n : Nat) : Int) := by unfold nw; omega
    have hn1 : (1 : Int) ≤ n := by omega
    by_cases hb : (len : Int) < (n : Int) / 8
    · have d1 : decide ((len : Int) < (n : Int) / 8) = true := by simp; omega
      clear h1 h
      go_enter Try.func29, Try.ntmps29
      go_wp2_with fail
      go_ret2
      exact ⟨rfl, rfl⟩
    · have d1 : decide ((len : Int) < (n : Int) / 8) = false := by simp; omega
      have d2 : (((n : Int) - 1) / 8 + 1 != (len : Int)) = true := by rw [h1]; simp; omega
      clear h1 h hb
      go_enter Try.func29, Try.ntmps29
      go_wp2_with fail
      go_ret2
      exact ⟨rfl, rfl⟩

theorem runpack_zero (a : Option Addr) (cap : Nat) (w : World) :
    Calls Try.prog 29 #[.slice a 0 cap, .int .i64 0] w fun e w' => e = .returned (.tuple #[.slice none 0 0, .int .i64 0]) ∧ w = w' := by
  go_enter Try.func29, Try.ntmps29
  go_wp2_with fail
  refine wp_loop_rounds 1 ?_
  rw [rounds_succ]
  go_wp2_with fail
  go_ret2
  exact ⟨rfl, rfl⟩

def RUnpRel (ws : List Int) (w : World) (n len B : Nat) (v i : Value) (wr : World) : Prop :=
  ∃ k : Nat, k ≤ 8 * len ∧ i = .int .i64 k ∧ wr.ownsRow B 5 1 v (min k n) ((unpk ws (min k n)).map (Value.int .u8)) ∧ Below B w wr ∧ ∀ j, n ≤ j → j < k → ub ws j = 0

set_option maxHeartbeats 800000 in
theorem runpack_some (b off len cap n : Nat) (ws : List Int) (w : World) (hl : ws.length = len) (hm : (len : Int) ≤ 9223372036854775807) (hwf : ∀ z ∈ ws, (Lit.int .u64 z).wf = true) (hc : ∀ i, i < len → w.cell? ⟨b, off + i, none⟩ = some (.int .u64 (ws.getD i 0))) (hreach : len * 8 ≤ 140737488351232) (hpos : 0 < n) (hlen : len = nw n) :
    Calls Try.prog 29 #[.slice (some ⟨b, off, none⟩) len cap, .int .i64 n] w (UnpPost ws n w) := by
  obtain ⟨i0, hi, hz0, hz1, hz2⟩ := info_parts info8
  have hn8 : n ≤ len * 8 := by rw [hlen]; unfold nw; omega
  have hnI : (n : Int) ≤ 140737488351232 := by omega
  have hn1 : (1 : Int) ≤ n := by omega
  have HWN := Lib.hid (fun j => word_nat hwf j)
  have HF := Lib.hid (fits_iff (hl.trans hlen) hwf)
  have dneg : decide ((n : Int) < 0) = false := by simp
  have d1 : decide ((len : Int) < (n : Int) / 8) = false := by simp; rw [hlen]; unfold nw; omega
  have d2 : (((n : Int) - 1) / 8 + 1 != (len : Int)) = false := by rw [hlen]; unfold nw; simp; omega
  have d3 : ((n : Int) == 0) = false := by simp; omega
  have HL := Lib.hid hl; have HC := Lib.hid hc; have HM := Lib.hid hlen
  clear hl hwf hc hlen
  obtain ⟨B, hB⟩ : ∃ B, B = w.heap.size := ⟨_, rfl⟩
  have HBB := Lib.hid hB; clear hB
  go_enter Try.func29, Try.ntmps29
  go_wp2_with fail
  go_loopw [6, 7] (fun v i wr => RUnpRel ws w n len B v i wr) (fun _ i _ => 8 * len - (intOf i).toNat)
  case atStart => exact ⟨0, by omega, rfl, by rw [Nat.zero_min]; exact World.ownsRow_nil _ _ _ _, Below.refl _ _, fun j _ h => absurd h (Nat.not_lt_zero _)⟩
  case round =>
    obtain ⟨k, hk, rfl, hown, hbel, hzero⟩ := hrel
    have HZ := Lib.hid hzero; clear hzero
    have hsz : B ≤ wr.heap.size := by rw [HBB.out]; exact hbel.size
    by_cases hlt : k < 8 * len
    · obtain ⟨Y, hY1, hY2⟩ := HWN.out (k / 8)
      have hcp : wr.cell? ⟨b, off + k / 8, none⟩ = some (.int .u64 (Y : Int)) := by
        have h := HC.out (k / 8) (by omega)
        rw [hbel.cell (by rw [HBB.out]; exact World.block_lt_of_cell? _ _ h), ← hY1]
        exact h
      have hub := ub_raw ws k Y hY1
      have hubl : ub ws k < 256 := Nat.mod_lt _ (by decide)
      have hy : (Y : Int) ≤ 18446744073709551615 := by omega
      have hk8 : (k : Int) / 8 < (len : Int) := by omega
      have hkI : (k : Int) < 8 * (len : Int) := by omega
      clear hY1 hY2
      obtain ⟨U, hU⟩ : ∃ U, U = ub ws k := ⟨_, rfl⟩
      rw [← hU] at hub hubl
      have HU := Lib.hid hU; have HBL := Lib.hid hbel; clear hU hbel
      by_cases hkn : k < n
      · have dk : decide ((k : Int) < (n : Int)) = true := by simp; omega
        rw [show min k n = k from by omega] at hown
        go_wp2_with (at_builtin; refine wpList_append_own _ rfl _ _ 39 rfl B 5 i0 (.int .u8 0) 1 1 Try.underlying39 hi hz0 hz1 hz2 rfl (by decide) _ _ _ rfl (hown.alloc _) ⟨wr.heap.size, 0, none⟩ 1 1 [.int .u8 U] rfl rfl ?c1 ?c2 ?c3 ?c4 ?c5 ?_)
        case c1 => exact cell_one_new _ _ _
        case c2 => intro u hu; simp at hu; subst hu; rfl
        case c3 => unfold maxLen; omega
        case c4 => omega
        case c5 => simp; omega
        intro v' w1 hown1 hgrow _
        rw [show [Value.int IntKind.u8 (U : Int)] = [(U : Int)].map (Value.int .u8) from rfl, ← List.map_append, HU.out, ← unpk_succ] at hown1
        have hbel1 : Below B wr w1 := ((Below.refl B wr).alloc hsz _).grown hgrow (by simp; omega) (fun q hq => by
          rcases hown.2 with ⟨rfl, _⟩ | ⟨g, c, cur, rfl, hb, _⟩
          · cases hq
          · cases hq; exact hb)
        have HO1 := Lib.hid hown1; have HBL1 := Lib.hid hbel1
        clear hown1 hbel1 hgrow hown hi hz0 hz1 hz2
        go_wp2_with fail
        go_roundw
        case rel =>
          refine ⟨k + 1, by omega, by go_num, ?_, HBL.out.trans HBL1.out, fun j h1 h2 => by omega⟩
          rw [show min (k + 1) n = k + 1 from by omega]
          exact HO1.out
        case measure => simp [intOf]; omega
      · have dk : decide ((k : Int) < (n : Int)) = false := by simp; omega
        rw [show min k n = n from by omega] at hown
        have HO := Lib.hid hown; clear hown
        by_cases hu0 : U = 0
        · have du : ((U : Int) != 0) = false := by simp; omega
          have HU0 := Lib.hid hu0; clear hu0
          go_wp2_with fail
          go_roundw
          case rel =>
            refine ⟨k + 1, by omega, by go_num, ?_, HBL.out, fun j h1 h2 => ?_⟩
            · rw [show min (k + 1) n = n from by omega]
              exact HO.out
            · by_cases hj : j = k
              · subst hj; rw [← HU.out]; exact HU0.out
              · exact HZ.out j h1 (by omega)
          case measure => simp [intOf]; omega
        · have du : ((U : Int) != 0) = true := by simp; omega
          go_wp2_with fail
          go_ret2
          refine ⟨.inr ⟨fun hf => ?_, rfl⟩, by rw [← HBB.out]; exact HBL.out⟩
          exact hu0 (HU.out.trans (HF.out.1 hf k (by omega) (by rw [HL.out]; exact hlt)))
    · obtain rfl : k = 8 * len := by omega
      have HO := Lib.hid hown; have HBL := Lib.hid hbel; clear hown hbel
      have dk : decide (((8 * len : Nat) : Int) < 8 * (len : Int)) = false := by simp
      go_wp2_with fail
      go_ret2
      refine ⟨.inl ⟨HF.out.2 fun j h1 h2 => HZ.out j h1 (by rw [HL.out] at h2; exact h2), _, rfl, ?_⟩, by rw [← HBB.out]; exact HBL.out⟩
      have h1 := HO.out
      rw [show min (8 * len) n = n from by omega] at h1
      unfold OwnB
      rw [unpk_length, ← HBB.out]
      exact h1

theorem runpack_any (a : Option Addr) (len cap n : Nat) (ws : List Int) (w : World) (hr : Row .u64 w a len ws) (hreach : len * 8 ≤ 140737488351232) (hn : n ≤ 9223372036854775807) :
    Calls Try.prog 29 #[.slice a len cap, .int .i64 n] w (UnpPost ws n w) := by
  obtain ⟨hl, hm, hwf, h⟩ := hr
  by_cases hlen : len = nw n
  · by_cases h0 : n = 0
    · subst h0
      obtain rfl : len = 0 := hlen
      obtain rfl : ws = [] := List.length_eq_zero_iff.1 hl
      exact (runpack_zero a cap w).mono fun e w' ⟨he, hb⟩ => ⟨.inl ⟨⟨rfl, fun h => absurd rfl h⟩, _, he, World.ownsRow_nil _ _ _ _⟩, hb ▸ Below.refl _ _⟩
    · obtain ⟨b, off, rfl, hc⟩ := h.resolve_left (by rw [hlen]; unfold nw; omega)
      exact runpack_some b off len cap n ws w hl (by omega) hwf hc hreach (by omega) hlen
  · refine (runpack_len a len cap n w (by omega) (by omega) hlen).mono fun e w' ⟨he, hw⟩ => ⟨.inr ⟨fun hf => hlen (hl.symm.trans hf.1), he⟩, hw ▸ Below.refl _ _⟩
end Go.Proofs.Ytfibemkgmkggpaa.Word
