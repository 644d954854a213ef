/-
  The two laws of chapter 01 on Pack and Unpack, walked.
-/
import Derived.Test.YtfibemkgmkggpaaPackRef
namespace Go.Proofs.Ytfibemkgmkggpaa.Word
open Go.RowKit

theorem nil_row (k : IntKind) (w : World) : Row k w none 0 [] := ⟨rfl, by decide, by simp, .inl rfl⟩
theorem below_two {w w1 w2 : World} (h1 : Below w.heap.size w w1) (h2 : Below w1.heap.size w1 w2) : Below w.heap.size w w2 := h1.trans (h2.mono h1.size)

set_option maxHeartbeats 400000 in
theorem unpacks (a : Option Addr) (len cap : Nat) (n : Int) (ws : List Int) (w : World) (hr : Row .u64 w a len ws) (hreach : len * 8 ≤ 140737488351232) (hn : n ≤ 9223372036854775807) :
    Calls Try.prog 9 #[.slice a len cap, .int .i64 n] w fun e w' => e = .returned (.bool true) ∧ Below w.heap.size w w' := by
  have HR := Lib.hid hr; clear hr
  by_cases hneg : n < 0
  · go_enter Try.func9, Try.ntmps9
    go_wp2_with fail
    refine (awake_any _).mono ?_
    rintro e w' ⟨rfl, rfl⟩
    go_wp2_with fail
    refine (unpack_neg a len cap n _ hneg).mono ?_
    rintro e w' ⟨rfl, rfl⟩
    go_wp2_with fail
    refine (runpack_neg a len cap n _ hneg).mono ?_
    rintro e w' ⟨rfl, rfl⟩
    go_wp2_with fail
    refine (sameb_any none none 0 0 0 0 [] _ (nil_row _ _) (nil_row _ _)).mono ?_
    rintro e w' ⟨rfl, rfl⟩
    go_wp2_with fail
    go_ret
    exact ⟨rfl, Below.refl _ _⟩
  · obtain ⟨n, rfl⟩ : ∃ k : Nat, n = k := ⟨n.toNat, by omega⟩
    clear hneg
    by_cases hf : Fits ws n
    · have HF := Lib.hid hf; clear hf
      go_enter Try.func9, Try.ntmps9
      go_wp2_with fail
      refine (awake_any _).mono ?_
      rintro e w' ⟨rfl, rfl⟩
      go_wp2_with fail
      refine (unpack_any a len cap n ws _ HR.out hreach (by omega)).mono ?_
      rintro e w1 ⟨⟨_, v1, rfl, ho1⟩ | ⟨hnf, _⟩, hb1⟩
      · obtain ⟨a1, c1, rfl, hr1⟩ := row_own ho1 (unpk_wf _ _) (by rw [unpk_length]; omega)
        rw [unpk_length] at hr1 ⊢
        have HR1 := Lib.hid hr1; have HB1 := Lib.hid hb1
        clear hr1 hb1 ho1
        go_wp2_with fail
        refine (runpack_any a len cap n ws _ (HR.out.below HB1.out) hreach (by omega)).mono ?_
        rintro e w2 ⟨⟨_, v2, rfl, ho2⟩ | ⟨hnf, _⟩, hb2⟩
        · obtain ⟨a2, c2, rfl, hr2⟩ := row_own ho2 (unpk_wf _ _) (by rw [unpk_length]; omega)
          rw [unpk_length] at hr2 ⊢
          have HR2 := Lib.hid hr2; have HB2 := Lib.hid hb2
          clear hr2 hb2 ho2
          go_wp2_with fail
          refine (sameb_any a1 a2 n n c1 c2 (unpk ws n) _ (HR1.out.below HB2.out) HR2.out).mono ?_
          rintro e w' ⟨rfl, rfl⟩
          go_wp2_with fail
          go_ret
          exact ⟨rfl, below_two HB1.out HB2.out⟩
        · exact absurd HF.out hnf
      · exact absurd HF.out hnf
    · have HF := Lib.hid hf; clear hf
      go_enter Try.func9, Try.ntmps9
      go_wp2_with fail
      refine (awake_any _).mono ?_
      rintro e w' ⟨rfl, rfl⟩
      go_wp2_with fail
      refine (unpack_any a len cap n ws _ HR.out hreach (by omega)).mono ?_
      rintro e w1 ⟨⟨hff, _⟩ | ⟨_, rfl⟩, hb1⟩
      · exact absurd hff HF.out
      · have HB1 := Lib.hid hb1
        clear hb1
        go_wp2_with fail
        refine (runpack_any a len cap n ws _ (HR.out.below HB1.out) hreach (by omega)).mono ?_
        rintro e w2 ⟨⟨hff, _⟩ | ⟨_, rfl⟩, hb2⟩
        · exact absurd hff HF.out
        · have HB2 := Lib.hid hb2
          clear hb2
          go_wp2_with fail
          refine (sameb_any none none 0 0 0 0 [] _ (nil_row _ _) (nil_row _ _)).mono ?_
          rintro e w' ⟨rfl, rfl⟩
          go_wp2_with fail
          go_ret
          exact ⟨rfl, below_two HB1.out HB2.out⟩

set_option maxHeartbeats 400000 in
theorem packs (a : Option Addr) (len cap : Nat) (zs : List Int) (w : World) (hr : Row .u8 w a len zs) (hreach : len ≤ 140737488351232) :
    Calls Try.prog 10 #[.slice a len cap] w fun e w' => e = .returned (.bool true) ∧ Below w.heap.size w w' := by
  have hl := hr.1
  have hwf := hr.2.2.1
  have HBy := Lib.hid (bytes_of hwf)
  have HPos : Hid (∀ z ∈ zs, 0 ≤ z) := Lib.hid (fun z hz => (bounds_u8 (hwf z hz)).1)
  have HFit : Hid (Fits (pack zs) len) := Lib.hid (by
    refine ⟨by rw [pack_length, hl], fun h8 => ?_⟩
    rw [← hl] at h8 ⊢
    exact pack_top (bytes_of hwf) h8)
  have hnw : nw len * 8 ≤ len + 7 := by unfold nw; omega
  have HUp : Hid (unpk (pack zs) len = zs) := Lib.hid (by rw [← hl]; exact unpk_pack (bytes_of hwf) HPos.out)
  have HL : Hid ((pack zs).length = nw len) := Lib.hid (by rw [pack_length, hl])
  have h1 := conv_row (cap := cap) hr
  have HR := Lib.hid hr; clear hr hwf hl
  go_enter Try.func10, Try.ntmps10
  go_wp2_with fail
  refine (awake_any _).mono ?_
  rintro e w' ⟨rfl, rfl⟩
  go_wp2_with fail
  refine (pack_any a len cap zs _ HR.out hreach).mono ?_
  rintro e w1 ⟨v1, rfl, ho1, hb1⟩
  obtain ⟨a1, c1, rfl, hr1⟩ := row_own ho1 (pack_wf HBy.out) (by rw [HL.out]; omega)
  rw [HL.out] at hr1 ⊢
  have HR1 := Lib.hid hr1; have HB1 := Lib.hid hb1
  clear hr1 hb1 ho1 h1
  go_wp2_with fail
  refine (rpack_any a len cap zs _ (HR.out.below HB1.out) hreach).mono ?_
  rintro e w2 ⟨v2, rfl, ho2, hb2⟩
  obtain ⟨a2, c2, rfl, hr2⟩ := row_own ho2 (pack_wf HBy.out) (by rw [HL.out]; omega)
  rw [HL.out] at hr2 ⊢
  have HR2 := Lib.hid hr2; have HB2 := Lib.hid (below_two HB1.out hb2)
  have HR12 := Lib.hid (HR1.out.below hb2)
  clear hr2 hb2 ho2
  go_wp2_with fail
  refine (same_any a1 a2 (nw len) (nw len) c1 c2 (pack zs) _ HR12.out HR2.out).mono ?_
  rintro e w3 ⟨rfl, hb3⟩
  have HB3 := Lib.hid (below_two HB2.out hb3)
  have HR13 := Lib.hid (HR12.out.below hb3)
  clear hb3
  have hcv := conv_row (cap := cap) (HR.out.below HB3.out)
  go_wp2_with fail
  refine (unpack_any a1 (nw len) c1 len (pack zs) _ HR13.out (by omega) (by omega)).mono ?_
  rintro e w4 ⟨⟨_, v4, rfl, ho4⟩ | ⟨hnf, _⟩, hb4⟩
  · obtain ⟨a4, c4, rfl, hr4⟩ := row_own ho4 (unpk_wf _ _) (by rw [unpk_length]; omega)
    rw [unpk_length] at hr4 ⊢
    rw [HUp.out] at hr4
    have HR4 := Lib.hid hr4; have HB4 := Lib.hid (below_two HB3.out hb4)
    have HR14 := Lib.hid (HR13.out.below hb4)
    clear hr4 hb4 ho4 hcv
    go_wp2_with fail
    refine (sameb_any a4 a len len c4 cap zs _ HR4.out (HR.out.below HB4.out)).mono ?_
    rintro e w' ⟨rfl, rfl⟩
    go_wp2_with fail
    refine (rpack_any a len cap zs _ (HR.out.below HB4.out) hreach).mono ?_
    rintro e w5 ⟨v5, rfl, ho5, hb5⟩
    obtain ⟨a5, c5, rfl, hr5⟩ := row_own ho5 (pack_wf HBy.out) (by rw [HL.out]; omega)
    rw [HL.out] at hr5 ⊢
    have HR5 := Lib.hid hr5; have HB5 := Lib.hid (below_two HB4.out hb5)
    have HR15 := Lib.hid (HR14.out.below hb5)
    clear hr5 hb5 ho5
    go_wp2_with fail
    refine (same_any a1 a5 (nw len) (nw len) c1 c5 (pack zs) _ HR15.out HR5.out).mono ?_
    rintro e w6 ⟨rfl, hb6⟩
    have HB6 := Lib.hid (below_two HB5.out hb6)
    clear hb6
    go_wp2_with fail
    go_ret
    exact ⟨rfl, HB6.out⟩
  · exact absurd HFit.out hnf
end Go.Proofs.Ytfibemkgmkggpaa.Word
