/-
  Pack, Unpack of the package word, and their references, walked.
-/
import Derived.Test.YtfibemkgmkggpaaWordMore2
import Derived.Test.YtfibemkgmkggpaaPackPlain
import Derived.OwnWalk
namespace Go.Proofs.Ytfibemkgmkggpaa.Word
open Go.RowKit

theorem wordsOf_any (n : Nat) (w : World) (h : n ≤ 9223372036854775807) :
    Calls Try.prog 39 #[.int .i64 n] w fun e w' => e = .returned (.int .i64 ((nw n : Nat) : Int)) ∧ w = w' := by
  have h' : (n : Int) ≤ 9223372036854775807 := by omega
  by_cases hz : n % 8 = 0
  · have e : nw n = n / 8 := by unfold nw; omega
    have e2 : ((nw n : Nat) : Int) = (n : Int) / 8 := by rw [e]; omega
    have d : ((n : Int) % 8 != 0) = false := by simp; omega
    rw [e2]; clear e e2 hz h
    go_enter Try.func39, Try.ntmps39
    go_wp2_with fail
    go_ret
    exact ⟨rfl, rfl⟩
  · have e : nw n = n / 8 + 1 := by unfold nw; omega
    have e2 : ((nw n : Nat) : Int) = (n : Int) / 8 + 1 := by rw [e]; omega
    have d : ((n : Int) % 8 != 0) = true := by simp; omega
    rw [e2]; clear e e2 hz h
    go_enter Try.func39, Try.ntmps39
    go_wp2_with fail
    go_ret
    exact ⟨rfl, rfl⟩

theorem info64 : (Try.prog.info? 22).map (fun i => (i.zero, i.size, i.bytes)) = some (some (.int .u64 0), 1, 8) := by kernel_rfl
theorem info8 : (Try.prog.info? 5).map (fun i => (i.zero, i.size, i.bytes)) = some (some (.int .u8 0), 1, 1) := by kernel_rfl

/-- A row of words that the call owns. -/
def OwnW (w : World) (base : Nat) (v : Value) (zs : List Int) : Prop := w.ownsRow base 22 1 v zs.length (zs.map (Value.int .u64))

theorem made_rep (v : Value) (M : Nat) : (madeCells #[v] M).toList = List.replicate M v := by
  rw [List.eq_replicate_iff]
  constructor
  · simp [madeCells]
  · intro x hx
    simp only [madeCells, Array.toList_map, Array.toList_range, List.mem_map] at hx
    obtain ⟨i, _, rfl⟩ := hx
    simp [Nat.mod_one]
def PackRel (zs : List Int) (w : World) (len B M : Nat) (i : Value) (wr : World) : Prop :=
  ∃ k : Nat, k ≤ len ∧ i = .int .i64 k ∧ wr.ownsRow B 22 1 (.slice (some ⟨B, 0, none⟩) M M) M ((packK zs k M).map (Value.int .u64)) ∧ Below B w wr

theorem bytes_of {zs : List Int} (h : ∀ n ∈ zs, (Lit.int .u8 n).wf = true) : Bytes zs := fun i => by
  unfold byt
  by_cases hi : i < zs.length
  · have := bounds_u8 (h zs[i] (List.getElem_mem hi))
    simp [List.getD, hi]
    omega
  · simp [List.getD, hi]
theorem byt_eq {zs : List Int} (h : ∀ n ∈ zs, (Lit.int .u8 n).wf = true) (i : Nat) : zs.getD i 0 = byt zs i := by
  unfold byt
  by_cases hi : i < zs.length
  · have := bounds_u8 (h zs[i] (List.getElem_mem hi))
    simp [List.getD, hi]
    omega
  · simp [List.getD, hi]

set_option maxHeartbeats 800000 in
theorem pack_some (b off len cap : Nat) (zs : List Int) (w : World) (hl : zs.length = len) (hm : len ≤ 9223372036854775807) (hwf : ∀ n ∈ zs, (Lit.int .u8 n).wf = true) (hc : ∀ i, i < len → w.cell? ⟨b, off + i, none⟩ = some (.int .u8 (zs.getD i 0))) (hreach : len ≤ 140737488351232) :
    Calls Try.prog 31 #[.slice (some ⟨b, off, none⟩) len cap] w fun e w' => ∃ v, e = .returned v ∧ OwnW w' w.heap.size v (pack zs) ∧ Below w.heap.size w w' := by
  obtain ⟨i0, hi, hz0, hz1, hz2⟩ := info_parts info64
  have HB := Lib.hid (bytes_of hwf); have HE := Lib.hid (byt_eq hwf)
  have HL := Lib.hid hl; have HC := Lib.hid hc
  clear hl hwf hc
  obtain ⟨M, hM⟩ : ∃ M, M = nw len := ⟨_, rfl⟩
  have hn : M * 8 ≤ len + 7 := by rw [hM]; unfold nw; omega
  have hn2 : len ≤ M * 8 := by rw [hM]; unfold nw; omega
  have HM := Lib.hid hM; clear hM
  obtain ⟨B, hB⟩ : ∃ B, B = w.heap.size := ⟨_, rfl⟩
  rw [← hB]
  have HBB := Lib.hid hB; clear hB
  go_enter Try.func31, Try.ntmps31
  go_wp2_with fail
  refine (wordsOf_any len _ hm).mono ?_
  rintro e w' ⟨rfl, rfl⟩
  rw [← HM.out]
  go_wp2_with (at_make; refine wpList_make_full _ rfl _ _ 46 rfl w.heap.size 22 i0 (.int .u64 0) 1 Try.underlying46 hi hz0 hz1 .i64 .i64 _ _ M rfl rfl rfl rfl ?c1 ?c2 ?c3 ?_)
  case c1 => rw [hz2]; omega
  case c2 => unfold maxLen; omega
  case c3 => exact Nat.le_refl _
  intro w1 hown hgrow
  have hbel : Below B w w1 := by rw [HBB.out]; exact (Below.refl _ _).grown hgrow (Nat.le_refl _) (fun k h => by cases h)
  rw [← HBB.out] at hown ⊢
  have HO := Lib.hid hown; have HBel := Lib.hid hbel; clear hown hbel hgrow
  clear hi hz0 hz1 hz2
  go_wp2_with fail
  go_loopw [12] (fun i wr => PackRel zs w len B M i wr) (fun i _ => len - (intOf i).toNat)
  case atStart => exact ⟨0, by omega, rfl, by rw [packK_zero, List.map_replicate, ← made_rep]; exact HO.out, HBel.out⟩
  case round =>
    obtain ⟨k, hk, rfl, hown, hbel⟩ := hrel
    by_cases hlt : k < len
    · have hcp : wr.cell? ⟨b, off + k, none⟩ = some (.int .u8 (zs.getD k 0)) := by
        have h := HC.out k hlt
        rw [hbel.cell (by rw [HBB.out]; exact World.block_lt_of_cell? _ _ h)]
        exact h
      have hco : wr.cell? ⟨B, k / 8, none⟩ = some (.int .u64 ((cellK zs k (k / 8) : Nat) : Int)) := by
        rw [hown.cellAt (k / 8) (by omega)]
        have h8 : k / 8 < M := by omega
        simp [packK, h8]
      have hcf : wr.frozen? ⟨B, k / 8, none⟩ = false := hown.frozenAt _
      have hst := hown.stored (k / 8) (.int .u64 ((cellK zs (k + 1) (k / 8) : Nat) : Int))
      have hor := step_or HB.out k (zs.getD k 0) (HE.out k)
      have hz : 0 ≤ zs.getD k 0 ∧ zs.getD k 0 ≤ 255 := by rw [HE.out k]; have := HB.out k; omega
      have h8 : (k : Int) / 8 < M := by omega
      obtain ⟨z, hzz⟩ : ∃ z, z = zs.getD k 0 := ⟨_, rfl⟩
      rw [← hzz] at hcp hor hz
      have hcl : ((cellK zs k (k / 8) : Nat) : Int) ≤ 18446744073709551615 := by have := cellK_lt HB.out k (k / 8); omega
      obtain ⟨C, hC⟩ : ∃ C, C = cellK zs k (k / 8) := ⟨_, rfl⟩
      rw [← hC] at hco hor hcl
      have HS := Lib.hid hst; have HOR := Lib.hid hor; have HBL := Lib.hid hbel; clear hst hor hown hbel hC hzz
      go_wp2_with fail
      go_roundw
      case rel =>
        rw [Nat.mul_comm (k % 8) 8, HOR.out]
        refine ⟨k + 1, by omega, by go_num, ?_, HBL.out.setCell (Nat.le_refl _) _⟩
        have h1 := HS.out.1
        rw [← List.map_set, packK_step] at h1
        exact h1
      case measure => simp [intOf]; omega
    · obtain rfl : k = len := by omega
      have HOwn := Lib.hid hown; have HBL := Lib.hid hbel; clear hown hbel
      go_wp2_with fail
      go_ret
      refine ⟨_, rfl, ?_, HBL.out⟩
      unfold OwnW pack
      rw [packK_length, HL.out, ← HM.out]
      exact HOwn.out

theorem pack_none (a : Option Addr) (cap : Nat) (w : World) :
    Calls Try.prog 31 #[.slice a 0 cap] w fun e w' => ∃ v, e = .returned v ∧ OwnW w' w.heap.size v (pack []) ∧ Below w.heap.size w w' := by
  obtain ⟨i0, hi, hz0, hz1, hz2⟩ := info_parts info64
  go_enter Try.func31, Try.ntmps31
  go_wp2_with fail
  refine (wordsOf_any 0 _ (by omega)).mono ?_
  rintro e w' ⟨rfl, rfl⟩
  rw [show nw 0 = 0 from rfl]
  go_wp2_with (at_make; refine wpList_make_full _ rfl _ _ 46 rfl w.heap.size 22 i0 (.int .u64 0) 1 Try.underlying46 hi hz0 hz1 .i64 .i64 _ _ 0 rfl rfl rfl rfl ?c1 ?c2 ?c3 ?_)
  case c1 => rw [hz2]; omega
  case c2 => unfold maxLen; omega
  case c3 => exact Nat.le_refl _
  intro w1 hown hgrow
  have hbel : Below w.heap.size w w1 := (Below.refl _ _).grown hgrow (Nat.le_refl _) (fun k h => by cases h)
  have HO := Lib.hid hown; have HBel := Lib.hid hbel; clear hown hbel hgrow
  clear hi hz0 hz1 hz2
  go_wp2_with fail
  refine wp_loop_rounds 1 ?_
  rw [rounds_succ]
  go_wp2_with fail
  go_ret
  have h := HO.out
  rw [made_rep] at h
  exact ⟨_, rfl, h, HBel.out⟩

theorem pack_any (a : Option Addr) (len cap : Nat) (zs : List Int) (w : World) (hr : Row .u8 w a len zs) (hreach : len ≤ 140737488351232) :
    Calls Try.prog 31 #[.slice a len cap] w fun e w' => ∃ v, e = .returned v ∧ OwnW w' w.heap.size v (pack zs) ∧ Below w.heap.size w w' := by
  obtain ⟨hl, hm, hwf, rfl | ⟨b, off, rfl, hc⟩⟩ := hr
  · obtain rfl : zs = [] := List.length_eq_zero_iff.1 hl
    exact pack_none a cap w
  · exact pack_some b off len cap zs w hl hm hwf hc hreach

/-! ### the reference's Pack -/
def RPackRel (zs : List Int) (w : World) (len B : Nat) (v i : Value) (wr : World) : Prop :=
  ∃ k : Nat, k ≤ len ∧ i = .int .i64 k ∧ wr.ownsRow B 22 1 v (nw k) ((packK zs k (nw k)).map (Value.int .u64)) ∧ Below B w wr

theorem own_some {w : World} {base : Nat} {e : TypeId} {v : Value} {n : Nat} {xs : List Value} (h : w.ownsRow base e 1 v n xs) (hn : 0 < n) : ∃ g cap, v = .slice (some ⟨g, 0, none⟩) n cap ∧ base ≤ g ∧ g < w.heap.size := by
  obtain ⟨hl, ⟨rfl, h2⟩ | ⟨g, cap, cur, rfl, hb, hg, _⟩⟩ := h
  · rw [h2] at hl; simp at hl; omega
  · refine ⟨g, cap, rfl, hb, ?_⟩
    rcases Nat.lt_or_ge g w.heap.size with h | h
    · exact h
    · rw [Array.getElem?_eq_none h] at hg; cases hg

set_option maxHeartbeats 800000 in
theorem rpack_some (b off len cap : Nat) (zs : List Int) (w : World) (hl : zs.length = len) (hm : len ≤ 9223372036854775807) (hwf : ∀ n ∈ zs, (Lit.int .u8 n).wf = true) (hc : ∀ i, i < len → w.cell? ⟨b, off + i, none⟩ = some (.int .u8 (zs.getD i 0))) (hreach : len ≤ 140737488351232) :
    Calls Try.prog 33 #[.slice (some ⟨b, off, none⟩) len cap] w fun e w' => ∃ v, e = .returned v ∧ OwnW w' w.heap.size v (pack zs) ∧ Below w.heap.size w w' := by
  obtain ⟨i0, hi, hz0, hz1, hz2⟩ := info_parts info64
  have HB := Lib.hid (bytes_of hwf); have HE := Lib.hid (byt_eq hwf)
  have HL := Lib.hid hl; have HC := Lib.hid hc
  clear hl hwf hc
  obtain ⟨B, hB⟩ : ∃ B, B = w.heap.size := ⟨_, rfl⟩
  rw [← hB]
  have HBB := Lib.hid hB; clear hB
  go_enter Try.func33, Try.ntmps33
  go_wp2_with fail
  go_loopw [3, 4] (fun v i wr => RPackRel zs w len B v i wr) (fun _ i _ => len - (intOf i).toNat)
  case atStart => exact ⟨0, by omega, rfl, World.ownsRow_nil _ _ _ _, Below.refl _ _⟩
  case round =>
    obtain ⟨k, hk, rfl, hown, hbel⟩ := hrel
    by_cases hlt : k < len
    · have hcp : ∀ wx, Below B wr wx → wx.cell? ⟨b, off + k, none⟩ = some (.int .u8 (zs.getD k 0)) := fun wx hx => by
        have h := HC.out k hlt
        rw [(hbel.trans hx).cell (by rw [HBB.out]; exact World.block_lt_of_cell? _ _ h)]
        exact h
      have HCP := Lib.hid hcp; clear hcp
      have hsz : B ≤ wr.heap.size := by rw [HBB.out]; exact hbel.size
      have hnk : nw k ≤ 17592186044405 := by unfold nw; omega
      by_cases h8 : k % 8 = 0
      · have d8 : ((k : Int) % 8 == 0) = true := by simp; omega
        have hmore := packK_more zs k h8
        have hnk1 : nw (k + 1) = nw k + 1 := by unfold nw; omega
        obtain ⟨m, hmm⟩ : ∃ m, m = nw k := ⟨_, rfl⟩
        rw [← hmm] at hown hmore hnk hnk1
        have HMM := Lib.hid hmm; have HMO := Lib.hid hmore; have HN1 := Lib.hid hnk1; have HBL := Lib.hid hbel
        clear hmm hmore hnk1 hbel h8
        go_wp2_with (at_builtin; refine wpList_append_own _ rfl _ _ 46 rfl B 22 i0 (.int .u64 0) 1 8 Try.underlying46 hi hz0 hz1 hz2 rfl (by decide) _ _ _ rfl (hown.alloc _) ⟨wr.heap.size, 0, none⟩ 1 1 [.int .u64 0] rfl rfl ?c1 ?c2 ?c3 ?c4 ?c5 ?_)
        case c1 => exact cell_one_new _ _ _
        case c2 => intro u hu; simp at hu; subst hu; rfl
        case c3 => unfold maxLen; omega
        case c4 => omega
        case c5 => simp; omega
        intro v' w1 hown1 hgrow _
        rw [show [Value.int IntKind.u64 0] = [(0 : Int)].map (Value.int .u64) from rfl, ← List.map_append, HMO.out, ← HN1.out] at hown1
        have hbel1 : Below B wr w1 := ((Below.refl B wr).alloc hsz _).grown hgrow (by simp; omega) (fun q hq => by
          rcases hown.2 with ⟨rfl, _⟩ | ⟨g, c, cur, rfl, hb, _⟩
          · cases hq
          · cases hq; exact hb)
        clear hgrow
        obtain ⟨g, cap1, hv, hg, _⟩ := own_some hown1 (by unfold nw; omega)
        rw [hv] at hown1 ⊢
        clear hv
        have hcp1 := HCP.out w1 hbel1
        have hco : w1.cell? ⟨g, k / 8, none⟩ = some (.int .u64 ((cellK zs k (k / 8) : Nat) : Int)) := by
          rw [hown1.cellAt (k / 8) (by unfold nw; omega)]
          have h8 : k / 8 < nw (k + 1) := by unfold nw; omega
          simp [packK, h8]
        have hcf : w1.frozen? ⟨g, k / 8, none⟩ = false := hown1.frozenAt _
        have hst := hown1.stored (k / 8) (.int .u64 ((cellK zs (k + 1) (k / 8) : Nat) : Int))
        have hadd := step_add HB.out k (zs.getD k 0) (HE.out k)
        have hz : 0 ≤ zs.getD k 0 ∧ zs.getD k 0 ≤ 255 := by rw [HE.out k]; have := HB.out k; omega
        have hk8 : (k : Int) / 8 < ((nw (k + 1) : Nat) : Int) := by unfold nw; omega
        have hkl : (k : Int) < (len : Int) := by omega
        obtain ⟨z, hzz⟩ : ∃ z, z = zs.getD k 0 := ⟨_, rfl⟩
        rw [← hzz] at hcp1 hadd hz
        have hcl : ((cellK zs k (k / 8) : Nat) : Int) ≤ 18446744073709551615 := by have := cellK_lt HB.out k (k / 8); omega
        obtain ⟨C, hC⟩ : ∃ C, C = cellK zs k (k / 8) := ⟨_, rfl⟩
        rw [← hC] at hco hadd hcl
        obtain ⟨m1, hm1⟩ : ∃ m1, m1 = nw (k + 1) := ⟨_, rfl⟩
        rw [← hm1] at hst hk8 ⊢
        have HS := Lib.hid hst; have HAD := Lib.hid hadd; have HBL1 := Lib.hid hbel1; have HM1 := Lib.hid hm1; clear hst hadd hown1 hbel1 hC hzz hown hm1
        clear hi hz0 hz1 hz2
        go_wp2_with fail
        go_region
        go_wp2_with fail
        go_roundw
        case rel =>
          rw [HAD.out]
          refine ⟨k + 1, by omega, by go_num, ?_, ((HBL.out.trans HBL1.out).setCell hg _).drew⟩
          have h1 := HS.out.1
          rw [← List.map_set, packK_step] at h1
          rw [← HM1.out]
          exact h1.drew
        case measure => simp [intOf]; omega
      · have d8 : ((k : Int) % 8 == 0) = false := by simp; omega
        have hown1 := hown
        rw [← nw_same k h8] at hown1
        have hbel1 := Below.refl B wr
        have HBL := Lib.hid hbel
        clear h8 hbel hnk
        obtain ⟨g, cap1, hv, hg, _⟩ := own_some hown1 (by unfold nw; omega)
        rw [hv] at hown1 ⊢
        clear hv
        have hcp1 := HCP.out wr hbel1
        have hco : wr.cell? ⟨g, k / 8, none⟩ = some (.int .u64 ((cellK zs k (k / 8) : Nat) : Int)) := by
          rw [hown1.cellAt (k / 8) (by unfold nw; omega)]
          have h8 : k / 8 < nw (k + 1) := by unfold nw; omega
          simp [packK, h8]
        have hcf : wr.frozen? ⟨g, k / 8, none⟩ = false := hown1.frozenAt _
        have hst := hown1.stored (k / 8) (.int .u64 ((cellK zs (k + 1) (k / 8) : Nat) : Int))
        have hadd := step_add HB.out k (zs.getD k 0) (HE.out k)
        have hz : 0 ≤ zs.getD k 0 ∧ zs.getD k 0 ≤ 255 := by rw [HE.out k]; have := HB.out k; omega
        have hk8 : (k : Int) / 8 < ((nw (k + 1) : Nat) : Int) := by unfold nw; omega
        have hkl : (k : Int) < (len : Int) := by omega
        obtain ⟨z, hzz⟩ : ∃ z, z = zs.getD k 0 := ⟨_, rfl⟩
        rw [← hzz] at hcp1 hadd hz
        have hcl : ((cellK zs k (k / 8) : Nat) : Int) ≤ 18446744073709551615 := by have := cellK_lt HB.out k (k / 8); omega
        obtain ⟨C, hC⟩ : ∃ C, C = cellK zs k (k / 8) := ⟨_, rfl⟩
        rw [← hC] at hco hadd hcl
        obtain ⟨m1, hm1⟩ : ∃ m1, m1 = nw (k + 1) := ⟨_, rfl⟩
        rw [← hm1] at hst hk8 ⊢
        have HS := Lib.hid hst; have HAD := Lib.hid hadd; have HBL1 := Lib.hid hbel1; have HM1 := Lib.hid hm1; clear hst hadd hown1 hbel1 hC hzz hown hm1
        clear hi hz0 hz1 hz2
        go_wp2_with fail
        go_region
        go_wp2_with fail
        go_roundw
        case rel =>
          rw [HAD.out]
          refine ⟨k + 1, by omega, by go_num, ?_, ((HBL.out.trans HBL1.out).setCell hg _).drew⟩
          have h1 := HS.out.1
          rw [← List.map_set, packK_step] at h1
          rw [← HM1.out]
          exact h1.drew
        case measure => simp [intOf]; omega
    · obtain rfl : k = len := by omega
      have HOwn := Lib.hid hown; have HBL := Lib.hid hbel; clear hown hbel
      go_wp2_with fail
      go_ret
      refine ⟨_, rfl, ?_, HBL.out⟩
      unfold OwnW pack
      rw [packK_length, HL.out]
      exact HOwn.out

theorem rpack_none (a : Option Addr) (cap : Nat) (w : World) :
    Calls Try.prog 33 #[.slice a 0 cap] w fun e w' => ∃ v, e = .returned v ∧ OwnW w' w.heap.size v (pack []) ∧ Below w.heap.size w w' := by
  go_enter Try.func33, Try.ntmps33
  go_wp2_with fail
  refine wp_loop_rounds 1 ?_
  rw [rounds_succ]
  go_wp2_with fail
  go_ret
  exact ⟨_, rfl, World.ownsRow_nil _ _ _ _, Below.refl _ _⟩

theorem rpack_any (a : Option Addr) (len cap : Nat) (zs : List Int) (w : World) (hr : Row .u8 w a len zs) (hreach : len ≤ 140737488351232) :
    Calls Try.prog 33 #[.slice a len cap] w fun e w' => ∃ v, e = .returned v ∧ OwnW w' w.heap.size v (pack zs) ∧ Below w.heap.size w w' := by
  obtain ⟨hl, hm, hwf, rfl | ⟨b, off, rfl, hc⟩⟩ := hr
  · obtain rfl : zs = [] := List.length_eq_zero_iff.1 hl
    exact rpack_none a cap w
  · exact rpack_some b off len cap zs w hl hm hwf hc hreach
end Go.Proofs.Ytfibemkgmkggpaa.Word
