/-
  Same, SameBytes and the two Unpacks, walked.
-/
import Derived.Test.YtfibemkgmkggpaaPackWalks
import Derived.Laws.BytesArg
namespace Go.Proofs.Ytfibemkgmkggpaa.Word
open Go.RowKit

theorem Row.below {k : IntKind} {w w' : World} {a : Option Addr} {len : Nat} {zs : List Int} (h : Row k w a len zs) (hb : Below w.heap.size w w') : Row k w' a len zs := by
  obtain ⟨h1, h2, h3, h4⟩ := h
  refine ⟨h1, h2, h3, ?_⟩
  rcases h4 with h4 | ⟨b, off, e, hc⟩
  · exact .inl h4
  · exact .inr ⟨b, off, e, fun i hi => (hb.cell (World.block_lt_of_cell? _ _ (hc i hi))).trans (hc i hi)⟩
theorem Row.drewN {k : IntKind} {w : World} {a : Option Addr} {len : Nat} {zs : List Int} (h : Row k w a len zs) (n : Nat) : Row k (w.drewN n) a len zs := h

theorem row_own {k : IntKind} {w : World} {base e : Nat} {v : Value} {zs : List Int} (h : w.ownsRow base e 1 v zs.length (zs.map (Value.int k))) (hw : ∀ n ∈ zs, (Lit.int k n).wf = true) (hl : zs.length ≤ 9223372036854775807) :
    ∃ a cap, v = .slice a zs.length cap ∧ Row k w a zs.length zs := by
  have h' := h
  obtain ⟨_, ⟨rfl, h0⟩ | ⟨g, cap, cur, rfl, hb, hg, _⟩⟩ := h
  · exact ⟨none, 0, by rw [h0], rfl, hl, hw, .inl h0⟩
  · refine ⟨_, cap, rfl, rfl, hl, hw, .inr ⟨g, 0, rfl, fun i hi => ?_⟩⟩
    rw [Nat.zero_add, h'.cellAt i (by omega)]
    simp [List.getD, hi]

theorem wf_u64 {n : Nat} (h : n < 18446744073709551616) : (Lit.int .u64 (n : Int)).wf = true := by
  simp [Lit.wf, IntKind.min, IntKind.max, IntKind.signed, IntKind.bits]
  omega
theorem wf_u8 {n : Nat} (h : n < 256) : (Lit.int .u8 (n : Int)).wf = true := by
  simp [Lit.wf, IntKind.min, IntKind.max, IntKind.signed, IntKind.bits]
  omega

theorem pack_wf {zs : List Int} (h : Bytes zs) : ∀ n ∈ pack zs, (Lit.int .u64 n).wf = true := by
  intro n hn
  unfold pack packK at hn
  obtain ⟨j, _, rfl⟩ := List.mem_map.1 hn
  exact wf_u64 (cellK_lt h _ _)
theorem pack_length (zs : List Int) : (pack zs).length = nw zs.length := packK_length _ _ _
theorem unpk_wf (ws : List Int) (n : Nat) : ∀ z ∈ unpk ws n, (Lit.int .u8 z).wf = true := by
  intro z hz
  unfold unpk at hz
  obtain ⟨i, _, rfl⟩ := List.mem_map.1 hz
  exact wf_u8 (Nat.mod_lt _ (by decide))

/-- string(b): the bytes of the row. -/
theorem conv_row {w : World} {a : Option Addr} {len cap : Nat} {zs : List Int} (h : Row .u8 w a len zs) :
    (convert 39 9 (.slice a len cap)).run Try.prog w = .ok (.string (strOfNums zs)) w := by
  obtain ⟨hl, _, _, rfl | ⟨b, off, rfl, hc⟩⟩ := h
  · obtain rfl : zs = [] := List.length_eq_zero_iff.1 hl
    cases a with
    | none => rw [run_convert_bytes_nil w 39 5 Try.underlying39 Try.underlying5 0 cap 9 Try.underlying9]; rfl
    | some x =>
      have hls := run_loadCells_list (P := Try.prog) w x [] (fun j v hj => by simp at hj)
      rw [run_convert_bytes_string w 39 9 5 _ 0 cap Try.underlying39 Try.underlying5 Try.underlying9, run_bytesToString w x 0 cap [] hls]
      rfl
  · exact run_convert_bytes_arg w 39 5 Try.underlying39 Try.underlying5 b off len cap zs hl hc 9 Try.underlying9

theorem sameb_any (a b : Option Addr) (la lb ca cb : Nat) (zs : List Int) (w : World) (ha : Row .u8 w a la zs) (hb : Row .u8 w b lb zs) :
    Calls Try.prog 30 #[.slice a la ca, .slice b lb cb] w fun e w' => e = .returned (.bool true) ∧ w = w' := by
  have h1 := conv_row (cap := ca) ha
  have h2 := conv_row (cap := cb) hb
  clear ha hb
  go_enter Try.func30, Try.ntmps30
  go_wp2_with fail
  go_ret
  exact ⟨rfl, rfl⟩

theorem same_any (a b : Option Addr) (la lb ca cb : Nat) (zs : List Int) (w : World) (ha : Row .u64 w a la zs) (hb : Row .u64 w b lb zs) :
    Calls Try.prog 32 #[.slice a la ca, .slice b lb cb] w fun e w' => e = .returned (.bool true) ∧ Below w.heap.size w w' := by
  obtain ⟨hl, hm, hwf, h1⟩ := ha
  obtain ⟨hl2, _, _, h2⟩ := hb
  obtain rfl : la = lb := hl.symm.trans hl2
  clear hl2
  by_cases h0 : la = 0
  · subst h0
    clear h1 h2 hwf hl
    go_enter Try.func32, Try.ntmps32
    go_wp2_with fail
    refine wp_loop_rounds 1 ?_
    rw [rounds_succ]
    go_wp2_with fail
    go_ret
    exact ⟨rfl, Below.refl _ _⟩
  · obtain ⟨b1, o1, rfl, c1⟩ := h1.resolve_left h0
    obtain ⟨b2, o2, rfl, c2⟩ := h2.resolve_left h0
    have C1 := Lib.hid c1; have C2 := Lib.hid c2; have HL := Lib.hid hl
    clear c1 c2 h1 h2 hl hwf
    have hne : ((la : Int) != (la : Int)) = false := by simp
    go_enter Try.func32, Try.ntmps32
    go_wp2_with fail
    go_loopw [13] (fun i wr => ∃ k n : Nat, k ≤ la ∧ i = .int .i64 k ∧ wr = w.drewN n) (fun i _ => la - (intOf i).toNat)
    case atStart => exact ⟨0, 0, by omega, rfl, rfl⟩
    case round =>
      obtain ⟨k, n, hk, rfl, rfl⟩ := hrel
      by_cases hlt : k < la
      · have g1 := C1.out k hlt
        have g2 := C2.out k hlt
        have hkl : (k : Int) < (la : Int) := by omega
        obtain ⟨z, hz⟩ : ∃ z, z = zs.getD k 0 := ⟨_, rfl⟩
        rw [← hz] at g1 g2
        clear hz
        have hzz : (z != z) = false := by simp
        go_wp2_with fail
        go_quiet (fail)
        go_wp2_with fail
        go_roundw
        case rel => exact ⟨k + 1, _, by omega, by go_num, rfl⟩
        case measure => simp [intOf]; omega
      · obtain rfl : k = la := by omega
        go_wp2_with fail
        go_ret
        exact ⟨rfl, below_drewN (Below.refl _ _) _⟩

/-! ### Unpack -/
/-- The words are those of n bytes: as many, and nothing beyond the last byte. -/
def Fits (ws : List Int) (n : Nat) : Prop := ws.length = nw n ∧ (n % 8 ≠ 0 → (ws.getD (nw n - 1) 0).toNat / 2 ^ (8 * (n % 8)) = 0)

/-- A row of bytes that the call owns. -/
def OwnB (w : World) (base : Nat) (v : Value) (zs : List Int) : Prop := w.ownsRow base 5 1 v zs.length (zs.map (Value.int .u8))

theorem unpack_neg (a : Option Addr) (len cap : Nat) (n : Int) (w : World) (hn : n < 0) :
    Calls Try.prog 28 #[.slice a len cap, .int .i64 n] w fun e w' => e = .returned (.tuple #[.slice none 0 0, .int .i64 1]) ∧ w = w' := by
  go_enter Try.func28, Try.ntmps28
  go_wp2_with fail
  go_ret2
  exact ⟨rfl, rfl⟩
theorem runpack_neg (a : Option Addr) (len cap : Nat) (n : Int) (w : World) (hn : n < 0) :
    Calls Try.prog 29 #[.slice a len cap, .int .i64 n] w fun e w' => e = .returned (.tuple #[.slice none 0 0, .int .i64 1]) ∧ w = w' := by
  go_enter Try.func29, Try.ntmps29
  go_wp2_with fail
  go_ret2
  exact ⟨rfl, rfl⟩

theorem unpack_len (a : Option Addr) (len cap n : Nat) (w : World) (_hl : (len : Int) ≤ 9223372036854775807) (hn : n ≤ 9223372036854775807) (h : len ≠ nw n) :
    Calls Try.prog 28 #[.slice a len cap, .int .i64 n] w fun e w' => e = .returned (.tuple #[.slice none 0 0, .int .i64 11]) ∧ w = w' := by
  obtain ⟨M, hM⟩ : ∃ M, M = nw n := ⟨_, rfl⟩
  rw [← hM] at h
  have hne : ((len : Int) != (M : Int)) = true := by simp; omega
  have HM := Lib.hid hM; clear hM h
  go_enter Try.func28, Try.ntmps28
  go_wp2_with fail
  refine (wordsOf_any n _ hn).mono ?_
  rintro e w' ⟨rfl, rfl⟩
  rw [← HM.out]
  go_wp2_with fail
  go_ret2
  exact ⟨rfl, rfl⟩

theorem unpack_top (b off len cap n : Nat) (X : Nat) (w : World) (_hl : (len : Int) ≤ 9223372036854775807) (hn : n ≤ 9223372036854775807) (h : len = nw n) (hX : X < 18446744073709551616) (hc : w.cell? ⟨b, off + (len - 1), none⟩ = some (.int .u64 X)) (h8 : n % 8 ≠ 0) (hbad : X / 2 ^ (8 * (n % 8)) ≠ 0) :
    Calls Try.prog 28 #[.slice (some ⟨b, off, none⟩) len cap, .int .i64 n] w fun e w' => e = .returned (.tuple #[.slice none 0 0, .int .i64 11]) ∧ w = w' := by
  have hlen : 1 ≤ (len : Int) := by rw [h]; unfold nw; omega
  have hne : ((len : Int) != (len : Int)) = false := by simp
  have d8 : ((n : Int) % 8 != 0) = true := by simp; omega
  have hx : (X : Int) ≤ 18446744073709551615 := by omega
  have hq : ((X : Int) / 2 ^ (n % 8 * 8) != 0) = true := by
    rw [Nat.mul_comm]
    have e : (X : Int) / 2 ^ (8 * (n % 8)) = ((X / 2 ^ (8 * (n % 8)) : Nat) : Int) := by simp
    rw [e]; simp; omega
  have HM := Lib.hid h; clear h hX h8 hbad
  go_enter Try.func28, Try.ntmps28
  go_wp2_with fail
  refine (wordsOf_any n _ hn).mono ?_
  rintro e w' ⟨rfl, rfl⟩
  rw [← HM.out]
  go_wp2_with fail
  go_ret2
  exact ⟨rfl, rfl⟩

theorem fits_iff {ws : List Int} {n : Nat} (hl : ws.length = nw n) (hw : ∀ z ∈ ws, (Lit.int .u64 z).wf = true) : Fits ws n ↔ ∀ j, n ≤ j → j < 8 * ws.length → ub ws j = 0 := by
  unfold Fits
  by_cases h8 : n % 8 = 0
  · have : 8 * nw n = n := by unfold nw; omega
    constructor
    · intro _ j h1 h2; omega
    · intro _; exact ⟨hl, fun h => absurd h8 h⟩
  · have hpos : nw n - 1 < ws.length := by rw [hl]; unfold nw; omega
    have hX : (ws.getD (nw n - 1) 0).toNat < 18446744073709551616 := by
      have := bounds_u64 (hw ws[nw n - 1] (List.getElem_mem hpos))
      simp [List.getD, hpos]
      omega
    constructor
    · rintro ⟨_, h⟩ j h1 h2
      have hj : j / 8 = nw n - 1 := by rw [hl] at h2; unfold nw at *; omega
      unfold ub
      rw [hj]
      exact (top_iff _ _ hX).1 (h h8) _ (by unfold nw at *; omega) (by omega)
    · intro h
      refine ⟨hl, fun _ => (top_iff _ _ hX).2 fun t h1 h2 => ?_⟩
      have := h (8 * (nw n - 1) + t) (by unfold nw at *; omega) (by rw [hl]; unfold nw at *; omega)
      unfold ub at this
      rw [show (8 * (nw n - 1) + t) / 8 = nw n - 1 from by omega, show (8 * (nw n - 1) + t) % 8 = t from by omega] at this
      exact this

/-- What both Unpacks return for n bytes. -/
def UnpPost (ws : List Int) (n : Nat) (w : World) (e : Ending) (w' : World) : Prop :=
  ((Fits ws n ∧ ∃ v, e = .returned (.tuple #[v, .int .i64 0]) ∧ OwnB w' w.heap.size v (unpk ws n)) ∨ (¬ Fits ws n ∧ e = .returned (.tuple #[.slice none 0 0, .int .i64 11]))) ∧ Below w.heap.size w w'

/-- The bytes of which k are done. -/
def halfK (ws : List Int) (k n : Nat) : List Int := unpk ws k ++ List.replicate (n - k) 0
theorem halfK_step (ws : List Int) (k n : Nat) (h : k < n) : (halfK ws k n).set k ((ub ws k : Nat) : Int) = halfK ws (k + 1) n := by
  unfold halfK
  rw [List.set_append_right _ _ (by rw [unpk_length]; exact Nat.le_refl _), unpk_length, Nat.sub_self, unpk_succ, List.append_assoc]
  congr 1
  rw [show n - k = (n - (k + 1)) + 1 from by omega, List.replicate_succ]
  rfl
theorem halfK_length (ws : List Int) (k n : Nat) (h : k ≤ n) : (halfK ws k n).length = n := by
  unfold halfK
  rw [List.length_append, unpk_length, List.length_replicate]
  omega

def UnpRel (ws : List Int) (w : World) (n B : Nat) (i : Value) (wr : World) : Prop :=
  ∃ k : Nat, k ≤ n ∧ i = .int .i64 k ∧ wr.ownsRow B 5 1 (.slice (some ⟨B, 0, none⟩) n n) n ((halfK ws k n).map (Value.int .u8)) ∧ Below B w wr

theorem ub_raw (ws : List Int) (k X : Nat) (hX : ws.getD (k / 8) 0 = (X : Int)) : (X : Int) / 2 ^ (8 * (k % 8)) % 256 = ((ub ws k : Nat) : Int) := by
  unfold ub
  rw [hX, Int.toNat_natCast, Int.natCast_emod, Int.natCast_ediv, Int.natCast_pow]
  rfl

theorem word_nat {ws : List Int} (hw : ∀ z ∈ ws, (Lit.int .u64 z).wf = true) (j : Nat) : ∃ X : Nat, ws.getD j 0 = (X : Int) ∧ X < 18446744073709551616 := by
  by_cases hj : j < ws.length
  · have := bounds_u64 (hw ws[j] (List.getElem_mem hj))
    refine ⟨ws[j].toNat, ?_, by omega⟩
    simp [List.getD, hj]
    omega
  · exact ⟨0, by simp [List.getD, hj], by decide⟩

set_option maxHeartbeats 800000 in
theorem unpack_ok (b off len cap n : Nat) (ws : List Int) (w : World) (hl : ws.length = len) (hm : (len : Int) ≤ 9223372036854775807) (hwf : ∀ z ∈ ws, (Lit.int .u64 z).wf = true) (hc : ∀ i, i < len → w.cell? ⟨b, off + i, none⟩ = some (.int .u64 (ws.getD i 0))) (hreach : len * 8 ≤ 140737488351232) (hpos : 0 < n) (hf : Fits ws n) :
    Calls Try.prog 28 #[.slice (some ⟨b, off, none⟩) len cap, .int .i64 n] w fun e w' => ∃ v, e = .returned (.tuple #[v, .int .i64 0]) ∧ OwnB w' w.heap.size v (unpk ws n) ∧ Below w.heap.size w w' := by
  obtain ⟨i0, hi, hz0, hz1, hz2⟩ := info_parts info8
  have hlen : len = nw n := by rw [← hl]; exact hf.1
  have hn8 : n ≤ len * 8 := by rw [hlen]; unfold nw; omega
  have hn : n ≤ 9223372036854775807 := by omega
  have hnI : (n : Int) ≤ 140737488351232 := by omega
  have hl1 : 1 ≤ (len : Int) := by rw [hlen]; unfold nw; omega
  have HWN := Lib.hid (fun j => word_nat hwf j)
  have hne : ((len : Int) != (len : Int)) = false := by simp
  have hlast := hc (len - 1) (by omega)
  obtain ⟨X, hX1, hX2⟩ := word_nat hwf (len - 1)
  rw [hX1] at hlast
  have hx : (X : Int) ≤ 18446744073709551615 := by omega
  have hq : n % 8 ≠ 0 → ((X : Int) / 2 ^ (n % 8 * 8) != 0) = false := fun h8 => by
    have h1 := hf.2 h8
    rw [← hlen, hX1, Int.toNat_natCast] at h1
    rw [Nat.mul_comm]
    have e : (X : Int) / 2 ^ (8 * (n % 8)) = ((X / 2 ^ (8 * (n % 8)) : Nat) : Int) := by simp
    rw [e, h1]; rfl
  have HL := Lib.hid hl; have HC := Lib.hid hc; have HM := Lib.hid hlen; have HQ := Lib.hid hq
  clear hl hwf hc hlen hf hX1 hX2 hq
  obtain ⟨B, hB⟩ : ∃ B, B = w.heap.size := ⟨_, rfl⟩
  rw [← hB]
  have HBB := Lib.hid hB; clear hB
  have dneg : decide ((n : Int) < 0) = false := by simp
  by_cases h8 : n % 8 = 0
  · have d8 : ((n : Int) % 8 != 0) = false := by simp; omega
    go_enter Try.func28, Try.ntmps28
    go_wp2_with fail
    refine (wordsOf_any n _ hn).mono ?_
    rintro e w' ⟨rfl, rfl⟩
    rw [← HM.out]
    go_wp2_with (at_make; refine wpList_make_full _ rfl _ _ 39 rfl w.heap.size 5 i0 (.int .u8 0) 1 Try.underlying39 hi hz0 hz1 .i64 .i64 _ _ n rfl rfl rfl rfl ?c1 ?c2 ?c3 ?_)
    case c1 => rw [hz2]; omega
    case c2 => unfold maxLen; omega
    case c3 => exact Nat.le_refl _
    intro w1 hown hgrow
    have hbel : Below B w w1 := by rw [HBB.out]; exact (Below.refl _ _).grown hgrow (Nat.le_refl _) (fun k h => by cases h)
    rw [← HBB.out] at hown ⊢
    have HO := Lib.hid hown; have HBel := Lib.hid hbel; clear hown hbel hgrow
    clear hi hz0 hz1 hz2 hlast
    go_wp2_with fail
    go_loopw [36] (fun i wr => UnpRel ws w n B i wr) (fun i _ => n - (intOf i).toNat)
    case atStart => exact ⟨0, by omega, rfl, by unfold halfK unpk; rw [List.range_zero, List.map_nil, List.nil_append, List.map_replicate, Nat.sub_zero, ← made_rep]; exact HO.out, HBel.out⟩
    case round =>
      obtain ⟨k, hk, rfl, hown, hbel⟩ := hrel
      by_cases hlt : k < n
      · obtain ⟨Y, hY1, hY2⟩ := HWN.out (k / 8)
        have hcp : wr.cell? ⟨b, off + k / 8, none⟩ = some (.int .u64 (Y : Int)) := by
          have h := HC.out (k / 8) (by omega)
          rw [hbel.cell (by rw [HBB.out]; exact World.block_lt_of_cell? _ _ h), ← hY1]
          exact h
        obtain ⟨old, hco⟩ : ∃ old, wr.cell? ⟨B, k, none⟩ = some (.int .u8 old) := by
          rw [hown.cellAt k (by omega)]
          have hkl : k < (halfK ws k n).length := by rw [halfK_length _ _ _ hk]; exact hlt
          exact ⟨(halfK ws k n)[k], by simp [hkl]⟩
        have hcf : wr.frozen? ⟨B, k, none⟩ = false := hown.frozenAt _
        have hst := hown.stored k (.int .u8 ((ub ws k : Nat) : Int))
        have hub := ub_raw ws k Y hY1
        have hy : (Y : Int) ≤ 18446744073709551615 := by omega
        have hk8 : (k : Int) / 8 < (len : Int) := by omega
        have hkn : (k : Int) < (n : Int) := by omega
        have HS := Lib.hid hst; have HUB := Lib.hid hub; have HBL := Lib.hid hbel; clear hst hub hown hbel hY1 hY2
        go_wp2_with fail
        go_roundw
        case rel =>
          rw [Nat.mul_comm (k % 8) 8, HUB.out]
          refine ⟨k + 1, by omega, by go_num, ?_, HBL.out.setCell (Nat.le_refl _) _⟩
          have h1 := HS.out.1
          rw [← List.map_set, halfK_step _ _ _ hlt] at h1
          exact h1
        case measure => simp [intOf]; omega
      · obtain rfl : k = n := by omega
        have HOwn := Lib.hid hown; have HBL := Lib.hid hbel; clear hown hbel
        go_wp2_with fail
        go_ret2
        refine ⟨_, rfl, ?_, HBL.out⟩
        have h1 := HOwn.out
        unfold halfK at h1
        rw [Nat.sub_self, List.replicate_zero, List.append_nil] at h1
        unfold OwnB
        rw [unpk_length]
        exact h1
  · have d8 : ((n : Int) % 8 != 0) = true := by simp; omega
    have hqq := HQ.out h8
    clear h8
    go_enter Try.func28, Try.ntmps28
    go_wp2_with fail
    refine (wordsOf_any n _ hn).mono ?_
    rintro e w' ⟨rfl, rfl⟩
    rw [← HM.out]
    go_wp2_with (at_make; refine wpList_make_full _ rfl _ _ 39 rfl w.heap.size 5 i0 (.int .u8 0) 1 Try.underlying39 hi hz0 hz1 .i64 .i64 _ _ n rfl rfl rfl rfl ?c1 ?c2 ?c3 ?_)
    case c1 => rw [hz2]; omega
    case c2 => unfold maxLen; omega
    case c3 => exact Nat.le_refl _
    intro w1 hown hgrow
    have hbel : Below B w w1 := by rw [HBB.out]; exact (Below.refl _ _).grown hgrow (Nat.le_refl _) (fun k h => by cases h)
    rw [← HBB.out] at hown ⊢
    have HO := Lib.hid hown; have HBel := Lib.hid hbel; clear hown hbel hgrow
    clear hi hz0 hz1 hz2 hlast hqq
    go_wp2_with fail
    go_loopw [36] (fun i wr => UnpRel ws w n B i wr) (fun i _ => n - (intOf i).toNat)
    case atStart => exact ⟨0, by omega, rfl, by unfold halfK unpk; rw [List.range_zero, List.map_nil, List.nil_append, List.map_replicate, Nat.sub_zero, ← made_rep]; exact HO.out, HBel.out⟩
    case round =>
      obtain ⟨k, hk, rfl, hown, hbel⟩ := hrel
      by_cases hlt : k < n
      · obtain ⟨Y, hY1, hY2⟩ := HWN.out (k / 8)
        have hcp : wr.cell? ⟨b, off + k / 8, none⟩ = some (.int .u64 (Y : Int)) := by
          have h := HC.out (k / 8) (by omega)
          rw [hbel.cell (by rw [HBB.out]; exact World.block_lt_of_cell? _ _ h), ← hY1]
          exact h
        obtain ⟨old, hco⟩ : ∃ old, wr.cell? ⟨B, k, none⟩ = some (.int .u8 old) := by
          rw [hown.cellAt k (by omega)]
          have hkl : k < (halfK ws k n).length := by rw [halfK_length _ _ _ hk]; exact hlt
          exact ⟨(halfK ws k n)[k], by simp [hkl]⟩
        have hcf : wr.frozen? ⟨B, k, none⟩ = false := hown.frozenAt _
        have hst := hown.stored k (.int .u8 ((ub ws k : Nat) : Int))
        have hub := ub_raw ws k Y hY1
        have hy : (Y : Int) ≤ 18446744073709551615 := by omega
        have hk8 : (k : Int) / 8 < (len : Int) := by omega
        have hkn : (k : Int) < (n : Int) := by omega
        have HS := Lib.hid hst; have HUB := Lib.hid hub; have HBL := Lib.hid hbel; clear hst hub hown hbel hY1 hY2
        go_wp2_with fail
        go_roundw
        case rel =>
          rw [Nat.mul_comm (k % 8) 8, HUB.out]
          refine ⟨k + 1, by omega, by go_num, ?_, HBL.out.setCell (Nat.le_refl _) _⟩
          have h1 := HS.out.1
          rw [← List.map_set, halfK_step _ _ _ hlt] at h1
          exact h1
        case measure => simp [intOf]; omega
      · obtain rfl : k = n := by omega
        have HOwn := Lib.hid hown; have HBL := Lib.hid hbel; clear hown hbel
        go_wp2_with fail
        go_ret2
        refine ⟨_, rfl, ?_, HBL.out⟩
        have h1 := HOwn.out
        unfold halfK at h1
        rw [Nat.sub_self, List.replicate_zero, List.append_nil] at h1
        unfold OwnB
        rw [unpk_length]
        exact h1

theorem unpack_zero (a : Option Addr) (cap : Nat) (w : World) :
    Calls Try.prog 28 #[.slice a 0 cap, .int .i64 0] w fun e w' => ∃ v, e = .returned (.tuple #[v, .int .i64 0]) ∧ OwnB w' w.heap.size v [] ∧ Below w.heap.size w w' := by
  obtain ⟨i0, hi, hz0, hz1, hz2⟩ := info_parts info8
  go_enter Try.func28, Try.ntmps28
  go_wp2_with fail
  refine (wordsOf_any 0 _ (by omega)).mono ?_
  rintro e w' ⟨rfl, rfl⟩
  rw [show nw 0 = 0 from rfl]
  go_wp2_with (at_make; refine wpList_make_full _ rfl _ _ 39 rfl w.heap.size 5 i0 (.int .u8 0) 1 Try.underlying39 hi hz0 hz1 .i64 .i64 _ _ 0 rfl rfl rfl rfl ?c1 ?c2 ?c3 ?_)
  case c1 => rw [hz2]; omega
  case c2 => unfold maxLen; omega
  case c3 => exact Nat.le_refl _
  intro w1 hown hgrow
  have hbel : Below w.heap.size w w1 := (Below.refl _ _).grown hgrow (Nat.le_refl _) (fun k h => by cases h)
  have HO := Lib.hid hown; have HBel := Lib.hid hbel; clear hown hbel hgrow
  clear hi hz0 hz1 hz2
  go_wp2_with fail
  refine wp_loop_rounds 1 ?_
  rw [rounds_succ]
  go_wp2_with fail
  go_ret2
  have h := HO.out
  rw [made_rep] at h
  exact ⟨_, rfl, h, HBel.out⟩

theorem unpack_any (a : Option Addr) (len cap n : Nat) (ws : List Int) (w : World) (hr : Row .u64 w a len ws) (hreach : len * 8 ≤ 140737488351232) (hn : n ≤ 9223372036854775807) :
    Calls Try.prog 28 #[.slice a len cap, .int .i64 n] w (UnpPost ws n w) := by
  have hr' := hr
  obtain ⟨hl, hm, hwf, h⟩ := hr
  by_cases hlen : len = nw n
  · by_cases h0 : n = 0
    · subst h0
      obtain rfl : len = 0 := hlen
      obtain rfl : ws = [] := List.length_eq_zero_iff.1 hl
      exact (unpack_zero a cap w).mono fun e w' ⟨v, he, ho, hb⟩ => ⟨.inl ⟨⟨rfl, fun h => absurd rfl h⟩, v, he, ho⟩, hb⟩
    · obtain ⟨b, off, rfl, hc⟩ := h.resolve_left (by rw [hlen]; unfold nw; omega)
      by_cases hf : Fits ws n
      · exact (unpack_ok b off len cap n ws w hl (by omega) hwf hc hreach (by omega) hf).mono fun e w' ⟨v, he, ho, hb⟩ => ⟨.inl ⟨hf, v, he, ho⟩, hb⟩
      · have h8 : n % 8 ≠ 0 ∧ (ws.getD (nw n - 1) 0).toNat / 2 ^ (8 * (n % 8)) ≠ 0 := by
          by_cases h8 : n % 8 = 0
          · exact absurd ⟨hl.trans hlen, fun h => absurd h8 h⟩ hf
          · exact ⟨h8, fun hz => hf ⟨hl.trans hlen, fun _ => hz⟩⟩
        obtain ⟨X, hX1, hX2⟩ := word_nat hwf (nw n - 1)
        have hcc := hc (len - 1) (by rw [hlen]; unfold nw; omega)
        rw [show len - 1 = nw n - 1 from by rw [hlen], hX1] at hcc
        rw [hX1, Int.toNat_natCast] at h8
        refine (unpack_top b off len cap n X w (by omega) hn hlen hX2 (by rw [show len - 1 = nw n - 1 from by rw [hlen]]; exact hcc) h8.1 h8.2).mono fun e w' ⟨he, hw⟩ => ⟨.inr ⟨hf, he⟩, hw ▸ Below.refl _ _⟩
  · refine (unpack_len a len cap n w (by omega) hn hlen).mono fun e w' ⟨he, hw⟩ => ⟨.inr ⟨fun hf => hlen (hl.symm.trans hf.1), he⟩, hw ▸ Below.refl _ _⟩
end Go.Proofs.Ytfibemkgmkggpaa.Word
