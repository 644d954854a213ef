/-
  Load of the package device, at cells of any values; its hook is sound.
  Unpack of whole words, at rows of any words; its hook is sound.
-/
import Derived.Test.YtegfafebbnlicaaGreatDoorMSo
import Derived.Test.YtegfafebbnlicaaGreatDoorMExA
import Derived.WalkLawsBesides
import Derived.WalkSpells
import Derived.Deep.QuietTactic
import Derived.Outline
namespace Go.Proofs.YtegfafebbnlicaaGreatDoor.Fe
open Go.RowKit Dv
set_option linter.unusedVariables false
set_option linter.unusedSimpArgs false

theorem lines_row {w : World} {D L lc : Nat} {a : Option Addr} (c0 : w.cell? ⟨D, 2, none⟩ = some (.slice a L lc)) :
    Calls Tryz.prog 81 #[ptr D] w fun r w' => r = .returned (.int .i64 L) ∧ w = w' := by
  simp only [ptr]
  go_enter Tryz.func81, Tryz.ntmps81
  go_wp2_with fail
  go_returns
  exact ⟨rfl, rfl⟩
theorem size_row {w : World} {D L lc : Nat} {a : Option Addr} (c0 : w.cell? ⟨D, 2, none⟩ = some (.slice a L lc)) (hL : L ≤ 100000) :
    Calls Tryz.prog 261 #[ptr D] w fun r w' => r = .returned (.int .u64 ((L * 64 : Nat) : Int)) ∧ w = w' := by
  have hL2 : (L : Int) ≤ 100000 := by omega
  have H := Lib.hid (lines_row c0)
  have e : ((L * 64 : Nat) : Int) = (L : Int) * 64 := by omega
  rw [e]; clear e hL
  simp only [ptr]
  go_enter Tryz.func261, Tryz.ntmps261
  go_wp2_with fail
  refine H.out.mono ?_
  rintro e w' ⟨rfl, rfl⟩
  go_wp2_with fail
  go_returns
  exact ⟨rfl, rfl⟩
theorem word_row {w : World} {T D L lc off : Nat} {a : Option Addr} (c0 : w.cell? ⟨T, 0, none⟩ = some (.pointer (some ⟨D, 0, none⟩))) (c2 : w.cell? ⟨D, 2, none⟩ = some (.slice a L lc)) (hL : L ≤ 100000) (h8 : off % 8 = 0) (hlt : off < L * 64) :
    Calls Tryz.prog 200 #[ptr T, .int .u64 off] w fun r w' => r = .returned (.bool true) ∧ w = w' := by
  have ho2 : (off : Int) < 18446744073709551616 := by omega
  have d : ((off : Int) % 8 == 0) = true := by simp; omega
  have d3 : decide ((off : Int) < ((L * 64 : Nat) : Int)) = true := by apply decide_eq_true; omega
  have hs := size_row c2 hL
  obtain ⟨M, hM⟩ : ∃ M : Int, M = ((L * 64 : Nat) : Int) := ⟨_, rfl⟩
  rw [← hM] at hs d3
  have HS := Lib.hid hs; clear hs hM hlt h8
  simp only [ptr]
  go_enter Tryz.func200, Tryz.ntmps200
  go_wp2_with fail
  refine HS.out.mono ?_
  rintro e w' ⟨rfl, rfl⟩
  go_wp2_with fail
  go_returns
  exact ⟨rfl, rfl⟩
theorem on_row {w : World} {T D : Nat} (c0 : w.cell? ⟨T, 0, none⟩ = some (.pointer (some ⟨D, 0, none⟩))) (c1 : w.cell? ⟨D, 11, none⟩ = some (.bool false)) :
    Calls Tryz.prog 204 #[ptr T, .bool true] w fun r w' => r = .returned (.bool true) ∧ w = w' := by
  simp only [ptr]
  go_enter Tryz.func204, Tryz.ntmps204
  go_wp2_with fail
  go_returns
  exact ⟨rfl, rfl⟩
theorem load_row {w : World} {T D L lc off C n cc k : Nat} {a : Option Addr} (c0 : w.cell? ⟨T, 0, none⟩ = some (.pointer (some ⟨D, 0, none⟩))) (c2 : w.cell? ⟨D, 2, none⟩ = some (.slice a L lc)) (c11 : w.cell? ⟨D, 11, none⟩ = some (.bool false))
    (c1 : w.cell? ⟨D, 1, none⟩ = some (.slice (some ⟨C, 0, none⟩) n cc)) (cv : w.cell? ⟨C, off / 8, none⟩ = some (.int .u64 k)) (hL : L ≤ 100000) (h8 : off % 8 = 0) (hlt : off < L * 64) (hn : off / 8 < n) :
    Calls Tryz.prog 126 #[ptr T, .int .u64 off] w fun r w' => r = .returned (.int .u64 k) ∧ w = w' := by
  have HW := Lib.hid (word_row c0 c2 hL h8 hlt); have HO := Lib.hid (on_row c0 c11)
  have ho2 : (off : Int) < 18446744073709551616 := by omega
  have hlt2 : (off : Int) / 8 < (n : Int) := by omega
  simp only [ptr]
  go_enter Tryz.func126, Tryz.ntmps126
  go_wp2_with fail
  refine HW.out.mono ?_
  rintro e w' ⟨rfl, rfl⟩
  go_wp2_with fail
  refine HO.out.mono ?_
  rintro e w' ⟨rfl, rfl⟩
  go_wp2_with fail
  go_returns
  exact ⟨rfl, rfl⟩
end Go.Proofs.YtegfafebbnlicaaGreatDoor.Fe
namespace Go.Proofs.YtegfafebbnlicaaGreatDoor.Ev
open Go Go.RowKit
set_option linter.unusedVariables false

noncomputable def loadO (t off : Nat) (st : St) : OV :=
  match ld1 t 0 st with
  | some (.pointer (some ⟨d, 0, none⟩)) => match ld1 d 11 st, ld1 d 2 st, ld1 d 1 st with
    | some (.bool false), some (.slice _ L _), some (.slice (some ⟨c, 0, _⟩) n _) => match Nat.ble L 100000, Nat.beq (Nat.mod off 8) 0, Nat.ble (Nat.succ off) (Nat.mul L 64), Nat.ble (Nat.succ (Nat.div off 8)) n with
      | true, true, true, true => match ld1 c (Nat.div off 8) st with
        | some (.int .u64 (.ofNat k)) => some (.int .u64 (.ofNat k))
        | _ => none
      | _, _, _, _ => none
    | _, _, _ => none
  | _ => none
noncomputable def loadH (call : Call1) (args : List Value) (st : St) : Option (Value × St) :=
  match args with
  | [.pointer (some ⟨t, 0, none⟩), .int .u64 (.ofNat off)] => match loadO t off st with
    | some v => some (v, st)
    | none => call (.fn 126) args st
  | _ => call (.fn 126) args st
theorem ld1One {G : Nat} {ρ : Ren} {st : St} {w : World} (hR : R G ρ st w) {b o : Nat} {v : Value} (h : ld1 b o st = some v) : ∃ g v', ρ b = some g ∧ w.cell? ⟨g, o, none⟩ = some v' ∧ VR ρ v v' := by
  rw [ld1_eq] at h
  split at h
  · rename_i x l hl
    cases h
    obtain ⟨_, g, arr, t, fr, hρ, hw, hs, h2⟩ := hR.load_cells hl
    obtain ⟨v', h3, h4⟩ := h2 0 v rfl
    exact ⟨g, v', hρ, by rw [cell_of hw]; exact h3, h4⟩
  · cases h
theorem args_two {ρ : Ren} {v u : Value} {args' : Array Value} (h : AR ρ [v, u].toArray args') : ∃ v' u', args' = #[v', u'] ∧ VR ρ v v' ∧ VR ρ u u' := by
  obtain ⟨hs, hv⟩ := h
  have hs : args'.size = 2 := hs.symm
  refine ⟨args'[0], args'[1], ?_, hv 0 _ _ rfl (Array.getElem?_eq_getElem (by omega)), hv 1 _ _ rfl (Array.getElem?_eq_getElem (by omega))⟩
  apply Array.ext_getElem?
  intro i
  match i with
  | 0 => rw [Array.getElem?_eq_getElem (by omega)]; rfl
  | 1 => rw [Array.getElem?_eq_getElem (by omega)]; rfl
  | i + 2 => rw [Array.getElem?_eq_none (by omega), Array.getElem?_eq_none (by simp)]
theorem loadO_sound {t off : Nat} {st : St} {v : Value} (h : loadO t off st = some v) {ρ : Ren} {w : World} {T : Nat} (hR : R Gn ρ st w) (hT : ρ t = some T) :
    Calls Tryz.prog 126 #[.pointer (some ⟨T, 0, none⟩), .int .u64 (off : Int)] w (RetR ρ st w v st) := by
  unfold loadO at h
  split at h
  case h_2 => cases h
  rename_i d h0
  split at h
  case h_2 => cases h
  rename_i aa L lc c z n cc h11 h2 h1
  split at h
  case h_2 => cases h
  rename_i k1 k2 k3 k4
  split at h
  case h_2 => cases h
  rename_i k hv
  cases h
  have k1 := ble_iff.1 k1; have k2 := beq_iff.1 k2; have k3 := ble_iff.1 k3; have k4 := ble_iff.1 k4
  obtain ⟨T', v0, hT', c0, r0⟩ := ld1One hR h0
  rw [hT] at hT'; cases hT'
  cases r0 with
  | ptr _ D _ hD =>
  obtain ⟨D', v11, hD', c11, r11⟩ := ld1One hR h11
  rw [hD] at hD'; cases hD'
  obtain ⟨D', v2, hD', c2, r2⟩ := ld1One hR h2
  rw [hD] at hD'; cases hD'
  obtain ⟨D', v1, hD', c1, r1⟩ := ld1One hR h1
  rw [hD] at hD'; cases hD'
  obtain ⟨C, vv, hC, cv, rv⟩ := ld1One hR hv
  cases r11
  cases rv
  have k3 : off + 1 ≤ L * 64 := k3
  have k4 : off / 8 + 1 ≤ n := k4
  have k2 : off % 8 = 0 := k2
  obtain ⟨a2, lc2, rfl⟩ : ∃ a2 lc2, v2 = .slice a2 L lc2 := by
    cases r2
    · exact ⟨_, _, rfl⟩
    · exact ⟨_, _, rfl⟩
    · exact ⟨_, _, rfl⟩
  obtain ⟨cc2, rfl⟩ : ∃ cc2, v1 = .slice (some ⟨C, 0, none⟩) n cc2 := by
    cases r1 with
    | slc _ C' _ _ _ hC' => rw [hC] at hC'; cases hC'; exact ⟨_, rfl⟩
    | slu _ C' _ o' _ cap2 z hC' hl ho hz =>
      rw [hC] at hC'; cases hC'
      rcases ho with rfl | h0
      · exact ⟨_, rfl⟩
      · omega
  refine (Fe.load_row c0 c2 c11 c1 cv k1 k2 (by omega) (by omega)).mono ?_
  rintro e w' ⟨rfl, rfl⟩
  exact ⟨_, rfl, ρ, hR, Went.refl ρ st w, .int _ _⟩
theorem loadH_sound {call : Call1} (hcall : CallS Tryz.prog call) {args : List Value} {st st' : St} {v : Value} (h : loadH call args st = some (v, st')) {ρ : Ren} {w : World} {args' : Array Value} (hR : R Gn ρ st w) (har : AR ρ args.toArray args') :
    HasBody Tryz.prog 126 ∧ CallsIn (Fw none) 0 Tryz.prog 126 args' w (RetR ρ st w v st') := by
  unfold loadH at h
  split at h
  · rename_i t off
    split at h
    · rename_i u hu
      cases h
      refine ⟨⟨_, _, Tryz.func126, rfl, rfl⟩, ?_⟩
      show CallsIn Fence.wide 0 _ _ _ _ _
      rw [callsIn_wide]
      obtain ⟨v1, v2, rfl, r1, r2⟩ := args_two har
      cases r2
      cases r1 with
      | ptr _ T _ hT => exact loadO_sound hu hR hT
    · exact hcall (.fn 126) _ st v st' h ρ w args' hR har
  · exact hcall (.fn 126) _ st v st' h ρ w args' hR har
end Go.Proofs.YtegfafebbnlicaaGreatDoor.Ev

namespace Go.Proofs.YtegfafebbnlicaaGreatDoor.Fe
open Go.RowKit Dv
set_option linter.unusedVariables false
set_option linter.unusedSimpArgs false

theorem wordsOf_row (N : Nat) (w : World) (h : N ≤ 100000) :
    Calls Tryz.prog 302 #[.int .i64 ((8 * N : Nat) : Int)] w fun e w' => e = .returned (.int .i64 (N : Int)) ∧ w = w' := by
  obtain ⟨M, hM⟩ : ∃ M : Int, M = ((8 * N : Nat) : Int) := ⟨_, rfl⟩
  rw [← hM]
  have h1 : M ≤ 800000 := by omega
  have h2 : 0 ≤ M := by omega
  have d : (M % 8 != 0) = false := by simp; omega
  have d' : (M.tmod 8 != 0) = false := by rw [Int.tmod_eq_emod_of_nonneg h2]; exact d
  have e : M / 8 = (N : Int) := by omega
  have H := Lib.hid e
  clear hM h e
  go_enter Tryz.func302, Tryz.ntmps302
  go_wp2_with fail
  go_returns
  exact ⟨by rw [H.out]; rfl, rfl⟩
theorem unpack_row {w : World} {b o N cap : Nat} {g : Nat → Nat} (hb : b < w.heap.size) (hrow : ∀ x, x < N → w.cell? ⟨b, o + x, none⟩ = some (.int .u64 (g x : Nat))) (hN : N ≤ 100000) (hN1 : 1 ≤ N) (hg : ∀ x, g x < 18446744073709551616) :
    Calls Tryz.prog 246 #[.slice (some ⟨b, o, none⟩) N cap, .int .i64 ((8 * N : Nat) : Int)] w fun r w' => ∃ B, w.heap.size ≤ B ∧ r = .returned (.tuple #[.slice (some ⟨B, 0, none⟩) (8 * N) (8 * N), .int .i64 0]) ∧ Row w' B 5 (8 * N) (fun x => .int .u8 (byteAt g x : Nat)) ∧ Below w.heap.size w w' := by
  obtain ⟨i, hi, hz, hsz, hby⟩ := info_parts infoByte
  have hmk := run_make (P := Tryz.prog) w 249 5 i _ Tryz.underlying249 hi hz .i64 .i64 (((8 * N : Nat) : Int)) (((8 * N : Nat) : Int)) (by omega) (Int.le_refl _) (by rw [hby]; omega) (by omega)
  have e : ((8 * N : Nat) : Int).toNat = 8 * N := by omega
  rw [e, hsz, Nat.mul_one] at hmk
  obtain ⟨W, hW⟩ : ∃ W, W = w.alloc (.cells (madeCells (Value.int .u8 0).cells (8 * N)) 5) := ⟨_, rfl⟩
  have hst : BofRel w N g w.heap.size (.int .i64 (0 : Nat)) W := by
    refine ⟨0, by omega, rfl, ?_, by rw [hW]; exact (Below.refl _ _).alloc (Nat.le_refl _) _⟩
    rw [hW]
    exact row_made rfl (fun x hx => by simp)
  rw [← hW] at hmk
  have HS := Lib.hid hst; have HR := Lib.hid hrow; have HG := Lib.hid hg; have HL := Lib.hid hb
  have HWO := Lib.hid (wordsOf_row N w hN)
  have b1 : (N : Int) ≤ 100000 := by omega
  have b3 : 1 ≤ (N : Int) := by omega
  have hne : ((N : Int) != (N : Int)) = false := by simp
  obtain ⟨B, hB⟩ : ∃ B, B = w.heap.size := ⟨_, rfl⟩
  rw [← hB] at HS hmk ⊢
  have HB := Lib.hid hB
  obtain ⟨M, hM⟩ : ∃ M, M = 8 * N := ⟨_, rfl⟩
  rw [← hM] at hmk HWO ⊢
  have HM := Lib.hid hM
  have b2 : (M : Int) ≤ 800000 := by omega
  have dneg : decide ((M : Int) < 0) = false := by simp
  have d8 : ((M : Int) % 8 != 0) = false := by simp; omega
  clear hst hrow hg hW e hi hz hsz hby hB hM hb
  go_enter Tryz.func246, Tryz.ntmps246
  go_wp2_with fail
  refine HWO.out.mono ?_
  rintro e w' ⟨rfl, rfl⟩
  go_wp2_with fail
  go_loopw [36] (fun i wr => BofRel w N g B i wr) (fun i _ => M - (intOf i).toNat)
  case atStart => exact HS.out
  case round =>
    obtain ⟨k, hk, rfl, hr, hbel⟩ := hrel
    by_cases hlt : k < M
    · have hlt2 : (k : Int) < M := by omega
      have hk8 : k / 8 < N := by have := HM.out; omega
      have c1 : wr.cell? ⟨b, o + k / 8, none⟩ = some (.int .u64 (g (k / 8))) := by
        rw [hbel.cell HL.out]; exact HR.out _ hk8
      have c2 := hr.cell k (by have := HM.out; omega)
      have f2 := hr.free k
      have bk : (k : Int) / 8 < N := by omega
      have hgk := HG.out (k / 8)
      have G := Lib.hid (show BofRel w N g B (.int .i64 ((k + 1 : Nat) : Int)) (wr.setCell ⟨B, k, none⟩ (.int .u8 (byteAt g k))) from ⟨k + 1, by have := HM.out; omega, rfl, (hr.set k (.int .u8 (byteAt g k))).congr (fun x hx => by
        by_cases e : x = k
        · rw [if_pos e, if_pos (by omega), e]
        · rw [if_neg e]
          by_cases e2 : x < k
          · rw [if_pos e2, if_pos (by omega)]
          · rw [if_neg e2, if_neg (by omega)]), hbel.setCell (by rw [← HB.out]; exact Nat.le_refl _) _⟩)
      clear hr hbel hk
      obtain ⟨x, hx⟩ : ∃ x, x = g (k / 8) := ⟨_, rfl⟩
      rw [← hx] at c1 hgk
      have HX := Lib.hid hx; clear hx
      go_wp2_with fail
      go_roundw
      case rel =>
        have h := G.out
        have e : ((byteAt g k : Nat) : Int) = (x : Int) / 2 ^ (k % 8 * 8) % 256 := by
          unfold byteAt
          rw [← HX.out, Nat.mul_comm 8]
          simp
        rw [e] at h
        simpa using h
      case measure => simp [intOf]; omega
    · obtain rfl : k = M := by have := HM.out; omega
      have G := Lib.hid (show Row wr B 5 k (fun x => .int .u8 (byteAt g x : Nat)) from by
        have hr' := hr
        rw [← HM.out] at hr'
        exact hr'.congr (fun x hx => by rw [if_pos hx]))
      have G2 := Lib.hid hbel
      have hBB : w.heap.size ≤ B := by rw [← HB.out]; exact Nat.le_refl _
      have G3 := Lib.hid hBB
      rw [← HB.out] at G2 G3
      clear hr hbel hk hlt hBB
      go_wp2_with fail
      go_returns
      exact ⟨B, G3.out, rfl, G.out, G2.out⟩
end Go.Proofs.YtegfafebbnlicaaGreatDoor.Fe
namespace Go.Proofs.YtegfafebbnlicaaGreatDoor.Ev
open Go Go.RowKit
set_option linter.unusedVariables false

/-- Cells that are words, from a place on, as a trie of words. -/
noncomputable def wordsL (l : List Value) : Bool := @List.rec Value (fun _ => Bool) true (fun v _ ih => andB (isW v) ih) l
theorem wordsL_spec : ∀ l : List Value, wordsL l = true → ∀ v ∈ l, ∃ k, v = .int .u64 (.ofNat k) ∧ k < 18446744073709551616
  | [], _, v, hv => by cases hv
  | x :: l, h, v, hv => by
    have h : andB (isW x) (wordsL l) = true := h
    obtain ⟨h1, h2⟩ := andB_iff.1 h
    rcases List.mem_cons.1 hv with rfl | hv
    · exact isW_spec h1
    · exact wordsL_spec l h2 v hv
noncomputable def unpackH (call : Call1) (args : List Value) (st : St) : Option (Value × St) :=
  match args with
  | [.slice (some ⟨b, o, none⟩) N _, .int .i64 (.ofNat m)] => match Nat.beq m (Nat.mul 8 N), Nat.ble 1 N, Nat.ble N 1000, st.load b o N with
    | true, true, true, some l => match wordsL l with
      | true => some (.tuple #[.slice (some ⟨st.nx, 0, none⟩) (Nat.mul 8 N) (Nat.mul 8 N), .int .i64 0], st.new (.bytes (Nat.mul 8 N) (ofL l)))
      | false => call (.fn 246) args st
    | _, _, _, _ => call (.fn 246) args st
  | _ => call (.fn 246) args st
theorem unpackH_sound {call : Call1} (hcall : CallS Tryz.prog call) {args : List Value} {st st' : St} {v : Value} (h : unpackH call args st = some (v, st')) {ρ : Ren} {w : World} {args' : Array Value} (hR : R Gn ρ st w) (har : AR ρ args.toArray args') :
    HasBody Tryz.prog 246 ∧ CallsIn (Fw none) 0 Tryz.prog 246 args' w (RetR ρ st w v st') := by
  unfold unpackH at h
  split at h
  · rename_i b o N cap m
    split at h
    · rename_i l k1 k2 k3 hl
      split at h
      · rename_i hw
        cases h
        have k1 : m = 8 * N := beq_iff.1 k1
        have k2 := ble_iff.1 k2; have k3 := ble_iff.1 k3
        subst k1
        refine ⟨⟨_, _, Tryz.func246, rfl, rfl⟩, ?_⟩
        show CallsIn Fence.wide 0 _ _ _ _ _
        rw [callsIn_wide]
        obtain ⟨v1, v2, rfl, r1, r2⟩ := args_two har
        cases r2
        cases r1 with
        | slc _ B0 _ _ _ hB0 =>
        obtain ⟨hlen, g, arr, t, fr, hρ, hwd, hs, h2⟩ := hR.load_cells hl
        rw [hB0] at hρ; cases hρ
        obtain ⟨G, hG⟩ : ∃ G : Nat → Nat, G = fun x => match l[x]? with
          | some (.int .u64 (.ofNat k)) => k % 18446744073709551616
          | _ => 0 := ⟨_, rfl⟩
        have hGx : ∀ x k, l[x]? = some (.int .u64 (.ofNat k)) → k < 18446744073709551616 → G x = k := fun x k hx hk => by
          rw [hG]; simp only [hx]; exact Nat.mod_eq_of_lt hk
        have hGl : ∀ x, G x < 18446744073709551616 := fun x => by
          rw [hG]; simp only
          split
          · exact Nat.mod_lt _ (by omega)
          · omega
        have hat : ∀ x, x < N → ∃ k, l[x]? = some (.int .u64 (.ofNat k)) ∧ k < 18446744073709551616 := fun x hx => by
          have hx2 : x < l.length := by omega
          obtain ⟨k, e1, e2⟩ := wordsL_spec l hw l[x] (List.getElem_mem hx2)
          exact ⟨k, by rw [List.getElem?_eq_getElem hx2, e1], e2⟩
        refine (Fe.unpack_row (g := G) (heap_lt hwd) (fun x hx => ?_) (by omega) k2 hGl).mono ?_
        · obtain ⟨k, e1, e2⟩ := hat x hx
          obtain ⟨v', e3, e4⟩ := h2 x _ e1
          cases e4
          rw [cell_of hwd, e3, hGx x k e1 e2]; rfl
        · rintro e w' ⟨B2, h1, rfl, ⟨arr2, h4, h5, h6⟩, h7⟩
          obtain ⟨g1, g2⟩ := hR.grown (o := .bytes (Nat.mul 8 N) (ofL l)) h7 h1 h4 ⟨h5, rfl, fun i hi => by
            have hi : i < 8 * N := hi
            obtain ⟨k, e1, e2⟩ := hat (i / 8) (by omega)
            refine ⟨k, (ofL_get _ _).trans e1, e2, ?_⟩
            rw [h6 i hi]
            show some (Value.int .u8 ((Fe.byteAt G i : Nat) : Int)) = _
            unfold Fe.byteAt
            rw [hGx _ k e1 e2]
            rfl⟩
          exact ⟨_, rfl, _, g1, g2, .tup _ _ rfl (fun i x y hx hy => by
            match i with
            | 0 => cases hx; cases hy; exact .slc _ _ _ _ _ (Ren.add_at _ _ _ _)
            | 1 => cases hx; cases hy; exact .int _ _
            | i + 2 => simp at hx)⟩
      · exact hcall (.fn 246) _ st v st' h ρ w args' hR har
    · exact hcall (.fn 246) _ st v st' h ρ w args' hR har
  · exact hcall (.fn 246) _ st v st' h ρ w args' hR har
end Go.Proofs.YtegfafebbnlicaaGreatDoor.Ev
