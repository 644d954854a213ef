/-
  The load functions of Open and Recover of the package mwcas.
-/
import Derived.Test.YtejlgnebofdijaaGreatDoorMMwA
namespace Go.Proofs.YtejlgnebofdijaaGreatDoor.Dv
open Go.RowKit
open Word (byt Bytes cellK pw step_or cellK_lt cellK_zero cellK_other)
set_option linter.unusedVariables false

def O1Rel (zs : List Int) (a i : Value) : Prop := ∃ k : Nat, k ≤ 8 ∧ i = .int .u64 (k : Nat) ∧ a = .int .u64 (cellK zs k 0 : Nat)

theorem byteAt_shift {g : Nat → Nat} {off : Nat} (h8 : off % 8 = 0) (i : Nat) : byteAt g (off + i) = byteAt (fun j => g (off / 8 + j)) i := by
  unfold byteAt
  rw [show (off + i) / 8 = off / 8 + i / 8 by omega, show (off + i) % 8 = i % 8 by omega]
theorem cellK_eight {g : Nat → Nat} (hg : ∀ x, g x < 18446744073709551616) : cellK (bl (byteAt g) 8) 8 0 = g 0 := by
  unfold cellK
  rw [show min 8 (8 - 8 * 0) = 8 from rfl, pw_of_words (by omega) 8 (by omega)]
  exact Nat.mod_eq_of_lt (hg 0)

set_option maxRecDepth 4000 in
theorem open1_any {w : World} {cb g n off : Nat} {f : Nat → Nat} (hc : w.cell? ⟨cb, 0, none⟩ = some (.slice (some ⟨g, 0, none⟩) n n)) (hrow : Row w g 5 n (fun x => .int .u8 (byteAt f x))) (hf : ∀ x, f x < 18446744073709551616) (h8 : off % 8 = 0) (ho : off < n) (hn8 : n % 8 = 0) (hn : n ≤ 1000000) :
    Calls Tryz.prog 24 #[u64 off, ptr cb] w fun e w' => e = .returned (u64 (f (off / 8))) ∧ w = w' := by
  obtain ⟨zs, hzs⟩ : ∃ zs, zs = bl (byteAt (fun j => f (off / 8 + j))) 8 := ⟨_, rfl⟩
  have hbz : Bytes zs := by rw [hzs]; exact bytes_bl (byteAt_lt _) 8
  have hend : cellK zs 8 0 = f (off / 8) := by rw [hzs, cellK_eight (fun x => hf _)]; rfl
  have hby : ∀ i, i < 8 → byt zs i = byteAt f (off + i) := by
    intro i hi
    rw [hzs, byt_bl, if_pos hi, byteAt_shift h8]
  rw [← hend]
  have HR := Lib.hid hrow; have HB := Lib.hid hbz; have HY := Lib.hid hby; have HZ := Lib.hid hzs
  have b1 : (off : Int) + 8 ≤ n := by omega
  have b2 : (n : Int) ≤ 1000000 := by omega
  have HLT := Lib.hid (show off + 8 ≤ n by omega)
  clear hrow hf hend hby hbz hzs h8 hn8
  unfold ptr u64
  go_enter Tryz.func24, Tryz.ntmps24
  go_wp2_with fail
  go_loop [4, 5, 6] (fun a _ i => O1Rel zs a i) (fun _ _ i => 8 - (intOf i).toNat)
  case atStart => exact ⟨0, by omega, rfl, by rw [cellK_zero]; rfl⟩
  case round =>
    obtain ⟨k, hk, rfl, rfl⟩ := hrel
    by_cases hlt : k < 8
    · have hlt2 : (k : Int) < 8 := by omega
      have hl := HLT.out
      have c1 : w.cell? ⟨g, off + k, none⟩ = some (.int .u8 (byteAt f (off + k) : Nat)) := HR.out.cell _ (by omega)
      have hor := step_or HB.out k (byteAt f (off + k) : Nat) (by rw [HY.out k hlt])
      rw [show k / 8 = 0 by omega, show k % 8 = k by omega] at hor
      have hx := byteAt_lt f (off + k)
      have hcl := cellK_lt HB.out k 0
      obtain ⟨x, hxx⟩ : ∃ x, x = byteAt f (off + k) := ⟨_, rfl⟩
      rw [← hxx] at c1 hor hx
      obtain ⟨C, hC⟩ : ∃ C, C = cellK zs k 0 := ⟨_, rfl⟩
      rw [← hC] at hor hcl ⊢
      have HOR := Lib.hid hor
      have hx2 : (x : Int) < 256 := by omega
      have hcl2 : (C : Int) < 18446744073709551616 := by omega
      have b3 : (off : Int) + k < n := by omega
      clear hor hxx hC hl hk
      go_wp2_with fail
      go_round
      case rel =>
        refine ⟨k + 1, by omega, rfl, ?_⟩
        rw [← HOR.out]
      case measure => simp [intOf]; omega
    · obtain rfl : k = 8 := by omega
      go_wp2_with fail
      go_returns
      exact ⟨rfl, rfl⟩

theorem loads_open {w : World} {cb g n : Nat} {f : Nat → Nat} (hc : w.cell? ⟨cb, 0, none⟩ = some (.slice (some ⟨g, 0, none⟩) n n)) (hrow : Row w g 5 n (fun x => .int .u8 (byteAt f x))) (hf : ∀ x, f x < 18446744073709551616) (hn8 : n % 8 = 0) (hn : n ≤ 1000000) :
    Loads w 24 #[] #[ptr cb] n f where
  call := callFunc42
  get := fun w1 off hb h8 ho => by
    have hlt := World.block_lt_of_cell? _ _ hc
    exact open1_any (by rw [hb.cell hlt]; exact hc) (hrow.of_block (hb.block _ hrow.lt)) hf h8 ho hn8 hn
  lt := hf
  small := hn

/-! ### a load that is executed -/
theorem on_same {w : World} {A : DAd} {s : DSt} {F : Nat → Option Role} (h : Dev w A s F) {i : Nat} (hi : i < 8) (hoff : s.off = false) :
    Calls Tryz.prog 35 #[ptr (A.t i), .bool true] w fun r w' => r = .returned (.bool true) ∧ w = w' := by
  have c0 : w.cell? ⟨A.t i, 0, none⟩ = some (.pointer (some ⟨A.d, 0, none⟩)) := (h.thr i hi).cell 0 (by omega)
  have c1 : w.cell? ⟨A.d, 11, none⟩ = some (.bool false) := by rw [← hoff]; exact h.dev.cell 11 (by omega)
  clear h
  simp only [ptr]
  go_enter Tryz.func35, Tryz.ntmps35
  go_wp2_with fail
  go_returns
  exact ⟨rfl, rfl⟩
theorem load_same {w : World} {A : DAd} {s : DSt} {F : Nat → Option Role} (h : Dev w A s F) {i : Nat} (hi : i < 8) (hoff : s.off = false) {off : Nat} (hw : s.word off = true) :
    Calls Tryz.prog 13 #[ptr (A.t i), u64 off] w fun r w' => r = .returned (u64 (s.cur (off / 8))) ∧ w = w' := by
  have hL := h.ok.lines
  have h1 : off % 8 = 0 ∧ off < s.L * 64 := by unfold DSt.word at hw; simpa using hw
  have c0 : w.cell? ⟨A.t i, 0, none⟩ = some (.pointer (some ⟨A.d, 0, none⟩)) := (h.thr i hi).cell 0 (by omega)
  have c1 : w.cell? ⟨A.d, 1, none⟩ = some (.slice (some ⟨A.cur, 0, none⟩) (8 * s.L) A.cap) := h.dev.cell 1 (by omega)
  have c2 : w.cell? ⟨A.cur, off / 8, none⟩ = some (.int .u64 (s.cur (off / 8))) := h.cur.cell _ (by omega)
  have HW := Lib.hid (word_dev h hi off (by omega))
  rw [hw] at HW
  have HO := Lib.hid (on_same h hi hoff)
  have b1 : (off : Int) / 8 < ((8 * s.L : Nat) : Int) := by omega
  have b2 : (off : Int) ≤ 1000000 := by omega
  have b3 : 0 ≤ (off : Int) / 8 := by omega
  obtain ⟨M, hM⟩ : ∃ M, M = 8 * s.L := ⟨_, rfl⟩
  rw [← hM] at b1 c1
  clear h h1 hw hL hM
  simp only [ptr, u64] at *
  go_enter Tryz.func13, Tryz.ntmps13
  go_wp2_with fail
  refine HW.out.mono ?_
  rintro e w' ⟨rfl, rfl⟩
  go_wp2_with fail
  refine HO.out.mono ?_
  rintro e w' ⟨rfl, rfl⟩
  go_wp2_with fail
  go_returns
  exact ⟨rfl, rfl⟩
theorem loads_dev {w : World} {A : DAd} {s : DSt} {F : Nat → Option Role} (h : Dev w A s F) {i : Nat} (hi : i < 8) (hoff : s.off = false) :
    Loads w 13 #[ptr (A.t i)] #[] (64 * s.L) s.cur where
  call := callFunc46
  get := fun w1 off hb h8 ho => by
    have := load_same (h.below hb) hi hoff (off := off) (by unfold DSt.word; simp; omega)
    simpa using this
  lt := cur_lt h.ok
  small := by have := h.ok.lines; omega
end Go.Proofs.YtejlgnebofdijaaGreatDoor.Dv
