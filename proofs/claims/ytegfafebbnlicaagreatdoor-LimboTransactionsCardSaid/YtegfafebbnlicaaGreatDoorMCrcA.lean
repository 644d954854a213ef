/-
  The package crc: step and Words, as functions of the table.
  The functions Sum and Update of the package crc.
-/
import Derived.Test.YtegfafebbnlicaaGreatDoorMBaseA
import Derived.Test.YtegfafebbnlicaaGreatDoorMFeC
import Derived.WalkLawsBesides
import Derived.WalkSpells
import Derived.Deep.QuietTactic
import Derived.Outline
namespace Go.Proofs.YtegfafebbnlicaaGreatDoor.Dv
open Go.RowKit

/-- The table of the package crc holds T. -/
def NTab (w : World) (T : Nat → Nat) : Prop := ∀ i, i < 16 → T i < 4294967296 ∧ w.cell? ⟨1, i, none⟩ = some (.int .u32 (T i))
theorem NTab.below {w w' : World} {T : Nat → Nat} {B : Nat} (h : NTab w T) (hb : Below B w w') (hB : w.heap.size ≤ B) : NTab w' T := fun i hi =>
  ⟨(h i hi).1, by rw [hb.cell (Nat.lt_of_lt_of_le (World.block_lt_of_cell? _ _ (h i hi).2) hB)]; exact (h i hi).2⟩
theorem NTab.lt {w : World} {T : Nat → Nat} (h : NTab w T) : 1 < w.heap.size := World.block_lt_of_cell? _ _ (h 0 (by omega)).2
theorem NTab.of_block {w w' : World} {T : Nat → Nat} (h : NTab w T) (hb : w'.heap[(1 : Nat)]? = w.heap[(1 : Nat)]?) : NTab w' T := fun i hi =>
  ⟨(h i hi).1, by rw [World.cell?_of_block hb]; exact (h i hi).2⟩

def chalf (T : Nat → Nat) (x : Nat) : Nat := x / 16 ^^^ T (x &&& 15)
def cstep (T : Nat → Nat) (r b : Nat) : Nat := chalf T (chalf T (r ^^^ b))
def cword (T : Nat → Nat) (r x : Nat) : Nat → Nat
  | 0 => r
  | n + 1 => cstep T (cword T r x n) (x / 2 ^ (8 * n) % 256)
def creg (T : Nat → Nat) (l : List Nat) : Nat := l.foldl (fun r x => cword T r x 8) 4294967295
def crcW (T : Nat → Nat) (l : List Nat) : Nat := 4294967295 ^^^ creg T l

theorem and15 (x : Nat) : x &&& 15 < 16 := by
  have := @Nat.and_le_right x 15
  omega
theorem chalf_lt {w : World} {T : Nat → Nat} (hT : NTab w T) {x : Nat} (hx : x < 4294967296) : chalf T x < 4294967296 := by
  unfold chalf
  have h1 := (hT (x &&& 15) (and15 x)).1
  exact Nat.xor_lt_two_pow (n := 32) (by omega) (by omega)
theorem cstep_lt {w : World} {T : Nat → Nat} (hT : NTab w T) {r b : Nat} (hr : r < 4294967296) (hb : b < 256) : cstep T r b < 4294967296 := by
  unfold cstep
  exact chalf_lt hT (chalf_lt hT (Nat.xor_lt_two_pow (n := 32) (by omega) (by omega)))
theorem cword_lt {w : World} {T : Nat → Nat} (hT : NTab w T) {r x : Nat} (hr : r < 4294967296) (n : Nat) : cword T r x n < 4294967296 := by
  induction n with
  | zero => exact hr
  | succ n ih => exact cstep_lt hT ih (Nat.mod_lt _ (by omega))
theorem foldl_lt {w : World} {T : Nat → Nat} (hT : NTab w T) (l : List Nat) : ∀ r, r < 4294967296 → l.foldl (fun r x => cword T r x 8) r < 4294967296 := by
  induction l with
  | nil => exact fun r h => h
  | cons a l ih => exact fun r h => ih _ (cword_lt hT h 8)
theorem creg_lt {w : World} {T : Nat → Nat} (hT : NTab w T) (l : List Nat) : creg T l < 4294967296 := foldl_lt hT l _ (by omega)

theorem step_any {w : World} {T : Nat → Nat} (hT : NTab w T) (r b : Nat) (hr : r < 4294967296) (hb : b < 256) :
    Calls Tryz.prog 249 #[.int .u32 r, .int .u8 b] w fun e w' => e = .returned (.int .u32 (cstep T r b)) ∧ w = w' := by
  have hx : r ^^^ b < 4294967296 := Nat.xor_lt_two_pow (n := 32) (by omega) (by omega)
  have hy := chalf_lt hT hx
  have e1 := u32_xor_nat r b hr (by omega)
  have e2 := u32_and_nat (r ^^^ b) 15 hx (by omega)
  have t1 := hT _ (and15 (r ^^^ b))
  have e3 := u32_xor_nat ((r ^^^ b) / 16) (T ((r ^^^ b) &&& 15)) (by omega) t1.1
  have e4 := u32_and_nat (chalf T (r ^^^ b)) 15 hy (by omega)
  have t2 := hT _ (and15 (chalf T (r ^^^ b)))
  have e5 := u32_xor_nat (chalf T (r ^^^ b) / 16) (T (chalf T (r ^^^ b) &&& 15)) (by omega) t2.1
  have i1 := and15 (r ^^^ b)
  have i2 := and15 (chalf T (r ^^^ b))
  have ec : (((r ^^^ b) / 16 ^^^ T ((r ^^^ b) &&& 15) : Nat) : Int) = ((chalf T (r ^^^ b) : Nat) : Int) := rfl
  rw [ec] at e3
  have ed : ((chalf T (r ^^^ b) / 16 ^^^ T (chalf T (r ^^^ b) &&& 15) : Nat) : Int) = ((cstep T r b : Nat) : Int) := rfl
  rw [ed] at e5
  have c1 := t1.2
  have c2 := t2.2
  generalize cstep T r b = Z at e5 ⊢
  generalize chalf T (r ^^^ b) = Y at e3 e4 e5 hy i2 c2
  generalize r ^^^ b = X at e1 e2 e3 hx i1 c1
  generalize X &&& 15 = a1 at e2 e3 i1 c1
  generalize Y &&& 15 = a2 at e4 e5 i2 c2
  generalize T a1 = T1 at e3 c1
  generalize T a2 = T2 at e5 c2
  have g1 : (X : Int) < 4294967296 := by omega
  have g2 : (Y : Int) < 4294967296 := by omega
  have g3 : (a1 : Int) < 16 := by omega
  have g4 : (a2 : Int) < 16 := by omega
  have g5 : (b : Int) < 256 := by omega
  have q1 : ((X / 16 : Nat) : Int) = (X : Int) / 16 := by omega
  have q2 : ((Y / 16 : Nat) : Int) = (Y : Int) / 16 := by omega
  rw [q1] at e3
  rw [q2] at e5
  have q3 : ((15 : Nat) : Int) = 15 := rfl
  rw [q3] at e2 e4
  clear hT t1 t2 hx hy ec ed q1 q2 q3 hr hb i1 i2
  go_enter Tryz.func249, Tryz.ntmps249
  go_wp2_with fail
  go_returns
  exact ⟨rfl, rfl⟩

/-- The cells from ⟨b, o⟩ on hold xs. -/
def Seen (w : World) (b o : Nat) (xs : List Value) : Prop := ∀ j u, xs[j]? = some u → w.cell? ⟨b, o + j, none⟩ = some u
theorem Seen.below {w w' : World} {b o B : Nat} {xs : List Value} (h : Seen w b o xs) (hb : Below B w w') (hB : w.heap.size ≤ B) : Seen w' b o xs := fun j u hu => by
  rw [hb.cell (Nat.lt_of_lt_of_le (World.block_lt_of_cell? _ _ (h j u hu)) hB)]; exact h j u hu
theorem Seen.of_block {w w' : World} {b o : Nat} {xs : List Value} (h : Seen w b o xs) (hb : w'.heap[b]? = w.heap[b]?) : Seen w' b o xs := fun j u hu => by
  rw [World.cell?_of_block hb]; exact h j u hu

theorem unary_u32 (R : Nat) (hR : R < 4294967296) : Op.unary .xor (.int .u32 (R : Int)) = pure (.int .u32 ((4294967295 ^^^ R : Nat) : Int)) := by
  have e : IntKind.u32.max = ((4294967295 : Nat) : Int) := by decide
  rw [← u32_xor_nat 4294967295 R (by omega) hR, ← e]
  rfl

def COut (T : Nat → Nat) (l : List Nat) (r i : Value) : Prop := ∃ k : Nat, k ≤ l.length ∧ i = .int .i64 (k : Nat) ∧ r = .int .u32 (creg T (l.take k))
def CIn (T : Nat → Nat) (R x : Nat) (r v i : Value) : Prop := ∃ n : Nat, n ≤ 8 ∧ i = .int .i64 (n : Nat) ∧ r = .int .u32 (cword T R x n) ∧ v = .int .u64 ((x / 2 ^ (8 * n) : Nat) : Int)

theorem creg_snoc (T : Nat → Nat) (l : List Nat) (x : Nat) : creg T (l ++ [x]) = cword T (creg T l) x 8 := by simp [creg]

set_option maxRecDepth 4000 in
theorem words_any {w : World} {T : Nat → Nat} (hT : NTab w T) {b o c : Nat} {l : List Nat} (hs : Seen w b o (l.map u64)) (hl : ∀ x ∈ l, x < 18446744073709551616) (hn : l.length ≤ 1000000) :
    Calls Tryz.prog 177 #[.slice (some ⟨b, o, none⟩) l.length c] w fun e w' => e = .returned (.int .u32 (crcW T l)) ∧ w = w' := by
  have HT := Lib.hid hT; have HS := Lib.hid hs; have HL := Lib.hid hl
  have hn2 : (l.length : Int) ≤ 1000000 := by omega
  have hst := fun (r b : Nat) (hr : r < 4294967296) (hb : b < 256) => step_any hT r b hr hb
  have HST := Lib.hid hst
  clear hT hs hl hst
  go_enter Tryz.func177, Tryz.ntmps177
  go_wp2_with fail
  go_loop [3, 5, 8] (fun r _ i => COut T l r i) (fun _ _ i => l.length - (intOf i).toNat)
  case atStart => exact ⟨0, by omega, rfl, rfl⟩
  case round =>
    obtain ⟨k, hk, rfl, rfl⟩ := hrel
    by_cases hlt : k < l.length
    · have hlt2 : (k : Int) < l.length := by omega
      obtain ⟨x, hx⟩ : ∃ x, x = l[k] := ⟨_, rfl⟩
      have c1 : w.cell? ⟨b, o + k, none⟩ = some (.int .u64 x) := HS.out k _ (by rw [List.getElem?_map, List.getElem?_eq_getElem hlt, hx]; rfl)
      have hx64 : x < 18446744073709551616 := HL.out x (by rw [hx]; exact List.getElem_mem hlt)
      have hsn : creg T (l.take (k + 1)) = cword T (creg T (l.take k)) x 8 := by rw [List.take_add_one, List.getElem?_eq_getElem hlt, ← hx]; exact creg_snoc _ _ _
      have hR := creg_lt HT.out (l.take k)
      obtain ⟨R, hRR⟩ : ∃ R, R = creg T (l.take k) := ⟨_, rfl⟩
      rw [← hRR] at hsn hR ⊢
      have HSN := Lib.hid hsn; have HX := Lib.hid hx
      clear hsn hx hRR
      go_wp2_with fail
      go_loop [3, 5, 12] (fun r v i => CIn T R x r v i) (fun _ _ i => 8 - (intOf i).toNat)
      case atStart => exact ⟨0, by omega, rfl, rfl, by simp⟩
      case round =>
        obtain ⟨n, hn8, rfl, rfl, rfl⟩ := hrel
        by_cases hlt8 : n < 8
        · have hlt3 : (n : Int) < 8 := by omega
          have hc := cword_lt HT.out (x := x) hR n
          obtain ⟨y, hy⟩ : ∃ y, y = x / 2 ^ (8 * n) := ⟨_, rfl⟩
          have hy64 : y < 18446744073709551616 := by rw [hy]; exact Nat.lt_of_le_of_lt (Nat.div_le_self _ _) hx64
          have hsn2 : cword T R x (n + 1) = cstep T (cword T R x n) (y % 256) := by rw [hy]; rfl
          have hdv : x / 2 ^ (8 * (n + 1)) = y / 256 := by rw [hy, Nat.div_div_eq_div_mul, Nat.mul_add, Nat.pow_add]
          obtain ⟨C, hC⟩ : ∃ C, C = cword T R x n := ⟨_, rfl⟩
          rw [← hC] at hsn2 hc ⊢
          rw [← hy]
          have hs := HST.out C (y % 256) hc (Nat.mod_lt _ (by omega))
          have e1 : ((y % 256 : Nat) : Int) = (y : Int) % 256 := by omega
          rw [e1] at hs
          have HS2 := Lib.hid hs; have HN2 := Lib.hid hsn2; have HDV := Lib.hid hdv
          have hy2 : (y : Int) < 18446744073709551616 := by omega
          clear hs hsn2 hdv hy hC e1
          go_wp2_with fail
          refine HS2.out.mono ?_
          rintro e w' ⟨rfl, rfl⟩
          go_wp2_with fail
          go_round
          case rel => exact ⟨n + 1, by omega, by go_num, by rw [HN2.out], by rw [HDV.out]; go_num⟩
          case measure => simp [intOf]; omega
        · obtain rfl : n = 8 := by omega
          rw [← HSN.out]
          go_wp2_with fail
          go_round
          case rel => exact ⟨k + 1, by omega, by go_num, rfl⟩
          case measure => simp [intOf]; omega
    · obtain rfl : k = l.length := by omega
      rw [List.take_length]
      have hR := creg_lt HT.out l
      have hun := unary_u32 (creg T l) hR
      rw [show (4294967295 ^^^ creg T l : Nat) = crcW T l from rfl] at hun
      generalize creg T l = R at hR hun ⊢
      have hR2 : (R : Int) < 4294967296 := by omega
      clear hlt
      go_wp2_with fail
      go_returns
      exact ⟨rfl, rfl⟩
theorem crcW_lt {w : World} {T : Nat → Nat} (hT : NTab w T) (l : List Nat) : crcW T l < 4294967296 := Nat.xor_lt_two_pow (n := 32) (by omega) (creg_lt hT l)
end Go.Proofs.YtegfafebbnlicaaGreatDoor.Dv

namespace Go.Proofs.YtegfafebbnlicaaGreatDoor.Dv
open Go.RowKit
set_option linter.unusedVariables false

def u8v (n : Nat) : Value := .int .u8 n
/-- The register after these bytes. -/
def cbytes (T : Nat → Nat) (r : Nat) (l : List Nat) : Nat := l.foldl (cstep T) r
def crcB (T : Nat → Nat) (l : List Nat) : Nat := 4294967295 ^^^ cbytes T 4294967295 l
theorem cbytes_snoc (T : Nat → Nat) (r : Nat) (l : List Nat) (x : Nat) : cbytes T r (l ++ [x]) = cstep T (cbytes T r l) x := by simp [cbytes]
theorem cbytes_lt {w : World} {T : Nat → Nat} (hT : NTab w T) : ∀ (l : List Nat) {r : Nat}, r < 4294967296 → (∀ x ∈ l, x < 256) → cbytes T r l < 4294967296
  | [], r, h, _ => h
  | a :: l, r, h, hl => cbytes_lt hT l (cstep_lt hT h (hl a List.mem_cons_self)) (fun x hx => hl x (List.mem_cons_of_mem _ hx))
theorem crcB_lt {w : World} {T : Nat → Nat} (hT : NTab w T) {l : List Nat} (hl : ∀ x ∈ l, x < 256) : crcB T l < 4294967296 := Nat.xor_lt_two_pow (n := 32) (by omega) (cbytes_lt hT l (by omega) hl)
def UOut (T : Nat → Nat) (l : List Nat) (r i : Value) : Prop := ∃ k : Nat, k ≤ l.length ∧ i = .int .i64 (k : Nat) ∧ r = .int .u32 (cbytes T 4294967295 (l.take k))

theorem update_any {w : World} {T : Nat → Nat} (hT : NTab w T) {b o c : Nat} {l : List Nat} (hs : Seen w b o (l.map u8v)) (hl : ∀ x ∈ l, x < 256) (hn : l.length ≤ 1000000) :
    Calls Tryz.prog 348 #[.int .u32 0, .slice (some ⟨b, o, none⟩) l.length c] w fun e w' => e = .returned (.int .u32 (crcB T l)) ∧ w = w' := by
  have HT := Lib.hid hT; have HS := Lib.hid hs; have HL := Lib.hid hl
  have hn2 : (l.length : Int) ≤ 1000000 := by omega
  have HST := Lib.hid (fun (r b : Nat) (hr : r < 4294967296) (hb : b < 256) => step_any hT r b hr hb)
  have hun0 := unary_u32 0 (by omega)
  rw [show (4294967295 ^^^ 0 : Nat) = 4294967295 from rfl, show ((0 : Nat) : Int) = 0 from rfl] at hun0
  clear hT hs hl
  go_enter Tryz.func348, Tryz.ntmps348
  go_wp2_with fail
  go_loop [5, 7, 12] (fun r _ i => UOut T l r i) (fun _ _ i => l.length - (intOf i).toNat)
  case atStart => exact ⟨0, by omega, rfl, rfl⟩
  case round =>
    obtain ⟨k, hk, rfl, rfl⟩ := hrel
    by_cases hlt : k < l.length
    · have hlt2 : (k : Int) < l.length := by omega
      obtain ⟨x, hx⟩ : ∃ x, x = l[k] := ⟨_, rfl⟩
      have c1 : w.cell? ⟨b, o + k, none⟩ = some (.int .u8 x) := HS.out k _ (by rw [List.getElem?_map, List.getElem?_eq_getElem hlt, hx]; rfl)
      have hx8 : x < 256 := HL.out x (by rw [hx]; exact List.getElem_mem hlt)
      have hsn : cbytes T 4294967295 (l.take (k + 1)) = cstep T (cbytes T 4294967295 (l.take k)) x := by rw [List.take_add_one, List.getElem?_eq_getElem hlt, ← hx]; exact cbytes_snoc _ _ _ _
      have hR := cbytes_lt HT.out (l.take k) (r := 4294967295) (by omega) (fun y hy => HL.out y (List.mem_of_mem_take hy))
      obtain ⟨R, hRR⟩ : ∃ R, R = cbytes T 4294967295 (l.take k) := ⟨_, rfl⟩
      rw [← hRR] at hsn hR ⊢
      have HSN := Lib.hid hsn; have HS2 := Lib.hid (HST.out R x hR hx8)
      clear hsn hx hRR
      go_wp2_with fail
      refine HS2.out.mono ?_
      rintro e w' ⟨rfl, rfl⟩
      go_wp2_with fail
      go_round
      case rel => exact ⟨k + 1, by omega, by go_num, by rw [HSN.out]⟩
      case measure => simp [intOf]; omega
    · obtain rfl : k = l.length := by omega
      rw [List.take_length]
      have hR := cbytes_lt HT.out l (r := 4294967295) (by omega) HL.out
      have hun := unary_u32 (cbytes T 4294967295 l) hR
      rw [show (4294967295 ^^^ cbytes T 4294967295 l : Nat) = crcB T l from rfl] at hun
      generalize cbytes T 4294967295 l = R at hR hun ⊢
      have hR2 : (R : Int) < 4294967296 := by omega
      clear hlt
      go_wp2_with fail
      go_returns
      exact ⟨rfl, rfl⟩
theorem sum_any {w : World} {T : Nat → Nat} (hT : NTab w T) {b o c : Nat} {l : List Nat} (hs : Seen w b o (l.map u8v)) (hl : ∀ x ∈ l, x < 256) (hn : l.length ≤ 1000000) :
    Calls Tryz.prog 339 #[.slice (some ⟨b, o, none⟩) l.length c] w fun e w' => e = .returned (.int .u32 (crcB T l)) ∧ w = w' := by
  have HU := Lib.hid (update_any (c := c) hT hs hl hn)
  clear hT hs hl
  go_enter Tryz.func339, Tryz.ntmps339
  go_wp2_with fail
  refine HU.out.mono ?_
  rintro e w' ⟨rfl, rfl⟩
  go_wp2_with fail
  go_returns
  exact ⟨rfl, rfl⟩
end Go.Proofs.YtegfafebbnlicaaGreatDoor.Dv
