/-
  What Begin of the package mwcas calls: Compare, the closure same, IndexFunc, ContainsFunc, Index, Clone of entries.
  slices.SortFunc of at most 12 ints by any comparison: the result is some order of the same numbers.
  SortFunc of at most 12 ints; the comparison of Begin; Index of bools; Clone of entries.
  A pool gets a new operation.
-/
import Derived.Test.YtejlgnebofdijaaGreatDoorMOpA
namespace Go.Proofs.YtejlgnebofdijaaGreatDoor.Dv
open Go.RowKit
set_option linter.unusedVariables false
attribute [local go_sem ↓] Go.wp_at_zero Go.wp_at_succ

def cmp3 (x y : Nat) : Int := if x < y then -1 else if y < x then 1 else 0
theorem compare_any (x y : Nat) (w : World) : Calls Tryz.prog 67 #[u64 x, u64 y] w fun e w' => e = .returned (.int .i64 (cmp3 x y)) ∧ w = w' := by
  have HX := Lib.hid (isNaN_any x w); have HY := Lib.hid (isNaN_any y w)
  unfold u64 at *
  by_cases h1 : x < y
  · have d1 : (x : Int) < y := by omega
    have e1 : cmp3 x y = -1 := by unfold cmp3; rw [if_pos h1]
    have E1 := Lib.hid e1
    clear e1 h1
    go_enter Tryz.func67, Tryz.ntmps67
    go_wp2_with fail
    refine HX.out.mono ?_
    rintro e w' ⟨rfl, rfl⟩
    go_wp2_with fail
    refine HY.out.mono ?_
    rintro e w' ⟨rfl, rfl⟩
    go_wp2_with fail
    go_returns
    exact ⟨by rw [E1.out]; rfl, rfl⟩
  · by_cases h2 : y < x
    · have d1 : ¬ (x : Int) < y := by omega
      have d2 : (y : Int) < x := by omega
      have e1 : cmp3 x y = 1 := by unfold cmp3; rw [if_neg h1, if_pos h2]
      have E1 := Lib.hid e1
      clear e1 h1 h2
      go_enter Tryz.func67, Tryz.ntmps67
      go_wp2_with fail
      refine HX.out.mono ?_
      rintro e w' ⟨rfl, rfl⟩
      go_wp2_with fail
      refine HY.out.mono ?_
      rintro e w' ⟨rfl, rfl⟩
      go_wp2_with fail
      go_returns
      exact ⟨by rw [E1.out]; rfl, rfl⟩
    · have d1 : ¬ (x : Int) < y := by omega
      have d2 : ¬ (y : Int) < x := by omega
      have e1 : cmp3 x y = 0 := by unfold cmp3; rw [if_neg h1, if_neg h2]
      have E1 := Lib.hid e1
      clear e1 h1 h2
      go_enter Tryz.func67, Tryz.ntmps67
      go_wp2_with fail
      refine HX.out.mono ?_
      rintro e w' ⟨rfl, rfl⟩
      go_wp2_with fail
      refine HY.out.mono ?_
      rintro e w' ⟨rfl, rfl⟩
      go_wp2_with fail
      go_returns
      exact ⟨by rw [E1.out]; rfl, rfl⟩

/-- The closure same, of another entry. -/
theorem same_any {w : World} {bx a b c off : Nat} (hc : w.cell? ⟨bx, 0, none⟩ = some (.int .u64 off)) (hne : a ≠ off) :
    Calls Tryz.prog 60 #[ent a b c, ptr bx] w fun e w' => e = .returned (.bool false) ∧ Below w.heap.size w w' := by
  have d1 : ((a : Int) == (off : Int)) = false := beq_eq_false_iff_ne.2 (by omega)
  have hlt := World.block_lt_of_cell? _ _ hc
  have hc2 : (w.alloc (.cells #[.int .u64 a, .int .u64 b, .int .u64 c, .bool false] 110)).cell? ⟨bx, 0, none⟩ = some (.int .u64 off) := by rw [(below_alloc (Below.refl _ w)).cell hlt]; exact hc
  clear hne hlt
  unfold ent ptr u64
  go_enter Tryz.func60, Tryz.ntmps60
  go_wp2_with fail
  go_returns
  exact ⟨rfl, below_alloc (Below.refl _ _)⟩
theorem callFunc25 (args : Array Value) (w : World) : (callFunc 60 args).run Tryz.prog w = .ok (.enter 60 args) w := by kernel_rfl

def IfRel (w : World) (n : Nat) (i : Value) (wr : World) : Prop := ∃ k : Nat, k ≤ n ∧ i = .int .i64 (k : Nat) ∧ Below w.heap.size w wr
theorem indexf_any {w : World} {eb cap bx off : Nat} {l : List (Nat × Nat × Nat)} (hs : Seen w eb 0 (encells l)) (hn : l.length ≤ 6) (hc : w.cell? ⟨bx, 0, none⟩ = some (.int .u64 off)) (hne : ∀ e ∈ l, e.1 ≠ off) :
    Calls Tryz.prog 81 #[.slice (some ⟨eb, 0, none⟩) l.length cap, .func (.func 60) #[] #[ptr bx]] w fun e w' => e = .returned (.int .i64 (-1)) ∧ Below w.heap.size w w' := by
  have HS := Lib.hid hs; have HC := Lib.hid hc; have HN := Lib.hid hne
  have hcall := callFunc25
  have b1 : (l.length : Int) ≤ 6 := by omega
  clear hs hc hne
  unfold ptr
  go_enter Tryz.func81, Tryz.ntmps81
  go_wp2_with fail
  go_loopw [8] (fun i wr => IfRel w l.length i wr) (fun i _ => l.length - (intOf i).toNat)
  case atStart => exact ⟨0, by omega, rfl, Below.refl _ _⟩
  case round =>
    obtain ⟨k, hk, rfl, hbel⟩ := hrel
    by_cases hlt : k < l.length
    · have hlt2 : (k : Int) < l.length := by omega
      obtain ⟨x, hx⟩ : ∃ x, x = l[k] := ⟨_, rfl⟩
      have hgx : l[k]? = some x := by rw [hx]; exact List.getElem?_eq_getElem hlt
      obtain ⟨e1, e2, e3, e4⟩ := encells_get hgx
      have hs := HS.out.below hbel (Nat.le_refl _)
      have c1 : wr.cell? ⟨eb, k * 4, none⟩ = some (.int .u64 x.1) := by have := hs _ _ e1; rw [Nat.zero_add, Nat.mul_comm] at this; exact this
      have c2 : wr.cell? ⟨eb, k * 4 + 1, none⟩ = some (.int .u64 x.2.1) := by have := hs _ _ e2; rw [Nat.zero_add, Nat.mul_comm] at this; exact this
      have c3 : wr.cell? ⟨eb, k * 4 + 2, none⟩ = some (.int .u64 x.2.2) := by have := hs _ _ e3; rw [Nat.zero_add, Nat.mul_comm] at this; exact this
      have c4 : wr.cell? ⟨eb, k * 4 + 3, none⟩ = some (.bool false) := by have := hs _ _ e4; rw [Nat.zero_add, Nat.mul_comm] at this; exact this
      have HSA := Lib.hid (same_any (w := wr) (bx := bx) (a := x.1) (b := x.2.1) (c := x.2.2) (off := off) ((hbel.cell (World.block_lt_of_cell? _ _ HC.out)).trans HC.out) (HN.out x (List.mem_of_getElem? hgx)))
      have HB := Lib.hid hbel
      clear hx hgx e1 e2 e3 e4 hs hbel hk
      unfold ent ptr u64 at HSA
      go_wp2_with fail
      refine HSA.out.mono ?_
      rintro e w4 ⟨rfl, hb4⟩
      have G := Lib.hid (show IfRel w l.length (.int .i64 ((k + 1 : Nat) : Int)) w4 from ⟨k + 1, by omega, rfl, HB.out.trans (hb4.mono HB.out.size)⟩)
      clear hb4
      go_wp2_with fail
      go_roundw
      case rel => simpa using G.out
      case measure => simp [intOf]; omega
    · obtain rfl : k = l.length := by omega
      have HB := Lib.hid hbel
      clear hbel hlt
      go_wp2_with fail
      go_returns
      exact ⟨rfl, HB.out⟩
theorem contains_any {w : World} {eb cap bx off : Nat} {l : List (Nat × Nat × Nat)} (hs : Seen w eb 0 (encells l)) (hn : l.length ≤ 6) (hc : w.cell? ⟨bx, 0, none⟩ = some (.int .u64 off)) (hne : ∀ e ∈ l, e.1 ≠ off) :
    Calls Tryz.prog 61 #[.slice (some ⟨eb, 0, none⟩) l.length cap, .func (.func 60) #[] #[ptr bx]] w fun e w' => e = .returned (.bool false) ∧ Below w.heap.size w w' := by
  have HI := Lib.hid (indexf_any (cap := cap) hs hn hc hne)
  clear hs hc hne hn
  unfold ptr at *
  go_enter Tryz.func61, Tryz.ntmps61
  go_wp2_with fail
  refine HI.out.mono ?_
  rintro e w4 ⟨rfl, hb4⟩
  have G := Lib.hid hb4
  clear hb4
  go_wp2_with fail
  go_returns
  exact ⟨rfl, G.out⟩
end Go.Proofs.YtejlgnebofdijaaGreatDoor.Dv

namespace Go.Proofs.YtejlgnebofdijaaGreatDoor.Dv
open Go.RowKit
set_option linter.unusedVariables false

/-- f 0, .., f (n - 1) are the numbers below n, in some order. -/
def OrdOk (n : Nat) (f : Nat → Nat) : Prop := (∀ i, i < n → f i < n) ∧ ∀ x, x < n → ∃ i, i < n ∧ f i = x
theorem OrdOk.swap {n : Nat} {f : Nat → Nat} (h : OrdOk n f) {j : Nat} (hj : j + 1 < n) : OrdOk n (upd (upd f (j + 1) (f j)) j (f (j + 1))) := by
  refine ⟨fun i hi => ?_, fun x hx => ?_⟩
  · unfold upd
    split
    · exact h.1 _ hj
    · split
      · exact h.1 _ (by omega)
      · exact h.1 _ hi
  · obtain ⟨i, hi, hf⟩ := h.2 x hx
    by_cases e1 : i = j
    · refine ⟨j + 1, hj, ?_⟩
      rw [upd_ne _ _ (by omega), upd_same, ← e1, hf]
    · by_cases e2 : i = j + 1
      · refine ⟨j, by omega, ?_⟩
        rw [upd_same, ← e2, hf]
      · refine ⟨i, hi, ?_⟩
        rw [upd_ne _ _ e1, upd_ne _ _ e2, hf]

/-- A comparison of numbers below n that only reads, and reads nothing of block ob. -/
structure Cmps (w0 : World) (ob n fn : Nat) (cap : Array Value) (cf : Nat → Nat → Int) : Prop where
  call : ∀ (args : Array Value) (w : World), (callFunc fn args).run Tryz.prog w = .ok (.enter fn args) w
  get : ∀ (w : World) (x y m : Nat), Only (fun k => k = ob) w0 w → x < n → y < n → Calls Tryz.prog fn (#[.int .i64 x, .int .i64 y] ++ cap) (w.drewN m) fun e w' => e = .returned (.int .i64 (cf x y)) ∧ ∃ k, w' = w.drewN k

/-- The array as it is while it is sorted. -/
structure Arr (w0 : World) (ob n : Nat) (f : Nat → Nat) (wr : World) : Prop where
  row : Row wr ob 3 n (fun x => .int .i64 (f x))
  ord : OrdOk n f
  only : Only (fun k => k = ob) w0 wr
theorem Arr.drewN {w0 wr : World} {ob n m : Nat} {f : Nat → Nat} (h : Arr w0 ob n f wr) : Arr w0 ob n f (wr.drewN m) := ⟨h.row.of_block rfl, h.ord, h.only.drewN m⟩
theorem Arr.drew {w0 wr : World} {ob n : Nat} {f : Nat → Nat} (h : Arr w0 ob n f wr) : Arr w0 ob n f wr.drew := ⟨h.row.of_block rfl, h.ord, h.only.drew⟩
theorem Arr.swap {w0 wr : World} {ob n j : Nat} {f : Nat → Nat} (h : Arr w0 ob n f wr) (hj : j + 1 < n) :
    Arr w0 ob n (upd (upd f (j + 1) (f j)) j (f (j + 1))) ((wr.setCell ⟨ob, j + 1, none⟩ (.int .i64 (f j))).setCell ⟨ob, j, none⟩ (.int .i64 (f (j + 1)))) := by
  refine ⟨((h.row.set (j + 1) _).set j _).congr (fun x hx => ?_), h.ord.swap hj, (h.only.set rfl _).set rfl _⟩
  unfold upd
  by_cases e1 : x = j
  · simp [e1]
  · by_cases e2 : x = j + 1
    · simp [e2]
    · simp [e1, e2]

def Is1Rel (w0 : World) (ob n : Nat) (i : Value) (wr : World) : Prop := ∃ (k : Nat) (f : Nat → Nat), 1 ≤ k ∧ k ≤ n ∧ i = .int .i64 (k : Nat) ∧ Arr w0 ob n f wr
def Is2Rel (w0 : World) (ob n i : Nat) (j : Value) (wr : World) : Prop := ∃ (k : Nat) (f : Nat → Nat), k ≤ i ∧ j = .int .i64 (k : Nat) ∧ Arr w0 ob n f wr
def SrtPost (w0 : World) (ob n : Nat) (e : Ending) (w' : World) : Prop := e = .returned (.tuple #[]) ∧ ∃ f, Arr w0 ob n f w'

set_option maxHeartbeats 4000000 in
set_option maxRecDepth 8000 in
theorem insertion_cmp {w : World} {ob n cp fn : Nat} {cap : Array Value} {cf : Nat → Nat → Int} {f : Nat → Nat} (hc : Cmps w ob n fn cap cf) (hrow : Row w ob 3 n (fun x => .int .i64 (f x))) (ho : OrdOk n f) (hn : 1 ≤ n) (hn2 : n ≤ 12) :
    Calls Tryz.prog 107 #[.slice (some ⟨ob, 0, none⟩) n cp, .int .i64 0, .int .i64 n, .func (.func fn) #[] cap] w (SrtPost w ob n) := by
  have HC := Lib.hid hc
  have hcall := hc.call
  have HST := Lib.hid (show Is1Rel w ob n (.int .i64 (1 : Nat)) w from ⟨1, f, by omega, hn, rfl, hrow, ho, Only.refl _ _⟩)
  have b1 : (n : Int) ≤ 12 := by omega
  clear hc hrow ho
  go_enter Tryz.func107, Tryz.ntmps107
  go_wp2_with fail
  go_loopw [8] (fun i wr => Is1Rel w ob n i wr) (fun i _ => n - (intOf i).toNat)
  case atStart => exact HST.out
  case round =>
    obtain ⟨k, f1, hk1, hk2, rfl, harr⟩ := hrel
    by_cases hlt : k < n
    · have hlt2 : (k : Int) < n := by omega
      obtain ⟨wo, rfl⟩ : ∃ wo : World, wo = wr := ⟨_, rfl⟩
      have HS2 := Lib.hid (show Is2Rel w ob n k (.int .i64 (k : Nat)) wo from ⟨k, f1, Nat.le_refl _, rfl, harr⟩)
      clear harr
      go_wp2_with fail
      go_loopw [9] (fun j wr => Is2Rel w ob n k j wr) (fun j _ => (intOf j).toNat)
      case atStart => exact HS2.out
      case round =>
        obtain ⟨j, f2, hj, rfl, harr⟩ := hrel
        rcases Nat.eq_zero_or_pos j with h0 | hpos
        · subst h0
          have G := Lib.hid (fun m => show Is1Rel w ob n (.int .i64 ((k + 1 : Nat) : Int)) (wr.drewN m) from ⟨k + 1, f2, by omega, by omega, rfl, harr.drewN⟩)
          have q0 : decide ((0 : Int) < 0) = false := by decide
          clear harr HS2 HST
          go_wp2_with fail
          go_quiet (fail)
          go_wp2_with fail
          go_roundw
          case rel => simpa using G.out nq
          case measure => simp [intOf]; omega
        · obtain ⟨i, rfl⟩ : ∃ i, j = i + 1 := ⟨j - 1, by omega⟩
          have c1 : wr.cell? ⟨ob, i + 1, none⟩ = some (.int .i64 (f2 (i + 1))) := harr.row.cell _ (by omega)
          have c2 : wr.cell? ⟨ob, i, none⟩ = some (.int .i64 (f2 i)) := harr.row.cell _ (by omega)
          have g1 := harr.row.free (i + 1)
          have g2 := harr.row.free i
          have HQ := Lib.hid (fun m => HC.out.get wr (f2 (i + 1)) (f2 i) m harr.only (harr.ord.1 _ (by omega)) (harr.ord.1 _ (by omega)))
          have HA := Lib.hid harr
          obtain ⟨x, hx⟩ : ∃ x, x = f2 (i + 1) := ⟨_, rfl⟩
          obtain ⟨y, hy⟩ : ∃ y, y = f2 i := ⟨_, rfl⟩
          rw [← hx] at c1 HQ
          rw [← hy] at c2 HQ
          have HX := Lib.hid hx; have HY := Lib.hid hy
          have ec : ((i + 1 : Nat) : Int) = (i : Int) + 1 := rfl
          rw [ec]
          have p1 : (i : Int) + 1 < n := by omega
          have p2 : (i : Int) < n := by omega
          have p3 : (0 : Int) < (i : Int) + 1 := by omega
          have p4 : decide ((0 : Int) < (i : Int) + 1) = true := decide_eq_true p3
          have s1 : IntKind.i64.wrap ((i : Int) + 1 - 1) = (i : Int) := by rw [show (i : Int) + 1 - 1 = (i : Int) by omega]; exact IntWalk.i64_in _ (by omega)
          have s3 : ((i : Int) + 1).toNat = i + 1 := by omega
          have s5 : (0 : Int) ≤ (i : Int) + 1 := by omega
          by_cases hcm : cf x y < 0
          · have d1 : decide (cf x y < 0) = true := decide_eq_true hcm
            have HIK := Lib.hid (show i ≤ k by omega)
            clear harr HS2 HST hx hy hpos hj ec
            go_wp2_with fail
            go_quiet (exact HQ.out _)
            obtain ⟨V, hV⟩ : ∃ V, V = wr.drewN nq := ⟨_, rfl⟩
            have hA : Arr w ob n f2 V := by rw [hV]; exact HA.out.drewN
            rw [← hV]
            have k1 : V.cell? ⟨ob, i + 1, none⟩ = some (.int .i64 x) := by rw [HX.out]; exact hA.row.cell _ (by omega)
            have k2 : V.cell? ⟨ob, i, none⟩ = some (.int .i64 y) := by rw [HY.out]; exact hA.row.cell _ (by omega)
            have k3 := hA.row.free (i + 1)
            have k4 := hA.row.free i
            have G := hA.swap (j := i) (by omega)
            rw [← HX.out, ← HY.out] at G
            have GG := Lib.hid (show Is2Rel w ob n k (.int .i64 (i : Nat)) _ from ⟨i, _, HIK.out, rfl, G.drew⟩)
            clear hV hA G c1 c2 g1 g2
            go_wp2_with fail
            go_region
            go_wp2_with fail
            go_roundw
            case rel => simpa using GG.out
            case measure => simp [intOf]
          · have d1 : decide (cf x y < 0) = false := decide_eq_false hcm
            have G := Lib.hid (fun m => show Is1Rel w ob n (.int .i64 ((k + 1 : Nat) : Int)) (wr.drewN m) from ⟨k + 1, f2, by omega, by omega, rfl, harr.drewN⟩)
            clear harr HS2 HST hx hy hpos hj ec
            go_wp2_with fail
            go_quiet (exact HQ.out _)
            go_wp2_with fail
            go_roundw
            case rel => simpa using G.out nq
            case measure => simp [intOf]; omega
    · obtain rfl : k = n := by omega
      have GG := Lib.hid (show SrtPost w ob k (.returned (.tuple #[])) wr from ⟨rfl, f1, harr⟩)
      have d1 : ¬ ((k : Int) < k) := by omega
      clear harr hlt
      go_wp2_with fail
      go_returns
      exact GG.out
end Go.Proofs.YtejlgnebofdijaaGreatDoor.Dv

namespace Go.Proofs.YtejlgnebofdijaaGreatDoor.Dv
open Go.RowKit
set_option linter.unusedVariables false

set_option maxRecDepth 8000 in
theorem pdq_cmp {w : World} {ob n cp fn lim : Nat} {cap : Array Value} {cf : Nat → Nat → Int} {f : Nat → Nat} (hc : Cmps w ob n fn cap cf) (hrow : Row w ob 3 n (fun x => .int .i64 (f x))) (ho : OrdOk n f) (hn : 1 ≤ n) (hn2 : n ≤ 12) :
    Calls Tryz.prog 82 #[.slice (some ⟨ob, 0, none⟩) n cp, .int .i64 0, .int .i64 n, .int .i64 lim, .func (.func fn) #[] cap] w (SrtPost w ob n) := by
  have HI := Lib.hid (insertion_cmp (cp := cp) hc hrow ho hn hn2)
  have b1 : (n : Int) ≤ 12 := by omega
  have d2 : decide ((n : Int) ≤ 12) = true := decide_eq_true (by omega)
  clear hc hrow ho
  go_enter Tryz.func82, Tryz.ntmps82
  go_wp2_with fail
  refine wp_loop_rounds 1 ?_
  rw [rounds_succ]
  go_wp2_with fail
  refine HI.out.mono ?_
  rintro e w' hp
  obtain ⟨rfl, f', ha⟩ := hp
  have HB := Lib.hid (show SrtPost w ob n (.returned (.tuple #[])) w' from ⟨rfl, f', ha⟩)
  clear ha
  go_wp2_with fail
  go_returns
  exact HB.out
theorem sort_cmp {w : World} {ob n cp fn : Nat} {cap : Array Value} {cf : Nat → Nat → Int} {f : Nat → Nat} (hc : Cmps w ob n fn cap cf) (hrow : Row w ob 3 n (fun x => .int .i64 (f x))) (ho : OrdOk n f) (hn : 1 ≤ n) (hn2 : n ≤ 12) :
    Calls Tryz.prog 65 #[.slice (some ⟨ob, 0, none⟩) n cp, .func (.func fn) #[] cap] w (SrtPost w ob n) := by
  have HL := Lib.hid (len_small (w := w) hn (by omega))
  have HP := Lib.hid (pdq_cmp (cp := cp) (lim := Nat.log2 n + 1) hc hrow ho hn hn2)
  have b1 : (n : Int) ≤ 12 := by omega
  clear hc hrow ho
  unfold i64 at *
  go_enter Tryz.func65, Tryz.ntmps65
  go_wp2_with fail
  refine HL.out.mono ?_
  rintro e w' ⟨rfl, rfl⟩
  go_wp2_with fail
  refine HP.out.mono ?_
  rintro e w' hp
  obtain ⟨rfl, f', ha⟩ := hp
  have HB := Lib.hid (show SrtPost w ob n (.returned (.tuple #[])) w' from ⟨rfl, f', ha⟩)
  clear ha
  go_wp2_with fail
  go_returns
  exact HB.out

theorem callFunc33 (args : Array Value) (w : World) : (callFunc 66 args).run Tryz.prog w = .ok (.enter 66 args) w := by kernel_rfl
/-- The comparison of two entries by their offsets. -/
theorem cmp_ents {w : World} {vb o en cp x y m : Nat} {l : List (Nat × Nat × Nat)} (hv : w.cell? ⟨vb, 0, none⟩ = some (.pointer (some ⟨o, 0, none⟩))) (ho : w.cell? ⟨o, 3, none⟩ = some (.slice (some ⟨en, 0, none⟩) l.length cp)) (hs : Seen w en 0 (encells l)) (hx : x < l.length) (hy : y < l.length) (hn : l.length ≤ 6) :
    Calls Tryz.prog 66 #[.int .i64 x, .int .i64 y, ptr vb] (w.drewN m) fun e w' => e = .returned (.int .i64 (cmp3 (l.getD x (0, 0, 0)).1 (l.getD y (0, 0, 0)).1)) ∧ ∃ k, w' = w.drewN k := by
  have hc : ∀ x, x < l.length → w.cell? ⟨en, x * 4, none⟩ = some (.int .u64 (l.getD x (0, 0, 0)).1) := by
    intro x hx
    have hg : l[x]? = some (l.getD x (0, 0, 0)) := by rw [List.getD_eq_getElem?_getD, List.getElem?_eq_getElem hx]; rfl
    have := hs _ _ (encells_get hg).1
    rw [Nat.zero_add, Nat.mul_comm] at this
    exact this
  have c1 := hc x hx
  have c2 := hc y hy
  obtain ⟨a, ha⟩ : ∃ a, a = (l.getD x (0, 0, 0)).1 := ⟨_, rfl⟩
  obtain ⟨b, hb⟩ : ∃ b, b = (l.getD y (0, 0, 0)).1 := ⟨_, rfl⟩
  rw [← ha] at c1 ⊢
  rw [← hb] at c2 ⊢
  have HC := Lib.hid (fun w1 => compare_any a b w1)
  have d1 : (w.drewN m).cell? ⟨vb, 0, none⟩ = some (.pointer (some ⟨o, 0, none⟩)) := hv
  have d2 : (w.drewN m).cell? ⟨o, 3, none⟩ = some (.slice (some ⟨en, 0, none⟩) l.length cp) := ho
  have d3 : (w.drewN m).cell? ⟨en, x * 4, none⟩ = some (.int .u64 a) := c1
  have d4 : (w.drewN m).cell? ⟨en, y * 4, none⟩ = some (.int .u64 b) := c2
  have b1 : (x : Int) < l.length := by omega
  have b2 : (y : Int) < l.length := by omega
  have b3 : (l.length : Int) ≤ 6 := by omega
  obtain ⟨W, hW⟩ : ∃ W, W = w.drewN m := ⟨_, rfl⟩
  rw [← hW] at d1 d2 d3 d4 ⊢
  have HW := Lib.hid hW
  clear hc hs hv ho c1 c2 ha hb hW
  unfold ptr u64 at *
  go_enter Tryz.func66, Tryz.ntmps66
  go_wp2_with fail
  go_quiet ((go_at_call 67; exact quiet_same (HC.out _)))
  go_wp2_with fail
  go_returns
  refine ⟨rfl, m + nq, ?_⟩
  rw [HW.out]
  exact World.drewN_drewN _ _ _

def IxRel (n : Nat) (i : Value) : Prop := ∃ k : Nat, k ≤ n ∧ i = .int .i64 (k : Nat)
theorem index_any {w : World} {bz n nb cp : Nat} (ht : ∀ k, k < n → w.cell? ⟨bz, k, none⟩ = some (.bool true)) (hf : w.cell? ⟨bz, n, none⟩ = some (.bool false)) (hn : n < nb) (hnb : nb ≤ 1000) :
    Calls Tryz.prog 63 #[.slice (some ⟨bz, 0, none⟩) nb cp, .bool false] w fun e w' => e = .returned (.int .i64 n) ∧ w = w' := by
  have HT := Lib.hid ht
  have b1 : (nb : Int) ≤ 1000 := by omega
  have b2 : (n : Int) < nb := by omega
  clear ht
  go_enter Tryz.func63, Tryz.ntmps63
  go_wp2_with fail
  go_loop [8] (fun i => IxRel n i) (fun i => nb - (intOf i).toNat)
  case atStart => exact ⟨0, by omega, rfl⟩
  case round =>
    obtain ⟨k, hk, rfl⟩ := hrel
    by_cases hlt : k < n
    · have hlt2 : (k : Int) < nb := by omega
      have c1 := HT.out k hlt
      clear hk hf
      go_wp2_with fail
      go_round
      case rel => exact ⟨k + 1, by omega, rfl⟩
      case measure => simp [intOf]; omega
    · obtain rfl : k = n := by omega
      go_wp2_with fail
      go_returns
      exact ⟨rfl, rfl⟩

theorem encells_length (l : List (Nat × Nat × Nat)) : (encells l).length = 4 * l.length := by
  induction l with
  | nil => rfl
  | cons a l ih => simp [encells] at *; omega
theorem clone_ents {w : World} {b cap : Nat} {l : List (Nat × Nat × Nat)} (hs : Seen w b 0 (encells l)) (hn : 1 ≤ l.length) (hn2 : l.length ≤ 6) :
    Calls Tryz.prog 64 #[.slice (some ⟨b, 0, none⟩) l.length cap] w fun r w' => ∃ g c, r = .returned (.slice (some ⟨g, 0, none⟩) l.length c) ∧ w'.ownsRow w.heap.size 110 4 (.slice (some ⟨g, 0, none⟩) l.length c) l.length (encells l) ∧ Below w.heap.size w w' := by
  have q1 := fun (w : World) (a : Option Addr) (n c n' c' : Nat) => Lib.run_eql_slice_nil (P := Tryz.prog) w _ _ a n c n' c' Tryz.underlying99
  obtain ⟨W, hW⟩ : ∃ W, W = w.alloc (.cells #[] 110) := ⟨_, rfl⟩
  have hbW : Below w.heap.size w W := by rw [hW]; exact below_alloc (Below.refl _ _)
  have hg : W.heap[w.heap.size]? = some (.cells #[] 110 (0, 0)) := by rw [hW]; exact heap_alloc_new _ _
  have hown : W.ownsRow w.heap.size 110 4 (.slice (some ⟨w.heap.size, 0, none⟩) 0 0) 0 [] := ⟨rfl, .inr ⟨w.heap.size, 0, #[], rfl, Nat.le_refl _, hg, Nat.le_refl _, by unfold maxLen; omega, rfl, rfl⟩⟩
  have hsW := hs.below hbW (Nat.le_refl _)
  have hone : ∀ u ∈ encells l, u.oneCell' = true := by
    intro u hu
    obtain ⟨e, _, hu⟩ := List.mem_flatMap.1 hu
    simp at hu
    rcases hu with rfl | rfl | rfl | rfl <;> rfl
  obtain ⟨g, cp, w', hrun, how, hgr, hgg⟩ := append_own2 elEntries hown ⟨b, 0, none⟩ l.length cap (encells l) (by rw [encells_length]; omega) (fun j u hj => by rw [Addr.add_lit]; exact hsW j u hj) hone hn (by unfold maxLen; omega) (by omega) hbW.size
  have hb2 : Below w.heap.size w w' := below_grown hbW hgr hbW.size (fun k hk => by cases hk; exact Nat.le_refl _)
  rw [Nat.zero_add, List.nil_append] at how
  have hrun2 : ∀ ty, (Builtin.append_ #[99, 99] ty #[.slice (some ⟨w.heap.size, 0, none⟩) 0 0, .slice (some ⟨b, 0, none⟩) l.length cap]).run Tryz.prog (w.alloc (.cells #[] 110)) = .ok (.slice (some ⟨g, 0, none⟩) l.length cp) w' := by
    intro ty
    have := hrun ty
    rw [Nat.zero_add, hW] at this
    exact this
  have HO := Lib.hid how; have HB := Lib.hid hb2
  clear hs hW hbW hg hown hsW hone hrun how hgr hgg hb2
  go_enter Tryz.func64, Tryz.ntmps64
  go_wp2_with (at_builtin; refine wpList_append_run rfl _ _ _ rfl _ _ _ _ rfl rfl hrun2 ?_)
  go_returns
  exact ⟨g, cp, rfl, HO.out, HB.out⟩
end Go.Proofs.YtejlgnebofdijaaGreatDoor.Dv

namespace Go.Proofs.YtejlgnebofdijaaGreatDoor.Dv
open Go.RowKit
set_option linter.unusedVariables false

/-- An operation that has just begun. -/
def opNew (t k : Nat) (es : List (Nat × Nat × Nat)) (ord : List Nat) : OpS := ⟨t, k, es, ord, List.replicate es.length 0, 0, 0, [], false, false, false, 0, none, 0, 0⟩
def MS.begun (m : MS) (N t K : Nat) (es : List (Nat × Nat × Nat)) (ord : List Nat) : MS := { m with op := upd m.op N (opNew t K es ord) }
def MS.begin (m : MS) (N t K : Nat) (es : List (Nat × Nat × Nat)) (ord : List Nat) : MS := { m.begun N t K es ord with busy := upd m.busy K true }
def MAd.more (B : MAd) (N ob en rb sb ec oc sc : Nat) : MAd := ⟨B.p, B.busy, B.nb, upd B.o N ob, upd B.en N en, upd B.ord N rb, upd B.se N sb, upd B.ec N ec, upd B.oc N oc, upd B.sc N sc⟩

theorem optr_more {B : MAd} {N ob en rb sb ec oc sc : Nat} {c : Option Nat} (h : ∀ x, c = some x → x < N) : optr (B.more N ob en rb sb ec oc sc) c = optr B c := by
  cases c with
  | none => rfl
  | some x =>
    have := h x rfl
    unfold optr MAd.more
    dsimp only
    rw [upd_ne _ _ (by omega)]
theorem pfun_more {A : DAd} {B : MAd} {N ob en rb sb ec oc sc Lr S : Nat} {c : Option Nat} (h : ∀ x, c = some x → x < N) (y : Nat) : pfun A (B.more N ob en rb sb ec oc sc) Lr S c y = pfun A B Lr S c y := by
  have e := optr_more (B := B) (ob := ob) (en := en) (rb := rb) (sb := sb) (ec := ec) (oc := oc) (sc := sc) h
  unfold pfun
  split <;> first | rfl | exact e
theorem ofun_more {A : DAd} {B : MAd} {N ob en rb sb ec oc sc i : Nat} {o : OpS} {pv : Value} (hi : i < N) (h : ∀ x, o.tgt = some x → x < N) (y : Nat) : ofun A (B.more N ob en rb sb ec oc sc) o i pv y = ofun A B o i pv y := by
  have e := optr_more (B := B) (ob := ob) (en := en) (rb := rb) (sb := sb) (ec := ec) (oc := oc) (sc := sc) h
  have e1 : upd B.en N en i = B.en i := upd_ne _ _ (by omega)
  have e2 : upd B.ord N rb i = B.ord i := upd_ne _ _ (by omega)
  have e3 : upd B.se N sb i = B.se i := upd_ne _ _ (by omega)
  have e4 : upd B.ec N ec i = B.ec i := upd_ne _ _ (by omega)
  have e5 : upd B.oc N oc i = B.oc i := upd_ne _ _ (by omega)
  have e6 : upd B.sc N sc i = B.sc i := upd_ne _ _ (by omega)
  unfold ofun
  split
  all_goals first
    | rfl
    | exact e
    | (unfold MAd.more; dsimp only; rw [e1, e4])
    | (unfold MAd.more; dsimp only; rw [e2, e5])
    | (unfold MAd.more; dsimp only; rw [e3, e6])

/-- What the entries of a new operation satisfy. -/
structure EsNew (S : Nat) (es : List (Nat × Nat × Nat)) : Prop where
  n : 1 ≤ es.length ∧ es.length ≤ 6
  off : ∀ e ∈ es, e.1 % 8 = 0 ∧ 6144 ≤ e.1 ∧ e.1 < S
  val : ∀ e ∈ es, e.2.1 < 1099511627776 ∧ e.2.2 < 1099511627776
  nd : (es.map (·.1)).Nodup

def gmore (G : Nat → Option Role) (N ob en rb sb : Nat) : Nat → Option Role := upd (upd (upd (upd G ob (some (2, N))) en (some (3, N))) rb (some (4, N))) sb (some (5, N))

theorem MW.begun {w : World} {A : DAd} {B : MAd} {N t K : Nat} {m : MS} {F G : Nat → Option Role} (h : MW w A B 96 N m F G) (hN : N ≤ 19) (hnb : K < B.nb) (ht : t < 8) {es : List (Nat × Nat × Nat)} {ord : List Nat} (he : EsNew (64 * m.dev.L) es) (hol : ord.length = es.length) (hov : ∀ x ∈ ord, x < es.length)
    {ob en rb sb ec oc sc : Nat} (hfree : ∀ b, b = ob ∨ b = en ∨ b = rb ∨ b = sb → F b = none ∧ G b = none ∧ b < w.heap.size) (hne : ob ≠ en ∧ ob ≠ rb ∧ ob ≠ sb ∧ en ≠ rb ∧ en ≠ sb ∧ rb ≠ sb)
    (ho : Row w ob 156 16 (ofun A (B.more N ob en rb sb ec oc sc) (opNew t K es ord) N (.slice none 0 0))) (hs : Seen w en 0 (encells es)) (hr : Seen w rb 0 (ord.map i64)) (hse : Row w sb 48 es.length (fun _ => u64 0)) :
    MW w A (B.more N ob en rb sb ec oc sc) 96 (N + 1) (m.begun N t K es ord) F (gmore G N ob en rb sb) := by
  obtain ⟨n1, n2, n3, n4, n5, n6⟩ := hne
  have kept : ∀ b q, G b = some q → gmore G N ob en rb sb b = some q := by
    intro b q hb
    have hd : ∀ c, (c = ob ∨ c = en ∨ c = rb ∨ c = sb) → b ≠ c := fun c hc e => by
      have := (hfree c hc).2.1
      rw [← e, hb] at this
      cases this
    unfold gmore
    rw [upd_ne _ _ (hd sb (by simp)), upd_ne _ _ (hd rb (by simp)), upd_ne _ _ (hd en (by simp)), upd_ne _ _ (hd ob (by simp))]
    exact hb
  have hop : ∀ i, i < N → (m.begun N t K es ord).op i = m.op i := fun i hi => upd_ne _ _ (by omega)
  have hopN : (m.begun N t K es ord).op N = opNew t K es ord := upd_same _ _ _
  have cas : ∀ i, i < N + 1 → i < N ∨ i = N := fun i hi => by omega
  refine { dev := h.dev, pool := ?_, busy := h.busy, op := ?_, en := ?_, ord := ?_, se := ?_, gp := kept _ _ h.gp, gb := kept _ _ h.gb, go := ?_, ge := ?_, gr := ?_, gs := ?_, gf := ?_, ok := ?_, cur := ?_, small := ?_ }
  · exact h.pool.congr (fun y hy => pfun_more h.cur y)
  · intro i hi
    rcases cas i hi with hi | rfl
    · rw [hop i hi]
      obtain ⟨pv, h1, h2⟩ := h.op i hi
      refine ⟨pv, ?_, ?_⟩
      · have e : (B.more N ob en rb sb ec oc sc).o i = B.o i := upd_ne _ _ (by omega)
        rw [e]
        exact h1.congr (fun y hy => ofun_more hi (h.ok i hi).tgt y)
      · rcases h2 with h2 | ⟨pb, c, e1, e2, e3⟩
        · exact .inl h2
        · exact .inr ⟨pb, c, e1, kept _ _ e2, e3⟩
    · rw [hopN]
      have e : (B.more i ob en rb sb ec oc sc).o i = ob := upd_same _ _ _
      rw [e]
      exact ⟨_, ho, .inl ⟨rfl, rfl⟩⟩
  · intro i hi
    rcases cas i hi with hi | rfl
    · rw [hop i hi]
      have e : (B.more N ob en rb sb ec oc sc).en i = B.en i := upd_ne _ _ (by omega)
      rw [e]
      exact h.en i hi
    · rw [hopN]
      have e : (B.more i ob en rb sb ec oc sc).en i = en := upd_same _ _ _
      rw [e]
      exact hs
  · intro i hi
    rcases cas i hi with hi | rfl
    · rw [hop i hi]
      have e : (B.more N ob en rb sb ec oc sc).ord i = B.ord i := upd_ne _ _ (by omega)
      rw [e]
      exact h.ord i hi
    · rw [hopN]
      have e : (B.more i ob en rb sb ec oc sc).ord i = rb := upd_same _ _ _
      rw [e]
      exact hr
  · intro i hi
    rcases cas i hi with hi | rfl
    · rw [hop i hi]
      have e : (B.more N ob en rb sb ec oc sc).se i = B.se i := upd_ne _ _ (by omega)
      rw [e]
      exact h.se i hi
    · rw [hopN]
      have e : (B.more i ob en rb sb ec oc sc).se i = sb := upd_same _ _ _
      rw [e]
      refine hse.congr (fun x hx => ?_)
      unfold opNew
      dsimp only
      rw [List.getD_eq_getElem?_getD]
      rcases Nat.lt_or_ge x es.length with h' | h'
      · rw [List.getElem?_replicate, if_pos h']; rfl
      · rw [List.getElem?_replicate, if_neg (by omega)]; rfl
  · intro i hi
    rcases cas i hi with hi | rfl
    · have e : (B.more N ob en rb sb ec oc sc).o i = B.o i := upd_ne _ _ (by omega)
      rw [e]; exact kept _ _ (h.go i hi)
    · have e : (B.more i ob en rb sb ec oc sc).o i = ob := upd_same _ _ _
      rw [e]
      unfold gmore
      rw [upd_ne _ _ n3, upd_ne _ _ n2, upd_ne _ _ n1, upd_same]
  · intro i hi
    rcases cas i hi with hi | rfl
    · have e : (B.more N ob en rb sb ec oc sc).en i = B.en i := upd_ne _ _ (by omega)
      rw [e]; exact kept _ _ (h.ge i hi)
    · have e : (B.more i ob en rb sb ec oc sc).en i = en := upd_same _ _ _
      rw [e]
      unfold gmore
      rw [upd_ne _ _ n5, upd_ne _ _ n4, upd_same]
  · intro i hi
    rcases cas i hi with hi | rfl
    · have e : (B.more N ob en rb sb ec oc sc).ord i = B.ord i := upd_ne _ _ (by omega)
      rw [e]; exact kept _ _ (h.gr i hi)
    · have e : (B.more i ob en rb sb ec oc sc).ord i = rb := upd_same _ _ _
      rw [e]
      unfold gmore
      rw [upd_ne _ _ n6, upd_same]
  · intro i hi
    rcases cas i hi with hi | rfl
    · have e : (B.more N ob en rb sb ec oc sc).se i = B.se i := upd_ne _ _ (by omega)
      rw [e]; exact kept _ _ (h.gs i hi)
    · have e : (B.more i ob en rb sb ec oc sc).se i = sb := upd_same _ _ _
      rw [e]
      unfold gmore
      rw [upd_same]
  · intro b hb
    by_cases e : b = ob ∨ b = en ∨ b = rb ∨ b = sb
    · exact ⟨(hfree b e).1, (hfree b e).2.2⟩
    · unfold gmore at hb
      rw [upd_ne _ _ (fun h => e (by simp [h])), upd_ne _ _ (fun h => e (by simp [h])), upd_ne _ _ (fun h => e (by simp [h])), upd_ne _ _ (fun h => e (by simp [h]))] at hb
      exact h.gf b hb
  · intro i hi
    rcases cas i hi with hi | rfl
    · rw [hop i hi]
      have := h.ok i hi
      exact { this with tgt := fun j hj => Nat.lt_succ_of_lt (this.tgt j hj) }
    · rw [hopN]
      exact { t := ht, k := hnb, n := he.n, off := fun e hh => he.off e hh, val := he.val, ord := ⟨hol, hov⟩, seen := ⟨by unfold opNew; simp, fun x hx => by unfold opNew at hx; simp at hx; omega⟩, loaded := Nat.zero_le _, stage := Nat.zero_le _, err := Nat.zero_le _, tgt := fun j hj => (by cases hj), inn := Nat.zero_le _, prog := fun x hx => (by cases hx), next := Nat.zero_le _ }
  · intro c hc
    exact Nat.lt_succ_of_lt (h.cur c hc)
  · exact ⟨by omega, h.small.2.1, h.small.2.2⟩
end Go.Proofs.YtejlgnebofdijaaGreatDoor.Dv
