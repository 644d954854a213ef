/-
  slices.Sort of words that are sorted already: nothing changes.
  slices.Sort of words that are sorted already, second part; slices.Compact.
-/
import Derived.Test.YtejlgnebofdijaaGreatDoorMCrc
namespace Go.Proofs.YtejlgnebofdijaaGreatDoor.Dv
open Go.RowKit
set_option linter.unusedVariables false

theorem isNaN_any (x : Nat) (w : World) : Calls Tryz.prog 83 #[u64 x] w fun e w' => e = .returned (.bool false) ∧ w = w' := by
  unfold u64
  go_enter Tryz.func83, Tryz.ntmps83
  go_wp2_with fail
  go_returns
  simp
theorem less_any (x y : Nat) (w : World) : Calls Tryz.prog 101 #[u64 x, u64 y] w fun e w' => e = .returned (.bool (decide (x < y))) ∧ w = w' := by
  have HN := Lib.hid (fun w => isNaN_any x w)
  have ed : decide (x < y) = decide ((x : Int) < (y : Int)) := by apply decide_eq_decide.2; omega
  rw [ed]
  clear ed
  unfold u64 at *
  go_enter Tryz.func101, Tryz.ntmps101
  go_wp2_with fail
  refine (HN.out _).mono ?_
  rintro e w' ⟨rfl, rfl⟩
  go_wp2_with fail
  go_returns
  simp

theorem quiet_same {P : Program} {f : FuncId} {args : Array Value} {w : World} {n : Nat} {v : Value}
    (h : Calls P f args (w.drewN n) fun e w' => e = .returned v ∧ w.drewN n = w') : Calls P f args (w.drewN n) fun e w'' => e = .returned v ∧ ∃ m, w'' = w.drewN m :=
  h.mono fun _ _ ⟨he, hm⟩ => ⟨he, n, hm.symm⟩
theorem below_drewN {a w : World} {B n : Nat} (h : Below B a w) : Below B a (w.drewN n) := ⟨h.os, h.tape, h.output, h.size, h.block⟩

/-- A nondecreasing list. -/
def Up (l : List Nat) : Prop := ∀ i j, i ≤ j → j < l.length → l.getD i 0 ≤ l.getD j 0

theorem seen_get {w : World} {b o : Nat} {l : List Nat} (h : Seen w b o (l.map u64)) {i : Nat} (hi : i < l.length) : w.cell? ⟨b, o + i, none⟩ = some (.int .u64 (l.getD i 0)) :=
  h i _ (by rw [List.getElem?_map, List.getElem?_eq_getElem hi]; simp [List.getD, hi, u64])

theorem order2_up {w : World} {b o c sw : Nat} {l : List Nat} (hs : Seen w b o (l.map u64)) {i j : Nat} (hij : i < l.length) (hj : j < l.length) (hle : l.getD i 0 ≤ l.getD j 0) :
    Calls Tryz.prog 141 #[.slice (some ⟨b, o, none⟩) l.length c, i64 i, i64 j, ptr sw] w fun e w' => e = .returned (.tuple #[i64 i, i64 j]) ∧ Below w.heap.size w w' := by
  have c1 := seen_get hs hij
  have c2 := seen_get hs hj
  have HL := fun w => less_any (l.getD j 0) (l.getD i 0) w
  have d : decide (l.getD j 0 < l.getD i 0) = false := decide_eq_false (by omega)
  rw [d] at HL
  have b1 : (i : Int) < l.length := by omega
  have b2 : (j : Int) < l.length := by omega
  generalize l.getD i 0 = x at *
  generalize l.getD j 0 = y at *
  have HL2 := Lib.hid HL
  clear HL d hs hle
  unfold i64 ptr u64 at *
  go_enter Tryz.func141, Tryz.ntmps141
  go_wp2_with fail
  go_quiet ((go_at_call 101; exact quiet_same (HL2.out _)))
  go_wp2_with fail
  go_returns
  exact ⟨rfl, below_drewN (Below.refl _ _)⟩

theorem median_up {w : World} {b o c sw : Nat} {l : List Nat} (hs : Seen w b o (l.map u64)) (hu : Up l) {i j k : Nat} (h1 : i ≤ j) (h2 : j ≤ k) (h3 : k < l.length) :
    Calls Tryz.prog 129 #[.slice (some ⟨b, o, none⟩) l.length c, i64 i, i64 j, i64 k, ptr sw] w fun e w' => e = .returned (i64 j) ∧ Below w.heap.size w w' := by
  have H1 := Lib.hid (fun w' (hb : Below w.heap.size w w') => order2_up (c := c) (sw := sw) (hs.below hb (Nat.le_refl _)) (i := i) (j := j) (by omega) (by omega) (hu i j h1 (by omega)))
  have H2 := Lib.hid (fun w' (hb : Below w.heap.size w w') => order2_up (c := c) (sw := sw) (hs.below hb (Nat.le_refl _)) (i := j) (j := k) (by omega) (by omega) (hu j k h2 (by omega)))
  clear hs hu
  unfold i64 ptr at *
  go_enter Tryz.func129, Tryz.ntmps129
  go_wp2_with fail
  refine (H1.out _ (Below.refl _ _)).mono ?_
  rintro e w1 ⟨rfl, hb1⟩
  have B1 := Lib.hid hb1; clear hb1
  go_wp2_with fail
  refine (H2.out _ B1.out).mono ?_
  rintro e w2 ⟨rfl, hb2⟩
  have B2 := Lib.hid (B1.out.trans (hb2.mono B1.out.size)); clear hb2
  go_wp2_with fail
  refine (H1.out _ B2.out).mono ?_
  rintro e w3 ⟨rfl, hb3⟩
  have B3 := Lib.hid (B2.out.trans (hb3.mono B2.out.size)); clear hb3
  go_wp2_with fail
  go_returns
  exact ⟨rfl, B3.out⟩

theorem pivot_up {w : World} {b o c : Nat} {l : List Nat} (hs : Seen w b o (l.map u64)) (hu : Up l) (hn : 8 ≤ l.length) (hn2 : l.length < 50) :
    Calls Tryz.prog 98 #[.slice (some ⟨b, o, none⟩) l.length c, i64 0, i64 l.length] w fun e w' => ∃ p : Nat, e = .returned (.tuple #[i64 p, i64 1]) ∧ Below w.heap.size w w' := by
  obtain ⟨q, hq⟩ : ∃ q, q = l.length / 4 := ⟨_, rfl⟩
  have eq1 : (l.length : Int) / 4 = (q : Int) := by omega
  have hm := median_up (c := c) (sw := w.heap.size) (hs.below (below_alloc (o := .cells #[.int .i64 0] 3) (Below.refl _ w)) (Nat.le_refl _)) hu (i := q) (j := q * 2) (k := q * 3) (by omega) (by omega) (by omega)
  have HM := Lib.hid hm
  have b1 : (8 : Int) ≤ l.length := by omega
  have b2 : (l.length : Int) < 50 := by omega
  have b3 : (q : Int) ≤ 12 := by omega
  have d1 : decide (8 ≤ l.length) = true := decide_eq_true (by omega)
  have d2 : decide (50 ≤ l.length) = false := decide_eq_false (by omega)
  have d3 : decide ((8 : Int) ≤ l.length) = true := decide_eq_true (by omega)
  have d4 : decide ((50 : Int) ≤ l.length) = false := decide_eq_false (by omega)
  clear hm hs hu hq
  simp only [i64, ptr, Int.natCast_mul, Int.cast_ofNat_Int] at HM ⊢
  go_enter Tryz.func98, Tryz.ntmps98
  go_wp2_with fail
  refine HM.out.mono ?_
  rintro e w1 ⟨rfl, hb1⟩
  have c1 : w1.cell? ⟨w.heap.size, 0, none⟩ = some (.int .i64 0) := by
    rw [hb1.cell (by simp)]; exact (cell_block (heap_alloc_new _ _)).trans rfl
  have B1 := Lib.hid ((below_alloc (Below.refl _ w)).trans (hb1.mono (by simp))); clear hb1
  go_wp2_with fail
  go_returns
  exact ⟨q * 2, by simp, B1.out⟩

def PiRel (l : List Nat) (w : World) (i : Value) (wr : World) : Prop := ∃ k : Nat, 1 ≤ k ∧ k ≤ l.length ∧ i = .int .i64 (k : Nat) ∧ Below w.heap.size w wr

set_option maxRecDepth 8000 in
theorem partial_up {w : World} {b o c : Nat} {l : List Nat} (hs : Seen w b o (l.map u64)) (hu : Up l) (hn : 8 ≤ l.length) (hn2 : l.length < 50) :
    Calls Tryz.prog 100 #[.slice (some ⟨b, o, none⟩) l.length c, i64 0, i64 l.length] w fun e w' => e = .returned (.bool true) ∧ Below w.heap.size w w' := by
  have HS := Lib.hid hs; have HU := Lib.hid hu
  have b1 : (8 : Int) ≤ l.length := by omega
  have b2 : (l.length : Int) < 50 := by omega
  clear hs hu
  unfold i64
  go_enter Tryz.func100, Tryz.ntmps100
  go_wp2_with fail
  refine wp_loop_rounds 1 ?_
  rw [rounds_succ]
  go_wp2_with fail
  go_loopw [7] (fun i wr => PiRel l w i wr) (fun i _ => l.length - (intOf i).toNat)
  case atStart => exact ⟨1, by omega, by omega, rfl, Below.refl _ _⟩
  case round =>
    obtain ⟨k, hk1, hk, rfl, hbel⟩ := hrel
    by_cases hlt : k < l.length
    · have hlt2 : (k : Int) < l.length := by omega
      have d1 : decide ((k : Int) < (l.length : Int)) = true := decide_eq_true hlt2
      have c1 := seen_get (HS.out.below hbel (Nat.le_refl _)) hlt
      have c2 := seen_get (HS.out.below hbel (Nat.le_refl _)) (i := k - 1) (by omega)
      have hle := HU.out (k - 1) k (by omega) hlt
      have hl : ∀ w, Calls Tryz.prog 101 #[u64 (l.getD k 0), u64 (l.getD (k - 1) 0)] w fun e w' => e = .returned (.bool false) ∧ w = w' := fun w => by
        have := less_any (l.getD k 0) (l.getD (k - 1) 0) w
        rw [decide_eq_false (by omega)] at this
        exact this
      generalize l.getD k 0 = x at c1 hl hle
      generalize l.getD (k - 1) 0 = y at c2 hl hle
      have HLL := Lib.hid hl; have HB := Lib.hid hbel
      have w1 : IntKind.i64.wrap ((k : Int) - 1) = (k : Int) - 1 := IntWalk.i64_in _ (by omega)
      have w2 : (0 : Int) ≤ (k : Int) - 1 := by omega
      have w3 : ((k : Int) - 1).toNat = k - 1 := by omega
      have w4 : (k : Int) - 1 < l.length := by omega
      clear hl hbel hle
      unfold u64 at *
      go_wp2_with fail
      go_quiet ((go_at_call 101; exact quiet_same (HLL.out _)))
      clear w1 w2 w3 w4
      go_wp2_with fail
      go_roundw
      case rel => exact ⟨k + 1, by omega, by omega, by go_num, below_drewN HB.out⟩
      case measure => simp [intOf]; omega
    · obtain rfl : k = l.length := by omega
      have HB := Lib.hid hbel
      have d1 : decide ((l.length : Int) < (l.length : Int)) = false := decide_eq_false (by omega)
      have d2 : decide (l.length < l.length) = false := decide_eq_false (by omega)
      have d3 : ((l.length : Int) == (l.length : Int)) = true := by simp
      clear hbel hlt
      go_wp2_with fail
      go_quiet (fail)
      go_wp2_with fail
      go_returns
      exact ⟨rfl, below_drewN HB.out⟩
end Go.Proofs.YtejlgnebofdijaaGreatDoor.Dv

namespace Go.Proofs.YtejlgnebofdijaaGreatDoor.Dv
open Go.RowKit
set_option linter.unusedVariables false

set_option maxRecDepth 8000 in
theorem insertion_up {w : World} {b o c : Nat} {l : List Nat} (hs : Seen w b o (l.map u64)) (hu : Up l) (hn : 1 ≤ l.length) (hn2 : l.length < 50) :
    Calls Tryz.prog 95 #[.slice (some ⟨b, o, none⟩) l.length c, i64 0, i64 l.length] w fun e w' => e = .returned (.tuple #[]) ∧ Below w.heap.size w w' := by
  have HS := Lib.hid hs; have HU := Lib.hid hu
  have b1 : (1 : Int) ≤ l.length := by omega
  have b2 : (l.length : Int) < 50 := by omega
  clear hs hu
  unfold i64
  go_enter Tryz.func95, Tryz.ntmps95
  go_wp2_with fail
  go_loopw [6, 7] (fun i _ wr => PiRel l w i wr) (fun i _ _ => l.length - (intOf i).toNat)
  case atStart => exact ⟨1, by omega, by omega, rfl, Below.refl _ _⟩
  case round =>
    obtain ⟨k, hk1, hk, rfl, hbel⟩ := hrel
    by_cases hlt : k < l.length
    · have hlt2 : (k : Int) < l.length := by omega
      have d1 : decide ((0 : Int) < (k : Int)) = true := decide_eq_true (by omega)
      have d2 : decide (0 < k) = true := decide_eq_true (by omega)
      have c1 := seen_get (HS.out.below hbel (Nat.le_refl _)) hlt
      have c2 := seen_get (HS.out.below hbel (Nat.le_refl _)) (i := k - 1) (by omega)
      have hle := HU.out (k - 1) k (by omega) hlt
      have hl : ∀ w, Calls Tryz.prog 101 #[u64 (l.getD k 0), u64 (l.getD (k - 1) 0)] w fun e w' => e = .returned (.bool false) ∧ w = w' := fun w => by
        have := less_any (l.getD k 0) (l.getD (k - 1) 0) w
        rw [decide_eq_false (by omega)] at this
        exact this
      generalize l.getD k 0 = x at c1 hl hle
      generalize l.getD (k - 1) 0 = y at c2 hl hle
      have HLL := Lib.hid hl; have HB := Lib.hid hbel
      have w1 : IntKind.i64.wrap ((k : Int) - 1) = (k : Int) - 1 := IntWalk.i64_in _ (by omega)
      have w2 : (0 : Int) ≤ (k : Int) - 1 := by omega
      have w3 : ((k : Int) - 1).toNat = k - 1 := by omega
      have w4 : (k : Int) - 1 < l.length := by omega
      have w5 : (0 : Int) < (k : Int) := by omega
      clear hl hbel hle
      unfold u64 at *
      go_wp2_with fail
      refine wp_loop_rounds 1 ?_
      rw [rounds_succ]
      go_wp2_with fail
      go_quiet ((go_at_call 101; exact quiet_same (HLL.out _)))
      clear w1 w2 w3 w4
      go_wp2_with fail
      go_roundw
      case rel => exact ⟨k + 1, by omega, by omega, by go_num, below_drewN HB.out⟩
      case measure => simp [intOf]; omega
    · obtain rfl : k = l.length := by omega
      have HB := Lib.hid hbel
      clear hbel hlt
      go_wp2_with fail
      go_returns
      exact ⟨rfl, HB.out⟩

set_option maxRecDepth 100000 in
theorem len64_small {w : World} {n : Nat} (h1 : 1 ≤ n) (h2 : n ≤ 24) : Calls Tryz.prog 105 #[.int .u64 (n : Nat)] w fun e w' => e = .returned (i64 (Nat.log2 n + 1)) ∧ w = w' := by
  have : n = 1 ∨ n = 2 ∨ n = 3 ∨ n = 4 ∨ n = 5 ∨ n = 6 ∨ n = 7 ∨ n = 8 ∨ n = 9 ∨ n = 10 ∨ n = 11 ∨ n = 12 ∨ n = 13 ∨ n = 14 ∨ n = 15 ∨ n = 16 ∨ n = 17 ∨ n = 18 ∨ n = 19 ∨ n = 20 ∨ n = 21 ∨ n = 22 ∨ n = 23 ∨ n = 24 := by omega
  rcases this with rfl | rfl | rfl | rfl | rfl | rfl | rfl | rfl | rfl | rfl | rfl | rfl | rfl | rfl | rfl | rfl | rfl | rfl | rfl | rfl | rfl | rfl | rfl | rfl
  all_goals
    go_enter Tryz.func105, Tryz.ntmps105
    go_wp2_with fail
    go_returns
    exact ⟨by kernel_rfl, rfl⟩
theorem len_small {w : World} {n : Nat} (h1 : 1 ≤ n) (h2 : n ≤ 24) : Calls Tryz.prog 77 #[.int .u64 (n : Nat)] w fun e w' => e = .returned (i64 (Nat.log2 n + 1)) ∧ w = w' := by
  have H := Lib.hid (len64_small (w := w) h1 h2)
  unfold i64 at *
  go_enter Tryz.func77, Tryz.ntmps77
  go_wp2_with fail
  refine H.out.mono ?_
  rintro e w' ⟨rfl, rfl⟩
  go_wp2_with fail
  go_returns
  exact ⟨rfl, rfl⟩

set_option maxRecDepth 8000 in
theorem pdq_up {w : World} {b o c lim : Nat} {l : List Nat} (hs : Seen w b o (l.map u64)) (hu : Up l) (hn : 1 ≤ l.length) (hn2 : l.length ≤ 24) (hlim : 1 ≤ lim) :
    Calls Tryz.prog 76 #[.slice (some ⟨b, o, none⟩) l.length c, i64 0, i64 l.length, i64 lim] w fun e w' => e = .returned (.tuple #[]) ∧ Below w.heap.size w w' := by
  by_cases h12 : l.length ≤ 12
  · have HI := Lib.hid (insertion_up (c := c) hs hu hn (by omega))
    have b1 : (l.length : Int) ≤ 12 := by omega
    have d1 : decide (l.length ≤ 12) = true := decide_eq_true (by omega)
    have d2 : decide ((l.length : Int) ≤ 12) = true := decide_eq_true (by omega)
    clear hs hu
    unfold i64 at *
    go_enter Tryz.func76, Tryz.ntmps76
    go_wp2_with fail
    refine wp_loop_rounds 1 ?_
    rw [rounds_succ]
    go_wp2_with fail
    refine HI.out.mono ?_
    rintro e w' ⟨rfl, hb⟩
    have HB := Lib.hid hb; clear hb
    go_wp2_with fail
    go_returns
    exact ⟨rfl, HB.out⟩
  · have HP := Lib.hid (pivot_up (c := c) hs hu (by omega) (by omega))
    have HT := Lib.hid (fun w' (hb : Below w.heap.size w w') => partial_up (c := c) (hs.below hb (Nat.le_refl _)) hu (by omega) (by omega))
    have b1 : ¬ (l.length : Int) ≤ 12 := by omega
    have b2 : (l.length : Int) ≤ 24 := by omega
    have d1 : decide (l.length ≤ 12) = false := decide_eq_false (by omega)
    have d2 : decide ((l.length : Int) ≤ 12) = false := decide_eq_false (by omega)
    have d3 : ((lim : Int) == 0) = false := by simp; omega
    clear hs hu
    unfold i64 at *
    go_enter Tryz.func76, Tryz.ntmps76
    go_wp2_with fail
    refine wp_loop_rounds 1 ?_
    rw [rounds_succ]
    go_wp2_with fail
    refine HP.out.mono ?_
    rintro e w1 ⟨p, rfl, hb1⟩
    have B1 := Lib.hid hb1; clear hb1
    go_wp2_with fail
    refine (HT.out _ B1.out).mono ?_
    rintro e w2 ⟨rfl, hb2⟩
    have B2 := Lib.hid (B1.out.trans (hb2.mono B1.out.size)); clear hb2
    go_wp2_with fail
    go_returns
    exact ⟨rfl, B2.out⟩

theorem sort_up {w : World} {b o c : Nat} {l : List Nat} (hs : Seen w b o (l.map u64)) (hu : Up l) (hn : 1 ≤ l.length) (hn2 : l.length ≤ 24) :
    Calls Tryz.prog 49 #[.slice (some ⟨b, o, none⟩) l.length c] w fun e w' => e = .returned (.tuple #[]) ∧ Below w.heap.size w w' := by
  have HL := Lib.hid (len_small (w := w) hn hn2)
  have HP := Lib.hid (pdq_up (c := c) (lim := Nat.log2 l.length + 1) hs hu hn hn2 (by omega))
  have b2 : (l.length : Int) ≤ 24 := by omega
  clear hs hu
  unfold i64 at *
  go_enter Tryz.func49, Tryz.ntmps49
  go_wp2_with fail
  refine HL.out.mono ?_
  rintro e w' ⟨rfl, rfl⟩
  go_wp2_with fail
  refine HP.out.mono ?_
  rintro e w' ⟨rfl, hb⟩
  have HB := Lib.hid hb; clear hb
  go_wp2_with fail
  go_returns
  exact ⟨rfl, HB.out⟩
end Go.Proofs.YtejlgnebofdijaaGreatDoor.Dv
