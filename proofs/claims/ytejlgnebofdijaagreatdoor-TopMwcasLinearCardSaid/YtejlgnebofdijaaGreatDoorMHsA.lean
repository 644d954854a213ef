/-
  The package history: exists, Pending, Crash.
  The package history: Before, Crash.
  The package history: Crash.
  The package history: Return, Calls.
-/
import Derived.Test.YtejlgnebofdijaaGreatDoorMHs1
import Derived.BigRegion
import Derived.Deep.DeepCutAuto
import Derived.Deep.QuietTactic
import Derived.BigQuiet
namespace Go.Proofs.YtejlgnebofdijaaGreatDoor.Dv
open Go.RowKit
open Ln (Cl HC Hi)
set_option linter.unusedVariables false

theorem own_put {w : World} {X g n z cap i : Nat} {e : TypeId} {xs : List Value} (h : w.ownsRow X e z (.slice (some ⟨g, 0, none⟩) n cap) n xs) (hi : i < xs.length) (u : Value) :
    (w.setCell ⟨g, i, none⟩ u).ownsRow X e z (.slice (some ⟨g, 0, none⟩) n cap) n (xs.set i u) := by
  rcases h.2 with ⟨e1, _⟩ | ⟨g', cap', cur, e1, hb, hh, hc, hm, hs, ht⟩
  · cases e1
  · cases e1
    refine ⟨by rw [List.length_set]; exact h.1, .inr ⟨_, _, _, rfl, hb, heap_set hh, hc, hm, by rw [Array.size_setIfInBounds]; exact hs, ?_⟩⟩
    rw [Array.toList_setIfInBounds, List.take_set, ht]

theorem flat_set {v : Value} {j : Nat} (hj : j < 11) : ∀ (L : List (List Value)) (k : Nat) (r : List Value), L[k]? = some r → (∀ x ∈ L, x.length = 11) → L.flatten.set (k * 11 + j) v = (L.set k (r.set j v)).flatten
  | [], k, r, h, _ => by simp at h
  | x :: L, 0, r, h, hl => by
    simp at h
    subst h
    rw [List.flatten_cons, Nat.zero_mul, Nat.zero_add, List.set_append_left _ _ (by rw [hl _ (List.mem_cons_self)]; exact hj)]
    rfl
  | x :: L, k + 1, r, h, hl => by
    have hx := hl x List.mem_cons_self
    rw [List.flatten_cons, List.set_append_right _ _ (by omega), show (k + 1) * 11 + j - x.length = k * 11 + j by omega, flat_set hj L k r (by simpa using h) (fun y hy => hl y (List.mem_cons_of_mem _ hy))]
    rfl
theorem hccs_get : ∀ {l : List HC} {k j : Nat} {y : HC}, l[k]? = some y → j < 11 → (hccs l)[k * 11 + j]? = (hcc y)[j]?
  | [], k, j, y, h, _ => by simp at h
  | x :: l, 0, j, y, h, hj => by
    simp at h
    subst h
    unfold hccs
    rw [List.flatMap_cons, Nat.zero_mul, Nat.zero_add, List.getElem?_append_left (by rw [hcc_len]; exact hj)]
  | x :: l, k + 1, j, y, h, hj => by
    have := hccs_get (l := l) (k := k) (by simpa using h) hj
    unfold hccs at this ⊢
    rw [List.flatMap_cons, List.getElem?_append_right (by rw [hcc_len]; omega), hcc_len, show (k + 1) * 11 + j - 11 = k * 11 + j by omega]
    exact this
theorem hccs_set {l : List HC} {k j : Nat} {y y' : HC} {v : Value} (h : l[k]? = some y) (hj : j < 11) : (hccs l).set (k * 11 + j) v = ((l.map hcc).set k ((hcc y).set j v)).flatten := by
  unfold hccs
  rw [List.flatMap_def, flat_set hj _ k (hcc y) (by rw [List.getElem?_map, h]; rfl) (fun x hx => by obtain ⟨z, _, rfl⟩ := List.mem_map.1 hx; exact hcc_len z)]

theorem HAt.call {X hb k : Nat} {w : World} {H : Hi} {ev cv : Value} {y : HC} (h : HAt X w hb H ev cv) (hk : H.calls[k]? = some y) : ∃ g cap, cv = .slice (some ⟨g, 0, none⟩) H.calls.length cap ∧ H.calls.length ≤ cap ∧ cap ≤ maxLen ∧ k < H.calls.length ∧ X ≤ g ∧
    ∀ j, j < 11 → w.cell? ⟨g, k * 11 + j, none⟩ = (hcc y)[j]? := by
  have hlt := (List.getElem?_eq_some_iff.1 hk).1
  rcases h.cv.2 with ⟨_, e⟩ | ⟨g, cap, cur, e, hb2, hh, hc, hm, hs, ht⟩
  · omega
  · refine ⟨g, cap, e, hc, hm, hlt, hb2, fun j hj => ?_⟩
    have := hccs_get hk hj
    have hjl : j < (hcc y).length := by rw [hcc_len]; exact hj
    rw [List.getElem?_eq_getElem hjl] at this ⊢
    have h2 := h.cv.cells (g := g) (by rw [e]; rfl) _ _ this
    rw [Addr.add_lit, Nat.zero_add] at h2
    exact h2

theorem hexists_any {X hb k : Nat} {w : World} {H : Hi} {ev cv : Value} (h : HAt X w hb H ev cv) (hk : k < H.calls.length) (hl : H.calls.length ≤ 1000) :
    Calls Tryz.prog 86 #[ptr hb, .int .i64 k] w fun e w' => e = .returned (.bool true) ∧ w = w' := by
  obtain ⟨ca, cc, rfl⟩ := own_slice h.cv
  have c1 : w.cell? ⟨hb, 1, none⟩ = some (.slice ca H.calls.length cc) := h.row.cell 1 (by omega)
  have b1 : (k : Int) < H.calls.length := by omega
  have b2 : (H.calls.length : Int) ≤ 1000 := by omega
  clear h
  unfold ptr
  go_enter Tryz.func86, Tryz.ntmps86
  go_wp2_with fail
  go_returns
  exact ⟨rfl, rfl⟩
theorem hpend_any {X hb k : Nat} {w : World} {H : Hi} {ev cv : Value} {y : HC} (h : HAt X w hb H ev cv) (hk : H.calls[k]? = some y) (he : y.e = none) (hl : H.calls.length ≤ 1000) :
    Calls Tryz.prog 75 #[ptr hb, .int .i64 k] w fun e w' => e = .returned (.bool true) ∧ w = w' := by
  obtain ⟨g, cap, rfl, h1, h2, h3, h4, h5⟩ := h.call hk
  have c1 : w.cell? ⟨hb, 1, none⟩ = some (.slice (some ⟨g, 0, none⟩) H.calls.length cap) := h.row.cell 1 (by omega)
  have c6 : w.cell? ⟨g, k * 11 + 6, none⟩ = some (.int .i64 (-1)) := by
    rw [h5 6 (by omega)]
    obtain ⟨a, b, c, _, _, _, ho⟩ := opv_form y.c
    unfold hcc
    rw [ho, he]
    rfl
  have HE := Lib.hid (hexists_any h h3 hl)
  have b1 : (k : Int) < H.calls.length := by omega
  have b2 : (H.calls.length : Int) ≤ 1000 := by omega
  have b3 : (H.calls.length : Int) ≤ cap := by omega
  clear h h5 hk
  unfold ptr at *
  go_enter Tryz.func75, Tryz.ntmps75
  go_wp2_with fail
  refine HE.out.mono ?_
  rintro e w1 ⟨rfl, rfl⟩
  go_wp2_with fail
  go_returns
  exact ⟨rfl, rfl⟩
end Go.Proofs.YtejlgnebofdijaaGreatDoor.Dv

namespace Go.Proofs.YtejlgnebofdijaaGreatDoor.Dv
open Go.RowKit
open Ln (Cl HC Hi)
set_option linter.unusedVariables false

theorem hcc_form (x : HC) : ∃ (k a b r : Nat) (ok : Bool), hcc x = [.int .i64 x.c.t, .int .u8 k, .int .u64 0, .int .u64 a, .int .u64 b, .int .i64 x.b, .int .i64 (enc x.e), .int .i64 x.era, .int .u64 r, .bool ok, .int .i64 0] := by
  obtain ⟨k, a, b, _, _, _, h⟩ := opv_form x.c
  unfold hcc
  rw [h]
  unfold rsc
  cases x.e with
  | none => exact ⟨k, a, b, 0, false, rfl⟩
  | some p => exact ⟨k, a, b, p.2, true, rfl⟩
def befB (x y : HC) : Bool := decide ((x.era : Int) < y.era) || (decide (0 ≤ enc x.e) && decide (enc x.e < y.b))
theorem befB_iff (x y : HC) : befB x y = true ↔ Ln.Bef x y := by
  unfold befB Ln.Bef
  rw [Bool.or_eq_true, Bool.and_eq_true, decide_eq_true_eq, decide_eq_true_eq, decide_eq_true_eq]
  unfold enc
  cases x.e with
  | none => simp
  | some p =>
    obtain ⟨p, v⟩ := p
    simp

def BeCut (w : World) (x y : HC) (z : Int) (u v : Value) (wc : World) : Prop := ∃ p q : Nat, u = .pointer (some ⟨p, 0, none⟩) ∧ v = .pointer (some ⟨q, 0, none⟩) ∧ wc.cell? ⟨p, 7, none⟩ = some (.int .i64 x.era) ∧ wc.cell? ⟨p, 6, none⟩ = some (.int .i64 z) ∧ wc.cell? ⟨q, 7, none⟩ = some (.int .i64 y.era) ∧ wc.cell? ⟨q, 5, none⟩ = some (.int .i64 y.b) ∧ Below w.heap.size w wc
theorem be_cut1 {w : World} {x y : HC} {z : Int} {c d : Array Value} {T : TypeId} (h1 : c[7]? = some (.int .i64 x.era)) (h2 : c[6]? = some (.int .i64 z)) (h3 : d[7]? = some (.int .i64 y.era)) (h4 : d[5]? = some (.int .i64 y.b)) :
    BeCut w x y z (.pointer (some ⟨w.heap.size, 0, none⟩)) (.pointer (some ⟨w.heap.size + 1, 0, none⟩)) ((w.alloc (.cells c T)).alloc (.cells d T)).drew := by
  have e0 : ((w.alloc (.cells c T)).alloc (.cells d T)).heap[w.heap.size]? = some (.cells c T (0, 0)) := by rw [heap_alloc_lt (by simp)]; exact heap_alloc_new _ _
  have e1 : ((w.alloc (.cells c T)).alloc (.cells d T)).heap[w.heap.size + 1]? = some (.cells d T (0, 0)) := by have := heap_alloc_new (w.alloc (.cells c T)) (.cells d T); simpa using this
  exact ⟨_, _, rfl, rfl, (cell_block (w := (((w.alloc (.cells c T)).alloc (.cells d T)).drew)) e0).trans h1, (cell_block (w := (((w.alloc (.cells c T)).alloc (.cells d T)).drew)) e0).trans h2, (cell_block (w := (((w.alloc (.cells c T)).alloc (.cells d T)).drew)) e1).trans h3, (cell_block (w := (((w.alloc (.cells c T)).alloc (.cells d T)).drew)) e1).trans h4, (below_alloc (below_alloc (Below.refl _ _))).drew⟩
theorem be_cut2 {w : World} {x y : HC} {z : Int} {c d : Array Value} {T : TypeId} (h1 : c[7]? = some (.int .i64 x.era)) (h2 : c[6]? = some (.int .i64 z)) (h3 : d[7]? = some (.int .i64 y.era)) (h4 : d[5]? = some (.int .i64 y.b)) :
    BeCut w x y z (.pointer (some ⟨w.heap.size + 1, 0, none⟩)) (.pointer (some ⟨w.heap.size, 0, none⟩)) ((w.alloc (.cells d T)).alloc (.cells c T)).drew := by
  have e0 : ((w.alloc (.cells d T)).alloc (.cells c T)).heap[w.heap.size]? = some (.cells d T (0, 0)) := by rw [heap_alloc_lt (by simp)]; exact heap_alloc_new _ _
  have e1 : ((w.alloc (.cells d T)).alloc (.cells c T)).heap[w.heap.size + 1]? = some (.cells c T (0, 0)) := by have := heap_alloc_new (w.alloc (.cells d T)) (.cells c T); simpa using this
  exact ⟨_, _, rfl, rfl, (cell_block (w := (((w.alloc (.cells d T)).alloc (.cells c T)).drew)) e1).trans h1, (cell_block (w := (((w.alloc (.cells d T)).alloc (.cells c T)).drew)) e1).trans h2, (cell_block (w := (((w.alloc (.cells d T)).alloc (.cells c T)).drew)) e0).trans h3, (cell_block (w := (((w.alloc (.cells d T)).alloc (.cells c T)).drew)) e0).trans h4, (below_alloc (below_alloc (Below.refl _ _))).drew⟩
set_option maxHeartbeats 4000000 in
set_option maxRecDepth 8000 in
theorem hbefore_any {X hb i j : Nat} {w : World} {H : Hi} {ev cv : Value} {x y : HC} (h : HAt X w hb H ev cv) (hi : H.calls[i]? = some x) (hj : H.calls[j]? = some y) (hl : H.calls.length ≤ 1000) :
    Calls Tryz.prog 70 #[ptr hb, .int .i64 i, .int .i64 j] w fun e w' => e = .returned (.bool (befB x y)) ∧ Below w.heap.size w w' := by
  obtain ⟨g, cap, rfl, h1, h2, h3, h4, h5⟩ := h.call hi
  obtain ⟨g', cap', hc', _, _, h3', _, h5'⟩ := h.call hj
  cases hc'
  have c1 : w.cell? ⟨hb, 1, none⟩ = some (.slice (some ⟨g, 0, none⟩) H.calls.length cap) := h.row.cell 1 (by omega)
  have HE := Lib.hid (hexists_any h h3 hl)
  have HE' := Lib.hid (hexists_any h h3' hl)
  obtain ⟨k, a, b, r, ok, hx⟩ := hcc_form x
  obtain ⟨k', a', b', r', ok', hy⟩ := hcc_form y
  rw [hx] at h5
  rw [hy] at h5'
  have x0 : w.cell? ⟨g, i * 11, none⟩ = some (.int .i64 x.c.t) := h5 0 (by omega)
  have x1 : w.cell? ⟨g, i * 11 + 1, none⟩ = some (.int .u8 k) := h5 1 (by omega)
  have x2 : w.cell? ⟨g, i * 11 + 2, none⟩ = some (.int .u64 0) := h5 2 (by omega)
  have x3 : w.cell? ⟨g, i * 11 + 3, none⟩ = some (.int .u64 a) := h5 3 (by omega)
  have x4 : w.cell? ⟨g, i * 11 + 4, none⟩ = some (.int .u64 b) := h5 4 (by omega)
  have x5 : w.cell? ⟨g, i * 11 + 5, none⟩ = some (.int .i64 x.b) := h5 5 (by omega)
  have x6 : w.cell? ⟨g, i * 11 + 6, none⟩ = some (.int .i64 (enc x.e)) := h5 6 (by omega)
  have x7 : w.cell? ⟨g, i * 11 + 7, none⟩ = some (.int .i64 x.era) := h5 7 (by omega)
  have x8 : w.cell? ⟨g, i * 11 + 8, none⟩ = some (.int .u64 r) := h5 8 (by omega)
  have x9 : w.cell? ⟨g, i * 11 + 9, none⟩ = some (.bool ok) := h5 9 (by omega)
  have x10 : w.cell? ⟨g, i * 11 + 10, none⟩ = some (.int .i64 0) := h5 10 (by omega)
  have y0 : w.cell? ⟨g, j * 11, none⟩ = some (.int .i64 y.c.t) := h5' 0 (by omega)
  have y1 : w.cell? ⟨g, j * 11 + 1, none⟩ = some (.int .u8 k') := h5' 1 (by omega)
  have y2 : w.cell? ⟨g, j * 11 + 2, none⟩ = some (.int .u64 0) := h5' 2 (by omega)
  have y3 : w.cell? ⟨g, j * 11 + 3, none⟩ = some (.int .u64 a') := h5' 3 (by omega)
  have y4 : w.cell? ⟨g, j * 11 + 4, none⟩ = some (.int .u64 b') := h5' 4 (by omega)
  have y5 : w.cell? ⟨g, j * 11 + 5, none⟩ = some (.int .i64 y.b) := h5' 5 (by omega)
  have y6 : w.cell? ⟨g, j * 11 + 6, none⟩ = some (.int .i64 (enc y.e)) := h5' 6 (by omega)
  have y7 : w.cell? ⟨g, j * 11 + 7, none⟩ = some (.int .i64 y.era) := h5' 7 (by omega)
  have y8 : w.cell? ⟨g, j * 11 + 8, none⟩ = some (.int .u64 r') := h5' 8 (by omega)
  have y9 : w.cell? ⟨g, j * 11 + 9, none⟩ = some (.bool ok') := h5' 9 (by omega)
  have y10 : w.cell? ⟨g, j * 11 + 10, none⟩ = some (.int .i64 0) := h5' 10 (by omega)
  have e1 : ∃ z, z = enc x.e := ⟨_, rfl⟩
  obtain ⟨z, hz⟩ := e1
  have e2 : ∃ z, z = enc y.e := ⟨_, rfl⟩
  obtain ⟨z', hz'⟩ := e2
  have GB := Lib.hid (show befB x y = (decide ((x.era : Int) < y.era) || (decide (0 ≤ z) && decide (z < y.b))) by unfold befB; rw [hz])
  rw [← hz] at x6
  rw [← hz'] at y6
  have b1 : (i : Int) < H.calls.length := by omega
  have b1' : (j : Int) < H.calls.length := by omega
  have b2 : (H.calls.length : Int) ≤ 1000 := by omega
  have b3 : (H.calls.length : Int) ≤ cap := by omega
  have hgl := World.block_lt_of_cell? _ _ x0
  have hhl := World.block_lt_of_cell? _ _ c1
  clear h h5 h5' hi hj hx hy hz hz'
  unfold ptr at *
  go_enter Tryz.func70, Tryz.ntmps70
  go_wp2_with fail
  refine HE.out.mono ?_
  rintro e w1 ⟨rfl, rfl⟩
  go_wp2_with fail
  refine HE'.out.mono ?_
  rintro e w1 ⟨rfl, rfl⟩
  go_upto_region 3 with fail
  go_cut [7, 8] (fun u v wc => BeCut w x y z u v wc)
  case first =>
    go_region
    all_goals
      go_wp2_with fail
      go_meet
      first
        | exact be_cut1 rfl rfl rfl rfl
        | exact be_cut2 rfl rfl rfl rfl
  case rest =>
    obtain ⟨p, q, rfl, rfl, u1, u2, u3, u4, hbl⟩ := hcut
    have G := Lib.hid hbl
    clear hbl x0 x1 x2 x3 x4 x5 x6 x7 x8 x9 x10 y0 y1 y2 y3 y4 y5 y6 y7 y8 y9 y10 c1 HE HE'
    by_cases d1 : (x.era : Int) < y.era
    · have GG := Lib.hid (show befB x y = true by rw [GB.out, decide_eq_true d1]; rfl)
      have d1' : decide ((x.era : Int) < y.era) = true := decide_eq_true d1
      go_wp2_with fail
      go_returns
      exact ⟨by rw [GG.out]; rfl, G.out⟩
    · have d1' : decide ((x.era : Int) < y.era) = false := decide_eq_false d1
      by_cases d2 : 0 ≤ z
      · have GG := Lib.hid (show befB x y = decide (z < y.b) by rw [GB.out, d1', decide_eq_true d2]; simp)
        have d2' : decide (0 ≤ z) = true := decide_eq_true d2
        go_wp2_with fail
        go_returns
        exact ⟨by rw [GG.out]; rfl, G.out⟩
      · have GG := Lib.hid (show befB x y = false by rw [GB.out, d1', decide_eq_false d2]; rfl)
        have d2' : decide (0 ≤ z) = false := decide_eq_false d2
        go_wp2_with fail
        go_returns
        exact ⟨by rw [GG.out]; rfl, G.out⟩
end Go.Proofs.YtejlgnebofdijaaGreatDoor.Dv

namespace Go.Proofs.YtejlgnebofdijaaGreatDoor.Dv
open Go.RowKit
open Ln (Cl HC Hi)
set_option linter.unusedVariables false

theorem HAt.congr8 {X hb : Nat} {w : World} {H H' : Hi} {ev cv : Value} (h : HAt X w hb H ev cv) (h1 : H'.n = H.n) (h2 : H'.calls = H.calls) (h3 : ∀ k, k < 8 → H'.busy k = H.busy k) (h4 : H'.era = H.era) : HAt X w hb H' ev cv := by
  refine ⟨h.row.congr (fun x hx => ?_), by rw [h1]; exact h.ev, by rw [h2]; exact h.cv, h.lo⟩
  have : x = 0 ∨ x = 1 ∨ x = 2 ∨ x = 3 ∨ x = 4 ∨ x = 5 ∨ x = 6 ∨ x = 7 ∨ x = 8 ∨ x = 9 ∨ x = 10 := by omega
  rcases this with rfl | rfl | rfl | rfl | rfl | rfl | rfl | rfl | rfl | rfl | rfl
  · rfl
  · rfl
  · show Value.bool _ = Value.bool _; rw [h3 0 (by omega)]
  · show Value.bool _ = Value.bool _; rw [h3 1 (by omega)]
  · show Value.bool _ = Value.bool _; rw [h3 2 (by omega)]
  · show Value.bool _ = Value.bool _; rw [h3 3 (by omega)]
  · show Value.bool _ = Value.bool _; rw [h3 4 (by omega)]
  · show Value.bool _ = Value.bool _; rw [h3 5 (by omega)]
  · show Value.bool _ = Value.bool _; rw [h3 6 (by omega)]
  · show Value.bool _ = Value.bool _; rw [h3 7 (by omega)]
  · show Value.int _ _ = Value.int _ _; rw [h4]
theorem HAt.setEra {X hb e : Nat} {w : World} {H : Hi} {ev cv : Value} (h : HAt X w hb H ev cv) : HAt X (w.setCell ⟨hb, 10, none⟩ (.int .i64 e)) hb { H with era := e } ev cv := by
  obtain ⟨xs, hx⟩ := h.ev
  refine ⟨(h.row.set 10 (.int .i64 e)).congr (fun x hx => ?_), ⟨xs, own_agree hx (fun c hb2 => heap_set_ne (fun e => row_own_ne h.row hx (by decide) (by rw [hb2, e])))⟩, own_agree h.cv (fun c hb2 => heap_set_ne (fun e => row_own_ne h.row h.cv (by decide) (by rw [hb2, e]))), h.lo⟩
  have : x = 0 ∨ x = 1 ∨ x = 2 ∨ x = 3 ∨ x = 4 ∨ x = 5 ∨ x = 6 ∨ x = 7 ∨ x = 8 ∨ x = 9 ∨ x = 10 := by omega
  rcases this with rfl | rfl | rfl | rfl | rfl | rfl | rfl | rfl | rfl | rfl | rfl <;> rfl
theorem HAt.calm {X hb : Nat} {w : World} {H : Hi} {ev cv : Value} (h : HAt X w hb H ev cv) :
    HAt X ((((((((w.setCell ⟨hb, 2, none⟩ (.bool false)).setCell ⟨hb, 3, none⟩ (.bool false)).setCell ⟨hb, 4, none⟩ (.bool false)).setCell ⟨hb, 5, none⟩ (.bool false)).setCell ⟨hb, 6, none⟩ (.bool false)).setCell ⟨hb, 7, none⟩ (.bool false)).setCell ⟨hb, 8, none⟩ (.bool false)).setCell ⟨hb, 9, none⟩ (.bool false)) hb { H with busy := fun _ => false } ev cv := by
  have := ((((((((h.setBusy (t := 0) (by omega) false).setBusy (t := 1) (by omega) false).setBusy (t := 2) (by omega) false).setBusy (t := 3) (by omega) false).setBusy (t := 4) (by omega) false).setBusy (t := 5) (by omega) false).setBusy (t := 6) (by omega) false).setBusy (t := 7) (by omega) false)
  refine this.congr8 rfl rfl (fun k hk => ?_) rfl
  have h8 : k = 0 ∨ k = 1 ∨ k = 2 ∨ k = 3 ∨ k = 4 ∨ k = 5 ∨ k = 6 ∨ k = 7 := by omega
  rcases h8 with rfl | rfl | rfl | rfl | rfl | rfl | rfl | rfl <;> simp [Ln.up]

set_option maxHeartbeats 4000000 in
set_option maxRecDepth 8000 in
theorem hcrash_any {X hb : Nat} {w : World} {H : Hi} {ev cv : Value} (h : HAt X w hb H ev cv) (hn : H.n ≤ 1000) (he : H.era ≤ 1000) (hX : X ≤ w.heap.size) :
    Calls Tryz.prog 44 #[ptr hb] w fun e w' => e = .returned (.tuple #[]) ∧ HPost X w hb H.crash w' ∧ HFr hb ev cv w w' := by
  obtain ⟨xs, hx⟩ := h.ev
  have c0 : w.cell? ⟨hb, 0, none⟩ = some ev := h.row.cell 0 (by omega)
  obtain ⟨ea, ec, rfl⟩ := own_slice hx
  have b1 : (H.era : Int) ≤ 1000 := by omega
  have HX := Lib.hid hx; have HH := Lib.hid h
  have HN := Lib.hid (show H.n + 1 ≤ maxLen ∧ (H.n + 1) * 16 ≤ 140737488355328 by unfold maxLen; omega)
  clear h hx
  unfold ptr
  go_enter Tryz.func44, Tryz.ntmps44
  go_wp2_with (at_builtin; refine wpList_own1 elEvents rfl _ _ rfl HX.out rfl rfl ?c1 rfl ?c2 ?c3 ?c4 ?c5 ?_)
  case c1 => rfl
  case c2 => exact ⟨rfl, rfl⟩
  case c3 => exact HN.out.1
  case c4 => exact HN.out.2
  case c5 => exact hX
  intro g6 cap6 w6 hop6 hgr6 hg6
  have h6 := HH.out.pushEvent hop6 rfl hgr6
  have h7 := h6.calm
  have h8 := h7.setEra (e := H.era + 1)
  have hrow6 : Row w6 hb 178 11 _ := HH.out.row.of_block (hgr6.block _ HH.out.row.lt (Ne.symm (row_own_ne HH.out.row HX.out (by decide))))
  have l0 := hrow6.cell 0 (by omega)
  have l2 := hrow6.cell 2 (by omega)
  have l3 := hrow6.cell 3 (by omega)
  have l4 := hrow6.cell 4 (by omega)
  have l5 := hrow6.cell 5 (by omega)
  have l6 := hrow6.cell 6 (by omega)
  have l7 := hrow6.cell 7 (by omega)
  have l8 := hrow6.cell 8 (by omega)
  have l9 := hrow6.cell 9 (by omega)
  have l10 : w6.cell? ⟨hb, 10, none⟩ = some (.int .i64 H.era) := hrow6.cell 10 (by omega)
  have m := fun i => hrow6.free i
  have m0 := m 0
  have m2 := m 2
  have m3 := m 3
  have m4 := m 4
  have m5 := m 5
  have m6 := m 6
  have m7 := m 7
  have m8 := m 8
  have m9 := m 9
  have m10 := m 10
  have hlo := HH.out.lo
  have hb6 := below_grown (Below.refl X w) hgr6 hX (fun b2 hb2 => (HX.out.lt b2 hb2).1)
  have hb8 := ((((((((((hb6.setCell (p := ⟨hb, 0, none⟩) hlo (.slice (some ⟨g6, 0, none⟩) (H.n + 1) cap6)).setCell (p := ⟨hb, 2, none⟩) hlo (.bool false)).setCell (p := ⟨hb, 3, none⟩) hlo (.bool false)).setCell (p := ⟨hb, 4, none⟩) hlo (.bool false)).setCell (p := ⟨hb, 5, none⟩) hlo (.bool false)).setCell (p := ⟨hb, 6, none⟩) hlo (.bool false)).setCell (p := ⟨hb, 7, none⟩) hlo (.bool false)).setCell (p := ⟨hb, 8, none⟩) hlo (.bool false)).setCell (p := ⟨hb, 9, none⟩) hlo (.bool false)).setCell (p := ⟨hb, 10, none⟩) hlo (.int .i64 ((H.era + 1 : Nat) : Int)))
  have GF := Lib.hid ((((((((((((Only.refl (fun b => b = hb ∨ (Value.slice ea H.n ec).ownBlock = some b ∨ cv.ownBlock = some b) w).grown hgr6 (fun b _ e => .inr (.inl e))).set (b := hb) (i := 0) (.inl rfl) (.slice (some ⟨g6, 0, none⟩) (H.n + 1) cap6)).set (b := hb) (i := 2) (.inl rfl) (.bool false)).set (b := hb) (i := 3) (.inl rfl) (.bool false)).set (b := hb) (i := 4) (.inl rfl) (.bool false)).set (b := hb) (i := 5) (.inl rfl) (.bool false)).set (b := hb) (i := 6) (.inl rfl) (.bool false)).set (b := hb) (i := 7) (.inl rfl) (.bool false)).set (b := hb) (i := 8) (.inl rfl) (.bool false)).set (b := hb) (i := 9) (.inl rfl) (.bool false)).set (b := hb) (i := 10) (.inl rfl) (.int .i64 ((H.era + 1 : Nat) : Int)))
  have GG := Lib.hid (show HPost X w hb H.crash _ from ⟨_, _, h8.congr rfl rfl rfl rfl, hb8⟩)
  clear h6 h7 h8 hrow6 hb6 hb8 hop6 hgr6 hg6 HH HX m c0 hlo
  go_wp2_with fail
  go_returns
  exact ⟨rfl, GG.out, GF.out⟩
end Go.Proofs.YtejlgnebofdijaaGreatDoor.Dv

namespace Go.Proofs.YtejlgnebofdijaaGreatDoor.Dv
open Go.RowKit
open Ln (Cl HC Hi)
set_option linter.unusedVariables false

theorem modify_set {l : List HC} {k : Nat} {y : HC} (h : l[k]? = some y) (f : HC → HC) : l.modify k f = l.set k (f y) := by
  apply List.ext_getElem?
  intro i
  rw [List.getElem?_modify, List.getElem?_set]
  by_cases e : k = i
  · subst e
    rw [if_pos rfl, if_pos (List.getElem?_eq_some_iff.1 h).1, h]
    simp
  · rw [if_neg e]
    cases l[i]? <;> simp [e]
theorem hccs_end {l : List HC} {k p v : Nat} {y : HC} (h : l[k]? = some y) :
    ((((hccs l).set (k * 11 + 6) (.int .i64 p)).set (k * 11 + 8) (.int .u64 v)).set (k * 11 + 9) (.bool true)).set (k * 11 + 10) (.int .i64 0) = hccs (l.modify k (fun x => { x with e := some (p, v) })) := by
  have hlt := (List.getElem?_eq_some_iff.1 h).1
  have e0 : hccs l = (l.map hcc).flatten := by unfold hccs; rw [List.flatMap_def]
  have hlen : ∀ (L : List (List Value)), (∀ x ∈ L, x.length = 11) → ∀ r : List Value, r.length = 11 → ∀ x ∈ L.set k r, x.length = 11 := by
    intro L hL r hr x hx
    rcases List.mem_or_eq_of_mem_set hx with h1 | h1
    · exact hL x h1
    · rw [h1]; exact hr
  have hL0 : ∀ x ∈ l.map hcc, x.length = 11 := fun x hx => by obtain ⟨z, _, rfl⟩ := List.mem_map.1 hx; exact hcc_len z
  have g0 : (l.map hcc)[k]? = some (hcc y) := by rw [List.getElem?_map, h]; rfl
  have get : ∀ (L : List (List Value)) (r : List Value), L.length = l.length → (L.set k r)[k]? = some r := fun L r hl => by rw [List.getElem?_set, if_pos rfl, if_pos (by omega)]
  have ll : (l.map hcc).length = l.length := List.length_map ..
  rw [e0, flat_set (by omega) _ k (hcc y) g0 hL0]
  have r1 : ((hcc y).set 6 (.int .i64 p)).length = 11 := by rw [List.length_set, hcc_len]
  have L1 := hlen _ hL0 _ r1
  rw [flat_set (by omega) _ k _ (get _ _ ll) L1, List.set_set]
  have r2 : (((hcc y).set 6 (.int .i64 p)).set 8 (.int .u64 v)).length = 11 := by rw [List.length_set, r1]
  have L2 := hlen _ hL0 _ r2
  rw [flat_set (by omega) _ k _ (get _ _ ll) L2, List.set_set]
  have r3 : ((((hcc y).set 6 (.int .i64 p)).set 8 (.int .u64 v)).set 9 (.bool true)).length = 11 := by rw [List.length_set, r2]
  have L3 := hlen _ hL0 _ r3
  rw [flat_set (by omega) _ k _ (get _ _ ll) L3, List.set_set]
  have hy : ((((hcc y).set 6 (.int .i64 p)).set 8 (.int .u64 v)).set 9 (.bool true)).set 10 (.int .i64 0) = hcc { y with e := some (p, v) } := by
    obtain ⟨a, b, c, _, _, _, ho⟩ := opv_form y.c
    unfold hcc
    dsimp only
    rw [ho]
    unfold rsc
    cases y.e <;> rfl
  rw [hy, modify_set h, ← List.map_set]
  unfold hccs
  rw [List.flatMap_def]

theorem HAt.sets {X hb g n cap : Nat} {w w' : World} {H : Hi} {ev : Value} (h : HAt X w hb H ev (.slice (some ⟨g, 0, none⟩) n cap)) (hag : ∀ b, b ≠ g → w'.heap[b]? = w.heap[b]?) {cs : List HC} (hl : cs.length = H.calls.length)
    (ho : w'.ownsRow X 168 11 (.slice (some ⟨g, 0, none⟩) n cap) H.calls.length (hccs cs)) : HAt X w' hb { H with calls := cs } ev (.slice (some ⟨g, 0, none⟩) n cap) := by
  obtain ⟨xs, hx⟩ := h.ev
  have hne : hb ≠ g := fun e => row_own_ne h.row h.cv (by decide) (by rw [e]; rfl)
  refine ⟨(h.row.of_block (hag _ hne)).congr (fun x hx => rfl), ⟨xs, own_agree hx (fun b hb2 => hag b (fun e => ?_))⟩, by rw [hl]; exact ho, h.lo⟩
  rcases own_ne hx h.cv (by decide) with e1 | e1
  · rw [e1] at hb2; cases hb2
  · exact e1 (hb2.trans (by rw [e]; rfl))
theorem HAt.ended1 {X hb g n cap k v : Nat} {w : World} {H : Hi} {ev : Value} {y : HC} (h : HAt X w hb H ev (.slice (some ⟨g, 0, none⟩) n cap)) (hk : H.calls[k]? = some y) :
    HAt X ((((w.setCell ⟨g, k * 11 + 6, none⟩ (.int .i64 H.n)).setCell ⟨g, k * 11 + 8, none⟩ (.int .u64 v)).setCell ⟨g, k * 11 + 9, none⟩ (.bool true)).setCell ⟨g, k * 11 + 10, none⟩ (.int .i64 0)) hb { H with calls := H.calls.modify k (fun x => { x with e := some (H.n, v) }) } ev (.slice (some ⟨g, 0, none⟩) n cap) := by
  have hlt := (List.getElem?_eq_some_iff.1 hk).1
  obtain ⟨g', cap', e, _, _, _, _, _⟩ := h.call hk
  have hn : n = H.calls.length := by cases e; rfl
  have hxl : (hccs H.calls).length = H.calls.length * 11 := h.cv.1
  subst hn
  refine h.sets (fun b hb2 => ?_) (List.length_modify ..) ?_
  · rw [heap_set_ne hb2, heap_set_ne hb2, heap_set_ne hb2, heap_set_ne hb2]
  · rw [← hccs_end hk]
    exact own_put (own_put (own_put (own_put h.cv (by omega) _) (by simp; omega) _) (by simp; omega) _) (by simp; omega) _
theorem HAt.ended2 {X hb g n cap k v : Nat} {w : World} {H : Hi} {ev : Value} {y : HC} (h : HAt X w hb H ev (.slice (some ⟨g, 0, none⟩) n cap)) (hk : H.calls[k]? = some y) :
    HAt X ((((w.setCell ⟨g, k * 11 + 8, none⟩ (.int .u64 v)).setCell ⟨g, k * 11 + 9, none⟩ (.bool true)).setCell ⟨g, k * 11 + 10, none⟩ (.int .i64 0)).setCell ⟨g, k * 11 + 6, none⟩ (.int .i64 H.n)) hb { H with calls := H.calls.modify k (fun x => { x with e := some (H.n, v) }) } ev (.slice (some ⟨g, 0, none⟩) n cap) := by
  have hlt := (List.getElem?_eq_some_iff.1 hk).1
  obtain ⟨g', cap', e, _, _, _, _, _⟩ := h.call hk
  have hn : n = H.calls.length := by cases e; rfl
  have hxl : (hccs H.calls).length = H.calls.length * 11 := h.cv.1
  subst hn
  refine h.sets (fun b hb2 => ?_) (List.length_modify ..) ?_
  · rw [heap_set_ne hb2, heap_set_ne hb2, heap_set_ne hb2, heap_set_ne hb2]
  · rw [← hccs_end hk, List.set_comm _ _ (show k * 11 + 6 ≠ k * 11 + 8 by omega), List.set_comm _ _ (show k * 11 + 6 ≠ k * 11 + 9 by omega), List.set_comm _ _ (show k * 11 + 6 ≠ k * 11 + 10 by omega)]
    exact own_put (own_put (own_put (own_put h.cv (by omega) _) (by simp; omega) _) (by simp; omega) _) (by simp; omega) _
def RtCut (X : Nat) (w : World) (hb : Nat) (H : Hi) (ev : Value) (g n cap k v : Nat) (wc : World) : Prop := HAt X wc hb { H with calls := H.calls.modify k (fun x => { x with e := some (H.n, v) }) } ev (.slice (some ⟨g, 0, none⟩) n cap) ∧ Below X w wc ∧ HFr hb ev (.slice (some ⟨g, 0, none⟩) n cap) w wc

set_option maxHeartbeats 4000000 in
set_option maxRecDepth 8000 in
theorem hreturn_any {X hb k v : Nat} {w0 : World} {H : Hi} {ev cv : Value} {y : HC} (h0 : HAt X w0 hb H ev cv) (hk : H.calls[k]? = some y) (he : y.e = none) (hera : y.era = H.era) (ht : y.c.t < 8) (hn : H.n ≤ 1000) (hl : H.calls.length ≤ 1000) (hX : X ≤ w0.heap.size) :
    Calls Tryz.prog 45 #[ptr hb, .int .i64 k, rdone v] w0 fun e w' => e = .returned (.bool true) ∧ HPost X w0 hb (H.fin k v y.c.t) w' ∧ HFr hb ev cv w0 w' := by
  have hbl := below_alloc (Below.refl w0.heap.size w0) (o := .cells #[.int .u64 v, .bool true, .int .i64 0] 50)
  have hop := heap_alloc_new w0 (.cells #[.int .u64 v, .bool true, .int .i64 0] 50)
  obtain ⟨w, hw⟩ : ∃ w, w = w0.alloc (.cells #[.int .u64 v, .bool true, .int .i64 0] 50) := ⟨_, rfl⟩
  rw [← hw] at hbl hop
  have h := h0.below hbl
  obtain ⟨g, cap, rfl, hc1, hc2, hc3, hXg, h5⟩ := h.call hk
  obtain ⟨xs, hx⟩ := h.ev
  obtain ⟨ea, ec, rfl⟩ := own_slice hx
  have hne : hb ≠ g := fun e => row_own_ne h.row h.cv (by decide) (by rw [e]; rfl)
  have c0 : w.cell? ⟨hb, 0, none⟩ = some (.slice ea H.n ec) := h.row.cell 0 (by omega)
  have c1 : w.cell? ⟨hb, 1, none⟩ = some (.slice (some ⟨g, 0, none⟩) H.calls.length cap) := h.row.cell 1 (by omega)
  have c10 : w.cell? ⟨hb, 10, none⟩ = some (.int .i64 H.era) := h.row.cell 10 (by omega)
  have o0 : w.cell? ⟨w0.heap.size, 0, none⟩ = some (.int .u64 v) := (cell_block hop).trans rfl
  have o1 : w.cell? ⟨w0.heap.size, 1, none⟩ = some (.bool true) := (cell_block hop).trans rfl
  have o2 : w.cell? ⟨w0.heap.size, 2, none⟩ = some (.int .i64 0) := (cell_block hop).trans rfl
  have k7 : w.cell? ⟨g, k * 11 + 7, none⟩ = some (.int .i64 H.era) := by
    rw [h5 7 (by omega), ← hera]
    obtain ⟨a, b, c, _, _, _, ho⟩ := opv_form y.c
    unfold hcc
    rw [ho]
    rfl
  have fg : ∀ i, w.frozen? ⟨g, i, none⟩ = false := by
    rcases h.cv.2 with ⟨e, _⟩ | ⟨g', cap', cur, e, _, hh, _⟩
    · cases e
    · cases e; exact fun i => free_block hh
  have f6 := fg (k * 11 + 6)
  have f8 := fg (k * 11 + 8)
  have f9 := fg (k * 11 + 9)
  have f10 := fg (k * 11 + 10)
  have k6 : ∃ u, w.cell? ⟨g, k * 11 + 6, none⟩ = some u := by rw [h5 6 (by omega)]; exact ⟨_, List.getElem?_eq_getElem (by rw [hcc_len]; omega)⟩
  have k8 : ∃ u, w.cell? ⟨g, k * 11 + 8, none⟩ = some u := by rw [h5 8 (by omega)]; exact ⟨_, List.getElem?_eq_getElem (by rw [hcc_len]; omega)⟩
  have k9 : ∃ u, w.cell? ⟨g, k * 11 + 9, none⟩ = some u := by rw [h5 9 (by omega)]; exact ⟨_, List.getElem?_eq_getElem (by rw [hcc_len]; omega)⟩
  have k10 : ∃ u, w.cell? ⟨g, k * 11 + 10, none⟩ = some u := by rw [h5 10 (by omega)]; exact ⟨_, List.getElem?_eq_getElem (by rw [hcc_len]; omega)⟩
  obtain ⟨u6, k6⟩ := k6
  obtain ⟨u8, k8⟩ := k8
  obtain ⟨u9, k9⟩ := k9
  obtain ⟨u10, k10⟩ := k10
  have hgl := World.block_lt_of_cell? _ _ k6
  have HP := Lib.hid (fun W (hb2 : Below w.heap.size w W) => hpend_any (h.below hb2) hk he hl)
  have HH := Lib.hid h; have HK := Lib.hid hk; have HBL := Lib.hid hbl; have HW := Lib.hid hw; have HT := Lib.hid ht; have HNE := Lib.hid hne; have HX0 := Lib.hid (And.intro hX hXg)
  have b1 : (k : Int) < H.calls.length := by omega
  have b2 : (H.calls.length : Int) ≤ 1000 := by omega
  have b3 : (H.calls.length : Int) ≤ cap := by omega
  have b4 : (H.n : Int) ≤ 1000 := by omega
  have b5 : (y.c.t : Int) < 8 := by omega
  clear h hop hbl hw h0 hk he hera hx h5 fg hne ht hX hXg
  unfold ptr rdone at *
  go_enter Tryz.func45, Tryz.ntmps45
  go_upto_region 1 with fail
  rw [← HW.out]
  go_quiet ((go_at_call 75; exact quiet_same (HP.out _ (by repeat (first | exact Below.refl _ _ | apply below_drewN | apply below_drew)))))
  clear HP
  have G1 := Lib.hid (fun (W : World) (hb2 : Below w.heap.size w W) => show RtCut X w0 hb H (.slice ea H.n ec) g H.calls.length cap k v ((((W.setCell ⟨g, k * 11 + 6, none⟩ (.int .i64 H.n)).setCell ⟨g, k * 11 + 8, none⟩ (.int .u64 v)).setCell ⟨g, k * 11 + 9, none⟩ (.bool true)).setCell ⟨g, k * 11 + 10, none⟩ (.int .i64 0)) from
    ⟨(HH.out.below hb2).ended1 HK.out, ((((((HBL.out.trans (hb2.mono HBL.out.size)).mono HX0.out.1).setCell (p := ⟨g, k * 11 + 6, none⟩) HX0.out.2 _).setCell (p := ⟨g, k * 11 + 8, none⟩) HX0.out.2 _).setCell (p := ⟨g, k * 11 + 9, none⟩) HX0.out.2 _).setCell (p := ⟨g, k * 11 + 10, none⟩) HX0.out.2 _), (((((Only.of_below (HBL.out.trans (hb2.mono HBL.out.size))).set (b := g) (i := k * 11 + 6) (.inr (.inr rfl)) _).set (b := g) (i := k * 11 + 8) (.inr (.inr rfl)) _).set (b := g) (i := k * 11 + 9) (.inr (.inr rfl)) _).set (b := g) (i := k * 11 + 10) (.inr (.inr rfl)) _)⟩)
  have G2 := Lib.hid (fun (W : World) (hb2 : Below w.heap.size w W) => show RtCut X w0 hb H (.slice ea H.n ec) g H.calls.length cap k v ((((W.setCell ⟨g, k * 11 + 8, none⟩ (.int .u64 v)).setCell ⟨g, k * 11 + 9, none⟩ (.bool true)).setCell ⟨g, k * 11 + 10, none⟩ (.int .i64 0)).setCell ⟨g, k * 11 + 6, none⟩ (.int .i64 H.n)) from
    ⟨(HH.out.below hb2).ended2 HK.out, ((((((HBL.out.trans (hb2.mono HBL.out.size)).mono HX0.out.1).setCell (p := ⟨g, k * 11 + 8, none⟩) HX0.out.2 _).setCell (p := ⟨g, k * 11 + 9, none⟩) HX0.out.2 _).setCell (p := ⟨g, k * 11 + 10, none⟩) HX0.out.2 _).setCell (p := ⟨g, k * 11 + 6, none⟩) HX0.out.2 _), (((((Only.of_below (HBL.out.trans (hb2.mono HBL.out.size))).set (b := g) (i := k * 11 + 8) (.inr (.inr rfl)) _).set (b := g) (i := k * 11 + 9) (.inr (.inr rfl)) _).set (b := g) (i := k * 11 + 10) (.inr (.inr rfl)) _).set (b := g) (i := k * 11 + 6) (.inr (.inr rfl)) _)⟩)
  go_upto_region 4 with fail
  go_cut [7] (fun p wc => p = .pointer (some ⟨g, k * 11, none⟩) ∧ RtCut X w0 hb H (.slice ea H.n ec) g H.calls.length cap k v wc)
  case first =>
    go_region
    all_goals
      go_wp2_with fail
      go_meet
      first
        | exact ⟨rfl, G1.out _ (by repeat (first | exact Below.refl _ _ | apply below_drewN | apply below_drew))⟩
        | exact ⟨rfl, G2.out _ (by repeat (first | exact Below.refl _ _ | apply below_drewN | apply below_drew))⟩
  case rest =>
    obtain ⟨rfl, h5, hb5, hfr5⟩ := hcut
    have HFR5 := Lib.hid hfr5
    clear hfr5
    obtain ⟨xs, hx5⟩ := h5.ev
    have k0 : wc.cell? ⟨hb, 0, none⟩ = some (.slice ea H.n ec) := h5.row.cell 0 (by omega)
    have H5 := Lib.hid h5; have HX5 := Lib.hid hx5; have HB5 := Lib.hid hb5
    have hmod : (H.calls.modify k (fun x => { x with e := some (H.n, v) }))[k]? = some { y with e := some (H.n, v) } := by rw [List.getElem?_modify, HK.out]; simp
    have HM := Lib.hid hmod
    clear h5 hx5 hb5 G1 G2 HH HK hmod c0 c1 c10 o0 o1 o2 k7 f6 f8 f9 f10 k6 k8 k9 k10
    go_wp2_with (at_builtin; refine wpList_own1 elEvents rfl _ _ rfl HX5.out rfl rfl ?c1 rfl ?c2 ?c3 ?c4 ?c5 ?_)
    case c1 => rfl
    case c2 => exact ⟨rfl, rfl⟩
    case c3 => show H.n + 1 ≤ _; unfold maxLen; omega
    case c4 => show (H.n + 1) * 16 ≤ _; omega
    case c5 => exact Nat.le_trans HX0.out.1 HB5.out.size
    intro g6 cap6 w6 hop6 hgr6 hg6
    have h6 := H5.out.pushEvent hop6 rfl hgr6
    have h7 := h6.setBusy HT.out false
    have hrow6 : Row w6 hb 178 11 _ := H5.out.row.of_block (hgr6.block _ H5.out.row.lt (Ne.symm (row_own_ne H5.out.row HX5.out (by decide))))
    have l0 := hrow6.cell 0 (by omega)
    have m0 := hrow6.free 0
    have m1 := hrow6.free (2 + y.c.t)
    have lv : ∃ v, w6.cell? ⟨hb, 2 + y.c.t, none⟩ = some v := ⟨_, hrow6.cell (2 + y.c.t) (by have := HT.out; omega)⟩
    obtain ⟨lv, hlv⟩ := lv
    obtain ⟨g', cap', hcv, _, _, _, _, h65⟩ := h6.call HM.out
    have hgg : g' = g := by
      simp only [Value.slice.injEq, Option.some.injEq, Addr.mk.injEq] at hcv
      exact hcv.1.1.symm
    subst hgg
    have kt : (w6.setCell ⟨hb, 0, none⟩ (.slice (some ⟨g6, 0, none⟩) (H.n + 1) cap6)).cell? ⟨g', k * 11, none⟩ = some (.int .i64 y.c.t) := by
      have := h65 0 (by omega)
      have this : (w6.setCell ⟨hb, 0, none⟩ (.slice (some ⟨g6, 0, none⟩) (H.n + 1) cap6)).cell? ⟨g', k * 11, none⟩ = _ := this
      rw [this]
      obtain ⟨a, b, c, _, _, _, ho⟩ := opv_form y.c
      unfold hcc
      dsimp only
      rw [ho]
      rfl
    have hb7 := ((below_grown HB5.out hgr6 (Nat.le_trans HX0.out.1 HB5.out.size) (fun b2 hb2 => (HX5.out.lt b2 hb2).1)).setCell (p := ⟨hb, 0, none⟩) H5.out.lo (.slice (some ⟨g6, 0, none⟩) (H.n + 1) cap6)).setCell (p := ⟨hb, 2 + y.c.t, none⟩) H5.out.lo (.bool false)
    have GF := Lib.hid (Only.drew (Only.set (Only.set (HFR5.out.grown hgr6 (fun b _ e => .inr (.inl e))) (b := hb) (i := 0) (.inl rfl) (.slice (some ⟨g6, 0, none⟩) (H.n + 1) cap6)) (b := hb) (i := 2 + y.c.t) (.inl rfl) (.bool false)))
    have GG := Lib.hid (show HPost X w0 hb (H.fin k v y.c.t) _ from ⟨_, _, (h7.congr rfl rfl rfl rfl).below (Below.refl _ _).drew, hb7.drew⟩)
    have b5 := HT.out
    have b6 : (y.c.t : Int) < 8 := by omega
    clear h6 h7 hrow6 hb7 hop6 hgr6 hg6 H5 HX5 HB5 HFR5 k0 h65 hcv HM HT b5
    go_wp2_with fail
    go_region
    all_goals
      go_wp2_with fail
      go_returns
      exact ⟨rfl, GG.out, GF.out⟩

/-- The calls as Calls returns them. -/
def Cls (w : World) (cs : List HC) (v : Value) : Prop := ∃ ca cc, v = .slice ca cs.length cc ∧ cs.length ≤ cc ∧ ∀ (k : Nat) (y : HC), cs[k]? = some y → ∃ g, ca = some ⟨g, 0, none⟩ ∧ g < w.heap.size ∧ ∀ j, j < 11 → w.cell? ⟨g, k * 11 + j, none⟩ = (hcc y)[j]?
theorem Cls.below {w w' : World} {cs : List HC} {v : Value} (h : Cls w cs v) (hb : Below w.heap.size w w') : Cls w' cs v := by
  obtain ⟨ca, cc, rfl, h1, h2⟩ := h
  refine ⟨ca, cc, rfl, h1, fun k y hk => ?_⟩
  obtain ⟨g, e, hg, h3⟩ := h2 k y hk
  exact ⟨g, e, Nat.lt_of_lt_of_le hg hb.size, fun j hj => by rw [← h3 j hj]; exact hb.cell (p := ⟨g, k * 11 + j, none⟩) hg⟩
theorem cls_own {w : World} {X g cap : Nat} {cs : List HC} (h : w.ownsRow X 168 11 (.slice (some ⟨g, 0, none⟩) cs.length cap) cs.length (hccs cs)) : Cls w cs (.slice (some ⟨g, 0, none⟩) cs.length cap) := by
  rcases h.2 with ⟨e, _⟩ | ⟨g', cap', cur, e, hb2, hh, hc, hm, hs, ht⟩
  · cases e
  · cases e
    refine ⟨_, _, rfl, hc, fun k y hk => ⟨g, rfl, heap_lt hh, fun j hj => ?_⟩⟩
    have := hccs_get hk hj
    have hjl : j < (hcc y).length := by rw [hcc_len]; exact hj
    rw [List.getElem?_eq_getElem hjl] at this ⊢
    have h2 := h.cells (g := g) rfl _ _ this
    rw [Addr.add_lit, Nat.zero_add] at h2
    exact h2
def CaPost (w : World) (cs : List HC) (e : Ending) (w' : World) : Prop := ∃ v, e = .returned v ∧ Cls w' cs v ∧ Below w.heap.size w w'
theorem hcc_one (x : HC) : ∀ u ∈ hcc x, u.oneCell' = true := by
  intro u hu
  obtain ⟨k, a, b, _, _, _, h⟩ := opv_form x.c
  unfold hcc rsc at hu
  rcases he : x.e with _ | ⟨p, v⟩ <;> rw [h, he] at hu <;> simp at hu <;> rcases hu with rfl | rfl | rfl | rfl | rfl | rfl | rfl | rfl | rfl | rfl | rfl <;> rfl
theorem clone_calls {w : World} {X : Nat} {cv : Value} {cs : List HC} (h : w.ownsRow X 168 11 cv cs.length (hccs cs)) (hl : cs.length ≤ 1000) :
    Calls Tryz.prog 115 #[cv] w (CaPost w cs) := by
  have q1 := fun (w : World) (a : Option Addr) (n c n' c' : Nat) => Lib.run_eql_slice_nil (P := Tryz.prog) w _ _ a n c n' c' Tryz.underlying124
  rcases h.2 with ⟨rfl, h0⟩ | ⟨b, cap, cur, rfl, hb, hh, hc, hm, hs, ht⟩
  · have GG := Lib.hid (show CaPost w cs (.returned (.slice none 0 0)) w from ⟨_, rfl, ⟨none, 0, by rw [h0], by omega, fun k y hk => by have := (List.getElem?_eq_some_iff.1 hk).1; omega⟩, Below.refl _ _⟩)
    clear h
    go_enter Tryz.func115, Tryz.ntmps115
    go_wp2_with fail
    go_returns
    exact GG.out
  · by_cases hn0 : cs.length = 0
    · obtain ⟨i, z, hi, hz, hsz, hby, hzs⟩ := elCalls.ex
      obtain ⟨n, hn⟩ : ∃ n, n = cs.length := ⟨_, rfl⟩
      have hsrc : ∀ W : World, Src Tryz.prog i.size 124 (.slice (some ⟨b, 0, none⟩) 0 cap) 0 [] W := fun W => Src.ofSlice W elCalls.ht ⟨b, 0, none⟩ 0 cap [] (by simp) (fun j u hj => by simp at hj) (fun u hu => by cases hu)
      have hrun : ∀ ty W, (Builtin.append_ #[124, 124] ty #[.slice (some ⟨w.heap.size, 0, none⟩) 0 0, .slice (some ⟨b, 0, none⟩) 0 cap]).run Tryz.prog W = .ok (.slice (some ⟨w.heap.size, 0, none⟩) 0 0) W := fun ty W => run_append_nothing (P := Tryz.prog) W _ _ ty _ i elCalls.ht hi _ 0 0 (by omega) _ (hsrc W)
      have hrun2 := fun ty => hrun ty (w.alloc (.cells #[] 168))
      have GG := Lib.hid (show CaPost w cs (.returned (.slice (some ⟨w.heap.size, 0, none⟩) 0 0)) (w.alloc (.cells #[] 168)) from ⟨_, rfl, ⟨_, 0, by rw [hn0], by omega, fun k y hk => by have := (List.getElem?_eq_some_iff.1 hk).1; omega⟩, below_alloc (Below.refl _ _)⟩)
      rw [hn0]
      clear h hsrc hrun hi hz hh hc hm hs ht hb hn
      go_enter Tryz.func115, Tryz.ntmps115
      go_wp2_with (at_builtin; refine wpList_append_run rfl _ _ _ rfl _ _ _ _ rfl rfl hrun2 ?_)
      go_returns
      exact GG.out
    · obtain ⟨W, hW⟩ : ∃ W, W = w.alloc (.cells #[] 168) := ⟨_, rfl⟩
      have hbW : Below w.heap.size w W := by rw [hW]; exact below_alloc (Below.refl _ _)
      have hg : W.heap[w.heap.size]? = some (.cells #[] 168 (0, 0)) := by rw [hW]; exact heap_alloc_new _ _
      have hown : W.ownsRow w.heap.size 168 11 (.slice (some ⟨w.heap.size, 0, none⟩) 0 0) 0 [] := ⟨rfl, .inr ⟨w.heap.size, 0, #[], rfl, Nat.le_refl _, hg, Nat.le_refl _, by unfold maxLen; omega, rfl, rfl⟩⟩
      have hsW := own_agree h (fun c hc2 => hbW.block c (h.lt c hc2).2)
      obtain ⟨g, cp, w', hrun, how, hgr, hgg⟩ := append_own2 elCalls hown ⟨b, 0, none⟩ cs.length cap (hccs cs) h.1 (fun j u hj => hsW.cells (g := b) rfl j u hj) (fun u hu => by obtain ⟨x, _, hu⟩ := List.mem_flatMap.1 hu; exact hcc_one x u hu) (by omega) (by unfold maxLen; omega) (by omega) hbW.size
      have hb2 : Below w.heap.size w w' := below_grown hbW hgr hbW.size (fun k hk => by cases hk; exact Nat.le_refl _)
      rw [Nat.zero_add, List.nil_append] at how
      have hrun2 : ∀ ty, (Builtin.append_ #[124, 124] ty #[.slice (some ⟨w.heap.size, 0, none⟩) 0 0, .slice (some ⟨b, 0, none⟩) cs.length cap]).run Tryz.prog (w.alloc (.cells #[] 168)) = .ok (.slice (some ⟨g, 0, none⟩) cs.length cp) w' := by
        intro ty
        have := hrun ty
        rw [Nat.zero_add, hW] at this
        exact this
      have GG := Lib.hid (show CaPost w cs (.returned (.slice (some ⟨g, 0, none⟩) cs.length cp)) w' from ⟨_, rfl, cls_own how, hb2⟩)
      clear h hsW hW hbW hg hown hrun how hgr hgg hb2 hh hc hm hs ht hb
      go_enter Tryz.func115, Tryz.ntmps115
      go_wp2_with (at_builtin; refine wpList_append_run rfl _ _ _ rfl _ _ _ _ rfl rfl hrun2 ?_)
      go_returns
      exact GG.out
theorem hcalls_any {X hb : Nat} {w : World} {H : Hi} {ev cv : Value} (h : HAt X w hb H ev cv) (hl : H.calls.length ≤ 1000) :
    Calls Tryz.prog 85 #[ptr hb] w (CaPost w H.calls) := by
  have HC := Lib.hid (clone_calls h.cv hl)
  obtain ⟨ca, cc, rfl⟩ := own_slice h.cv
  have c1 : w.cell? ⟨hb, 1, none⟩ = some (.slice ca H.calls.length cc) := h.row.cell 1 (by omega)
  clear h
  unfold ptr
  go_enter Tryz.func85, Tryz.ntmps85
  go_wp2_with fail
  refine HC.out.mono ?_
  rintro e w1 ⟨v, rfl, h1, h2⟩
  obtain ⟨ca', cc', rfl, h3⟩ := h1
  have GG := Lib.hid (show CaPost w H.calls (.returned (.slice ca' H.calls.length cc')) w1 from ⟨_, rfl, ⟨ca', cc', rfl, h3⟩, h2⟩)
  clear h2 h3
  go_wp2_with fail
  go_returns
  exact GG.out
end Go.Proofs.YtejlgnebofdijaaGreatDoor.Dv
