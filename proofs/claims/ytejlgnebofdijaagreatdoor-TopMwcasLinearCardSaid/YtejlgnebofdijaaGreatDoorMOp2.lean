/-
  all of the package mwcas: the contents of all descriptors.
-/
import Derived.Test.YtejlgnebofdijaaGreatDoorMOp1
import Derived.Test.YtejlgnebofdijaaGreatDoorMRegA
import Derived.Deep.RegionHeld3
import Derived.Deep.DeepCutAuto
import Derived.Deep.DrawnRows
namespace Go.Proofs.YtejlgnebofdijaaGreatDoor.Dv
open Go.RowKit
set_option linter.unusedVariables false
attribute [local go_sem ↓] Go.wp_at_zero Go.wp_at_succ

theorem infoRec : (Tryz.prog.info? 101).map (fun i => (i.zero, i.size, i.bytes)) = some (some (.agg #[.int .u8 0, .slice none 0 0, .slice none 0 0]), 3, 56) := by kernel_rfl
theorem elRecs : El Tryz.prog 89 101 3 56 := El.of Tryz.underlying89 infoRec rfl (by omega)
def phs (es : List En) : Nat := if es = [] then 1 else 3
/-- What read returns for a descriptor with the entries es; none: it is unused. -/
def RdPost (w : World) (es : List En) (e : Ending) (w' : World) : Prop :=
  ∃ ea en ec vw, e = .returned (.tuple #[.agg #[.int .u8 (phs es), .slice ea en ec, vw], .bool true]) ∧ w'.ownsRow w.heap.size 66 2 vw es.length (wcells (ewr es)) ∧ Below w.heap.size w w'
def rcells (D : Nat → List En) (ve vw : Nat → Value) (k : Nat) : List Value := (List.range k).flatMap (fun j => [.int .u8 (phs (D j)), ve j, vw j])
theorem rcells_succ (D : Nat → List En) (ve vw : Nat → Value) (k : Nat) : rcells D ve vw (k + 1) = rcells D ve vw k ++ [.int .u8 (phs (D k)), ve k, vw k] := by
  unfold rcells
  rw [List.range_succ, List.flatMap_append]
  simp
theorem rcells_congr {D : Nat → List En} {ve vw ve' vw' : Nat → Value} {k : Nat} (h : ∀ j, j < k → ve' j = ve j ∧ vw' j = vw j) : rcells D ve' vw' k = rcells D ve vw k := by
  induction k with
  | zero => rfl
  | succ k ih => rw [rcells_succ, rcells_succ, ih (fun j hj => h j (by omega)), (h k (by omega)).1, (h k (by omega)).2]

/-- The first k records. -/
structure Recs (W : World) (D : Nat → List En) (ve vw : Nat → Value) (v : Value) (k : Nat) (wr : World) : Prop where
  own : wr.ownsRow W.heap.size 101 3 v k (rcells D ve vw k)
  row : ∀ j, j < k → wr.ownsRow W.heap.size 66 2 (vw j) (D j).length (wcells (ewr (D j)))
  sl : ∀ j, j < k → ∃ a n c, ve j = .slice a n c
  bel : Below W.heap.size W wr
theorem Recs.from {w W wr : World} {D : Nat → List En} {ve vw : Nat → Value} {v : Value} {k : Nat} (h : Recs W D ve vw v k wr) (hb : Below w.heap.size w W) : Recs w D ve vw v k wr :=
  ⟨h.own.mono hb.size, fun j hj => (h.row j hj).mono hb.size, h.sl, hb.trans (h.bel.mono hb.size)⟩
def AlRel (W : World) (D : Nat → List En) (n : Nat) (v i : Value) (wr : World) : Prop := ∃ (k : Nat) (ve vw : Nat → Value), k ≤ n ∧ i = .int .i64 (k : Nat) ∧ Recs W D ve vw v k wr
def AlPost (w : World) (D : Nat → List En) (n : Nat) (e : Ending) (w' : World) : Prop := ∃ ve vw v, e = .returned (.tuple #[v, .bool true]) ∧ Recs w D ve vw v n w'
/-- The box of the region. -/
def RgAt (w : World) (b Lr S : Nat) : Prop := w.cell? ⟨b, 0, none⟩ = some (.int .i64 0) ∧ w.cell? ⟨b, 1, none⟩ = some (.int .i64 Lr) ∧ w.cell? ⟨b, 2, none⟩ = some (.int .u64 S)
theorem RgAt.below {a w : World} {b Lr S : Nat} (h : RgAt a b Lr S) (hb : Below a.heap.size a w) : RgAt w b Lr S := by
  have hl := World.block_lt_of_cell? _ _ h.1
  exact ⟨(hb.cell (show (Addr.mk b 0 none).block < _ from hl)).trans h.1, (hb.cell (show (Addr.mk b 1 none).block < _ from hl)).trans h.2.1, (hb.cell (show (Addr.mk b 2 none).block < _ from hl)).trans h.2.2⟩
/-- What a call that makes memory alone leaves. -/
def Left3 (w w' : World) : Prop := (∀ b o, b < w.heap.size → w'.cell? ⟨b, o, none⟩ = w.cell? ⟨b, o, none⟩) ∧ (∀ b o, b < w.heap.size → w'.frozen? ⟨b, o, none⟩ = w.frozen? ⟨b, o, none⟩) ∧ (∀ b, b < w.heap.size → b < w'.heap.size) ∧ Hid (Below w.heap.size w w')
theorem left3 {w w' : World} (hb : Below w.heap.size w w') : Left3 w w' :=
  ⟨fun b o h => hb.cell (p := ⟨b, o, none⟩) h, fun b o h => hb.frozen (p := ⟨b, o, none⟩) h, fun b h => Nat.lt_of_lt_of_le h hb.size, Lib.hid hb⟩
theorem below_setc {a w : World} {b i : Nat} {v : Value} (h : Below a.heap.size a w) (hb : a.heap.size ≤ b) : Below a.heap.size a (w.setCell ⟨b, i, none⟩ v) := h.setCell (p := ⟨b, i, none⟩) hb v
theorem at_b {a w : World} {Lr S k : Nat} (h1 : k ≤ 1000000) (hb : Below a.heap.size a w) :
    Calls Tryz.prog 19 #[rgn Lr S, i64 k] w fun e w' => e = .returned (u64 (256 * k)) ∧ Below a.heap.size a w' ∧ Left3 w w' :=
  (at_any h1).mono (fun e w' h => ⟨h.1, hb.trans (h.2.mono hb.size), left3 h.2⟩)
def RdPost2 (a w : World) (es : List En) (e : Ending) (w' : World) : Prop :=
  ∃ ea en ec wa wc, e = .returned (.tuple #[.agg #[.int .u8 (phs es), .slice ea en ec, .slice wa es.length wc], .bool true]) ∧ w'.ownsRow w.heap.size 66 2 (.slice wa es.length wc) es.length (wcells (ewr es)) ∧ Below a.heap.size a w' ∧ Left3 w w'
theorem rd_b {a w : World} {Lr S k : Nat} {fv : Value} {es : List En} (h : Calls Tryz.prog 55 #[rgn Lr S, fv, u64 (256 * k)] w (RdPost w es)) (hb : Below a.heap.size a w) :
    Calls Tryz.prog 55 #[rgn Lr S, fv, u64 (256 * k)] w (RdPost2 a w es) := by
  refine h.mono ?_
  rintro e w' ⟨ea, en, ec, vw, h1, h2, h3⟩
  obtain ⟨wa, wc, rfl⟩ := own_slice h2
  exact ⟨ea, en, ec, wa, wc, h1, h2, hb.trans (h3.mono hb.size), left3 h3⟩
theorem own_set1 {w : World} {B b i : Nat} {e e' : TypeId} {z n : Nat} {v x : Value} {xs : List Value} {c : Array Value} (h : w.ownsRow B e z v n xs) (h' : w.heap[b]? = some (.cells c e' (0, 0))) (hne : e ≠ e') : (w.setCell ⟨b, i, none⟩ x).ownsRow B e z v n xs :=
  h.kept (grownBy_set w b i x) (.inr (by have := own_cells_ne h h' hne; exact fun e => this e.symm))
theorem own_set3 {w : World} {B b : Nat} {e e' : TypeId} {z n : Nat} {v x y u : Value} {xs : List Value} {c : Array Value} (h : w.ownsRow B e z v n xs) (h' : w.heap[b]? = some (.cells c e' (0, 0))) (hne : e ≠ e') :
    (((w.setCell ⟨b, 0, none⟩ x).setCell ⟨b, 1, none⟩ y).setCell ⟨b, 2, none⟩ u).ownsRow B e z v n xs ∧ (((w.setCell ⟨b, 0, none⟩ x).setCell ⟨b, 1, none⟩ y).setCell ⟨b, 2, none⟩ u).heap[b]? = some (.cells (((c.setIfInBounds 0 x).setIfInBounds 1 y).setIfInBounds 2 u) e' (0, 0)) :=
  ⟨own_set1 (own_set1 (own_set1 h h' hne) (heap_set h') hne) (heap_set (heap_set h')) hne, heap_set (heap_set (heap_set h'))⟩
/-- Behind the region that reads a descriptor. -/
def AlCut (a : World) (es : List En) (p o : Value) (w' : World) : Prop :=
  ∃ b ea en ec wa wc, p = .pointer (some ⟨b, 0, none⟩) ∧ o = .bool true ∧ w'.heap[b]? = some (.cells #[.int .u8 (phs es), .slice ea en ec, .slice wa es.length wc] 101 (0, 0)) ∧
    w'.ownsRow a.heap.size 66 2 (.slice wa es.length wc) es.length (wcells (ewr es)) ∧ Below a.heap.size a w'

set_option maxHeartbeats 4000000 in
set_option maxRecDepth 8000 in
theorem all_any {w : World} {Lr S fn : Nat} {first cap : Array Value} {D : Nat → List En} (hLr : Lr ≤ 1000) (hS : S ≤ 1000000)
    (hrd : ∀ w1 k, Below w.heap.size w w1 → k < Lr / 4 → Calls Tryz.prog 55 #[rgn Lr S, .func (.func fn) first cap, u64 (256 * k)] w1 (RdPost w1 (D k))) :
    Calls Tryz.prog 25 #[rgn Lr S, .func (.func fn) first cap] w (AlPost w D (Lr / 4)) := by
  have HRD := Lib.hid hrd
  obtain ⟨n, hn⟩ : ∃ n, n = Lr / 4 := ⟨_, rfl⟩
  rw [← hn] at HRD ⊢
  have hn2 : n ≤ 250 := by omega
  have hn3 : (n : Int) ≤ 250 := by omega
  have HC := Lib.hid (fun w1 => count_any (w := w1) (Lr := Lr) (S := S) (by omega))
  rw [← hn] at HC
  have b1 : (Lr : Int) ≤ 1000 := by omega
  have b2 : (S : Int) ≤ 1000000 := by omega
  clear hrd hn
  unfold rgn i64 at *
  go_enter Tryz.func25, Tryz.ntmps25
  go_wp2_with fail
  refine (HC.out _).mono ?_
  rintro e W ⟨rfl, hbW⟩
  have hbW2 : Below w.heap.size w W := (below_alloc (Below.refl _ w)).trans (hbW.mono (by simp))
  have hR : RgAt W w.heap.size Lr S := by
    refine RgAt.below (a := w.alloc (.cells #[.int .i64 0, .int .i64 Lr, .int .u64 S] 75)) ?_ hbW
    have hn := heap_alloc_new w (.cells #[.int .i64 0, .int .i64 Lr, .int .u64 S] 75)
    exact ⟨(cell_block hn).trans rfl, (cell_block hn).trans rfl, (cell_block hn).trans rfl⟩
  have HBW := Lib.hid hbW2; have HR := Lib.hid hR
  clear hbW hbW2 hR
  go_wp2_with fail
  go_loopw [6, 12] (fun v i wr => AlRel W D n v i wr) (fun _ i _ => n - (intOf i).toNat)
  case atStart => exact ⟨0, fun _ => .bool false, fun _ => .bool false, by omega, rfl, World.ownsRow_nil _ _ _ _, fun j hj => by omega, fun j hj => by omega, Below.refl _ _⟩
  case round =>
    obtain ⟨k, ve, vw, hk, rfl, hrec⟩ := hrel
    by_cases hlt : k < n
    · have hlt2 : (k : Int) < n := by omega
      have hRr : RgAt wr w.heap.size Lr S := HR.out.below hrec.bel
      obtain ⟨r0, r1, r2⟩ := id hRr
      have hgo : ∀ w1, Below wr.heap.size wr w1 → Calls Tryz.prog 55 #[.agg #[.int .i64 0, .int .i64 Lr, .int .u64 S], .func (.func fn) first cap, u64 (256 * k)] w1 (RdPost2 wr w1 (D k)) := fun w1 hb =>
        rd_b (HRD.out w1 k ((HBW.out.trans (hrec.bel.mono HBW.out.size)).trans (hb.mono (Nat.le_trans HBW.out.size hrec.bel.size))) hlt) hb
      have hat : ∀ w1, Below wr.heap.size wr w1 → Calls Tryz.prog 19 #[.agg #[.int .i64 0, .int .i64 Lr, .int .u64 S], .int .i64 k] w1 fun e w' => e = .returned (u64 (256 * k)) ∧ Below wr.heap.size wr w' ∧ Left3 w1 w' := fun w1 hb =>
        at_b (by omega) hb
      have HREC := Lib.hid hrec; have HRR := Lib.hid hRr; have HGO := Lib.hid hgo; have HAT := Lib.hid hat
      have HB0 := Lib.hid (Below.refl wr.heap.size wr)
      clear hrec hRr hgo hat
      go_upto_region 5 with fail
      go_cut [8, 9] (fun p o wx => AlCut wr (D k) p o wx)
      case first =>
        go_region_held3 (fun w' => w'.cell? ⟨w.heap.size, 0, none⟩ = some (.int .i64 0) ∧ w'.cell? ⟨w.heap.size, 1, none⟩ = some (.int .i64 Lr) ∧ w'.cell? ⟨w.heap.size, 2, none⟩ = some (.int .u64 S))
          (exact RgAt.below HRR.out (by repeat (first | assumption | exact HB0.out | apply below_alloc | apply below_drew | apply below_setc | exact Nat.le_refl _ | exact Below.size (by assumption))))
          (first
            | (go_at_call 19; refine (HAT.out _ (by repeat (first | assumption | exact HB0.out | apply below_alloc | apply below_drew))).mono ?_; rintro e V1 ⟨rfl, hb1, hm1, hm2, hm3, HB1⟩)
            | (go_at_call 55; refine (HGO.out _ (by repeat (first | assumption | exact HB0.out | apply below_alloc | apply below_drew))).mono ?_; rintro e w' ⟨ea, en, ec, wa, wc, rfl, hown, hbb, hl1, hl2, hl3, HBB⟩))
        · go_wp2_with fail
          go_meet
          exact ⟨_, ea, en, ec, wa, wc, rfl, rfl, heap_alloc_new _ _, (hown.mono hb1.size).alloc _, below_alloc hbb⟩
        · go_wp2_with fail
          go_meet
          have hblk := (HBB.out.block V1.heap.size (by simp)).trans (heap_alloc_new V1 _)
          have h3 := own_set3 (x := .int .u8 (phs (D k))) (y := .slice ea en ec) (u := .slice wa (D k).length wc) hown hblk (by decide)
          exact ⟨_, ea, en, ec, wa, wc, rfl, rfl, h3.2.trans rfl, h3.1.mono (by have := hb1.size; simp; omega), below_setc (below_setc (below_setc hbb hb1.size) hb1.size) hb1.size⟩
        · go_wp2_with fail
          go_meet
          have hz := HB1.out.size
          simp at hz
          have hblk := (HBB.out.block wr.heap.size hz).trans ((HB1.out.block wr.heap.size (by simp)).trans (heap_alloc_new wr _))
          have h3 := own_set3 (x := .int .u8 (phs (D k))) (y := .slice ea en ec) (u := .slice wa (D k).length wc) hown hblk (by decide)
          exact ⟨_, ea, en, ec, wa, wc, rfl, rfl, h3.2.trans rfl, h3.1.mono hb1.size, below_setc (below_setc (below_setc hbb (Nat.le_refl _)) (Nat.le_refl _)) (Nat.le_refl _)⟩
      case rest =>
        obtain ⟨b, ea, en, ec, wa, wc, rfl, rfl, hb, hown, hbel⟩ := hcut
        have c0 := cell_block (i := 0) hb
        have c1 := cell_block (i := 1) hb
        have c2 := cell_block (i := 2) hb
        simp at c0 c1 c2
        have hown2 := own_below HREC.out.own hbel
        obtain ⟨ra, rc, hv⟩ := own_slice hown2
        subst hv
        have HO2 := Lib.hid hown2; have HBC := Lib.hid hbel; have HOW := Lib.hid hown
        have hs1 := HREC.out.bel.size
        have hs2 := hbel.size
        have HSZ := Lib.hid (Nat.le_trans hs1 hs2)
        have HK : Hid (k < 250) := Lib.hid (by omega)
        clear hb hown hbel hown2 r0 r1 r2 hs1 hs2
        go_wp2_with (at_builtin; refine wpList_own1 elRecs rfl _ _ rfl HO2.out rfl rfl ?c1 rfl ?c2 ?c3 ?c4 ?c5 ?_)
        case c1 => rfl
        case c2 => exact ⟨rfl, rfl, rfl⟩
        case c3 => unfold maxLen; have := HK.out; omega
        case c4 => have := HK.out; omega
        case c5 => exact HSZ.out
        intro g4 cap4 w4 hop4 hgr4 hg4
        have hnx : Recs W D (upd ve k (.slice ea en ec)) (upd vw k (.slice wa (D k).length wc)) (.slice (some ⟨g4, 0, none⟩) (k + 1) cap4) (k + 1) w4 := by
          refine ⟨?_, fun j hj => ?_, fun j hj => ?_, ?_⟩
          · rw [rcells_succ, upd_same, upd_same, rcells_congr (ve := ve) (vw := vw) (fun j hj => ⟨upd_ne _ _ (by omega), upd_ne _ _ (by omega)⟩)]
            exact hop4
          · by_cases e : j = k
            · subst e
              rw [upd_same]
              exact (HOW.out.mono HREC.out.bel.size).kept hgr4 (own_ne HOW.out HO2.out (by decide))
            · rw [upd_ne _ _ e]
              have := own_below (HREC.out.row j (by omega)) HBC.out
              exact this.kept hgr4 (own_ne this HO2.out (by decide))
          · by_cases e : j = k
            · subst e
              rw [upd_same]
              exact ⟨_, _, _, rfl⟩
            · rw [upd_ne _ _ e]
              exact HREC.out.sl j (by omega)
          · exact below_grown (HREC.out.bel.trans (HBC.out.mono HREC.out.bel.size)) hgr4 HSZ.out (fun b hb => (HO2.out.lt b hb).1)
        have G := Lib.hid (show AlRel W D n (.slice (some ⟨g4, 0, none⟩) (k + 1) cap4) (.int .i64 ((k + 1 : Nat) : Int)) w4 from ⟨k + 1, _, _, by omega, rfl, hnx⟩)
        clear hnx hop4 hgr4 hg4
        go_wp2_with fail
        go_roundw
        case rel => simpa using G.out
        case measure => simp [intOf]; omega
    · obtain rfl : k = n := by omega
      have d1 : ¬ ((k : Int) < k) := by omega
      have GG := Lib.hid (show AlPost w D k (.returned (.tuple #[u6, .bool true])) wr from ⟨ve, vw, u6, rfl, hrec.from HBW.out⟩)
      obtain ⟨ra, rc, hv⟩ := own_slice hrec.own
      subst hv
      clear hrec
      go_wp2_with fail
      go_returns
      exact GG.out
end Go.Proofs.YtejlgnebofdijaaGreatDoor.Dv
