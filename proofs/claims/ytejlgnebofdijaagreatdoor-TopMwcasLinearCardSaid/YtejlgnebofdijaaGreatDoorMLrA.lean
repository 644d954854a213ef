/-
  The package linear: comparison of contents, the question whether an order ends with the right contents.
  The package linear: examine.
-/
import Derived.Test.YtejlgnebofdijaaGreatDoorMSp
import Derived.Deep.QuietTactic
import Derived.BigQuiet
import Derived.Deep.RegionWith
import Derived.Deep.DeepCutAuto
import Derived.Test.YtejlgnebofdijaaGreatDoorMHsA
namespace Go.Proofs.YtejlgnebofdijaaGreatDoor.Dv
open Go.RowKit
open Ln (Cl HC Hi)
set_option linter.unusedVariables false

def EqRel (i : Value) : Prop := i = .int .i64 (0 : Nat) ∨ i = .int .i64 (1 : Nat)
def EqPost (w : World) (b : Bool) (e : Ending) (w' : World) : Prop := e = .returned (.bool b) ∧ Below w.heap.size w w'
set_option maxRecDepth 4000 in
theorem equal_any {w : World} {g f n z : Nat} (hg : w.heap[g]? = some (.cells #[.int .u64 0, .int .u64 n] 66 (0, 0))) (hf : w.heap[f]? = some (.cells #[.int .u64 0, .int .u64 z] 66 (0, 0))) :
    Calls Tryz.prog 39 #[.slice (some ⟨g, 0, none⟩) 1 1, .slice (some ⟨f, 0, none⟩) 1 1] w (EqPost w (decide (n = z))) := by
  have g0 : w.cell? ⟨g, 0, none⟩ = some (.int .u64 0) := (cell_block hg).trans rfl
  have g1 : w.cell? ⟨g, 1, none⟩ = some (.int .u64 n) := (cell_block hg).trans rfl
  have f0 : w.cell? ⟨f, 0, none⟩ = some (.int .u64 0) := (cell_block hf).trans rfl
  have f1 : w.cell? ⟨f, 1, none⟩ = some (.int .u64 z) := (cell_block hf).trans rfl
  clear hg hf
  by_cases hnz : n = z
  · subst hnz
    have GG := Lib.hid (fun (W : World) (hb : Below w.heap.size w W) => show EqPost w (decide (n = n)) (.returned (.bool true)) W from ⟨by rw [decide_eq_true rfl], hb⟩)
    go_enter Tryz.func39, Tryz.ntmps39
    go_wp2_with fail
    go_loopw [13] (fun i wl => EqRel i ∧ ∃ k, wl = w.drewN k) (fun i _ => 1 - (intOf i).toNat)
    case atStart => exact ⟨.inl rfl, 0, rfl⟩
    case round =>
      obtain ⟨hi, kd, rfl⟩ := hrel
      rcases hi with rfl | rfl
      · go_wp2_with fail
        go_quiet (fail)
        go_wp2_with fail
        go_roundw
        case rel => exact ⟨.inr rfl, _, rfl⟩
        case measure => simp [intOf]
      · go_wp2_with fail
        go_returns
        exact GG.out _ (below_drewN (Below.refl _ _))
  · have d1 : ((n : Int) == (z : Int)) = false := beq_eq_false_iff_ne.2 (by omega)
    have d2 : ((n : Int) != (z : Int)) = true := by simp; omega
    have d3 : ¬ (n : Int) = z := by omega
    have GG := Lib.hid (fun (W : World) (hb : Below w.heap.size w W) => show EqPost w (decide (n = z)) (.returned (.bool false)) W from ⟨by rw [decide_eq_false hnz], hb⟩)
    clear hnz
    go_enter Tryz.func39, Tryz.ntmps39
    go_wp2_with fail
    go_loopw [13] (fun i wl => i = .int .i64 (0 : Nat) ∧ wl = w) (fun i _ => 1 - (intOf i).toNat)
    case atStart => exact ⟨rfl, rfl⟩
    case round =>
      obtain ⟨rfl, rfl⟩ := hrel
      go_wp2_with fail
      go_quiet (fail)
      go_wp2_with fail
      go_returns
      exact GG.out _ (by repeat (first | exact Below.refl _ _ | apply below_drewN | apply below_drew))

/-- The box of the contents that the order shall end with. -/
def FinAt (w : World) (fb z : Nat) : Prop := ∃ f, w.cell? ⟨fb, 0, none⟩ = some (.slice (some ⟨f, 0, none⟩) 1 1) ∧ w.heap[f]? = some (.cells #[.int .u64 0, .int .u64 z] 66 (0, 0))
theorem FinAt.below {w w' : World} {fb z : Nat} (h : FinAt w fb z) (hb : Below w.heap.size w w') : FinAt w' fb z := by
  obtain ⟨f, h1, h2⟩ := h
  exact ⟨f, (hb.cell (p := ⟨fb, 0, none⟩) (World.block_lt_of_cell? _ _ h1)).trans h1, (hb.block f (heap_lt h2)).trans h2⟩
set_option maxRecDepth 4000 in
theorem chk1_any {w : World} {fb z v : Nat} (h : FinAt w fb z) : Calls Tryz.prog 38 #[stv v, ptr fb] w (EqPost w (decide (v = z))) := by
  have hb1 : Below w.heap.size w (w.alloc (.cells #[.int .u8 1, .int .u64 v, .slice none 0 0, .slice none 0 0] 120)).drew := (below_alloc (Below.refl _ _)).drew
  obtain ⟨f, hf1, hf2⟩ := h.below hb1
  have HC := Lib.hid (contents_any (w.alloc (.cells #[.int .u8 1, .int .u64 v, .slice none 0 0, .slice none 0 0] 120)).drew v)
  have HE := Lib.hid (fun (W : World) (g : Nat) (hg : W.heap[g]? = some (.cells #[.int .u64 0, .int .u64 v] 66 (0, 0))) (hb2 : Below (w.alloc (.cells #[.int .u8 1, .int .u64 v, .slice none 0 0, .slice none 0 0] 120)).drew.heap.size (w.alloc (.cells #[.int .u8 1, .int .u64 v, .slice none 0 0, .slice none 0 0] 120)).drew W) =>
    show W.cell? ⟨fb, 0, none⟩ = some (.slice (some ⟨f, 0, none⟩) 1 1) ∧ Calls Tryz.prog 39 #[.slice (some ⟨g, 0, none⟩) 1 1, .slice (some ⟨f, 0, none⟩) 1 1] W (EqPost W (decide (v = z))) from
      ⟨(hb2.cell (p := ⟨fb, 0, none⟩) (World.block_lt_of_cell? _ _ hf1)).trans hf1, equal_any hg ((hb2.block f (heap_lt hf2)).trans hf2)⟩)
  obtain ⟨b, hb⟩ : ∃ b, b = decide (v = z) := ⟨_, rfl⟩
  rw [← hb] at HE ⊢
  have HB1 := Lib.hid hb1
  clear h hf2 hb hb1
  unfold stv ptr at *
  go_enter Tryz.func38, Tryz.ntmps38
  go_upto_region 1 with fail
  go_region_with (first
    | (go_at_call 40; refine HC.out.mono ?_; rintro e V ⟨g, rfl, hg, hge, hbV⟩; obtain ⟨k1, k2⟩ := HE.out V g hg hbV; have K2 := Lib.hid k2; have HBV := Lib.hid hbV; clear hg hge hbV k2)
    | (go_at_call 39; refine K2.out.mono ?_; rintro e V2 ⟨rfl, hb3⟩; have HB3 := Lib.hid hb3; clear hb3))
  all_goals
    have GG := Lib.hid (show EqPost w b (.returned (.bool b)) V2 from ⟨rfl, (HB1.out.trans (HBV.out.mono HB1.out.size)).trans (HB3.out.mono (Nat.le_trans HB1.out.size HBV.out.size))⟩)
    clear HB3
    go_wp2_with fail
    go_returns
    exact GG.out
end Go.Proofs.YtejlgnebofdijaaGreatDoor.Dv

namespace Go.Proofs.YtejlgnebofdijaaGreatDoor.Dv
open Go.RowKit
open Ln (Cl HC Hi ap)
set_option linter.unusedVariables false

theorem rap_form (x : Cl) (v : Nat) : ∃ (r : Nat) (ok : Bool) (cd : Nat), rap x v = .agg #[.int .u64 r, .bool ok, .int .i64 cd] ∧ cd ≤ 6 := by
  unfold rap
  split
  · exact ⟨_, _, 0, rfl, by omega⟩
  · exact ⟨_, _, 6, rfl, by omega⟩
/-- The cells of a call of a list of calls. -/
structure ClAt (w : World) (g n : Nat) (x : HC) (k a b r : Nat) (ok : Bool) : Prop where
  op : opv x.c = .agg #[.int .u8 k, .int .u64 0, .int .u64 a, .int .u64 b]
  hc : hcc x = [.int .i64 x.c.t, .int .u8 k, .int .u64 0, .int .u64 a, .int .u64 b, .int .i64 x.b, .int .i64 (enc x.e), .int .i64 x.era, .int .u64 r, .bool ok, .int .i64 0]
  c0 : w.cell? ⟨g, n * 11, none⟩ = some (.int .i64 x.c.t)
  c1 : w.cell? ⟨g, n * 11 + 1, none⟩ = some (.int .u8 k)
  c2 : w.cell? ⟨g, n * 11 + 2, none⟩ = some (.int .u64 0)
  c3 : w.cell? ⟨g, n * 11 + 3, none⟩ = some (.int .u64 a)
  c4 : w.cell? ⟨g, n * 11 + 4, none⟩ = some (.int .u64 b)
  c5 : w.cell? ⟨g, n * 11 + 5, none⟩ = some (.int .i64 x.b)
  c6 : w.cell? ⟨g, n * 11 + 6, none⟩ = some (.int .i64 (enc x.e))
  c7 : w.cell? ⟨g, n * 11 + 7, none⟩ = some (.int .i64 x.era)
  c8 : w.cell? ⟨g, n * 11 + 8, none⟩ = some (.int .u64 r)
  c9 : w.cell? ⟨g, n * 11 + 9, none⟩ = some (.bool ok)
  c10 : w.cell? ⟨g, n * 11 + 10, none⟩ = some (.int .i64 0)
theorem clAt_of {w : World} {g n : Nat} {x : HC} (h : ∀ j, j < 11 → w.cell? ⟨g, n * 11 + j, none⟩ = (hcc x)[j]?) : ∃ k a b r ok, ClAt w g n x k a b r ok := by
  obtain ⟨k, a, b, h1, h2, ho, hoc⟩ := opv_form x.c
  have hf : ∃ (r : Nat) (ok : Bool), hcc x = [.int .i64 x.c.t, .int .u8 k, .int .u64 0, .int .u64 a, .int .u64 b, .int .i64 x.b, .int .i64 (enc x.e), .int .i64 x.era, .int .u64 r, .bool ok, .int .i64 0] := by
    unfold hcc
    rw [hoc]
    unfold rsc
    cases x.e with
    | none => exact ⟨0, false, rfl⟩
    | some p => exact ⟨p.2, true, rfl⟩
  obtain ⟨r, ok, hf⟩ := hf
  rw [hf] at h
  exact ⟨k, a, b, r, ok, ⟨ho, hf, h 0 (by omega), h 1 (by omega), h 2 (by omega), h 3 (by omega), h 4 (by omega), h 5 (by omega), h 6 (by omega), h 7 (by omega), h 8 (by omega), h 9 (by omega), h 10 (by omega)⟩⟩
def StAt (w : World) (sb v : Nat) : Prop := w.heap[sb]? = some (.cells #[.int .u8 1, .int .u64 v, .slice none 0 0, .slice none 0 0] 120 (0, 0))
theorem StAt.cells {w : World} {sb v : Nat} (h : StAt w sb v) : w.cell? ⟨sb, 0, none⟩ = some (.int .u8 1) ∧ w.cell? ⟨sb, 1, none⟩ = some (.int .u64 v) ∧ w.cell? ⟨sb, 2, none⟩ = some (.slice none 0 0) ∧ w.cell? ⟨sb, 3, none⟩ = some (.slice none 0 0) :=
  ⟨(cell_block h).trans rfl, (cell_block h).trans rfl, (cell_block h).trans rfl, (cell_block h).trans rfl⟩
theorem StAt.below {w w' : World} {sb v : Nat} (h : StAt w sb v) (hb : Below w.heap.size w w') : StAt w' sb v := (hb.block _ (heap_lt h)).trans h

def EmPost (w : World) (cs : List HC) (e : Ending) (w' : World) : Prop := ∃ v, e = .returned (.tuple #[v, .int .i64 0]) ∧ Cls w' cs v ∧ Below w.heap.size w w'
def EmRel (W : World) (sb : Nat) (cs : List HC) (v : Value) (i : Value) (wl : World) : Prop := ∃ k : Nat, k ≤ cs.length ∧ i = .int .i64 (k : Nat) ∧ Cls wl cs v ∧ StAt wl sb 0 ∧ Below W.heap.size W wl
set_option maxHeartbeats 4000000 in
set_option maxRecDepth 8000 in
theorem examine_any {X hb : Nat} {w : World} {H : Hi} {ev cv : Value} (h : HAt X w hb H ev cv) (hl : H.calls.length ≤ 1000) :
    Calls Tryz.prog 69 #[.int .u8 1, ptr hb] w (EmPost w H.calls) := by
  have HN := Lib.hid (spnew_any w)
  have HH := Lib.hid h
  have b1 : (H.calls.length : Int) ≤ 1000 := by omega
  clear h
  unfold stv ptr at *
  go_enter Tryz.func69, Tryz.ntmps69
  go_wp2_with fail
  refine HN.out.mono ?_
  rintro e w1 ⟨rfl, hb1⟩
  have hs1 : StAt (w1.alloc (.cells #[.int .u8 1, .int .u64 0, .slice none 0 0, .slice none 0 0] 120)) w1.heap.size 0 := heap_alloc_new _ _
  have hb2 : Below w.heap.size w (w1.alloc (.cells #[.int .u8 1, .int .u64 0, .slice none 0 0, .slice none 0 0] 120)) := below_alloc hb1
  have HK := Lib.hid (spkind_any (w1.alloc (.cells #[.int .u8 1, .int .u64 0, .slice none 0 0, .slice none 0 0] 120)) 0)
  have HS1 := Lib.hid hs1; have HB2 := Lib.hid hb2
  clear hb1 hs1 hb2 HN
  unfold stv at HK
  go_wp2_with fail
  refine HK.out.mono ?_
  rintro e w2 ⟨rfl, hb2⟩
  have hs2 := HS1.out.below hb2
  have hb3 := HB2.out.trans (hb2.mono HB2.out.size)
  have HCA := Lib.hid (hcalls_any (HH.out.below hb3) hl)
  have HS2 := Lib.hid hs2; have HB3 := Lib.hid hb3
  clear hb2 hs2 hb3 HK HS1 HB2
  unfold ptr at HCA
  go_wp2_with fail
  refine HCA.out.mono ?_
  rintro e w3 ⟨v, rfl, hc3, hb4⟩
  have hs3 := HS2.out.below hb4
  have hb5 := HB3.out.trans (hb4.mono HB3.out.size)
  obtain ⟨ca, cc, rfl, hcc1, _⟩ := id hc3
  have HREL := Lib.hid (show EmRel w w1.heap.size H.calls (.slice ca H.calls.length cc) (.int .i64 (0 : Nat)) w3 from ⟨0, by omega, rfl, hc3, hs3, hb5⟩)
  have b2 : (H.calls.length : Int) ≤ cc := by omega
  clear hc3 hs3 hb4 hb5 HCA HS2 HB3 HH hcc1
  go_wp2_with fail
  go_loopw [30] (fun i wl => EmRel w w1.heap.size H.calls (.slice ca H.calls.length cc) i wl) (fun i _ => H.calls.length - (intOf i).toNat)
  case atStart => exact HREL.out
  case round =>
    obtain ⟨k, hk, rfl, hcl, hst, hbl⟩ := hrel
    have HCL := Lib.hid hcl; have HST := Lib.hid hst; have HBL := Lib.hid hbl
    by_cases hlt : k < H.calls.length
    · have hlt2 : (k : Int) < H.calls.length := by omega
      have hget : H.calls[k]? = some H.calls[k] := List.getElem?_eq_getElem hlt
      obtain ⟨x, hx⟩ : ∃ x, x = H.calls[k] := ⟨_, rfl⟩
      rw [← hx] at hget
      obtain ⟨_, _, e0, _, h3⟩ := hcl
      obtain ⟨g, rfl, hg, h4⟩ := h3 k x hget
      obtain ⟨q, a, b, r, ok, hf⟩ := clAt_of h4
      cases e0
      have hop := hf.op
      have c0 := hf.c0
      have c1 := hf.c1
      have c2 := hf.c2
      have c3 := hf.c3
      have c4 := hf.c4
      have c5 := hf.c5
      have c6 := hf.c6
      have c7 := hf.c7
      have c8 := hf.c8
      have c9 := hf.c9
      have c10 := hf.c10
      obtain ⟨s0, s1, s2, s3⟩ := hst.cells
      obtain ⟨z, hz⟩ : ∃ z, z = enc x.e := ⟨_, rfl⟩
      rw [← hz] at c6
      have hsl := heap_lt hst
      obtain ⟨r1, ok1, cd, hra, hcd⟩ := rap_form x.c 0
      obtain ⟨ap1, hap1⟩ : ∃ p, p = (ap x.c 0).1 := ⟨_, rfl⟩
      have HA := Lib.hid (fun (W : World) => show Calls Tryz.prog 74 #[.agg #[.int .u8 1, .int .u64 0, .slice none 0 0, .slice none 0 0], .agg #[.int .u8 q, .int .u64 0, .int .u64 a, .int .u64 b]] W (fun e w' => e = .returned (.tuple #[.agg #[.int .u8 1, .int .u64 ap1, .slice none 0 0, .slice none 0 0], .agg #[.int .u64 r1, .bool ok1, .int .i64 cd]]) ∧ Below W.heap.size W w') from by
        have := spapply_any W x.c 0
        rw [hop] at this
        refine this.mono ?_
        rintro e w' ⟨rfl, hb⟩
        exact ⟨by rw [hra, ← hap1]; rfl, hb⟩)
      have hcd1 : ((cd : Int) == 13) = false := beq_eq_false_iff_ne.2 (by omega)
      clear hf hop h3 h4 hget hx hst hbl hz hra hap1
      go_wp2_with fail
      refine (HA.out _).mono ?_
      rintro e w4 ⟨rfl, hb4⟩
      have hz4 : wr.heap.size + 1 ≤ w4.heap.size := by have := hb4.size; simp at this; omega
      have hbb := (below_alloc (Below.refl wr.heap.size wr) (o := .cells #[.int .i64 x.c.t, .int .u8 q, .int .u64 0, .int .u64 a, .int .u64 b, .int .i64 x.b, .int .i64 z, .int .i64 x.era, .int .u64 r, .bool ok, .int .i64 0] 168)).trans (hb4.mono (by simp))
      have HBB := Lib.hid hbb
      clear hb4 hbb HA
      go_wp2_with fail
      go_roundw
      case rel =>
        refine ⟨k + 1, by omega, by go_num, ?_, ?_, ?_⟩
        · exact HCL.out.below (below_alloc (below_alloc HBB.out))
        · exact HST.out.below (below_alloc (below_alloc HBB.out))
        · exact HBL.out.trans ((below_alloc (below_alloc HBB.out)).mono HBL.out.size)
      case measure => simp [intOf]; omega
    · obtain rfl : k = H.calls.length := by omega
      clear hcl hst hbl
      have GG := Lib.hid (show EmPost w H.calls (.returned (.tuple #[.slice ca H.calls.length cc, .int .i64 0])) wr from ⟨_, rfl, HCL.out, HBL.out⟩)
      clear HCL HST HBL
      go_wp2_with fail
      go_returns
      exact GG.out
end Go.Proofs.YtejlgnebofdijaaGreatDoor.Dv
