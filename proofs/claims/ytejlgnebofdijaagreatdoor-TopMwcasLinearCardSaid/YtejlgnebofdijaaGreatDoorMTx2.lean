/-
  The function text of the package linear, at the contents of a register.
-/
import Derived.Test.YtejlgnebofdijaaGreatDoorMFmA
import Derived.Deep.CutBlock
import Derived.Deep.DeepCutAuto
namespace Go.Proofs.YtejlgnebofdijaaGreatDoor.Dv
open Go.RowKit
open Go.Sort
set_option linter.unusedVariables false

theorem fmt_small {w : World} {u : Nat} (h : u < 100) : Calls Tryz.prog 72 #[.int .u64 u, .int .i64 10] w fun e w' => e = .returned (.string ⟨(Lib.decDigits u).toArray⟩) ∧ w = w' := by
  have b1 : (u : Int) < 100 := by omega
  have HS := Lib.hid (Tryz.internal_strconv_small u h w)
  have HI : Calls Tryz.prog 87 #[.int .u64 u, .int .i64 10] w fun e w' => e = .returned (.string ⟨(Lib.decDigits u).toArray⟩) ∧ w = w' := by
    go_enter Tryz.func87, Tryz.ntmps87
    go_wp2_with fail
    refine HS.out.mono ?_
    rintro e w' ⟨rfl, rfl⟩
    go_wp2_with fail
    go_returns
    exact ⟨rfl, rfl⟩
  have H := Lib.hid HI
  clear HI HS
  go_enter Tryz.func72, Tryz.ntmps72
  go_wp2_with fail
  refine H.out.mono ?_
  rintro e w1 ⟨rfl, rfl⟩
  go_wp2_with fail
  go_returns
  exact ⟨rfl, rfl⟩
theorem dd0 : Lib.decDigits 0 = [48] := by kernel_rfl
theorem dd1 : Lib.decDigits 1 = [49] := by kernel_rfl
theorem dd2 : Lib.decDigits 2 = [50] := by kernel_rfl
def txt (n : Nat) : List UInt8 := [48, 32, 48 + UInt8.ofNat n, 44]
def TxCut (W : World) (n : Nat) (wc : World) : Prop := Lib.BuilderAt 196 5 W.heap.size W.heap.size (.pointer (some ⟨W.heap.size, 0, none⟩)) (Lib.byteCells (txt n)) wc ∧ Below W.heap.size W wc
def TxRel (W : World) (n : Nat) (i : Value) (wl : World) : Prop := (i = .int .i64 (0 : Nat) ∧ wl = W.alloc (.cells #[.pointer none, .slice none 0 0] 196)) ∨ (i = .int .i64 (1 : Nat) ∧ TxCut W n wl)
def TxPost (W : World) (n : Nat) (e : Ending) (w' : World) : Prop := e = .returned (.string ⟨(txt n).toArray⟩) ∧ Below W.heap.size W w'

set_option maxHeartbeats 4000000 in
set_option maxRecDepth 100000 in
theorem text_0 {W : World} {g : Nat} (hg : W.heap[g]? = some (.cells #[.int .u64 0, .int .u64 0] 66 (0, 0))) :
    Calls Tryz.prog 73 #[.slice (some ⟨g, 0, none⟩) 1 1] W (TxPost W 0) := by
  have hgl := heap_lt hg
  have hb1 : Below W.heap.size W (W.alloc (.cells #[.pointer none, .slice none 0 0] 196)) := below_alloc (Below.refl _ _)
  have k0 : (W.alloc (.cells #[.pointer none, .slice none 0 0] 196)).cell? ⟨g, 0, none⟩ = some (.int .u64 0) := by rw [hb1.cell (p := ⟨g, 0, none⟩) hgl, cell_block hg]; rfl
  have k1 : (W.alloc (.cells #[.pointer none, .slice none 0 0] 196)).cell? ⟨g, 1, none⟩ = some (.int .u64 0) := by rw [hb1.cell (p := ⟨g, 1, none⟩) hgl, cell_block hg]; rfl
  have hbd : Lib.IsBuilder 196 5 W.heap.size W.heap.size [] ((W.alloc (.cells #[.pointer none, .slice none 0 0] 196)).alloc (.cells #[.int .u64 0, .int .u64 0] 66)).drew :=
    .inl ⟨Nat.le_refl _, .slice none 0 0, by show ((W.alloc (.cells #[.pointer none, .slice none 0 0] 196)).alloc (.cells #[.int .u64 0, .int .u64 0] 66)).heap[W.heap.size]? = _; rw [heap_alloc_lt (by simp)]; exact heap_alloc_new _ _, World.ownsRow_nil _ _ _ _, by simp [Value.ownBlock]⟩
  have hws := ws_any (s := ⟨#[48, 32, 48, 44]⟩) hbd (by decide) (by simp; omega)
  have HWS := Lib.hid hws
  have HB2 := Lib.hid ((below_alloc hb1 (o := .cells #[.int .u64 0, .int .u64 0] 66)).drew)
  have HF0 := Lib.hid (fun w => show Calls Tryz.prog 72 #[.int .u64 0, .int .i64 10] w fun e w' => e = .returned (.string ⟨#[48]⟩) ∧ w = w' from by
    have h := fmt_small (w := w) (u := 0) (by omega)
    rw [dd0] at h
    exact h)
  clear hg hb1 hbd hws hgl
  go_enter Tryz.func73, Tryz.ntmps73
  go_wp2_with fail
  go_loopw [8] (fun i wl => TxRel W 0 i wl) (fun i _ => 1 - (intOf i).toNat)
  case atStart => exact .inl ⟨rfl, rfl⟩
  case round =>
    rcases hrel with ⟨rfl, rfl⟩ | ⟨rfl, hc⟩
    · go_upto_region 5 with fail
      go_region_with (first
        | (go_at_call 72; refine (HF0.out _).mono ?_; rintro e V ⟨rfl, rfl⟩)
        | (go_at_call 88; refine HWS.out.mono ?_; rintro e V ⟨rfl, hV1, hV2⟩))
      all_goals
        have G := Lib.hid (show TxCut W 0 V from ⟨hV1, HB2.out.trans (hV2.mono (Nat.le_refl _))⟩)
        clear hV1 hV2
        go_wp2_with fail
        go_roundw
        case rel => exact .inr ⟨rfl, G.out⟩
        case measure => simp [intOf]
    · have hs := Tryz.Builder_String (l := txt 0) W.heap.size W.heap.size wr (.inr hc.1) (by decide)
      have HS := Lib.hid hs
      have HC := Lib.hid hc.2
      clear hs hc k0 k1 HWS
      go_wp2_with fail
      refine HS.out.mono ?_
      rintro e w' ⟨rfl, hb⟩
      have G := Lib.hid (HC.out.trans hb)
      clear hb
      go_wp2_with fail
      go_returns
      exact ⟨rfl, G.out⟩

set_option maxHeartbeats 4000000 in
set_option maxRecDepth 100000 in
theorem text_1 {W : World} {g : Nat} (hg : W.heap[g]? = some (.cells #[.int .u64 0, .int .u64 1] 66 (0, 0))) :
    Calls Tryz.prog 73 #[.slice (some ⟨g, 0, none⟩) 1 1] W (TxPost W 1) := by
  have hgl := heap_lt hg
  have hb1 : Below W.heap.size W (W.alloc (.cells #[.pointer none, .slice none 0 0] 196)) := below_alloc (Below.refl _ _)
  have k0 : (W.alloc (.cells #[.pointer none, .slice none 0 0] 196)).cell? ⟨g, 0, none⟩ = some (.int .u64 0) := by rw [hb1.cell (p := ⟨g, 0, none⟩) hgl, cell_block hg]; rfl
  have k1 : (W.alloc (.cells #[.pointer none, .slice none 0 0] 196)).cell? ⟨g, 1, none⟩ = some (.int .u64 1) := by rw [hb1.cell (p := ⟨g, 1, none⟩) hgl, cell_block hg]; rfl
  have hbd : Lib.IsBuilder 196 5 W.heap.size W.heap.size [] ((W.alloc (.cells #[.pointer none, .slice none 0 0] 196)).alloc (.cells #[.int .u64 0, .int .u64 1] 66)).drew :=
    .inl ⟨Nat.le_refl _, .slice none 0 0, by show ((W.alloc (.cells #[.pointer none, .slice none 0 0] 196)).alloc (.cells #[.int .u64 0, .int .u64 1] 66)).heap[W.heap.size]? = _; rw [heap_alloc_lt (by simp)]; exact heap_alloc_new _ _, World.ownsRow_nil _ _ _ _, by simp [Value.ownBlock]⟩
  have hws := ws_any (s := ⟨#[48, 32, 49, 44]⟩) hbd (by decide) (by simp; omega)
  have HWS := Lib.hid hws
  have HB2 := Lib.hid ((below_alloc hb1 (o := .cells #[.int .u64 0, .int .u64 1] 66)).drew)
  have HF0 := Lib.hid (fun w => show Calls Tryz.prog 72 #[.int .u64 0, .int .i64 10] w fun e w' => e = .returned (.string ⟨#[48]⟩) ∧ w = w' from by
    have h := fmt_small (w := w) (u := 0) (by omega)
    rw [dd0] at h
    exact h)
  have HF1 := Lib.hid (fun w => show Calls Tryz.prog 72 #[.int .u64 1, .int .i64 10] w fun e w' => e = .returned (.string ⟨#[49]⟩) ∧ w = w' from by
    have h := fmt_small (w := w) (u := 1) (by omega)
    rw [dd1] at h
    exact h)
  clear hg hb1 hbd hws hgl
  go_enter Tryz.func73, Tryz.ntmps73
  go_wp2_with fail
  go_loopw [8] (fun i wl => TxRel W 1 i wl) (fun i _ => 1 - (intOf i).toNat)
  case atStart => exact .inl ⟨rfl, rfl⟩
  case round =>
    rcases hrel with ⟨rfl, rfl⟩ | ⟨rfl, hc⟩
    · go_upto_region 5 with fail
      go_region_with (first
        | (go_at_call 72; (first | refine (HF0.out _).mono ?_ | refine (HF1.out _).mono ?_); rintro e V ⟨rfl, rfl⟩)
        | (go_at_call 88; refine HWS.out.mono ?_; rintro e V ⟨rfl, hV1, hV2⟩))
      all_goals
        have G := Lib.hid (show TxCut W 1 V from ⟨hV1, HB2.out.trans (hV2.mono (Nat.le_refl _))⟩)
        clear hV1 hV2
        go_wp2_with fail
        go_roundw
        case rel => exact .inr ⟨rfl, G.out⟩
        case measure => simp [intOf]
    · have hs := Tryz.Builder_String (l := txt 1) W.heap.size W.heap.size wr (.inr hc.1) (by decide)
      have HS := Lib.hid hs
      have HC := Lib.hid hc.2
      clear hs hc k0 k1 HWS
      go_wp2_with fail
      refine HS.out.mono ?_
      rintro e w' ⟨rfl, hb⟩
      have G := Lib.hid (HC.out.trans hb)
      clear hb
      go_wp2_with fail
      go_returns
      exact ⟨rfl, G.out⟩

set_option maxHeartbeats 4000000 in
set_option maxRecDepth 100000 in
theorem text_2 {W : World} {g : Nat} (hg : W.heap[g]? = some (.cells #[.int .u64 0, .int .u64 2] 66 (0, 0))) :
    Calls Tryz.prog 73 #[.slice (some ⟨g, 0, none⟩) 1 1] W (TxPost W 2) := by
  have hgl := heap_lt hg
  have hb1 : Below W.heap.size W (W.alloc (.cells #[.pointer none, .slice none 0 0] 196)) := below_alloc (Below.refl _ _)
  have k0 : (W.alloc (.cells #[.pointer none, .slice none 0 0] 196)).cell? ⟨g, 0, none⟩ = some (.int .u64 0) := by rw [hb1.cell (p := ⟨g, 0, none⟩) hgl, cell_block hg]; rfl
  have k1 : (W.alloc (.cells #[.pointer none, .slice none 0 0] 196)).cell? ⟨g, 1, none⟩ = some (.int .u64 2) := by rw [hb1.cell (p := ⟨g, 1, none⟩) hgl, cell_block hg]; rfl
  have hbd : Lib.IsBuilder 196 5 W.heap.size W.heap.size [] ((W.alloc (.cells #[.pointer none, .slice none 0 0] 196)).alloc (.cells #[.int .u64 0, .int .u64 2] 66)).drew :=
    .inl ⟨Nat.le_refl _, .slice none 0 0, by show ((W.alloc (.cells #[.pointer none, .slice none 0 0] 196)).alloc (.cells #[.int .u64 0, .int .u64 2] 66)).heap[W.heap.size]? = _; rw [heap_alloc_lt (by simp)]; exact heap_alloc_new _ _, World.ownsRow_nil _ _ _ _, by simp [Value.ownBlock]⟩
  have hws := ws_any (s := ⟨#[48, 32, 50, 44]⟩) hbd (by decide) (by simp; omega)
  have HWS := Lib.hid hws
  have HB2 := Lib.hid ((below_alloc hb1 (o := .cells #[.int .u64 0, .int .u64 2] 66)).drew)
  have HF0 := Lib.hid (fun w => show Calls Tryz.prog 72 #[.int .u64 0, .int .i64 10] w fun e w' => e = .returned (.string ⟨#[48]⟩) ∧ w = w' from by
    have h := fmt_small (w := w) (u := 0) (by omega)
    rw [dd0] at h
    exact h)
  have HF1 := Lib.hid (fun w => show Calls Tryz.prog 72 #[.int .u64 2, .int .i64 10] w fun e w' => e = .returned (.string ⟨#[50]⟩) ∧ w = w' from by
    have h := fmt_small (w := w) (u := 2) (by omega)
    rw [dd2] at h
    exact h)
  clear hg hb1 hbd hws hgl
  go_enter Tryz.func73, Tryz.ntmps73
  go_wp2_with fail
  go_loopw [8] (fun i wl => TxRel W 2 i wl) (fun i _ => 1 - (intOf i).toNat)
  case atStart => exact .inl ⟨rfl, rfl⟩
  case round =>
    rcases hrel with ⟨rfl, rfl⟩ | ⟨rfl, hc⟩
    · go_upto_region 5 with fail
      go_region_with (first
        | (go_at_call 72; (first | refine (HF0.out _).mono ?_ | refine (HF1.out _).mono ?_); rintro e V ⟨rfl, rfl⟩)
        | (go_at_call 88; refine HWS.out.mono ?_; rintro e V ⟨rfl, hV1, hV2⟩))
      all_goals
        have G := Lib.hid (show TxCut W 2 V from ⟨hV1, HB2.out.trans (hV2.mono (Nat.le_refl _))⟩)
        clear hV1 hV2
        go_wp2_with fail
        go_roundw
        case rel => exact .inr ⟨rfl, G.out⟩
        case measure => simp [intOf]
    · have hs := Tryz.Builder_String (l := txt 2) W.heap.size W.heap.size wr (.inr hc.1) (by decide)
      have HS := Lib.hid hs
      have HC := Lib.hid hc.2
      clear hs hc k0 k1 HWS
      go_wp2_with fail
      refine HS.out.mono ?_
      rintro e w' ⟨rfl, hb⟩
      have G := Lib.hid (HC.out.trans hb)
      clear hb
      go_wp2_with fail
      go_returns
      exact ⟨rfl, G.out⟩

theorem text_any {W : World} {g n : Nat} (hn : n < 3) (hg : W.heap[g]? = some (.cells #[.int .u64 0, .int .u64 n] 66 (0, 0))) :
    Calls Tryz.prog 73 #[.slice (some ⟨g, 0, none⟩) 1 1] W (TxPost W n) := by
  have : n = 0 ∨ n = 1 ∨ n = 2 := by omega
  rcases this with rfl | rfl | rfl
  · exact text_0 hg
  · exact text_1 hg
  · exact text_2 hg
end Go.Proofs.YtejlgnebofdijaaGreatDoor.Dv
