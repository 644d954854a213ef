/-
  The register of the package spec: New, Kind, Contents, Apply.
-/
import Derived.Test.YtejlgnebofdijaaGreatDoorMLhA
import Derived.Test.YtejlgnebofdijaaGreatDoorMMemA
import Derived.Test.YtejlgnebofdijaaGreatDoorMRegA
import Derived.Deep.RegionHeld3
import Derived.Deep.DeepCutAuto
import Derived.Deep.DrawnRows
namespace Go.Proofs.YtejlgnebofdijaaGreatDoor.Dv
open Go.RowKit
open Ln (Cl ap)
set_option linter.unusedVariables false
attribute [local go_sem ↓] Go.wp_at_zero Go.wp_at_succ

/-- A register that holds n. -/
def stv (n : Nat) : Value := .agg #[.int .u8 1, .int .u64 n, .slice none 0 0, .slice none 0 0]
/-- The operation of a call. -/
def opv (x : Cl) : Value := if x.rd then .agg #[.int .u8 1, .int .u64 0, .int .u64 0, .int .u64 0] else .agg #[.int .u8 3, .int .u64 0, .int .u64 x.new, .int .u64 x.old]
def rdone (v : Nat) : Value := .agg #[.int .u64 v, .bool true, .int .i64 0]
def rfail (v : Nat) : Value := .agg #[.int .u64 v, .bool false, .int .i64 6]
def rap (x : Cl) (v : Nat) : Value := match (ap x v).2 with | some r => rdone r | none => rfail v

theorem spnew_any (w : World) : Calls Tryz.prog 42 #[.int .u8 1] w fun e w' => e = .returned (stv 0) ∧ Below w.heap.size w w' := by
  unfold stv
  go_enter Tryz.func42, Tryz.ntmps42
  go_wp2_with fail
  go_returns
  exact ⟨rfl, below_alloc (Below.refl _ _)⟩
theorem spkind_any (w : World) (n : Nat) : Calls Tryz.prog 84 #[stv n] w fun e w' => e = .returned (.int .u8 1) ∧ Below w.heap.size w w' := by
  unfold stv
  go_enter Tryz.func84, Tryz.ntmps84
  go_wp2_with fail
  go_returns
  exact ⟨rfl, below_alloc (Below.refl _ _)⟩
theorem spdone_any (w : World) (v : Nat) : Calls Tryz.prog 93 #[.int .u64 v] w fun e w' => e = .returned (rdone v) ∧ w.alloc (.cells #[.int .u64 v, .bool true, .int .i64 0] 50) = w' := by
  unfold rdone
  go_enter Tryz.func93, Tryz.ntmps93
  go_wp2_with fail
  go_returns
  exact ⟨rfl, rfl⟩
theorem spfail_any (w : World) (v : Nat) : Calls Tryz.prog 94 #[.int .u64 v, .int .i64 6] w fun e w' => e = .returned (rfail v) ∧ w.alloc (.cells #[.int .u64 v, .bool false, .int .i64 6] 50) = w' := by
  unfold rfail
  go_enter Tryz.func94, Tryz.ntmps94
  go_wp2_with fail
  go_returns
  exact ⟨rfl, rfl⟩
def ApPost (w : World) (x : Cl) (v : Nat) (e : Ending) (w' : World) : Prop := e = .returned (.tuple #[stv (ap x v).1, rap x v]) ∧ Below w.heap.size w w'
set_option maxHeartbeats 4000000 in
set_option maxRecDepth 4000 in
theorem spreg_any (w : World) (x : Cl) (v : Nat) : Calls Tryz.prog 90 #[stv v, opv x] w (ApPost w x v) := by
  cases hr : x.rd with
  | true =>
    have e1 : opv x = .agg #[.int .u8 1, .int .u64 0, .int .u64 0, .int .u64 0] := by unfold opv; rw [hr]; rfl
    have e2 : ap x v = (v, some v) := by unfold ap; rw [hr]; rfl
    have e3 : rap x v = rdone v := by unfold rap; rw [e2]
    have G := Lib.hid (fun (w1 : World) (hb : Below w.heap.size w w1) => show ApPost w x v (.returned (.tuple #[stv v, rdone v])) w1 from ⟨by rw [e2, e3], hb⟩)
    rw [e1]
    clear hr e1 e2 e3
    unfold stv at *
    go_enter Tryz.func90, Tryz.ntmps90
    go_upto_region 3 with fail
    unfold rdone at *
    go_region_with (first | (go_at_call 93; refine (spdone_any _ _).mono ?_; rintro e V1 ⟨rfl, rfl⟩; unfold rdone))
    all_goals (go_wp2_with fail; go_returns; exact G.out _ (by repeat (first | exact Below.refl _ _ | apply below_alloc | apply below_drew)))
  | false =>
    have e1 : opv x = .agg #[.int .u8 3, .int .u64 0, .int .u64 x.new, .int .u64 x.old] := by unfold opv; rw [hr]; rfl
    rw [e1]
    obtain ⟨a, ha⟩ : ∃ a, a = x.old := ⟨_, rfl⟩
    obtain ⟨b, hb⟩ : ∃ b, b = x.new := ⟨_, rfl⟩
    by_cases hv : v = x.old
    · have e2 : ap x v = (x.new, some x.old) := by unfold ap; rw [hr, if_neg (by simp), if_pos hv]
      have e3 : rap x v = rdone x.old := by unfold rap; rw [e2]
      have G := Lib.hid (fun (w1 : World) (hb : Below w.heap.size w w1) => show ApPost w x v (.returned (.tuple #[stv x.new, rdone x.old])) w1 from ⟨by rw [e2, e3], hb⟩)
      rw [← ha] at hv
      rw [← ha, ← hb] at G
      rw [← ha, ← hb]
      subst hv
      have d2 : ((v : Int) == (v : Int)) = true := by simp
      clear hr e1 e2 e3 ha hb
      unfold stv at *
      go_enter Tryz.func90, Tryz.ntmps90
      go_upto_region 11 with fail
      unfold rdone at *
      go_region_with (first | (go_at_call 93; refine (spdone_any _ _).mono ?_; rintro e V1 ⟨rfl, rfl⟩; unfold rdone))
      all_goals (go_wp2_with fail; go_returns; exact G.out _ (by repeat (first | exact Below.refl _ _ | apply below_alloc | apply below_drew)))
    · have e2 : ap x v = (v, none) := by unfold ap; rw [hr, if_neg (by simp), if_neg hv]
      have e3 : rap x v = rfail v := by unfold rap; rw [e2]
      have G := Lib.hid (fun (w1 : World) (hb : Below w.heap.size w w1) => show ApPost w x v (.returned (.tuple #[stv v, rfail v])) w1 from ⟨by rw [e2, e3], hb⟩)
      rw [← ha] at hv
      rw [← ha, ← hb]
      have d1 : ((v : Int) == (a : Int)) = false := beq_eq_false_iff_ne.2 (by omega)
      have d2 : ((v : Int) != (a : Int)) = true := by simp; omega
      have d3 : ¬ (v : Int) = a := by omega
      clear hr e1 e2 e3 ha hb hv
      unfold stv at *
      go_enter Tryz.func90, Tryz.ntmps90
      go_upto_region 9 with fail
      unfold rfail at *
      go_region_with (first | (go_at_call 94; refine (spfail_any _ _).mono ?_; rintro e V1 ⟨rfl, rfl⟩; unfold rfail))
      all_goals (go_wp2_with fail; go_returns; exact G.out _ (by repeat (first | exact Below.refl _ _ | apply below_alloc | apply below_drew)))
theorem ap2 (w : World) (a b c d : Obj) : ((((w.alloc a).alloc b).alloc c).alloc d).heap[w.heap.size + 1 + 1]? = some c := by
  rw [heap_alloc_lt (by simp)]
  have := heap_alloc_new ((w.alloc a).alloc b) c
  simpa using this
theorem ap3 (w : World) (a b c d : Obj) : ((((w.alloc a).alloc b).alloc c).alloc d).heap[w.heap.size + 1 + 1 + 1]? = some d := by
  have := heap_alloc_new (((w.alloc a).alloc b).alloc c) d
  simpa using this
theorem spapply_any (w : World) (x : Cl) (v : Nat) : Calls Tryz.prog 74 #[stv v, opv x] w (ApPost w x v) := by
  have HR := Lib.hid (fun (w1 : World) => spreg_any w1 x v)
  obtain ⟨o, ho⟩ : ∃ o, o = opv x := ⟨_, rfl⟩
  rw [← ho] at HR ⊢
  have hagg : ∃ a b c d, o = .agg #[.int .u8 a, .int .u64 b, .int .u64 c, .int .u64 d] := by
    rw [ho]
    unfold opv
    split
    · exact ⟨_, _, _, _, rfl⟩
    · exact ⟨_, _, _, _, rfl⟩
  obtain ⟨a, b, c, d, rfl⟩ := hagg
  have hres : ∃ (z r : Nat) (ok : Bool) (cd : Int), ∀ (w1 : World) e w', ApPost w1 x v e w' → e = .returned (.tuple #[.agg #[.int .u8 1, .int .u64 z, .slice none 0 0, .slice none 0 0], .agg #[.int .u64 r, .bool ok, .int .i64 cd]]) ∧ Below w1.heap.size w1 w' := by
    have hq : ∃ (r : Nat) (ok : Bool) (cd : Int), rap x v = .agg #[.int .u64 r, .bool ok, .int .i64 cd] := by
      unfold rap
      split
      · exact ⟨_, _, _, rfl⟩
      · exact ⟨_, _, _, rfl⟩
    obtain ⟨r, ok, cd, hq⟩ := hq
    exact ⟨_, r, ok, cd, fun w1 e w' h => ⟨by rw [h.1, hq]; rfl, h.2⟩⟩
  obtain ⟨z, r, ok, cd, hpq⟩ := hres
  have HPQ := Lib.hid hpq
  have HMK := Lib.hid (fun (w1 : World) e (w2 w3 : World) (h : ApPost w1 x v e w2) (hb : Below w.heap.size w w1) (hb3 : Below w.heap.size w2 w3) => show ApPost w x v e w3 from ⟨h.1, (hb.trans (h.2.mono hb.size)).trans hb3⟩)
  clear ho hpq
  unfold stv at *
  go_enter Tryz.func74, Tryz.ntmps74
  go_wp2_with fail
  refine (HR.out _).mono ?_
  intro e w2 hp
  obtain ⟨rfl, hb⟩ := HPQ.out _ _ _ hp
  have e2 : w2.heap[w.heap.size + 1 + 1]? = some (.cells #[.int .u8 0, .int .u64 0, .slice none 0 0, .slice none 0 0] 120 (0, 0)) := (hb.block _ (by simp)).trans (ap2 _ _ _ _ _)
  have e3 : w2.heap[w.heap.size + 1 + 1 + 1]? = some (.cells #[.int .u64 0, .bool false, .int .i64 0] 50 (0, 0)) := (hb.block _ (by simp)).trans (ap3 _ _ _ _ _)
  have k20 : w2.cell? ⟨w.heap.size + 1 + 1, 0, none⟩ = some (.int .u8 0) := (cell_block e2).trans rfl
  have k21 : w2.cell? ⟨w.heap.size + 1 + 1, 1, none⟩ = some (.int .u64 0) := (cell_block e2).trans rfl
  have k22 : w2.cell? ⟨w.heap.size + 1 + 1, 2, none⟩ = some (.slice none 0 0) := (cell_block e2).trans rfl
  have k23 : w2.cell? ⟨w.heap.size + 1 + 1, 3, none⟩ = some (.slice none 0 0) := (cell_block e2).trans rfl
  have k30 : w2.cell? ⟨w.heap.size + 1 + 1 + 1, 0, none⟩ = some (.int .u64 0) := (cell_block e3).trans rfl
  have k31 : w2.cell? ⟨w.heap.size + 1 + 1 + 1, 1, none⟩ = some (.bool false) := (cell_block e3).trans rfl
  have k32 : w2.cell? ⟨w.heap.size + 1 + 1 + 1, 2, none⟩ = some (.int .i64 0) := (cell_block e3).trans rfl
  have f2 : ∀ i, w2.frozen? ⟨w.heap.size + 1 + 1, i, none⟩ = false := fun i => free_block e2
  have f3 : ∀ i, w2.frozen? ⟨w.heap.size + 1 + 1 + 1, i, none⟩ = false := fun i => free_block e3
  have hz : w.heap.size ≤ w2.heap.size := by have := hb.size; simp at this; omega
  have G := Lib.hid (fun w3 hb3 => HMK.out _ _ w2 w3 hp (by repeat (first | exact Below.refl _ _ | apply below_alloc | apply below_drew)) hb3)
  clear hp hb e2 e3
  go_wp2_with fail
  refine bodyPost_ret (v := .tuple #[.agg #[.int .u8 1, .int .u64 z, .slice none 0 0, .slice none 0 0], .agg #[.int .u64 r, .bool ok, .int .i64 cd]]) ?_ rfl (G.out _ ?_)
  · simp [results, Tryz.results74, go_sem, k20, k21, k22, k23, k30, k31, k32]
  · refine Below.setCell ?_ (by dsimp only; omega) _
    refine Below.setCell ?_ (by dsimp only; omega) _
    refine Below.setCell ?_ (by dsimp only; omega) _
    refine Below.setCell ?_ (by dsimp only; omega) _
    refine Below.setCell ?_ (by dsimp only; omega) _
    refine Below.setCell ?_ (by dsimp only; omega) _
    refine Below.setCell ?_ (by dsimp only; omega) _
    exact Below.refl _ _
/-- The contents of a register. -/
theorem contents_any (w : World) (n : Nat) : Calls Tryz.prog 40 #[stv n] w fun e w' => ∃ g, e = .returned (.slice (some ⟨g, 0, none⟩) 1 1) ∧ w'.heap[g]? = some (.cells #[.int .u64 0, .int .u64 n] 66 (0, 0)) ∧ w.heap.size ≤ g ∧ Below w.heap.size w w' := by
  unfold stv
  go_enter Tryz.func40, Tryz.ntmps40
  go_wp2_with fail
  go_returns
  exact ⟨w.heap.size + 1, rfl, by rw [← show (w.alloc (.cells #[.int .u8 1, .int .u64 n, .slice none 0 0, .slice none 0 0] 120)).heap.size = w.heap.size + 1 by simp]; exact heap_alloc_new _ _, Nat.le_succ _, below_alloc (below_alloc (Below.refl _ _))⟩
end Go.Proofs.YtejlgnebofdijaaGreatDoor.Dv
