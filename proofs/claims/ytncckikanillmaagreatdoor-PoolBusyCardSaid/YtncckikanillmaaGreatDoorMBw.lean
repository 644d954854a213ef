/-
  PoolBusy: on threads that exist by the evaluator, on others by hand.
-/
import Derived.Test.YtncckikanillmaaGreatDoorMBz
import Derived.WalkLawsBesides
import Derived.WalkSpells
import Derived.Deep.QuietTactic
import Derived.Outline
namespace Go.Proofs.YtncckikanillmaaGreatDoor.Ev
open Go Go.RowKit
set_option linter.unusedVariables false
set_option linter.unusedSimpArgs false

theorem busyFT : FT.get 4 = some (Tryz.f4, busyM) := by kernel_rfl
theorem busyBody : Tryz.f4.body = some busyC := by kernel_rfl
theorem busyDrop : dropN 13 busyC = .seq m1C (dropN 14 busyC) := by kernel_rfl
theorem busyOk_inv {t : Nat} {u : Bool} {other : Int} {pt nt : TypeId} (h : busyOk t u other pt nt = busyGood other pt nt) :
    ∃ env st v7 v9 v11, busyA t u other pt nt = some (env, st) ∧ env.get 7 = some v7 ∧ env.get 9 = some v9 ∧ env.get 11 = some v11 ∧ env.get 1 = some (.int .i64 other) ∧ ∀ r ∈ rems, busyT v7 v9 v11 st r = some (pt, nt) := by
  unfold busyOk busyGood at h
  generalize busyA t u other pt nt = x at h ⊢
  cases x with
  | none => cases h
  | some p =>
    obtain ⟨env, st⟩ := p
    simp only at h
    cases h7 : env.get 7 with
    | none => rw [h7] at h; cases h
    | some v7 =>
      cases h9 : env.get 9 with
      | none => rw [h7, h9] at h; cases h
      | some v9 =>
        cases h11 : env.get 11 with
        | none => rw [h7, h9, h11] at h; cases h
        | some v11 =>
          cases h1 : env.get 1 with
          | none => rw [h7, h9, h11, h1] at h; cases h
          | some v1 =>
            rw [h7, h9, h11, h1] at h
            simp only [Option.some.injEq, Prod.mk.injEq] at h
            obtain ⟨rfl, hl⟩ := h
            refine ⟨env, st, v7, v9, v11, rfl, h7, h9, h11, h1, fun r hr => ?_⟩
            rw [mapR_eq] at hl
            have hm : busyT v7 v9 v11 st r ∈ rems.map (busyT v7 v9 v11 st) := List.mem_map.2 ⟨r, hr, rfl⟩
            rw [hl] at hm
            simpa using hm
theorem busyT_inv {v7 v9 v11 : Value} {st : St} {r : Int} {q : TypeId × TypeId} (h : busyT v7 v9 v11 st r = some q) : ∃ e s, ih2 (dropN 14 busyC) (envK v7 v9 v11 r) st = .ret e s ∧ eResults TT e s Tryz.f4.results.toList = some (.bool true) ∧ glOk s = some q := by
  unfold busyT at h
  generalize ih2 (dropN 14 busyC) (envK v7 v9 v11 r) st = x at h ⊢
  cases x with
  | ret e s =>
    simp only at h
    refine ⟨e, s, rfl, ?_⟩
    generalize eResults TT e s Tryz.f4.results.toList = y at h ⊢
    split at h
    · exact ⟨rfl, h⟩
    · cases h
  | bad => cases h
  | norm e s => cases h
  | exit id e s => cases h
theorem busy_in {w : World} {pt nt : TypeId} (hw : GOk w pt nt) (t : Nat) (u : Bool) (other : Int) (h : busyOk t u other pt nt = busyGood other pt nt) :
    Calls Tryz.prog 4 #[.int .i64 (t : Int), .int .i64 other, .bool u] w fun e w' => e = .returned (.bool true) ∧ Below w.heap.size w w' := by
  rw [← callsIn_wide]
  obtain ⟨env, st, v7, v9, v11, hA, h7, h9, h11, h, hall⟩ := busyOk_inv h
  obtain ⟨e, s, hrun, hres, hgl⟩ := busyT_inv (hall (Int.tmod other 8) (rem_mem other))
  suffices hs : CallsIn (Fw none) 0 Tryz.prog 4 #[.int .i64 (t : Int), .int .i64 other, .bool u] w (RetR (renG w) (st0 pt nt) w (.bool true) s) by
    refine CallsIn.mono hs ?_
    rintro e w' ⟨v', rfl, _, hR', hW', hv⟩
    cases hv; exact ⟨rfl, below_start hw hR' hW' hgl⟩
  obtain ⟨hf, hname, hcode⟩ := evF _ _ _ busyFT
  obtain ⟨hc, hm⟩ := hcode _ busyBody
  refine callsIn_of_wp_marks hf busyBody trivial ?_
  have har : AR (renG w) [Value.int .i64 (.ofNat t), .int .i64 other, .bool u].toArray #[.int .i64 (t : Int), .int .i64 other, .bool u] := ((AR.one (VR.int .i64 (t : Int))).push (VR.int .i64 other)).push (VR.bool u)
  obtain ⟨a0, ha0⟩ : ∃ a0 : Act, a0 = { tmps := #[Value.int .i64 (t : Int), .int .i64 other, .bool u] ++ Array.replicate (Tryz.f4.ntmps - #[Value.int .i64 (t : Int), .int .i64 other, .bool u].size) undef, defers := [] } := ⟨_, rfl⟩
  have hsz : dstMax busyC ≤ a0.tmps.size := by
    rw [ha0, Array.size_append, Array.size_replicate]
    refine Nat.le_trans hm ?_
    show _ ≤ 3 + (_ - 3)
    omega
  have hE0 : EnvR (renG w) (envOf busyM [Value.int .i64 (.ofNat t), .int .i64 other, .bool u] 0) a0.tmps := by rw [ha0]; exact envOf_R har
  rw [← ha0]
  have hd0 : a0.defers = [] := by rw [ha0]
  clear ha0
  have hc' : codeOk TT busyC (Option.isSome (none : Option Nat)) = true := by rw [Option.isSome_none]; exact hc
  refine runN_sound ih2_opt ih2S none 13 busyC _ _ env st hA (renG w) w _ hc' hsz (R_start hw) hE0 _ ?_
  intro ρ1 w1 a1 c1 hc1 hm1
  have hM := busyM1 v7 v9 v11 other st
  rw [busyDrop] at hc1 hm1 ⊢
  generalize m1C = m1 at hM hc1 hm1 ⊢
  simp only [codeOk, Bool.and_eq_true] at hc1
  simp only [dstMax] at hm1
  obtain ⟨env', hr1, g7, g9, g11, g22⟩ := hM
  have hE1 : EnvR ρ1 (envM v7 v9 v11 other) a1.tmps := by
    intro k v hk
    unfold envM at hk
    simp only [Env.get_set, Env.get_none] at hk
    split at hk
    · rename_i e; cases hk; rw [e]; exact c1.env _ _ h11
    · split at hk
      · rename_i e; cases hk; rw [e]; exact c1.env _ _ h9
      · split at hk
        · rename_i e; cases hk; rw [e]; exact c1.env _ _ h7
        · split at hk
          · rename_i e; cases hk; rw [e]; exact c1.env _ _ h
          · cases hk
  refine wpIn_seq ?_
  refine wpIn_mono (ih2S m1 _ st .norm env' st hr1 none ρ1 w1 a1 hc1.1 (max_l hm1) c1.r hE1).1 ?_
  rintro ex a2 w2 ⟨rfl, ρ2, c2⟩
  have hE2 : EnvR ρ2 (envK v7 v9 v11 (Int.tmod other 8)) a2.tmps := by
    intro k v hk
    unfold envK at hk
    simp only [Env.get_set, Env.get_none] at hk
    split at hk
    · rename_i e; cases hk; rw [e]; exact c2.env _ _ g11
    · split at hk
      · rename_i e; cases hk; rw [e]; exact c2.env _ _ g9
      · split at hk
        · rename_i e; cases hk; rw [e]; exact c2.env _ _ g7
        · split at hk
          · rename_i e; cases hk; rw [e]; exact c2.env _ _ g22
          · cases hk
  have hrun2 : ih2R (dropN 14 busyC) (envK v7 v9 v11 (Int.tmod other 8)) st = some (.ret, e, s) := by rw [← ih2_opt, hrun]; rfl
  refine wpIn_mono (ih2S _ _ st .ret e s hrun2 none ρ2 w2 a2 hc1.2 (by rw [c2.size]; exact max_r hm1) c2.r hE2).1 ?_
  rintro x a3 w3 ⟨rfl, ρ3, c3⟩
  have cc := (c1.trans c2).trans c3
  obtain ⟨ms, hms, hMk, hge⟩ := cc.defers
  have hl := leavesM (P := Tryz.prog) evOk.types cc.env hres ms w3 cc.r cc.went hMk hge
  have hms' : a3.defers = ms := by rw [hms, hd0]; simp
  rw [← hms'] at hl
  exact hl

/-! ### Threads that do not exist -/
theorem dthread_out {w : World} (D : Nat) (x : Int) (h : x < 0 ∨ 8 ≤ x) :
    Calls Tryz.prog 32 #[.pointer (some ⟨D, 0, none⟩), .int .i64 x] w fun e w' => e = .returned (.pointer none) ∧ w = w' := by
  by_cases hx : x < 0
  · have d1 : decide (x < 0) = true := by simp [hx]
    go_enter Tryz.func32, Tryz.ntmps32
    go_wp2_with fail
    go_returns
    exact ⟨rfl, rfl⟩
  · have d1 : decide (x < 0) = false := by simp; omega
    have d2 : decide (8 ≤ x) = true := by simp; omega
    go_enter Tryz.func32, Tryz.ntmps32
    go_wp2_with fail
    go_returns
    exact ⟨rfl, rfl⟩
theorem dthread_nil {w : World} (x : Int) :
    Calls Tryz.prog 32 #[.pointer none, .int .i64 x] w fun e w' => e = .returned (.pointer none) ∧ w = w' := by
  go_enter Tryz.func32, Tryz.ntmps32
  go_wp2_with fail
  go_returns
  exact ⟨rfl, rfl⟩
theorem device_at {w : World} {P D : Nat} (c0 : w.cell? ⟨P, 0, none⟩ = some (.pointer (some ⟨D, 0, none⟩))) :
    Calls Tryz.prog 20 #[.pointer (some ⟨P, 0, none⟩)] w fun e w' => e = .returned (.pointer (some ⟨D, 0, none⟩)) ∧ w = w' := by
  go_enter Tryz.func20, Tryz.ntmps20
  go_wp2_with fail
  go_returns
  exact ⟨rfl, rfl⟩
theorem device_nil {w : World} :
    Calls Tryz.prog 20 #[.pointer none] w fun e w' => e = .returned (.pointer none) ∧ w = w' := by
  go_enter Tryz.func20, Tryz.ntmps20
  go_wp2_with fail
  go_returns
  exact ⟨rfl, rfl⟩
theorem heap_nil {w : World} :
    Calls Tryz.prog 13 #[.pointer none] w fun e w' => e = .returned (.pointer none) ∧ w = w' := by
  go_enter Tryz.func13, Tryz.ntmps13
  go_wp2_with fail
  go_returns
  exact ⟨rfl, rfl⟩
theorem thread_out {w : World} {P D : Nat} (c0 : w.cell? ⟨P, 0, none⟩ = some (.pointer (some ⟨D, 0, none⟩))) (x : Int) (h : x < 0 ∨ 8 ≤ x) :
    Calls Tryz.prog 22 #[.pointer (some ⟨P, 0, none⟩), .int .i64 x] w fun e w' => e = .returned (.pointer none) ∧ w = w' := by
  have H1 := Lib.hid (device_at c0); have H2 := Lib.hid (fun w => dthread_out (w := w) D x h)
  clear h c0
  go_enter Tryz.func22, Tryz.ntmps22
  go_wp2_with fail
  refine H1.out.mono ?_
  rintro e w' ⟨rfl, rfl⟩
  go_wp2_with fail
  refine (H2.out _).mono ?_
  rintro e w' ⟨rfl, rfl⟩
  go_wp2_with fail
  go_returns
  exact ⟨rfl, rfl⟩
theorem thread_nil {w : World} (x : Int) :
    Calls Tryz.prog 22 #[.pointer none, .int .i64 x] w fun e w' => e = .returned (.pointer none) ∧ w = w' := by
  go_enter Tryz.func22, Tryz.ntmps22
  go_wp2_with fail
  refine device_nil.mono ?_
  rintro e w' ⟨rfl, rfl⟩
  go_wp2_with fail
  refine (dthread_nil x).mono ?_
  rintro e w' ⟨rfl, rfl⟩
  go_wp2_with fail
  go_returns
  exact ⟨rfl, rfl⟩
theorem begin_of {w : World} {p : Value} (x : Int) (m : Value) (h : Calls Tryz.prog 22 #[p, .int .i64 x] w fun e w' => e = .returned (.pointer none) ∧ w = w') :
    Calls Tryz.prog 17 #[p, .int .i64 x, m] w fun e w' => e = .returned (.tuple #[.pointer none, .int .i64 1]) ∧ w = w' := by
  have H := Lib.hid h; clear h
  go_enter Tryz.func17, Tryz.ntmps17
  go_wp2_with fail
  refine H.out.mono ?_
  rintro e w' ⟨rfl, rfl⟩
  go_wp2_with fail
  go_returns
  exact ⟨rfl, rfl⟩
theorem direct_of {w : World} {p : Value} (x : Int) (h : Calls Tryz.prog 22 #[p, .int .i64 x] w fun e w' => e = .returned (.pointer none) ∧ w = w') :
    Calls Tryz.prog 21 #[p, .int .i64 x] w fun e w' => e = .returned (.pointer none) ∧ w = w' := by
  have H := Lib.hid h; clear h
  go_enter Tryz.func21, Tryz.ntmps21
  go_wp2_with fail
  refine H.out.mono ?_
  rintro e w' ⟨rfl, rfl⟩
  go_wp2_with fail
  go_returns
  exact ⟨rfl, rfl⟩
theorem open_nil {w : World} :
    Calls Tryz.prog 19 #[.pointer none] w fun e w' => e = .returned (.tuple #[.pointer none, .agg #[.int .i64 0, .int .i64 0, .int .i64 0], .int .i64 1]) ∧ Below w.heap.size w w' := by
  go_enter Tryz.func19, Tryz.ntmps19
  go_wp2_with fail
  go_returns
  exact ⟨rfl, by repeat (first | exact Below.refl _ _ | apply below_alloc | apply Below.setCell | apply Below.alloc | simp)⟩
theorem crash_nil {w : World} :
    Calls Tryz.prog 18 #[.pointer none, .slice none 0 0] w fun e w' => e = .returned (.tuple #[.pointer none, .agg #[.int .i64 0, .int .i64 0, .int .i64 0], .int .i64 1]) ∧ Below w.heap.size w w' := by
  go_enter Tryz.func18, Tryz.ntmps18
  go_wp2_with fail
  go_returns
  exact ⟨rfl, by repeat (first | exact Below.refl _ _ | apply below_alloc | apply Below.setCell | apply Below.alloc | simp)⟩

/-! ### The law -/
theorem HoldsG.below {w w' : World} {g t : Nat} {l : List Value} (h : HoldsG w g t l) (hb : Below w.heap.size w w') : HoldsG w' g t l := by
  obtain ⟨a, h1, h2⟩ := h
  exact ⟨a, (hb.block g (heap_lt h1)).trans h1, h2⟩
theorem GOk.below {w w' : World} {t u : TypeId} (h : GOk w t u) (hb : Below w.heap.size w w') : GOk w' t u :=
  ⟨Nat.le_trans h.size hb.size, h.pay.below hb, h.nib.below hb⟩
noncomputable def madeOut (x : Option (Value × St)) : Option (TypeId × TypeId) :=
  match x with
  | some (.pointer (some ⟨p, 0, none⟩), st) => match ld1 p 0 st with
    | some (.pointer (some ⟨_, 0, none⟩)) => glOk st
    | _ => none
  | _ => none
theorem made_run (t u : TypeId) : madeOut (call0 16 [] (st0 t u)) = some (t, u) := by kernel_rfl
theorem made_any {w : World} {pt nt : TypeId} (hw : GOk w pt nt) :
    Calls Tryz.prog 16 #[] w fun e w' => ∃ P D, e = .returned (.pointer (some ⟨P, 0, none⟩)) ∧ w'.cell? ⟨P, 0, none⟩ = some (.pointer (some ⟨D, 0, none⟩)) ∧ Below w.heap.size w w' := by
  have h := made_run pt nt
  generalize hx : call0 16 [] (st0 pt nt) = x at h
  cases x with
  | none => cases h
  | some q =>
    obtain ⟨v, st⟩ := q
    refine (call_sound hkOk hx (R_start hw) (AR.nil _)).mono ?_
    rintro e w' ⟨v', rfl, ρ', h1, h2, h3⟩
    unfold madeOut at h
    split at h
    case h_2 => cases h
    rename_i p st' heq
    cases heq
    split at h
    case h_2 => cases h
    rename_i d hd
    cases h3 with
    | ptr _ P _ hP =>
    obtain ⟨P', v0, hP', c0, r0⟩ := ld1One h1 hd
    rw [hP] at hP'; cases hP'
    cases r0 with
    | ptr _ D _ hD => exact ⟨P, D, rfl, c0, below_start hw h1 h2 h⟩
theorem awake_any {w : World} {pt nt : TypeId} (hw : GOk w pt nt) :
    Calls Tryz.prog 5 #[] w fun e w' => e = .returned (.bool true) ∧ Below w.heap.size w w' := by
  refine (callG_true hkOk (awake_run pt nt) hw).mono ?_
  rintro e w' ⟨rfl, hb⟩
  exact ⟨rfl, hb⟩
set_option maxRecDepth 4000 in
theorem busy_out {w : World} {pt nt : TypeId} (hw : GOk w pt nt) (thread other : Int) (u : Bool) (h : thread < 0 ∨ 8 ≤ thread) :
    Calls Tryz.prog 4 #[.int .i64 thread, .int .i64 other, .bool u] w fun e w' => e = .returned (.bool true) ∧ Below w.heap.size w w' := by
  have H0 := Lib.hid hw; clear hw
  have HT := Lib.hid h; clear h
  go_enter Tryz.func4, Tryz.ntmps4
  go_wp2_with fail
  refine (awake_any H0.out).mono ?_
  rintro e w1 ⟨rfl, h1⟩
  have H1 := Lib.hid (H0.out.below h1); clear H0
  have HBe := Lib.hid h1; clear h1
  go_wp2_with fail
  refine (made_any H1.out).mono ?_
  rintro e w2 ⟨P, D, rfl, c0, b2⟩
  have HBe2 := Lib.hid (HBe.out.trans (b2.mono HBe.out.size)); clear b2 HBe
  have HB := Lib.hid (fun m => begin_of (p := .pointer (some ⟨P, 0, none⟩)) (w := w2) thread m (thread_out c0 thread HT.out))
  clear H1
  have hlt := World.block_lt_of_cell? _ _ c0
  cases u
  all_goals
    go_wp2_with fail
    refine (HB.out _).mono ?_
    rintro e w' ⟨rfl, rfl⟩
    go_wp2_with fail
    refine (begin_of thread _ (thread_nil thread)).mono ?_
    rintro e w' ⟨rfl, rfl⟩
    go_wp2_with fail
    refine crash_nil.mono ?_
    rintro e w3 ⟨rfl, b3⟩
    have hc3 : w3.cell? ⟨P, 0, none⟩ = some (.pointer (some ⟨D, 0, none⟩)) := (b3.cell hlt).trans c0
    have hlt3 := World.block_lt_of_cell? _ _ hc3
    have HBe3 := Lib.hid (HBe2.out.trans (b3.mono HBe2.out.size)); clear b3 HBe2
    clear HB
    go_wp2_with fail
    refine open_nil.mono ?_
    rintro e w4 ⟨rfl, b4⟩
    have hc4 : w4.cell? ⟨P, 0, none⟩ = some (.pointer (some ⟨D, 0, none⟩)) := (b4.cell (by simp; omega)).trans ((World.cell?_of_block (Dv.heap_alloc_lt hlt3)).trans hc3)
    have hlt4 := World.block_lt_of_cell? _ _ hc4
    have HBe4 := Lib.hid ((HBe3.out.alloc HBe3.out.size _).trans (b4.mono (by have := HBe3.out.size; simp; omega))); clear HBe3
    clear b4 hc3 hlt3
    go_wp2_with fail
    refine device_nil.mono ?_
    rintro e w5 ⟨rfl, rfl⟩
    go_wp2_with fail
    refine heap_nil.mono ?_
    rintro e w5 ⟨rfl, rfl⟩
    go_wp2_with fail
    refine (direct_of 0 (thread_nil 0)).mono ?_
    rintro e w5 ⟨rfl, rfl⟩
    have hcA : (w4.alloc (.cells #[.int .i64 0, .int .i64 0, .int .i64 0] 61)).cell? ⟨P, 0, none⟩ = some (.pointer (some ⟨D, 0, none⟩)) := (World.cell?_of_block (Dv.heap_alloc_lt hlt4)).trans hc4
    have HC := Lib.hid hcA
    clear hcA
    by_cases hx : thread < 0
    · have d1 : decide (thread < 0) = true := by simp [hx]
      clear hx
      go_wp2_with fail
      refine (direct_of thread (thread_out HC.out thread HT.out)).mono ?_
      rintro e w5 ⟨rfl, rfl⟩
      go_wp2_with fail
      refine (thread_out HC.out thread HT.out).mono ?_
      rintro e w5 ⟨rfl, rfl⟩
      go_wp2_with fail
      go_returns
      exact ⟨rfl, HBe4.out.alloc HBe4.out.size _⟩
    · have d1 : decide (thread < 0) = false := by simp; omega
      have d2 : decide (8 ≤ thread) = true := by
        have := HT.out
        simp; omega
      clear hx
      go_wp2_with fail
      refine (direct_of thread (thread_out HC.out thread HT.out)).mono ?_
      rintro e w5 ⟨rfl, rfl⟩
      go_wp2_with fail
      refine (thread_out HC.out thread HT.out).mono ?_
      rintro e w5 ⟨rfl, rfl⟩
      go_wp2_with fail
      go_returns
      exact ⟨rfl, HBe4.out.alloc HBe4.out.size _⟩
end Go.Proofs.YtncckikanillmaaGreatDoor.Ev
