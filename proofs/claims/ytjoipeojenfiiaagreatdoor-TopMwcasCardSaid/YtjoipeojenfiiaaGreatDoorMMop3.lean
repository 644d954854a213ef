/-
  finish, end, execute, load of the package mwcas.
-/
import Derived.Test.YtjoipeojenfiiaaGreatDoorMMopA
import Derived.BigRegion
import Derived.LaidEqlPtr
namespace Go.Proofs.YtjoipeojenfiiaaGreatDoor.Dv
open Go.RowKit
set_option linter.unusedVariables false

theorem lt16 {y : Nat} (h : y < 16) : y = 0 ∨ y = 1 ∨ y = 2 ∨ y = 3 ∨ y = 4 ∨ y = 5 ∨ y = 6 ∨ y = 7 ∨ y = 8 ∨ y = 9 ∨ y = 10 ∨ y = 11 ∨ y = 12 ∨ y = 13 ∨ y = 14 ∨ y = 15 := by omega
/-- One field of an operation changes. -/
theorem ofun_one {A : DAd} {B : MAd} {o o' : OpS} {i j : Nat} {v : Value} (h : ∀ pv, ofun A B o' i pv 0 = (if 0 = j then v else ofun A B o i pv 0) ∧ ofun A B o' i pv 1 = (if 1 = j then v else ofun A B o i pv 1) ∧ ofun A B o' i pv 2 = (if 2 = j then v else ofun A B o i pv 2) ∧
    ofun A B o' i pv 3 = (if 3 = j then v else ofun A B o i pv 3) ∧ ofun A B o' i pv 4 = (if 4 = j then v else ofun A B o i pv 4) ∧ ofun A B o' i pv 5 = (if 5 = j then v else ofun A B o i pv 5) ∧ ofun A B o' i pv 6 = (if 6 = j then v else ofun A B o i pv 6) ∧
    ofun A B o' i pv 7 = (if 7 = j then v else ofun A B o i pv 7) ∧ ofun A B o' i pv 8 = (if 8 = j then v else ofun A B o i pv 8) ∧ ofun A B o' i pv 9 = (if 9 = j then v else ofun A B o i pv 9) ∧ ofun A B o' i pv 10 = (if 10 = j then v else ofun A B o i pv 10) ∧
    ofun A B o' i pv 11 = (if 11 = j then v else ofun A B o i pv 11) ∧ ofun A B o' i pv 12 = (if 12 = j then v else ofun A B o i pv 12) ∧ ofun A B o' i pv 13 = (if 13 = j then v else ofun A B o i pv 13) ∧ ofun A B o' i pv 14 = (if 14 = j then v else ofun A B o i pv 14) ∧
    ofun A B o' i pv 15 = (if 15 = j then v else ofun A B o i pv 15)) :
    ∀ y pv, y < 16 → ofun A B o' i pv y = if y = j then v else ofun A B o i pv y := by
  intro y pv hy
  obtain ⟨h0, h1, h2, h3, h4, h5, h6, h7, h8, h9, h10, h11, h12, h13, h14, h15⟩ := h pv
  rcases lt16 hy with rfl | rfl | rfl | rfl | rfl | rfl | rfl | rfl | rfl | rfl | rfl | rfl | rfl | rfl | rfl | rfl <;> assumption

/-- The pool has come to the state m', and nothing else has changed. -/
def MWent (w : World) (A : DAd) (B : MAd) (Lr N : Nat) (F G : Nat → Option Role) (m' : MS) (w' : World) : Prop := ∃ F' G', MW w' A B Lr N m' F' G' ∧ MMoved F G F' G' w w'

theorem MS.set_set (m : MS) (i : Nat) (a b : OpS) : (m.set i a).set i b = m.set i b := by
  unfold MS.set
  dsimp only
  congr 1
  funext x
  unfold upd
  split <;> rfl
theorem MS.set_op (m : MS) (i : Nat) (a : OpS) : (m.set i a).op i = a := by unfold MS.set; dsimp only; rw [upd_same]

theorem MW.cellO {w : World} {A : DAd} {B : MAd} {Lr N : Nat} {m : MS} {F G : Nat → Option Role} (h : MW w A B Lr N m F G) {i : Nat} (hi : i < N) (j : Nat) (hj : j < 16) (h8 : j ≠ 8) : w.cell? ⟨B.o i, j, none⟩ = some (ofun A B (m.op i) i (.bool false) j) := by
  obtain ⟨pv, h1, _⟩ := h.op i hi
  rw [h1.cell j hj]
  rcases lt16 hj with rfl | rfl | rfl | rfl | rfl | rfl | rfl | rfl | rfl | rfl | rfl | rfl | rfl | rfl | rfl | rfl <;> first | rfl | exact absurd rfl h8
theorem MW.freeO {w : World} {A : DAd} {B : MAd} {Lr N : Nat} {m : MS} {F G : Nat → Option Role} (h : MW w A B Lr N m F G) {i : Nat} (hi : i < N) (j : Nat) : w.frozen? ⟨B.o i, j, none⟩ = false := by
  obtain ⟨pv, h1, _⟩ := h.op i hi
  exact h1.free j

theorem finish_mw {w : World} {A : DAd} {B : MAd} {Lr N : Nat} {m : MS} {F G : Nat → Option Role} (h : MW w A B Lr N m F G) {i : Nat} (hi : i < N) (b : Bool) :
    Calls Tryz.prog 133 #[ptr (B.o i), .bool b] w fun r w' => r = .returned (.tuple #[]) ∧ MWent w A B Lr N F G (m.finish i b) w' := by
  have hok := h.ok i hi
  have c0 : w.cell? ⟨B.o i, 0, none⟩ = some (.pointer (some ⟨B.p, 0, none⟩)) := h.cellO hi 0 (by omega) (by omega)
  have c9 : w.cell? ⟨B.o i, 9, none⟩ = some (.bool (m.op i).done) := h.cellO hi 9 (by omega) (by omega)
  have c10 : w.cell? ⟨B.o i, 10, none⟩ = some (.bool (m.op i).changed) := h.cellO hi 10 (by omega) (by omega)
  have f9 := h.freeO hi 9
  have f10 := h.freeO hi 10
  have cp : w.cell? ⟨B.p, 5, none⟩ = some (optr B m.cur) := h.pool.cell 5 (by omega)
  have fp : w.frozen? ⟨B.p, 5, none⟩ = false := h.pool.free 5
  obtain ⟨h1, m1⟩ := h.setO (i := i) (j := 9) (v := .bool true) (o' := { m.op i with done := true }) hi rfl rfl rfl rfl (ofun_one (fun pv => by simp [ofun])) { hok with }
  obtain ⟨h2, m2⟩ := h1.setO (i := i) (j := 10) (v := .bool b) (o' := { m.op i with done := true, changed := b }) hi (by rw [MS.set_op]) (by rw [MS.set_op]) (by rw [MS.set_op]) (by rw [MS.set_op]) (ofun_one (fun pv => by rw [MS.set_op]; simp [ofun])) { hok with }
  rw [MS.set_set] at h2
  obtain ⟨h3, m3⟩ := h2.setP (c := none) (fun _ e => by cases e)
  have hpne : B.p ≠ B.o i := role_ne h.gp (h.go i hi) (by simp)
  have hpne2 : ¬ B.o i = B.p := fun e => hpne e.symm
  have G1 := Lib.hid (show MWent w A B Lr N F G (m.finish i b) _ from ⟨F, G, h3, (m1.trans m2).trans m3⟩)
  obtain ⟨cv, hcv⟩ : ∃ cv, optr B m.cur = .pointer cv := by cases m.cur <;> exact ⟨_, rfl⟩
  rw [hcv] at cp
  clear h h1 m1 h2 m2 h3 m3 hok hcv
  unfold ptr
  simp only [optr] at G1
  go_enter Tryz.func133, Tryz.ntmps133
  go_wp2_with fail
  go_returns
  exact ⟨rfl, G1.out⟩

theorem MW.drewN {w : World} {A : DAd} {B : MAd} {Lr N : Nat} {m : MS} {F G : Nat → Option Role} (h : MW w A B Lr N m F G) (n : Nat) : MW (w.drewN n) A B Lr N m F G := by
  have hop : ∀ i, i < N → ∃ pv, Row (w.drewN n) (B.o i) 81 16 (ofun A B (m.op i) i pv) ∧ PV (w.drewN n) G i pv (m.op i).prog := by
    intro i hi
    obtain ⟨pv, h1, h2⟩ := h.op i hi
    exact ⟨pv, h1.of_block rfl, h2.of_agree (fun _ _ => rfl)⟩
  exact { h with dev := h.dev.drewN n, pool := h.pool.of_block rfl, busy := h.busy.of_block rfl, op := hop, en := fun i hi => (h.en i hi).of_block rfl, ord := fun i hi => (h.ord i hi).of_block rfl, se := fun i hi => (h.se i hi).of_block rfl }
theorem MW.drew {w : World} {A : DAd} {B : MAd} {Lr N : Nat} {m : MS} {F G : Nat → Option Role} (h : MW w A B Lr N m F G) : MW w.drew A B Lr N m F G := h.drewN 1
theorem MMoved.drew {F G : Nat → Option Role} (w : World) : MMoved F G F G w w.drew := ⟨(Only.refl _ _).drew, fun _ _ => ⟨rfl, rfl⟩⟩

theorem optr_eql {B : MAd} {F G : Nat → Option Role} {w : World} {A : DAd} {Lr N : Nat} {m : MS} (h : MW w A B Lr N m F G) {i : Nat} (hi : i < N) {c : Option Nat} (hc : ∀ x, c = some x → x < N) :
    (optr B c = ptr (B.o i)) ↔ c = some i := by
  constructor
  · intro e
    cases c with
    | none => unfold optr ptr at e; cases e
    | some x =>
      have hx := hc x rfl
      simp only [optr, ptr, Value.pointer.injEq, Option.some.injEq, Addr.mk.injEq, and_true] at e
      have := h.go x hx
      rw [e, h.go i hi] at this
      simp at this
      rw [this]
  · intro e; rw [e]; rfl

theorem infoOp : ((Tryz.prog.info? 81).map (fun i => i.size)) = some 16 := by kernel_rfl
/-- Comparing the pointer to the current operation with one operation. -/
theorem cur_eql {w : World} {A : DAd} {B : MAd} {Lr N : Nat} {m : MS} {F G : Nat → Option Role} (h : MW w A B Lr N m F G) {i : Nat} (hi : i < N) (b : Bool) (hb : b = decide (m.cur = some i)) :
    (binOp .eql 37 (optr B m.cur) (ptr (B.o i))).run Tryz.prog w = .ok (.bool b) w := by
  obtain ⟨j, hj, hjs⟩ : ∃ j, Tryz.prog.info? 81 = some j ∧ j.size = 16 := by
    have := infoOp
    cases hq : Tryz.prog.info? 81 with
    | none => rw [hq] at this; cases this
    | some j => rw [hq] at this; exact ⟨j, rfl, by simpa using this⟩
  have hcu := h.cur
  have hq := optr_eql h hi (c := m.cur) hcu
  cases hc : m.cur with
  | none =>
    rw [hc] at hb
    subst hb
    have h1 : ∀ d : Nat, (Op.equalIn (d + 1) 37 (.pointer none) (ptr (B.o i))).run Tryz.prog w = .ok false w := fun d => by
      simp [Op.equalIn, ptr, run_underlying Tryz.underlying37]
    simp only [optr, binOp]
    simp [Op.equal, Op.maxDepth, h1 9999]
  | some x =>
    rw [hc] at hq hb
    have hx := hcu x hc
    by_cases hxi : x = i
    · subst hxi
      subst hb
      simp only [decide_true]
      exact run_eql_ptr_same w _ Tryz.underlying37 hj
    · have hb2 : b = false := by rw [hb]; exact decide_eq_false (fun e => hxi (Option.some.inj e))
      rw [hb2]
      obtain ⟨pv, r1, _⟩ := h.op x hx
      obtain ⟨pv', r2, _⟩ := h.op i hi
      obtain ⟨c1, hc1, _⟩ := r1
      obtain ⟨c2, hc2, _⟩ := r2
      refine run_eql_ptr_other w Tryz.underlying37 hj (by omega) ?_ hc1 hc2
      intro e
      exact hxi (Option.some.inj (hq.1 (by show Value.pointer (some _) = Value.pointer (some _); rw [e])))

set_option maxRecDepth 4000 in
theorem stop_mw {w : World} {A : DAd} {B : MAd} {Lr N : Nat} {m : MS} {F G : Nat → Option Role} (h : MW w A B Lr N m F G) {i e : Nat} (hi : i < N) (he : e ≤ 20) :
    Calls Tryz.prog 127 #[ptr (B.o i), i64 e] w fun r w' => r = .returned (.bool true) ∧ MWent w A B Lr N F G (m.stop i e) w' := by
  have hok := h.ok i hi
  have hsm := h.small
  have c0 : w.cell? ⟨B.o i, 0, none⟩ = some (.pointer (some ⟨B.p, 0, none⟩)) := h.cellO hi 0 (by omega) (by omega)
  have c11 : w.cell? ⟨B.o i, 11, none⟩ = some (.bool (m.op i).ended) := h.cellO hi 11 (by omega) (by omega)
  have c12 : w.cell? ⟨B.o i, 12, none⟩ = some (.int .i64 (m.op i).err) := h.cellO hi 12 (by omega) (by omega)
  have f11 := h.freeO hi 11
  have f12 := h.freeO hi 12
  obtain ⟨h1, m1⟩ := h.setO (i := i) (j := 11) (v := .bool true) (o' := { m.op i with ended := true }) hi rfl rfl rfl rfl (ofun_one (fun pv => by simp [ofun])) { hok with }
  obtain ⟨h2, m2⟩ := h1.setO (i := i) (j := 12) (v := i64 e) (o' := { m.op i with ended := true, err := e }) hi (by rw [MS.set_op]) (by rw [MS.set_op]) (by rw [MS.set_op]) (by rw [MS.set_op]) (ofun_one (fun pv => by rw [MS.set_op]; simp [ofun])) { hok with err := he }
  rw [MS.set_set] at h2
  obtain ⟨W2, hW2⟩ : ∃ W2, W2 = (w.setCell ⟨B.o i, 11, none⟩ (.bool true)).setCell ⟨B.o i, 12, none⟩ (i64 e) := ⟨_, rfl⟩
  rw [← hW2] at h2 m2
  have d0 : W2.cell? ⟨B.o i, 0, none⟩ = some (.pointer (some ⟨B.p, 0, none⟩)) := h2.cellO hi 0 (by omega) (by omega)
  have d1 : W2.cell? ⟨B.p, 4, none⟩ = some (.slice (some ⟨B.busy, 0, none⟩) B.nb B.nb) := h2.pool.cell 4 (by omega)
  have d2 : W2.cell? ⟨B.o i, 2, none⟩ = some (.int .i64 (m.op i).k) := by
    have := h2.cellO hi 2 (by omega) (by omega)
    rw [MS.set_op] at this
    exact this
  have d3 : W2.cell? ⟨B.busy, (m.op i).k, none⟩ = some (.bool (m.busy (m.op i).k)) := h2.busy.cell _ hok.k
  have g3 : W2.frozen? ⟨B.busy, (m.op i).k, none⟩ = false := h2.busy.free _
  obtain ⟨h3, m3⟩ := h2.setB (k := (m.op i).k) (b := false)
  have hkb : ((m.op i).k : Int) < B.nb := by have := hok.k; omega
  obtain ⟨W3, hW3⟩ : ∃ W3, W3 = (W2.setCell ⟨B.busy, (m.op i).k, none⟩ (.bool false)).drew := ⟨_, rfl⟩
  have h4 := h3.drew
  have m4 := ((m1.trans m2).trans m3).trans (MMoved.drew _)
  rw [← hW3] at h4 m4
  obtain ⟨m', hm'⟩ : ∃ m' : MS, m' = { m.set i { m.op i with ended := true, err := e } with busy := upd m.busy (m.op i).k false } := ⟨_, rfl⟩
  have h4' : MW W3 A B Lr N m' F G := by rw [hm']; exact h4
  have k0 : W3.cell? ⟨B.o i, 0, none⟩ = some (.pointer (some ⟨B.p, 0, none⟩)) := h4'.cellO hi 0 (by omega) (by omega)
  have hop : m'.op i = { m.op i with ended := true, err := e } := by rw [hm']; exact MS.set_op _ _ _
  have hcu : m'.cur = m.cur := by rw [hm']; rfl
  have k9 : W3.cell? ⟨B.o i, 9, none⟩ = some (.bool (m.op i).done) := by
    have := h4'.cellO hi 9 (by omega) (by omega)
    rw [hop] at this
    exact this
  have k7 : W3.cell? ⟨B.o i, 7, none⟩ = some (.int .i64 (m.op i).stage) := by
    have := h4'.cellO hi 7 (by omega) (by omega)
    rw [hop] at this
    exact this
  have k5 : W3.cell? ⟨B.p, 5, none⟩ = some (optr B m.cur) := by
    have := h4'.pool.cell 5 (by omega)
    rw [hcu] at this
    exact this
  have fp : W3.frozen? ⟨B.p, 5, none⟩ = false := h4'.pool.free 5
  have hst := hok.stage
  have hq := optr_eql h hi h.cur
  have heq := cur_eql h4' hi _ rfl
  rw [hcu] at heq
  obtain ⟨h5, m5⟩ := h4'.setP (c := none) (fun _ e => by cases e)
  have GA := Lib.hid (show MWent w A B Lr N F G m' W3 from ⟨F, G, h4', m4⟩)
  have GB := Lib.hid (show MWent w A B Lr N F G { m' with cur := none } (W3.setCell ⟨B.p, 5, none⟩ (.pointer none)) from ⟨F, G, h5, m4.trans m5⟩)
  have hres : m.stop i e = if (m.op i).done = false ∧ m.cur = some i ∧ (m.op i).stage < 2 then { m' with cur := none } else m' := by rw [hm']; rfl
  have HRES := Lib.hid hres
  have HW2 := Lib.hid hW2; have HW3 := Lib.hid hW3
  obtain ⟨cv, hcv⟩ : ∃ cv, optr B m.cur = .pointer cv := by cases m.cur <;> exact ⟨_, rfl⟩
  rw [hcv] at k5 hq heq
  clear h h1 m1 h2 m2 h3 m3 h4 m4 h4' h5 m5 hok hW2 hW3 hres hcv hop hcu hm' hq
  unfold ptr i64 at *
  by_cases hcond : (m.op i).done = false ∧ m.cur = some i ∧ (m.op i).stage < 2
  · have hr : m.stop i e = { m' with cur := none } := by rw [HRES.out, if_pos hcond]
    rw [hr]
    obtain ⟨q1, q2, q3⟩ := hcond
    rw [decide_eq_true q2] at heq
    rw [q1] at k9
    have q4 : ((m.op i).stage : Int) < 2 := by omega
    have q5 : decide (((m.op i).stage : Int) < 2) = true := decide_eq_true q4
    clear hr q1 q2 q3
    go_enter Tryz.func127, Tryz.ntmps127
    go_wp2_with fail
    rw [← HW2.out]
    go_region
    rw [← HW3.out]
    go_wp2_with fail
    go_returns
    exact ⟨rfl, GB.out⟩
  · have hr : m.stop i e = m' := by rw [HRES.out, if_neg hcond]
    rw [hr]
    cases hdn : (m.op i).done
    · rw [hdn] at k9
      by_cases hcu : m.cur = some i
      · rw [decide_eq_true hcu] at heq
        have q4 : ¬ ((m.op i).stage : Int) < 2 := by
          intro hlt
          exact hcond ⟨hdn, hcu, by omega⟩
        have q5 : decide (((m.op i).stage : Int) < 2) = false := decide_eq_false q4
        clear hr hcond hdn hcu
        go_enter Tryz.func127, Tryz.ntmps127
        go_wp2_with fail
        rw [← HW2.out]
        go_region
        rw [← HW3.out]
        go_wp2_with fail
        go_returns
        exact ⟨rfl, GA.out⟩
      · rw [decide_eq_false hcu] at heq
        clear hr hcond hdn hcu
        go_enter Tryz.func127, Tryz.ntmps127
        go_wp2_with fail
        rw [← HW2.out]
        go_region
        rw [← HW3.out]
        go_wp2_with fail
        go_returns
        exact ⟨rfl, GA.out⟩
    · rw [hdn] at k9
      clear hr hcond hdn
      go_enter Tryz.func127, Tryz.ntmps127
      go_wp2_with fail
      rw [← HW2.out]
      go_region
      rw [← HW3.out]
      go_wp2_with fail
      go_returns
      exact ⟨rfl, GA.out⟩
end Go.Proofs.YtjoipeojenfiiaaGreatDoor.Dv
