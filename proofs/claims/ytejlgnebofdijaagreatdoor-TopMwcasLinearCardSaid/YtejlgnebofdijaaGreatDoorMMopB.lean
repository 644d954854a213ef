/-
  finish, end, execute, load of the package mwcas.
  execute and load of the package mwcas.
  A pool's program gets a new block.
  The entries, the record and the stores of an operation; the table of the checksum beside a pool.
-/
import Derived.Test.YtejlgnebofdijaaGreatDoorMMopA
import Derived.BigRegion
import Derived.LaidEqlPtr
import Derived.BigQuiet
import Derived.Test.YtejlgnebofdijaaGreatDoorMPlA
namespace Go.Proofs.YtejlgnebofdijaaGreatDoor.Dv
open Go.RowKit
set_option linter.unusedVariables false

theorem lt16 {y : Nat} (h : y < 16) : y = 0 ∨ y = 1 ∨ y = 2 ∨ y = 3 ∨ y = 4 ∨ y = 5 ∨ y = 6 ∨ y = 7 ∨ y = 8 ∨ y = 9 ∨ y = 10 ∨ y = 11 ∨ y = 12 ∨ y = 13 ∨ y = 14 ∨ y = 15 := by omega
/-- One field of an operation changes. -/
theorem ofun_one {A : DAd} {B : MAd} {o o' : OpS} {i j : Nat} {v : Value} (h : ∀ pv, ofun A B o' i pv 0 = (if 0 = j then v else ofun A B o i pv 0) ∧ ofun A B o' i pv 1 = (if 1 = j then v else ofun A B o i pv 1) ∧ ofun A B o' i pv 2 = (if 2 = j then v else ofun A B o i pv 2) ∧
    ofun A B o' i pv 3 = (if 3 = j then v else ofun A B o i pv 3) ∧ ofun A B o' i pv 4 = (if 4 = j then v else ofun A B o i pv 4) ∧ ofun A B o' i pv 5 = (if 5 = j then v else ofun A B o i pv 5) ∧ ofun A B o' i pv 6 = (if 6 = j then v else ofun A B o i pv 6) ∧
    ofun A B o' i pv 7 = (if 7 = j then v else ofun A B o i pv 7) ∧ ofun A B o' i pv 8 = (if 8 = j then v else ofun A B o i pv 8) ∧ ofun A B o' i pv 9 = (if 9 = j then v else ofun A B o i pv 9) ∧ ofun A B o' i pv 10 = (if 10 = j then v else ofun A B o i pv 10) ∧
    ofun A B o' i pv 11 = (if 11 = j then v else ofun A B o i pv 11) ∧ ofun A B o' i pv 12 = (if 12 = j then v else ofun A B o i pv 12) ∧ ofun A B o' i pv 13 = (if 13 = j then v else ofun A B o i pv 13) ∧ ofun A B o' i pv 14 = (if 14 = j then v else ofun A B o i pv 14) ∧
    ofun A B o' i pv 15 = (if 15 = j then v else ofun A B o i pv 15)) :
    ∀ y pv, y < 16 → ofun A B o' i pv y = if y = j then v else ofun A B o i pv y := by
  intro y pv hy
  obtain ⟨h0, h1, h2, h3, h4, h5, h6, h7, h8, h9, h10, h11, h12, h13, h14, h15⟩ := h pv
  rcases lt16 hy with rfl | rfl | rfl | rfl | rfl | rfl | rfl | rfl | rfl | rfl | rfl | rfl | rfl | rfl | rfl | rfl <;> assumption

/-- The pool has come to the state m', and nothing else has changed. -/
def MWent (w : World) (A : DAd) (B : MAd) (Lr N : Nat) (F G : Nat → Option Role) (m' : MS) (w' : World) : Prop := ∃ F' G', MW w' A B Lr N m' F' G' ∧ MMoved F G F' G' w w'

theorem MS.set_set (m : MS) (i : Nat) (a b : OpS) : (m.set i a).set i b = m.set i b := by
  unfold MS.set
  dsimp only
  congr 1
  funext x
  unfold upd
  split <;> rfl
theorem MS.set_op (m : MS) (i : Nat) (a : OpS) : (m.set i a).op i = a := by unfold MS.set; dsimp only; rw [upd_same]

theorem MW.cellO {w : World} {A : DAd} {B : MAd} {Lr N : Nat} {m : MS} {F G : Nat → Option Role} (h : MW w A B Lr N m F G) {i : Nat} (hi : i < N) (j : Nat) (hj : j < 16) (h8 : j ≠ 8) : w.cell? ⟨B.o i, j, none⟩ = some (ofun A B (m.op i) i (.bool false) j) := by
  obtain ⟨pv, h1, _⟩ := h.op i hi
  rw [h1.cell j hj]
  rcases lt16 hj with rfl | rfl | rfl | rfl | rfl | rfl | rfl | rfl | rfl | rfl | rfl | rfl | rfl | rfl | rfl | rfl <;> first | rfl | exact absurd rfl h8
theorem MW.freeO {w : World} {A : DAd} {B : MAd} {Lr N : Nat} {m : MS} {F G : Nat → Option Role} (h : MW w A B Lr N m F G) {i : Nat} (hi : i < N) (j : Nat) : w.frozen? ⟨B.o i, j, none⟩ = false := by
  obtain ⟨pv, h1, _⟩ := h.op i hi
  exact h1.free j

theorem finish_mw {w : World} {A : DAd} {B : MAd} {Lr N : Nat} {m : MS} {F G : Nat → Option Role} (h : MW w A B Lr N m F G) {i : Nat} (hi : i < N) (b : Bool) :
    Calls Tryz.prog 181 #[ptr (B.o i), .bool b] w fun r w' => r = .returned (.tuple #[]) ∧ MWent w A B Lr N F G (m.finish i b) w' := by
  have hok := h.ok i hi
  have c0 : w.cell? ⟨B.o i, 0, none⟩ = some (.pointer (some ⟨B.p, 0, none⟩)) := h.cellO hi 0 (by omega) (by omega)
  have c9 : w.cell? ⟨B.o i, 9, none⟩ = some (.bool (m.op i).done) := h.cellO hi 9 (by omega) (by omega)
  have c10 : w.cell? ⟨B.o i, 10, none⟩ = some (.bool (m.op i).changed) := h.cellO hi 10 (by omega) (by omega)
  have f9 := h.freeO hi 9
  have f10 := h.freeO hi 10
  have cp : w.cell? ⟨B.p, 5, none⟩ = some (optr B m.cur) := h.pool.cell 5 (by omega)
  have fp : w.frozen? ⟨B.p, 5, none⟩ = false := h.pool.free 5
  obtain ⟨h1, m1⟩ := h.setO (i := i) (j := 9) (v := .bool true) (o' := { m.op i with done := true }) hi rfl rfl rfl rfl (ofun_one (fun pv => by simp [ofun])) { hok with }
  obtain ⟨h2, m2⟩ := h1.setO (i := i) (j := 10) (v := .bool b) (o' := { m.op i with done := true, changed := b }) hi (by rw [MS.set_op]) (by rw [MS.set_op]) (by rw [MS.set_op]) (by rw [MS.set_op]) (ofun_one (fun pv => by rw [MS.set_op]; simp [ofun])) { hok with }
  rw [MS.set_set] at h2
  obtain ⟨h3, m3⟩ := h2.setP (c := none) (fun _ e => by cases e)
  have hpne : B.p ≠ B.o i := role_ne h.gp (h.go i hi) (by simp)
  have hpne2 : ¬ B.o i = B.p := fun e => hpne e.symm
  have G1 := Lib.hid (show MWent w A B Lr N F G (m.finish i b) _ from ⟨F, G, h3, (m1.trans m2).trans m3⟩)
  obtain ⟨cv, hcv⟩ : ∃ cv, optr B m.cur = .pointer cv := by cases m.cur <;> exact ⟨_, rfl⟩
  rw [hcv] at cp
  clear h h1 m1 h2 m2 h3 m3 hok hcv
  unfold ptr
  simp only [optr] at G1
  go_enter Tryz.func181, Tryz.ntmps181
  go_wp2_with fail
  go_returns
  exact ⟨rfl, G1.out⟩

theorem MW.drewN {w : World} {A : DAd} {B : MAd} {Lr N : Nat} {m : MS} {F G : Nat → Option Role} (h : MW w A B Lr N m F G) (n : Nat) : MW (w.drewN n) A B Lr N m F G := by
  have hop : ∀ i, i < N → ∃ pv, Row (w.drewN n) (B.o i) 156 16 (ofun A B (m.op i) i pv) ∧ PV (w.drewN n) G i pv (m.op i).prog := by
    intro i hi
    obtain ⟨pv, h1, h2⟩ := h.op i hi
    exact ⟨pv, h1.of_block rfl, h2.of_agree (fun _ _ => rfl)⟩
  exact { h with dev := h.dev.drewN n, pool := h.pool.of_block rfl, busy := h.busy.of_block rfl, op := hop, en := fun i hi => (h.en i hi).of_block rfl, ord := fun i hi => (h.ord i hi).of_block rfl, se := fun i hi => (h.se i hi).of_block rfl }
theorem MW.drew {w : World} {A : DAd} {B : MAd} {Lr N : Nat} {m : MS} {F G : Nat → Option Role} (h : MW w A B Lr N m F G) : MW w.drew A B Lr N m F G := h.drewN 1
theorem MMoved.drew {F G : Nat → Option Role} (w : World) : MMoved F G F G w w.drew := ⟨(Only.refl _ _).drew, fun _ _ => ⟨rfl, rfl⟩⟩

theorem optr_eql {B : MAd} {F G : Nat → Option Role} {w : World} {A : DAd} {Lr N : Nat} {m : MS} (h : MW w A B Lr N m F G) {i : Nat} (hi : i < N) {c : Option Nat} (hc : ∀ x, c = some x → x < N) :
    (optr B c = ptr (B.o i)) ↔ c = some i := by
  constructor
  · intro e
    cases c with
    | none => unfold optr ptr at e; cases e
    | some x =>
      have hx := hc x rfl
      simp only [optr, ptr, Value.pointer.injEq, Option.some.injEq, Addr.mk.injEq, and_true] at e
      have := h.go x hx
      rw [e, h.go i hi] at this
      simp at this
      rw [this]
  · intro e; rw [e]; rfl

theorem infoOp : ((Tryz.prog.info? 156).map (fun i => i.size)) = some 16 := by kernel_rfl
/-- Comparing the pointer to the current operation with one operation. -/
theorem cur_eql {w : World} {A : DAd} {B : MAd} {Lr N : Nat} {m : MS} {F G : Nat → Option Role} (h : MW w A B Lr N m F G) {i : Nat} (hi : i < N) (b : Bool) (hb : b = decide (m.cur = some i)) :
    (binOp .eql 93 (optr B m.cur) (ptr (B.o i))).run Tryz.prog w = .ok (.bool b) w := by
  obtain ⟨j, hj, hjs⟩ : ∃ j, Tryz.prog.info? 156 = some j ∧ j.size = 16 := by
    have := infoOp
    cases hq : Tryz.prog.info? 156 with
    | none => rw [hq] at this; cases this
    | some j => rw [hq] at this; exact ⟨j, rfl, by simpa using this⟩
  have hcu := h.cur
  have hq := optr_eql h hi (c := m.cur) hcu
  cases hc : m.cur with
  | none =>
    rw [hc] at hb
    subst hb
    have h1 : ∀ d : Nat, (Op.equalIn (d + 1) 93 (.pointer none) (ptr (B.o i))).run Tryz.prog w = .ok false w := fun d => by
      simp [Op.equalIn, ptr, run_underlying Tryz.underlying93]
    simp only [optr, binOp]
    simp [Op.equal, Op.maxDepth, h1 9999]
  | some x =>
    rw [hc] at hq hb
    have hx := hcu x hc
    by_cases hxi : x = i
    · subst hxi
      subst hb
      simp only [decide_true]
      exact run_eql_ptr_same w _ Tryz.underlying93 hj
    · have hb2 : b = false := by rw [hb]; exact decide_eq_false (fun e => hxi (Option.some.inj e))
      rw [hb2]
      obtain ⟨pv, r1, _⟩ := h.op x hx
      obtain ⟨pv', r2, _⟩ := h.op i hi
      obtain ⟨c1, hc1, _⟩ := r1
      obtain ⟨c2, hc2, _⟩ := r2
      refine run_eql_ptr_other w Tryz.underlying93 hj (by omega) ?_ hc1 hc2
      intro e
      exact hxi (Option.some.inj (hq.1 (by show Value.pointer (some _) = Value.pointer (some _); rw [e])))

set_option maxRecDepth 4000 in
theorem stop_mw {w : World} {A : DAd} {B : MAd} {Lr N : Nat} {m : MS} {F G : Nat → Option Role} (h : MW w A B Lr N m F G) {i e : Nat} (hi : i < N) (he : e ≤ 20) :
    Calls Tryz.prog 175 #[ptr (B.o i), i64 e] w fun r w' => r = .returned (.bool true) ∧ MWent w A B Lr N F G (m.stop i e) w' := by
  have hok := h.ok i hi
  have hsm := h.small
  have c0 : w.cell? ⟨B.o i, 0, none⟩ = some (.pointer (some ⟨B.p, 0, none⟩)) := h.cellO hi 0 (by omega) (by omega)
  have c11 : w.cell? ⟨B.o i, 11, none⟩ = some (.bool (m.op i).ended) := h.cellO hi 11 (by omega) (by omega)
  have c12 : w.cell? ⟨B.o i, 12, none⟩ = some (.int .i64 (m.op i).err) := h.cellO hi 12 (by omega) (by omega)
  have f11 := h.freeO hi 11
  have f12 := h.freeO hi 12
  obtain ⟨h1, m1⟩ := h.setO (i := i) (j := 11) (v := .bool true) (o' := { m.op i with ended := true }) hi rfl rfl rfl rfl (ofun_one (fun pv => by simp [ofun])) { hok with }
  obtain ⟨h2, m2⟩ := h1.setO (i := i) (j := 12) (v := i64 e) (o' := { m.op i with ended := true, err := e }) hi (by rw [MS.set_op]) (by rw [MS.set_op]) (by rw [MS.set_op]) (by rw [MS.set_op]) (ofun_one (fun pv => by rw [MS.set_op]; simp [ofun])) { hok with err := he }
  rw [MS.set_set] at h2
  obtain ⟨W2, hW2⟩ : ∃ W2, W2 = (w.setCell ⟨B.o i, 11, none⟩ (.bool true)).setCell ⟨B.o i, 12, none⟩ (i64 e) := ⟨_, rfl⟩
  rw [← hW2] at h2 m2
  have d0 : W2.cell? ⟨B.o i, 0, none⟩ = some (.pointer (some ⟨B.p, 0, none⟩)) := h2.cellO hi 0 (by omega) (by omega)
  have d1 : W2.cell? ⟨B.p, 4, none⟩ = some (.slice (some ⟨B.busy, 0, none⟩) B.nb B.nb) := h2.pool.cell 4 (by omega)
  have d2 : W2.cell? ⟨B.o i, 2, none⟩ = some (.int .i64 (m.op i).k) := by
    have := h2.cellO hi 2 (by omega) (by omega)
    rw [MS.set_op] at this
    exact this
  have d3 : W2.cell? ⟨B.busy, (m.op i).k, none⟩ = some (.bool (m.busy (m.op i).k)) := h2.busy.cell _ hok.k
  have g3 : W2.frozen? ⟨B.busy, (m.op i).k, none⟩ = false := h2.busy.free _
  obtain ⟨h3, m3⟩ := h2.setB (k := (m.op i).k) (b := false)
  have hkb : ((m.op i).k : Int) < B.nb := by have := hok.k; omega
  obtain ⟨W3, hW3⟩ : ∃ W3, W3 = (W2.setCell ⟨B.busy, (m.op i).k, none⟩ (.bool false)).drew := ⟨_, rfl⟩
  have h4 := h3.drew
  have m4 := ((m1.trans m2).trans m3).trans (MMoved.drew _)
  rw [← hW3] at h4 m4
  obtain ⟨m', hm'⟩ : ∃ m' : MS, m' = { m.set i { m.op i with ended := true, err := e } with busy := upd m.busy (m.op i).k false } := ⟨_, rfl⟩
  have h4' : MW W3 A B Lr N m' F G := by rw [hm']; exact h4
  have k0 : W3.cell? ⟨B.o i, 0, none⟩ = some (.pointer (some ⟨B.p, 0, none⟩)) := h4'.cellO hi 0 (by omega) (by omega)
  have hop : m'.op i = { m.op i with ended := true, err := e } := by rw [hm']; exact MS.set_op _ _ _
  have hcu : m'.cur = m.cur := by rw [hm']; rfl
  have k9 : W3.cell? ⟨B.o i, 9, none⟩ = some (.bool (m.op i).done) := by
    have := h4'.cellO hi 9 (by omega) (by omega)
    rw [hop] at this
    exact this
  have k7 : W3.cell? ⟨B.o i, 7, none⟩ = some (.int .i64 (m.op i).stage) := by
    have := h4'.cellO hi 7 (by omega) (by omega)
    rw [hop] at this
    exact this
  have k5 : W3.cell? ⟨B.p, 5, none⟩ = some (optr B m.cur) := by
    have := h4'.pool.cell 5 (by omega)
    rw [hcu] at this
    exact this
  have fp : W3.frozen? ⟨B.p, 5, none⟩ = false := h4'.pool.free 5
  have hst := hok.stage
  have hq := optr_eql h hi h.cur
  have heq := cur_eql h4' hi _ rfl
  rw [hcu] at heq
  obtain ⟨h5, m5⟩ := h4'.setP (c := none) (fun _ e => by cases e)
  have GA := Lib.hid (show MWent w A B Lr N F G m' W3 from ⟨F, G, h4', m4⟩)
  have GB := Lib.hid (show MWent w A B Lr N F G { m' with cur := none } (W3.setCell ⟨B.p, 5, none⟩ (.pointer none)) from ⟨F, G, h5, m4.trans m5⟩)
  have hres : m.stop i e = if (m.op i).done = false ∧ m.cur = some i ∧ (m.op i).stage < 2 then { m' with cur := none } else m' := by rw [hm']; rfl
  have HRES := Lib.hid hres
  have HW2 := Lib.hid hW2; have HW3 := Lib.hid hW3
  obtain ⟨cv, hcv⟩ : ∃ cv, optr B m.cur = .pointer cv := by cases m.cur <;> exact ⟨_, rfl⟩
  rw [hcv] at k5 hq heq
  clear h h1 m1 h2 m2 h3 m3 h4 m4 h4' h5 m5 hok hW2 hW3 hres hcv hop hcu hm' hq
  unfold ptr i64 at *
  by_cases hcond : (m.op i).done = false ∧ m.cur = some i ∧ (m.op i).stage < 2
  · have hr : m.stop i e = { m' with cur := none } := by rw [HRES.out, if_pos hcond]
    rw [hr]
    obtain ⟨q1, q2, q3⟩ := hcond
    rw [decide_eq_true q2] at heq
    rw [q1] at k9
    have q4 : ((m.op i).stage : Int) < 2 := by omega
    have q5 : decide (((m.op i).stage : Int) < 2) = true := decide_eq_true q4
    clear hr q1 q2 q3
    go_enter Tryz.func175, Tryz.ntmps175
    go_wp2_with fail
    rw [← HW2.out]
    go_region
    rw [← HW3.out]
    go_wp2_with fail
    go_returns
    exact ⟨rfl, GB.out⟩
  · have hr : m.stop i e = m' := by rw [HRES.out, if_neg hcond]
    rw [hr]
    cases hdn : (m.op i).done
    · rw [hdn] at k9
      by_cases hcu : m.cur = some i
      · rw [decide_eq_true hcu] at heq
        have q4 : ¬ ((m.op i).stage : Int) < 2 := by
          intro hlt
          exact hcond ⟨hdn, hcu, by omega⟩
        have q5 : decide (((m.op i).stage : Int) < 2) = false := decide_eq_false q4
        clear hr hcond hdn hcu
        go_enter Tryz.func175, Tryz.ntmps175
        go_wp2_with fail
        rw [← HW2.out]
        go_region
        rw [← HW3.out]
        go_wp2_with fail
        go_returns
        exact ⟨rfl, GA.out⟩
      · rw [decide_eq_false hcu] at heq
        clear hr hcond hdn hcu
        go_enter Tryz.func175, Tryz.ntmps175
        go_wp2_with fail
        rw [← HW2.out]
        go_region
        rw [← HW3.out]
        go_wp2_with fail
        go_returns
        exact ⟨rfl, GA.out⟩
    · rw [hdn] at k9
      clear hr hcond hdn
      go_enter Tryz.func175, Tryz.ntmps175
      go_wp2_with fail
      rw [← HW2.out]
      go_region
      rw [← HW3.out]
      go_wp2_with fail
      go_returns
      exact ⟨rfl, GA.out⟩
end Go.Proofs.YtejlgnebofdijaaGreatDoor.Dv

namespace Go.Proofs.YtejlgnebofdijaaGreatDoor.Dv
open Go.RowKit
set_option linter.unusedVariables false

theorem mexecute_dev {w : World} {A : DAd} {s : DSt} {F : Nat → Option Role} (h : Dev w A s F) {i : Nat} (hi : i < 8) {x : Ins} (hx : x.Ok) (hex : s.ex < 1000000) :
    Calls Tryz.prog 178 #[ptr (A.t i), .agg #[.int .u8 x.op, u64 x.off, u64 x.val]] w fun r w' => r = .returned (.tuple #[]) ∧ Went w A F (s.exec i x) w' := by
  obtain ⟨op, off, v⟩ := x
  obtain ⟨h1, h2, ho, hv⟩ := hx
  dsimp only at h1 h2 ho hv
  have hop : op = 1 ∨ op = 2 ∨ op = 3 := by omega
  rcases hop with rfl | rfl | rfl
  · have HS := Lib.hid (store_dev (h.alloc (.cells #[.int .u8 1, u64 off, u64 v] 141)) hi ho hv hex)
    clear h
    unfold ptr u64 at *
    go_enter Tryz.func178, Tryz.ntmps178
    go_wp2_with fail
    refine HS.out.mono ?_
    rintro e w' ⟨rfl, F', g1, g2⟩
    have G := Lib.hid (show Went w A F (s.exec i ⟨1, off, v⟩) w' from ⟨F', g1, (Moved.alloc w _).trans g2⟩)
    clear g1 g2
    go_wp2_with fail
    go_returns
    exact ⟨rfl, G.out⟩
  · have HS := Lib.hid (flush_dev (h.alloc (.cells #[.int .u8 2, u64 off, u64 v] 141)) hi ho hex)
    clear h
    unfold ptr u64 at *
    go_enter Tryz.func178, Tryz.ntmps178
    go_wp2_with fail
    refine HS.out.mono ?_
    rintro e w' ⟨rfl, g1, g2⟩
    have G := Lib.hid (show Went w A F (s.exec i ⟨2, off, v⟩) w' from ⟨F, g1, (Moved.alloc w _).trans g2⟩)
    clear g1 g2
    go_wp2_with fail
    go_returns
    exact ⟨rfl, G.out⟩
  · have HS := Lib.hid (fence_dev (h.alloc (.cells #[.int .u8 3, u64 off, u64 v] 141)) hi hex)
    clear h
    unfold ptr u64 at *
    go_enter Tryz.func178, Tryz.ntmps178
    go_wp2_with fail
    refine HS.out.mono ?_
    rintro e w' ⟨rfl, g1, g2⟩
    have G := Lib.hid (show Went w A F (s.exec i ⟨3, off, v⟩) w' from ⟨F, g1, (Moved.alloc w _).trans g2⟩)
    clear g1 g2
    go_wp2_with fail
    go_returns
    exact ⟨rfl, G.out⟩
end Go.Proofs.YtejlgnebofdijaaGreatDoor.Dv

namespace Go.Proofs.YtejlgnebofdijaaGreatDoor.Dv
open Go.RowKit
set_option linter.unusedVariables false

/-- Only new blocks. -/
theorem MW.below {w w' : World} {A : DAd} {B : MAd} {Lr N : Nat} {m : MS} {F G : Nat → Option Role} (h : MW w A B Lr N m F G) (hb : Below w.heap.size w w') : MW w' A B Lr N m F G ∧ MMoved F G F G w w' :=
  h.moved (s := m.dev) (h.dev.below hb) ⟨Only.of_below hb, fun _ _ => rfl⟩ rfl

/-- A block with no role becomes a program of operation i. -/
theorem MW.adopt {w : World} {A : DAd} {B : MAd} {Lr N : Nat} {m : MS} {F G : Nat → Option Role} (h : MW w A B Lr N m F G) {g i : Nat} (hg : G g = none) (hf : F g = none) (hl : g < w.heap.size) : MW w A B Lr N m F (upd G g (some (6, i))) := by
  have ne : ∀ b q, G b = some q → upd G g (some (6, i)) b = some q := by
    intro b q hb
    rw [upd_ne _ _ (fun e => by rw [e, hg] at hb; cases hb)]
    exact hb
  have hop : ∀ j, j < N → ∃ pv, Row w (B.o j) 156 16 (ofun A B (m.op j) j pv) ∧ PV w (upd G g (some (6, i))) j pv (m.op j).prog := by
    intro j hj
    obtain ⟨pv, h1, h2⟩ := h.op j hj
    refine ⟨pv, h1, ?_⟩
    rcases h2 with h2 | ⟨pb, c, e1, e2, e3⟩
    · exact .inl h2
    · exact .inr ⟨pb, c, e1, ne _ _ e2, e3⟩
  have hgf : ∀ b, upd G g (some (6, i)) b ≠ none → F b = none ∧ b < w.heap.size := by
    intro b hb
    by_cases e : b = g
    · rw [e]; exact ⟨hf, hl⟩
    · rw [upd_ne _ _ e] at hb
      exact h.gf b hb
  exact { h with op := hop, gp := ne _ _ h.gp, gb := ne _ _ h.gb, go := fun j hj => ne _ _ (h.go j hj), ge := fun j hj => ne _ _ (h.ge j hj), gr := fun j hj => ne _ _ (h.gr j hj), gs := fun j hj => ne _ _ (h.gs j hj), gf := hgf }

/-- The program of an operation is set. -/
theorem MW.setV {w : World} {A : DAd} {B : MAd} {Lr N : Nat} {m : MS} {F G : Nat → Option Role} (h : MW w A B Lr N m F G) {i : Nat} {v : Value} {l : List Ins} (hi : i < N) (hpv : PV w G i v l) (hl : ∀ x ∈ l, x.Ok) :
    MW (w.setCell ⟨B.o i, 8, none⟩ v) A B Lr N (m.set i { m.op i with prog := l }) F G ∧ MMoved F G F G w (w.setCell ⟨B.o i, 8, none⟩ v) := by
  have hg := h.go i hi
  have hok : ({ m.op i with prog := l } : OpS).Ok Lr (64 * m.dev.L) B.nb N := { h.ok i hi with prog := hl }
  refine ⟨{ h with dev := h.devSet hg, pool := h.pool.set_other (role_ne h.gp hg (by simp)), busy := h.busy.set_other (role_ne h.gb hg (by simp)), op := ?_, en := ?_, ord := ?_, se := ?_, gf := ?_, ok := ?_ }, MMoved.set hg⟩
  · intro k hk
    by_cases e : k = i
    · subst e
      obtain ⟨pv, h1, h2⟩ := h.op k hk
      unfold MS.set
      dsimp only
      rw [upd_same]
      refine ⟨v, (h1.set 8 v).congr (fun y hy => ?_), hpv.of_agree (fun b hb => heap_set_ne (role_ne hb hg (by simp)))⟩
      rcases lt16 hy with rfl | rfl | rfl | rfl | rfl | rfl | rfl | rfl | rfl | rfl | rfl | rfl | rfl | rfl | rfl | rfl <;> rfl
    · obtain ⟨pv, h1, h2⟩ := h.op k hk
      unfold MS.set
      dsimp only
      rw [upd_ne _ _ e]
      exact ⟨pv, h1.set_other (role_ne (h.go k hk) hg (by simp [e])), h2.of_agree (fun b hb => heap_set_ne (role_ne hb hg (by simp)))⟩
  · intro k hk
    have : ((m.set i { m.op i with prog := l }).op k).es = (m.op k).es := by unfold MS.set upd; dsimp only; split; rename_i e; rw [e]; rfl
    rw [this]
    exact seen_set_ne (h.en k hk) (role_ne (h.ge k hk) hg (by simp))
  · intro k hk
    have : ((m.set i { m.op i with prog := l }).op k).ord = (m.op k).ord := by unfold MS.set upd; dsimp only; split; rename_i e; rw [e]; rfl
    rw [this]
    exact seen_set_ne (h.ord k hk) (role_ne (h.gr k hk) hg (by simp))
  · intro k hk
    have e1 : ((m.set i { m.op i with prog := l }).op k).es = (m.op k).es := by unfold MS.set upd; dsimp only; split; rename_i e; rw [e]; rfl
    have e2 : ((m.set i { m.op i with prog := l }).op k).seen = (m.op k).seen := by unfold MS.set upd; dsimp only; split; rename_i e; rw [e]; rfl
    rw [e1, e2]
    exact (h.se k hk).set_other (role_ne (h.gs k hk) hg (by simp))
  · intro b hb
    have := h.gf b hb
    exact ⟨this.1, by simpa [World.setCell] using this.2⟩
  · intro k hk
    unfold MS.set upd
    dsimp only
    split
    · exact hok
    · exact h.ok k hk

theorem prog_ok {l : List (Nat × Nat)} (h : ∀ p ∈ l, p.1 < 18446744073709551616 ∧ p.2 < 18446744073709551616) : ∀ x ∈ prog l, x.Ok := by
  intro x hx
  unfold prog at hx
  rw [List.mem_append, List.mem_append] at hx
  rcases hx with (hx | hx) | hx
  · obtain ⟨p, hp, rfl⟩ := List.mem_map.1 hx
    exact ⟨by dsimp only; omega, by dsimp only; omega, (h p hp).1, (h p hp).2⟩
  · obtain ⟨y, hy, rfl⟩ := List.mem_map.1 hx
    have e : (l.map (fun p => line p.1)).length = l.length := by simp
    rw [← e] at hy
    have hy' := (mem_dd _ _).1 hy
    obtain ⟨p, hp, rfl⟩ := List.mem_map.1 hy'
    have := (h p hp).1
    refine ⟨by dsimp only; omega, by dsimp only; omega, ?_, by dsimp only; omega⟩
    show line p.1 < _
    unfold line
    omega
  · simp at hx
    subst hx
    exact ⟨by decide, by decide, by decide, by decide⟩

/-- The new program of an operation, made in blocks of its own, is stored. -/
theorem MW.newProg {w0 w1 w2 : World} {A : DAd} {B : MAd} {Lr N : Nat} {m : MS} {F G : Nat → Option Role} (h : MW w1 A B Lr N m F G) (mv : MMoved F G F G w0 w1) {i : Nat} (hi : i < N) {l : List Ins} (hl : ∀ x ∈ l, x.Ok) {g cap : Nat}
    (hown : w2.ownsRow w1.heap.size 141 3 (.slice (some ⟨g, 0, none⟩) l.length cap) l.length (icells l)) (hb : Below w1.heap.size w1 w2) :
    (∃ v, w2.cell? ⟨B.o i, 8, none⟩ = some v) ∧ w2.frozen? ⟨B.o i, 8, none⟩ = false ∧ MWent w0 A B Lr N F G (m.set i { m.op i with prog := l }) (w2.setCell ⟨B.o i, 8, none⟩ (.slice (some ⟨g, 0, none⟩) l.length cap)) := by
  obtain ⟨h2, mv2⟩ := h.below hb
  have hg := hown.lt g rfl
  have gn : G g = none := by
    cases e : G g with
    | none => rfl
    | some q => have := (h.gf g (by rw [e]; simp)).2; omega
  have fn : F g = none := by
    cases e : F g with
    | none => rfl
    | some q => have := h.dev.lt g (by rw [e]; simp); omega
  have h3 := h2.adopt (i := i) gn fn hg.2
  have hs : Seen w2 g 0 (icells l) := fun j u hj => by
    have := hown.cells (g := g) rfl j u hj
    rw [Addr.add_lit] at this
    exact this
  obtain ⟨h4, mv4⟩ := h3.setV hi (v := .slice (some ⟨g, 0, none⟩) l.length cap) (l := l) (.inr ⟨g, cap, rfl, upd_same _ _ _, hs⟩) hl
  obtain ⟨pv, r1, _⟩ := h2.op i hi
  have mvg : MMoved F G F (upd G g (some (6, i))) w0 w2 := ⟨(mv.trans mv2).only, fun k hk => ⟨rfl, by
    have : k < w1.heap.size := Nat.lt_of_lt_of_le hk mv.only.size
    rw [upd_ne _ _ (show k ≠ g by omega)]⟩⟩
  exact ⟨⟨_, r1.cell 8 (by omega)⟩, r1.free 8, F, upd G g (some (6, i)), h4, mvg.trans mv4⟩
end Go.Proofs.YtejlgnebofdijaaGreatDoor.Dv

namespace Go.Proofs.YtejlgnebofdijaaGreatDoor.Dv
open Go.RowKit
set_option linter.unusedVariables false

theorem MWent.from {w w1 w' : World} {A : DAd} {B : MAd} {Lr N : Nat} {F G F1 G1 : Nat → Option Role} {m' : MS} (mv : MMoved F G F1 G1 w w1) (h : MWent w1 A B Lr N F1 G1 m' w') : MWent w A B Lr N F G m' w' := by
  obtain ⟨F', G', h1, h2⟩ := h
  exact ⟨F', G', h1, mv.trans h2⟩

/-- The table of the checksum is none of the blocks of the device and the pool. -/
structure Tb (w : World) (T : Nat → Nat) (F G : Nat → Option Role) : Prop where
  tab : NTab w T
  f : F 1 = none
  g : G 1 = none
theorem Tb.moved {w w' : World} {T : Nat → Nat} {F G F' G' : Nat → Option Role} (h : Tb w T F G) (mv : MMoved F G F' G' w w') : Tb w' T F' G' where
  tab := h.tab.of_block (mv.only.block _ h.tab.lt (by rw [h.f, h.g]; simp))
  f := by rw [(mv.same _ h.tab.lt).1]; exact h.f
  g := by rw [(mv.same _ h.tab.lt).2]; exact h.g

theorem ents_lt {o : OpS} {Lr S nb N : Nat} (h : o.Ok Lr S nb N) (hS : S ≤ 1000000) {x : En} (hx : x ∈ o.ents) : x.1 < 1000000 ∧ x.2.1 < 1099511627776 ∧ x.2.2 < 4611686018427387904 := by
  obtain ⟨e, he, r, z, _, hz, hx⟩ := ents_mem hx
  have h1 := h.off e he
  have h2 := h.val e he
  have h3 := aft_lt (raw := r) h2.2
  rw [← hz] at h3
  clear hz
  rw [hx]
  dsimp only
  exact ⟨by omega, h2.1, h3⟩
theorem ents_words {o : OpS} {Lr S nb N : Nat} (h : o.Ok Lr S nb N) (hS : S ≤ 1000000) : ∀ x ∈ ewords o.ents, x < 18446744073709551616 := by
  intro x hx
  obtain ⟨e, he, hx⟩ := List.mem_flatMap.1 hx
  have h1 := ents_lt h hS he
  simp at hx
  rcases hx with rfl | rfl | rfl <;> omega
theorem recw_lt {o : OpS} {Lr S nb N : Nat} (h : o.Ok Lr S nb N) (hS : S ≤ 1000000) (hk : o.k ≤ 1000) : ∀ p ∈ o.recw, p.1 < 18446744073709551616 ∧ p.2 < 18446744073709551616 := by
  intro p hp
  unfold OpS.recw at hp
  obtain ⟨i, hi, rfl⟩ := List.mem_map.1 hp
  have hi' : i < (ewords o.ents).length := by simpa using hi
  have hl : (ewords o.ents).length ≤ 18 := by
    rw [ewords_length]
    have : o.ents.length = o.es.length := by simp [OpS.ents]
    have := h.n
    omega
  refine ⟨by dsimp only; omega, ?_⟩
  dsimp only
  rw [List.getD_eq_getElem?_getD, List.getElem?_eq_getElem hi']
  exact ents_words h hS _ (List.getElem_mem hi')
theorem ewr_lt {o : OpS} {Lr S nb N : Nat} (h : o.Ok Lr S nb N) (hS : S ≤ 1000000) : ∀ p ∈ ewr o.ents, p.1 < 18446744073709551616 ∧ p.2 < 18446744073709551616 := by
  intro p hp
  unfold ewr at hp
  obtain ⟨e, he, rfl⟩ := List.mem_map.1 hp
  have h1 := ents_lt h hS he
  exact ⟨by dsimp only; omega, by dsimp only; omega⟩
theorem up_one (x : Nat × Nat) : Up ([x].map (fun p => line p.1)) := by
  intro i j hij hj
  simp at hj
  have : i = 0 := by omega
  subst hj; subst this
  exact Nat.le_refl _
theorem line_mono {a b : Nat} (h : a ≤ b) : line a ≤ line b := by unfold line; omega
theorem recw_up (o : OpS) : Up (o.recw.map (fun p => line p.1)) := by
  intro i j hij hj
  have hl : o.recw.length = (ewords o.ents).length := by simp [OpS.recw]
  rw [List.length_map, hl] at hj
  have hg : ∀ i, i < (ewords o.ents).length → (o.recw.map (fun p => line p.1)).getD i 0 = line (256 * o.k + 64 + 8 * i) := by
    intro i hi
    rw [List.getD_eq_getElem?_getD, List.getElem?_map]
    unfold OpS.recw
    rw [List.getElem?_map, List.getElem?_range hi]
    rfl
  rw [hg i (by omega), hg j hj]
  exact line_mono (by omega)
theorem ewr_up {o : OpS} (h : Up (o.es.map (fun e => line e.1))) : Up ((ewr o.ents).map (fun p => line p.1)) := by
  have : (ewr o.ents).map (fun p => line p.1) = o.es.map (fun e => line e.1) := by
    apply List.ext_getElem?
    intro i
    unfold ewr
    rw [List.map_map, List.getElem?_map, List.getElem?_map]
    cases he : o.es[i]? with
    | none =>
      have hl : o.ents.length = o.es.length := by simp [OpS.ents]
      rw [List.getElem?_eq_none (by rw [hl]; exact List.getElem?_eq_none_iff.1 he)]
      rfl
    | some x =>
      rw [ents_get he]
      simp only [Option.map_some, Function.comp]
  rw [this]
  exact h
theorem seen_new1 (w : World) (a b : Nat) : Seen (w.alloc (.cells #[.int .u64 a, .int .u64 b] 66)) w.heap.size 0 (wcells [(a, b)]) := by
  intro j u hj
  rw [cell_block (heap_alloc_new _ _)]
  rw [Nat.zero_add]
  simpa [wcells, u64] using hj
end Go.Proofs.YtejlgnebofdijaaGreatDoor.Dv
