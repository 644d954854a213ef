/-
  Step of the package mwcas: a step of an operation is a step of the plain machine.
-/
import Derived.Test.YtejlgnebofdijaaGreatDoorMMop8
namespace Go.Proofs.YtejlgnebofdijaaGreatDoor.Dv
open Go.RowKit
set_option linter.unusedVariables false

theorem up_const {l : List Nat} {v : Nat} (h : ∀ x ∈ l, x = v) : Up l := by
  intro i j hij hj
  have hg : ∀ i, i < l.length → l.getD i 0 = v := by
    intro i hi
    rw [List.getD_eq_getElem?_getD, List.getElem?_eq_getElem hi]
    exact h _ (List.getElem_mem hi)
  rw [hg i (by omega), hg j hj]
  exact Nat.le_refl _
theorem Stat.up {n i : Nat} {o : OpS} (h : Stat n i o) (hn : n ≤ 6) : Up (o.es.map (fun e => line e.1)) := by
  refine up_const (v := 2304) (fun x hx => ?_)
  obtain ⟨e, he, rfl⟩ := List.mem_map.1 hx
  obtain ⟨j, hj, h1, _⟩ := h.ent hn he
  rw [h1]
  unfold line
  omega
theorem plines_le (l : List (Nat × Nat)) : (plines l).length ≤ l.length := dd_le _ _
theorem stores_len6 {T : Nat → Nat} {s : Nat} {o : OpS} (h1 : 1 ≤ o.es.length ∧ o.es.length ≤ 6) : (o.stores T s).length ≤ 18 := by
  unfold OpS.stores
  split
  · unfold OpS.recw
    rw [List.length_map, List.length_range, ewords_length, ents_length]
    omega
  · split
    · simp
    · split
      · unfold ewr
        rw [List.length_map, ents_length]
        omega
      · simp
theorem stores_length {T : Nat → Nat} {n i s : Nat} {o : OpS} (h : Stat n i o) : (o.stores T s).length ≤ 18 := stores_len6 h.len

/-- Operation i can execute an instruction of the current operation c. -/
structure Fit (T : Nat → Nat) (m : MS) (i c : Nat) : Prop where
  stage : (m.op c).stage ≤ 4
  up : Up ((m.op c).es.map (fun e => line e.1))
  ld : (m.op c).stage = 0 → (m.op c).loaded < (m.op c).es.length
  val : ∀ e ∈ (m.op c).es, m.dev.cur (e.1 / 8) < 4611686018427387904
  prog : 1 ≤ (m.op c).stage → (m.op c).prog = Dv.prog ((m.op c).stores T (m.op c).stage)
  nx : (m.op i).tgt = some c → (m.op i).inn = (m.op c).stage → (m.op i).next < (Dv.prog ((m.op c).stores T (m.op c).stage)).length
theorem Inv.fit {T : Nat → Nat} {n N : Nat} {m : MS} (hI : Inv T n N m) (hr : Ready T N m) (hok : m.dev.Ok) {i c : Nat} (hi : i < N) (hc : m.cur = some c) : Fit T m i c := by
  have hcc := hI.cur c hc
  have hst := hI.stat c hcc.1
  refine ⟨hcc.2.1, hst.up hI.size.2.1, hr.ld c hc, fun e he => ?_, hI.prog c hc, hr.nx i hi c hc⟩
  obtain ⟨j, hj, h1, _⟩ := hst.ent hI.size.2.1 he
  have h2 := (DSt.All.cur (hI.val j (by have := hI.size; omega)) hok).1
  have hw : e.1 / 8 = 288 + j := by omega
  rw [hw]
  exact h2

/-- advance, of operations that fit. -/
theorem advance_mw {w : World} {A : DAd} {B : MAd} {Lr N : Nat} {m : MS} {F G : Nat → Option Role} {T : Nat → Nat} (h : MW w A B Lr N m F G) (hT : Tb w T F G) {i c : Nat} (hF : Fit T m i c) (hi : i < N) (hc : m.cur = some c) (hex : m.dev.ex < 1000000) :
    Calls Tryz.prog 176 #[ptr (B.o i), ptr (B.o c)] w fun r w' => r = .returned (.tuple #[]) ∧ MWent w A B Lr N F G (m.advance T i c) w' := by
  have hcN := h.cur c hc
  have hup := hF.up
  by_cases hs0 : (m.op c).stage = 0
  · exact advance_load h hT hi hcN hs0 (hF.ld hs0) hup hF.val
  · have hpr := hF.prog (by omega)
    have hpl := prog_length ((m.op c).stores T (m.op c).stage)
    have h18 := stores_len6 (T := T) (s := (m.op c).stage) (h.ok c hcN).n
    have h19 := plines_le ((m.op c).stores T (m.op c).stage)
    refine advance_run h hT hi hcN hs0 hF.stage hup ?_ (by rw [hpr]; omega) hex
    rw [hpr]
    unfold MS.aim
    split
    · rename_i hcond
      exact hF.nx hcond.1 hcond.2
    · rw [set_same, hpl]
      dsimp only
      omega
/-- The end of a step: the operation's thread has an error, or the operation is done, or neither. -/
def MS.closing (m2 : MS) (i : Nat) : MS × Bool :=
  if m2.dev.err (m2.op i).t ≠ 0 then (m2.stop i (m2.dev.err (m2.op i).t), true) else if (m2.op i).done then (m2.stop i 0, true) else (m2, false)
theorem step_eq (T : Nat → Nat) (m : MS) (i : Nat) (h1 : (m.op i).ended = false) (h2 : m.dev.err (m.op i).t = 0) (h3 : (m.op i).done = false) :
    m.step T i = MS.closing ({ m with cur := some (m.cur.getD i) }.advance T i (m.cur.getD i)) i := by
  unfold MS.step
  rw [h1, if_neg (by simp), if_neg (by simp [h2]), h3, if_neg (by simp)]
  rfl
def StepPost (w : World) (A : DAd) (B : MAd) (Lr N : Nat) (F G : Nat → Option Role) (R : MS × Bool) (r : Ending) (w' : World) : Prop := r = .returned (.bool R.2) ∧ MWent w A B Lr N F G R.1 w'

set_option maxHeartbeats 4000000 in
set_option maxRecDepth 4000 in
theorem step_fit {w : World} {A : DAd} {B : MAd} {Lr N : Nat} {m : MS} {F G : Nat → Option Role} {T : Nat → Nat} (h : MW w A B Lr N m F G) (hT : Tb w T F G) {i : Nat} (hF : (m.op i).ended = false → (m.op i).done = false → Fit T { m with cur := some (m.cur.getD i) } i (m.cur.getD i)) (hi : i < N) (hex : m.dev.ex < 1000000) :
    Calls Tryz.prog 174 #[ptr (B.o i)] w (StepPost w A B Lr N F G (m.step T i)) := by
  have hok := h.ok i hi
  have c11 : w.cell? ⟨B.o i, 11, none⟩ = some (.bool (m.op i).ended) := h.cellO hi 11 (by omega) (by omega)
  have c9 : w.cell? ⟨B.o i, 9, none⟩ = some (.bool (m.op i).done) := h.cellO hi 9 (by omega) (by omega)
  have c1 : w.cell? ⟨B.o i, 1, none⟩ = some (.pointer (some ⟨A.t (m.op i).t, 0, none⟩)) := h.cellO hi 1 (by omega) (by omega)
  have c0 : w.cell? ⟨B.o i, 0, none⟩ = some (.pointer (some ⟨B.p, 0, none⟩)) := h.cellO hi 0 (by omega) (by omega)
  have HER := Lib.hid (err_dev h.dev hok.t)
  cases hen : (m.op i).ended with
  | true =>
    have G0 := Lib.hid (show StepPost w A B Lr N F G (m.step T i) (.returned (.bool true)) w by
      have : m.step T i = (m, true) := by unfold MS.step; rw [hen, if_pos rfl]
      rw [this]
      exact ⟨rfl, F, G, h, MMoved.refl _ _ _⟩)
    rw [hen] at c11
    clear h hT hF hex hok HER hen c9 c1 c0
    unfold ptr
    go_enter Tryz.func174, Tryz.ntmps174
    go_wp2_with fail
    go_returns
    exact G0.out
  | false =>
    rw [hen] at c11
    have herl := h.dev.ok.err (m.op i).t
    by_cases her : m.dev.err (m.op i).t = 0
    · cases hdn : (m.op i).done with
      | true =>
        have HS := Lib.hid (stop_mw h hi (e := 0) (by omega))
        have hst : m.step T i = (m.stop i 0, true) := by unfold MS.step; rw [hen, if_neg (by simp), if_neg (by simp [her]), hdn, if_pos rfl]
        rw [hst]
        rw [hdn] at c9
        rw [her] at HER
        clear h hT hF hex hok hen hdn her herl hst c0
        unfold ptr Dv.i64 at *
        go_enter Tryz.func174, Tryz.ntmps174
        go_wp2_with fail
        refine HER.out.mono ?_
        rintro r w3 ⟨rfl, rfl⟩
        go_wp2_with fail
        refine HS.out.mono ?_
        rintro r w3 ⟨rfl, hend⟩
        have GG := Lib.hid (show StepPost w A B Lr N F G (m.stop i 0, true) (.returned (.bool true)) w3 from ⟨rfl, hend⟩)
        clear hend HS
        go_wp2_with fail
        go_returns
        exact GG.out
      | false =>
        rw [step_eq T m i hen her hdn]
        rw [hdn] at c9
        rw [her] at HER
        obtain ⟨c, hc⟩ : ∃ c, c = m.cur.getD i := ⟨_, rfl⟩
        rw [← hc]
        obtain ⟨m1, hm1⟩ : ∃ m1 : MS, m1 = { m with cur := some c } := ⟨_, rfl⟩
        rw [← hm1]
        have cp : w.cell? ⟨B.p, 5, none⟩ = some (optr B m.cur) := h.pool.cell 5 (by omega)
        have fp : w.frozen? ⟨B.p, 5, none⟩ = false := h.pool.free 5
        have hpne : B.p ≠ B.o i := role_ne h.gp (h.go i hi) (by simp)
        have hpne2 : ¬ B.o i = B.p := fun e => hpne e.symm
        have hcN : c < N := by
          rw [hc]
          cases e : m.cur with
          | none => simpa using hi
          | some x => simpa using h.cur x e
        -- the state ahead of advance
        obtain ⟨W, hW⟩ : ∃ W, W = if m.cur = none then w.setCell ⟨B.p, 5, none⟩ (ptr (B.o i)) else w := ⟨_, rfl⟩
        have hF1 := hF hen hdn
        rw [← hc, ← hm1] at hF1
        have hmw : MW W A B Lr N m1 F G ∧ MMoved F G F G w W := by
          cases e : m.cur with
          | none =>
            rw [e] at hc hW
            simp at hc
            rw [if_pos rfl] at hW
            have h1 := h.setP (c := some i) (fun x hx => by cases hx; exact hi)
            rw [hm1, hW, hc]
            exact h1
          | some x =>
            rw [e] at hc hW
            simp at hc
            rw [if_neg (by simp)] at hW
            have : m1 = m := by rw [hm1, hc, ← e]
            rw [this, hW]
            exact ⟨h, MMoved.refl _ _ _⟩
        obtain ⟨h1, mv1⟩ := hmw
        have hc1 : m1.cur = some c := by rw [hm1]
        have hd1 : m1.dev = m.dev := by rw [hm1]
        have HA := Lib.hid (advance_mw h1 (hT.moved mv1) hF1 hi hc1 (by rw [hd1]; exact hex))
        have k5 : W.cell? ⟨B.p, 5, none⟩ = some (.pointer (some ⟨B.o c, 0, none⟩)) := by have := h1.pool.cell 5 (by omega); rw [hc1] at this; exact this
        have k0 : W.cell? ⟨B.o i, 0, none⟩ = some (.pointer (some ⟨B.p, 0, none⟩)) := h1.cellO hi 0 (by omega) (by omega)
        have MV1 := Lib.hid mv1
        have HW := Lib.hid hW
        obtain ⟨m2, hm2⟩ : ∃ m2 : MS, m2 = m1.advance T i c := ⟨_, rfl⟩
        rw [← hm2] at HA ⊢
        clear h hT hF hex hok hen hdn her herl hm1 hcN h1 mv1 hF1 hc1 hd1 hW hm2 hc
        -- what follows advance
        have tail : ∀ w2 : World, MWent W A B Lr N F G m2 w2 →
            ∃ t : Nat, w2.cell? ⟨B.o i, 1, none⟩ = some (.pointer (some ⟨A.t t, 0, none⟩)) ∧ w2.cell? ⟨B.o i, 9, none⟩ = some (.bool (m2.op i).done) ∧ m2.dev.err t ≤ 20 ∧ (m2.op i).t = t ∧
              Calls Tryz.prog 28 #[ptr (A.t t)] w2 (fun r w' => r = .returned (.int .i64 (m2.dev.err t)) ∧ w2 = w') ∧
              ∀ e, e ≤ 20 → Calls Tryz.prog 175 #[ptr (B.o i), i64 e] w2 fun r w' => r = .returned (.bool true) ∧ MWent w A B Lr N F G (m2.stop i e) w' := by
          rintro w2 ⟨F2, G2, h2, mv2⟩
          refine ⟨(m2.op i).t, h2.cellO hi 1 (by omega) (by omega), h2.cellO hi 9 (by omega) (by omega), h2.dev.ok.err _, rfl, err_dev h2.dev (h2.ok i hi).t, fun e he => (stop_mw h2 hi he).mono ?_⟩
          rintro r w' ⟨rfl, hend⟩
          exact ⟨rfl, MWent.from (MV1.out.trans mv2) hend⟩
        have TL := Lib.hid tail
        clear tail
        cases hcu : m.cur with
        | none =>
          rw [hcu] at cp
          have HW1 := Lib.hid (show W = w.setCell ⟨B.p, 5, none⟩ (ptr (B.o i)) by rw [HW.out, hcu, if_pos rfl])
          simp only [optr] at cp
          clear HW hcu
          unfold ptr Dv.i64 at *
          go_enter Tryz.func174, Tryz.ntmps174
          go_wp2_with fail
          refine HER.out.mono ?_
          rintro r w3 ⟨rfl, rfl⟩
          go_upto_region 9 with fail
          rw [← HW1.out]
          clear c0 c1 c9 c11 cp fp hpne hpne2
          go_wp2_with fail
          refine HA.out.mono ?_
          rintro r w2 ⟨rfl, hend⟩
          obtain ⟨t, t1, t9, tl, tt, te, ts⟩ := TL.out w2 hend
          have TE := Lib.hid te; have TS := Lib.hid ts; have HTT := Lib.hid tt; have HTL := Lib.hid tl
          have GE := Lib.hid (MWent.from MV1.out hend)
          clear te ts tt hend HA TL tl
          go_wp2_with fail
          refine TE.out.mono ?_
          rintro r w3 ⟨rfl, rfl⟩
          by_cases her2 : m2.dev.err t = 0
          · have her3 : ((m2.dev.err t : Nat) : Int) = 0 := congrArg Int.ofNat her2
            cases hd2 : (m2.op i).done with
            | true =>
              have hcl : m2.closing i = (m2.stop i 0, true) := by unfold MS.closing; rw [HTT.out, if_neg (fun hh => hh her2), hd2, if_pos rfl]
              have HCL := Lib.hid hcl
              rw [hd2] at t9
              have HS := Lib.hid (TS.out 0 (by omega))
              clear hcl hd2 her2 TE TS
              go_wp2_with fail
              refine HS.out.mono ?_
              rintro r w3 ⟨rfl, hend⟩
              have GG := Lib.hid (show StepPost w A B Lr N F G (m2.closing i) (.returned (.bool true)) w3 by rw [HCL.out]; exact ⟨rfl, hend⟩)
              clear hend HS
              go_wp2_with fail
              go_returns
              exact GG.out
            | false =>
              have hcl : m2.closing i = (m2, false) := by unfold MS.closing; rw [HTT.out, if_neg (fun hh => hh her2), hd2, if_neg (by simp)]
              have HCL := Lib.hid hcl
              rw [hd2] at t9
              have GG := Lib.hid (show StepPost w A B Lr N F G (m2.closing i) (.returned (.bool false)) w2 by rw [HCL.out]; exact ⟨rfl, GE.out⟩)
              clear hcl hd2 her2 TE TS
              go_wp2_with fail
              go_returns
              exact GG.out
          · have her3 : ¬ (((m2.dev.err t : Nat) : Int) = 0) := by omega
            have hcl : m2.closing i = (m2.stop i (m2.dev.err t), true) := by unfold MS.closing; rw [HTT.out, if_pos her2]
            have HCL := Lib.hid hcl
            have HS := Lib.hid (TS.out (m2.dev.err t) HTL.out)
            clear hcl her2 TE TS
            go_wp2_with fail
            refine HS.out.mono ?_
            rintro r w3 ⟨rfl, hend⟩
            have GG := Lib.hid (show StepPost w A B Lr N F G (m2.closing i) (.returned (.bool true)) w3 by rw [HCL.out]; exact ⟨rfl, hend⟩)
            clear hend HS
            go_wp2_with fail
            go_returns
            exact GG.out
        | some x =>
          rw [hcu] at cp
          have hWw : W = w := by rw [HW.out, hcu, if_neg (by simp)]
          simp only [optr] at cp
          subst hWw
          clear HW hcu fp hpne hpne2
          unfold ptr Dv.i64 at *
          go_enter Tryz.func174, Tryz.ntmps174
          go_wp2_with fail
          refine HER.out.mono ?_
          rintro r w3 ⟨rfl, rfl⟩
          go_wp2_with fail
          refine HA.out.mono ?_
          rintro r w2 ⟨rfl, hend⟩
          obtain ⟨t, t1, t9, tl, tt, te, ts⟩ := TL.out w2 hend
          have TE := Lib.hid te; have TS := Lib.hid ts; have HTT := Lib.hid tt; have HTL := Lib.hid tl
          have GE := Lib.hid (MWent.from MV1.out hend)
          clear te ts tt hend HA TL tl
          go_wp2_with fail
          refine TE.out.mono ?_
          rintro r w3 ⟨rfl, rfl⟩
          by_cases her2 : m2.dev.err t = 0
          · have her3 : ((m2.dev.err t : Nat) : Int) = 0 := congrArg Int.ofNat her2
            cases hd2 : (m2.op i).done with
            | true =>
              have hcl : m2.closing i = (m2.stop i 0, true) := by unfold MS.closing; rw [HTT.out, if_neg (fun hh => hh her2), hd2, if_pos rfl]
              have HCL := Lib.hid hcl
              rw [hd2] at t9
              have HS := Lib.hid (TS.out 0 (by omega))
              clear hcl hd2 her2 TE TS
              go_wp2_with fail
              refine HS.out.mono ?_
              rintro r w3 ⟨rfl, hend⟩
              have GG := Lib.hid (show StepPost W A B Lr N F G (m2.closing i) (.returned (.bool true)) w3 by rw [HCL.out]; exact ⟨rfl, hend⟩)
              clear hend HS
              go_wp2_with fail
              go_returns
              exact GG.out
            | false =>
              have hcl : m2.closing i = (m2, false) := by unfold MS.closing; rw [HTT.out, if_neg (fun hh => hh her2), hd2, if_neg (by simp)]
              have HCL := Lib.hid hcl
              rw [hd2] at t9
              have GG := Lib.hid (show StepPost W A B Lr N F G (m2.closing i) (.returned (.bool false)) w2 by rw [HCL.out]; exact ⟨rfl, GE.out⟩)
              clear hcl hd2 her2 TE TS
              go_wp2_with fail
              go_returns
              exact GG.out
          · have her3 : ¬ (((m2.dev.err t : Nat) : Int) = 0) := by omega
            have hcl : m2.closing i = (m2.stop i (m2.dev.err t), true) := by unfold MS.closing; rw [HTT.out, if_pos her2]
            have HCL := Lib.hid hcl
            have HS := Lib.hid (TS.out (m2.dev.err t) HTL.out)
            clear hcl her2 TE TS
            go_wp2_with fail
            refine HS.out.mono ?_
            rintro r w3 ⟨rfl, hend⟩
            have GG := Lib.hid (show StepPost W A B Lr N F G (m2.closing i) (.returned (.bool true)) w3 by rw [HCL.out]; exact ⟨rfl, hend⟩)
            clear hend HS
            go_wp2_with fail
            go_returns
            exact GG.out
    · have HS := Lib.hid (stop_mw h hi (e := m.dev.err (m.op i).t) herl)
      have hst : m.step T i = (m.stop i (m.dev.err (m.op i).t), true) := by unfold MS.step; rw [hen, if_neg (by simp), if_pos her]
      rw [hst]
      have her2 : ¬ ((m.dev.err (m.op i).t : Int) = 0) := by omega
      obtain ⟨e, he⟩ : ∃ e, e = m.dev.err (m.op i).t := ⟨_, rfl⟩
      rw [← he] at HS HER her2 ⊢
      clear h hT hF hex hok hen her hst c0 c9 he herl
      unfold ptr Dv.i64 at *
      go_enter Tryz.func174, Tryz.ntmps174
      go_wp2_with fail
      refine HER.out.mono ?_
      rintro r w3 ⟨rfl, rfl⟩
      go_wp2_with fail
      refine HS.out.mono ?_
      rintro r w3 ⟨rfl, hend⟩
      have GG := Lib.hid (show StepPost w A B Lr N F G (m.stop i e, true) (.returned (.bool true)) w3 from ⟨rfl, hend⟩)
      clear hend HS
      go_wp2_with fail
      go_returns
      exact GG.out
theorem step_mw {w : World} {A : DAd} {B : MAd} {Lr n N : Nat} {m : MS} {F G : Nat → Option Role} {T : Nat → Nat} (h : MW w A B Lr N m F G) (hT : Tb w T F G) (hI : Inv T n N m) (hr : Ready T N m) {i : Nat} (hi : i < N) (hex : m.dev.ex < 1000000) :
    Calls Tryz.prog 174 #[ptr (B.o i)] w (StepPost w A B Lr N F G (m.step T i)) := by
  refine step_fit h hT (fun hen hdn => ?_) hi hex
  cases e : m.cur with
  | none =>
    have h2 := hI.take hi e hdn hen
    exact h2.1.fit h2.2 h.dev.ok hi rfl
  | some x =>
    have : ({ m with cur := some x } : MS) = m := by rw [← e]
    show Fit T { m with cur := some x } i x
    rw [this]
    exact hI.fit hr h.dev.ok hi e
end Go.Proofs.YtejlgnebofdijaaGreatDoor.Dv
