/-
  advance of the package mwcas.
-/
import Derived.Test.YtejlgnebofdijaaGreatDoorMMop7
import Derived.Test.YtejlgnebofdijaaGreatDoorMPlA
import Derived.StillTailTactics
namespace Go.Proofs.YtejlgnebofdijaaGreatDoor.Dv
open Go.RowKit
set_option linter.unusedVariables false

theorem opt_eql {w : World} {A : DAd} {B : MAd} {Lr N : Nat} {m : MS} {F G : Nat → Option Role} (h : MW w A B Lr N m F G) {i : Nat} (hi : i < N) {c : Option Nat} (hcu : ∀ x, c = some x → x < N) (b : Bool) (hb : b = decide (c = some i)) :
    (binOp .eql 93 (optr B c) (ptr (B.o i))).run Tryz.prog w = .ok (.bool b) w := by
  obtain ⟨j, hj, hjs⟩ : ∃ j, Tryz.prog.info? 156 = some j ∧ j.size = 16 := by
    have := infoOp
    cases hq : Tryz.prog.info? 156 with
    | none => rw [hq] at this; cases this
    | some j => rw [hq] at this; exact ⟨j, rfl, by simpa using this⟩
  have hq := optr_eql h hi (c := c) hcu
  cases hc : c with
  | none =>
    rw [hc] at hb
    subst hb
    have h1 : ∀ d : Nat, (Op.equalIn (d + 1) 93 (.pointer none) (ptr (B.o i))).run Tryz.prog w = .ok false w := fun d => by
      simp [Op.equalIn, ptr, run_underlying Tryz.underlying93]
    simp only [optr, binOp]
    simp [Op.equal, Op.maxDepth, h1 9999]
  | some x =>
    rw [hc] at hq hb
    have hx := hcu x hc
    by_cases hxi : x = i
    · subst hxi
      subst hb
      simp only [decide_true]
      exact run_eql_ptr_same w _ Tryz.underlying93 hj
    · have hb2 : b = false := by rw [hb]; exact decide_eq_false (fun e => hxi (Option.some.inj e))
      rw [hb2]
      obtain ⟨pv, r1, _⟩ := h.op x hx
      obtain ⟨pv', r2, _⟩ := h.op i hi
      obtain ⟨c1, hc1, _⟩ := r1
      obtain ⟨c2, hc2, _⟩ := r2
      refine run_eql_ptr_other w Tryz.underlying93 hj (by omega) ?_ hc1 hc2
      intro e
      exact hxi (Option.some.inj (hq.1 (by show Value.pointer (some _) = Value.pointer (some _); rw [e])))
theorem neq_of_eql {P : Program} {w : World} {t : TypeId} {x y : Option Addr} {b : Bool} (h : (binOp .eql t (.pointer x) (.pointer y)).run P w = .ok (.bool b) w) :
    (binOp .neq t (.pointer x) (.pointer y)).run P w = .ok (.bool (!b)) w := by
  simp only [binOp] at h ⊢
  simp at h ⊢
  cases hh : (Op.equal t (.pointer x) (.pointer y)).run P w with
  | ok r w' =>
    rw [hh] at h
    simp at h ⊢
    exact ⟨by rw [h.1], h.2⟩
  | _ => rw [hh] at h; simp at h
theorem exec_L (s : DSt) (t : Nat) (x : Ins) : (s.exec t x).L = s.L := by
  have hc : ∀ b, (s.cnt t b).1.L = s.L := by
    intro b
    unfold DSt.cnt DSt.fail DSt.setErr
    repeat' split
    all_goals rfl
  unfold DSt.exec
  split
  · unfold DSt.store
    split
    · exact hc _
    · exact hc _
  · split
    · unfold DSt.flush
      split
      · exact hc _
      · exact hc _
    · unfold DSt.fence
      split
      · exact hc _
      · exact hc _

set_option maxHeartbeats 4000000 in
set_option maxRecDepth 4000 in
theorem advance_load {w : World} {A : DAd} {B : MAd} {Lr N : Nat} {m : MS} {F G : Nat → Option Role} {T : Nat → Nat} (h : MW w A B Lr N m F G) (hT : Tb w T F G) {i c : Nat} (hi : i < N) (hc : c < N) (hs0 : (m.op c).stage = 0) (hld : (m.op c).loaded < (m.op c).es.length)
    (hup : Up ((m.op c).es.map (fun e => line e.1))) (hcw : ∀ e ∈ (m.op c).es, m.dev.cur (e.1 / 8) < 4611686018427387904) :
    Calls Tryz.prog 176 #[ptr (B.o i), ptr (B.o c)] w fun r w' => r = .returned (.tuple #[]) ∧ MWent w A B Lr N F G (m.advance T i c) w' := by
  have he : m.advance T i c = m.load T c (m.op i).t := by unfold MS.advance; rw [if_pos hs0]
  rw [he]
  have c7 : w.cell? ⟨B.o c, 7, none⟩ = some (.int .i64 (m.op c).stage) := h.cellO hc 7 (by omega) (by omega)
  rw [hs0] at c7
  have c1 : w.cell? ⟨B.o i, 1, none⟩ = some (.pointer (some ⟨A.t (m.op i).t, 0, none⟩)) := h.cellO hi 1 (by omega) (by omega)
  have HL := Lib.hid (load_mw (T := T) h hT hc (h.ok i hi).t hld hup hcw)
  clear h hT hup hcw hld hs0 he
  unfold ptr at *
  go_enter Tryz.func176, Tryz.ntmps176
  go_wp2_with fail
  refine HL.out.mono ?_
  rintro r w1 ⟨rfl, hend⟩
  have GG := Lib.hid hend
  clear hend HL
  go_wp2_with fail
  go_returns
  exact ⟨rfl, GG.out⟩

theorem prog_cells {w : World} {A : DAd} {B : MAd} {Lr N : Nat} {m : MS} {F G : Nat → Option Role} (h : MW w A B Lr N m F G) {c : Nat} (hc : c < N) {k : Nat} {x : Ins} (hx : (m.op c).prog[k]? = some x) :
    ∃ pb cap, w.cell? ⟨B.o c, 8, none⟩ = some (.slice (some ⟨pb, 0, none⟩) (m.op c).prog.length cap) ∧ w.cell? ⟨pb, k * 3, none⟩ = some (.int .u8 x.op) ∧ w.cell? ⟨pb, k * 3 + 1, none⟩ = some (.int .u64 x.off) ∧ w.cell? ⟨pb, k * 3 + 2, none⟩ = some (.int .u64 x.val) := by
  obtain ⟨pv, r1, r2⟩ := h.op c hc
  rcases r2 with ⟨e, _⟩ | ⟨pb, cap, e, _, hs⟩
  · rw [e] at hx; cases hx
  · obtain ⟨e1, e2, e3⟩ := icells_get hx
    have h8 := r1.cell 8 (by omega)
    refine ⟨pb, cap, by rw [h8, e]; rfl, ?_, ?_, ?_⟩
    · have := hs _ _ e1; rw [Nat.zero_add, Nat.mul_comm] at this; exact this
    · have := hs _ _ e2; rw [Nat.zero_add, Nat.mul_comm] at this; exact this
    · have := hs _ _ e3; rw [Nat.zero_add, Nat.mul_comm] at this; exact this

/-- What the tail of advance needs to know. -/
structure AdvReady (w : World) (A : DAd) (B : MAd) (Lr N : Nat) (F G : Nat → Option Role) (T : Nat → Nat) (i c s nx L : Nat) (t : Nat) (ins : Ins) (m1 : MS) (W : World) : Prop where
  mw : MW W A B Lr N m1 F G
  mv : MMoved F G F G w W
  tb : Tb W T F G
  hst : (m1.op c).stage = s
  ht : (m1.op i).t = t
  hnx : (m1.op i).next = nx
  hins : (m1.op c).prog[nx]? = some ins
  len : (m1.op c).prog.length = L
  up : Up ((m1.op c).es.map (fun e => line e.1))
  ex : m1.dev.ex < 1000000

set_option maxHeartbeats 4000000 in
set_option maxRecDepth 4000 in
theorem advance_run {w : World} {A : DAd} {B : MAd} {Lr N : Nat} {m : MS} {F G : Nat → Option Role} {T : Nat → Nat} (h : MW w A B Lr N m F G) (hT : Tb w T F G) {i c : Nat} (hi : i < N) (hc : c < N) (hs0 : (m.op c).stage ≠ 0) (hs4 : (m.op c).stage ≤ 4)
    (hup : Up ((m.op c).es.map (fun e => line e.1))) (hnx : ((m.aim i c).op i).next < (m.op c).prog.length) (hpl : (m.op c).prog.length ≤ 1000) (hex : m.dev.ex < 1000000) :
    Calls Tryz.prog 176 #[ptr (B.o i), ptr (B.o c)] w fun r w' => r = .returned (.tuple #[]) ∧ MWent w A B Lr N F G (m.advance T i c) w' := by
  obtain ⟨M, hM⟩ : ∃ M, M = m.advance T i c := ⟨_, rfl⟩
  rw [← hM]
  rw [advance_eq T m i c hs0] at hM
  have hok := h.ok i hi
  obtain ⟨s, hs⟩ : ∃ s, s = (m.op c).stage := ⟨_, rfl⟩
  obtain ⟨L, hL⟩ : ∃ L, L = (m.op c).prog.length := ⟨_, rfl⟩
  obtain ⟨t, ht⟩ : ∃ t, t = (m.op i).t := ⟨_, rfl⟩
  rw [← hs] at hM hs0 hs4
  rw [← hL] at hnx hpl
  obtain ⟨W0, hW0⟩ : ∃ W0, W0 = w.drew := ⟨_, rfl⟩
  have h0 := h.drew
  rw [← hW0] at h0
  have mv0 : MMoved F G F G w W0 := by rw [hW0]; exact MMoved.drew w
  have tb0 := hT.moved mv0
  have c7 : w.cell? ⟨B.o c, 7, none⟩ = some (.int .i64 s) := by rw [hs]; exact h.cellO hc 7 (by omega) (by omega)
  have c14 : w.cell? ⟨B.o i, 14, none⟩ = some (.int .i64 (m.op i).inn) := h.cellO hi 14 (by omega) (by omega)
  have c13 : w.cell? ⟨B.o i, 13, none⟩ = some (optr B (m.op i).tgt) := h.cellO hi 13 (by omega) (by omega)
  have hs2 : ¬ ((s : Int) = 0) := by omega
  have bs : (s : Int) ≤ 4 := by omega
  have HS4 := Lib.hid hs4; have HLL := Lib.hid hpl
  obtain ⟨tv, htv⟩ : ∃ tv, optr B (m.op i).tgt = .pointer tv := by cases (m.op i).tgt <;> exact ⟨_, rfl⟩
  have heq := opt_eql h hc (c := (m.op i).tgt) hok.tgt _ rfl
  have heq0 := opt_eql h.drew hc (c := (m.op i).tgt) hok.tgt _ rfl
  rw [htv] at c13 heq heq0
  unfold ptr at heq heq0
  have hne := neq_of_eql heq
  have hne0 := neq_of_eql heq0
  clear heq heq0
  have HW0 := Lib.hid hW0
  by_cases hcond : (m.op i).tgt = some c ∧ (m.op i).inn = s
  · have haim : m.aim i c = m := by unfold MS.aim; rw [← hs, if_pos hcond]
    rw [haim] at hM hnx
    obtain ⟨nx, hnxe⟩ : ∃ nx, nx = (m.op i).next := ⟨_, rfl⟩
    rw [← hnxe] at hnx
    obtain ⟨ins, hins⟩ : ∃ ins, (m.op c).prog[nx]? = some ins := ⟨_, List.getElem?_eq_getElem (by rw [← hL]; exact hnx)⟩
    obtain ⟨m1, hm1⟩ : ∃ m1 : MS, m1 = m := ⟨_, rfl⟩
    rw [← hm1] at hM
    obtain ⟨W, hW⟩ : ∃ W, W = W0 := ⟨_, rfl⟩
    have HR := Lib.hid (show AdvReady w A B Lr N F G T i c s nx L t ins m1 W by
      rw [hm1, hW]
      exact ⟨h0, mv0, tb0, hs.symm, ht.symm, hnxe.symm, hins, hL.symm, hup, hex⟩)
    have HM := Lib.hid hM; have HNX := Lib.hid hnx
    rw [decide_eq_true hcond.1] at hne hne0
    have q1 := hcond.2
    rw [q1] at c14
    have hdn : decide ((s : Int) = s) = true := by simp
    have hnb : (nx : Int) < L := by omega
    have hnb2 : (L : Int) ≤ 1000 := by omega
    clear h hT hok h0 mv0 tb0 hs hL ht htv hM hup hex hins hnxe hm1 hcond haim hs0 hs4 hpl hW0 q1 hnx
    unfold ptr
    simp only [Bool.not_true] at hne hne0
    go_enter Tryz.func176, Tryz.ntmps176
    go_wp2_with fail
    go_region
    try rw [← HW0.out]
    rw [← hW]
    clear hW c7 c13 c14 hne hne0
    go_wp2_with fail
    have d1 : W.cell? ⟨B.o i, 1, none⟩ = some (.pointer (some ⟨A.t t, 0, none⟩)) := by have := HR.out.mw.cellO hi 1 (by omega) (by omega); unfold ofun at this; rw [HR.out.ht] at this; exact this
    have d15 : W.cell? ⟨B.o i, 15, none⟩ = some (.int .i64 nx) := by have := HR.out.mw.cellO hi 15 (by omega) (by omega); unfold ofun at this; rw [HR.out.hnx] at this; exact this
    obtain ⟨pb, cap, d8, e0, e1, e2⟩ := prog_cells HR.out.mw hc HR.out.hins
    rw [HR.out.len] at d8
    have ht : t < 8 := by have := (HR.out.mw.ok i hi).t; rw [HR.out.ht] at this; exact this
    have hin : ins.Ok := (HR.out.mw.ok c hc).prog _ (List.mem_of_getElem? HR.out.hins)
    have HX := Lib.hid (mexecute_dev HR.out.mw.drew.dev ht hin HR.out.ex)
    unfold ptr Dv.u64 at HX
    have HT8 := Lib.hid ht
    clear ht hin
    go_still_tail 14, (by kernel_rfl)
    go_wp2_with fail
    refine HX.out.mono ?_
    rintro r w2 ⟨rfl, F2, g1, g2⟩
    have HER := Lib.hid (err_dev g1 HT8.out)
    obtain ⟨h2, mm2⟩ := HR.out.mw.drew.moved g1 g2 (exec_L _ _ _)
    have mv2 := (HR.out.mv.trans (MMoved.drew _)).trans mm2
    have tb2 := (HR.out.tb.moved (MMoved.drew _)).moved mm2
    obtain ⟨m2, hm2⟩ : ∃ m2 : MS, m2 = { m1 with dev := m1.dev.exec t ins } := ⟨_, rfl⟩
    rw [← hm2] at h2
    have hop2 : m2.op = m1.op := by rw [hm2]
    have hd2 : m2.dev = m1.dev.exec t ins := by rw [hm2]
    rw [← hd2] at HER
    have k1 : w2.cell? ⟨B.o i, 1, none⟩ = some (.pointer (some ⟨A.t t, 0, none⟩)) := by have := h2.cellO hi 1 (by omega) (by omega); unfold ofun at this; rw [hop2, HR.out.ht] at this; exact this
    have k15 : w2.cell? ⟨B.o i, 15, none⟩ = some (.int .i64 nx) := by have := h2.cellO hi 15 (by omega) (by omega); unfold ofun at this; rw [hop2, HR.out.hnx] at this; exact this
    have f15 := h2.freeO hi 15
    have hdid : m1.did i c = m2 := by
      rw [hm2]
      unfold MS.did
      rw [HR.out.ht, HR.out.hnx, List.getD_eq_getElem?_getD, HR.out.hins]
      rfl
    have hend2 : M = MS.went T m2 i c s := by rw [HM.out, hdid]
    have H2 := Lib.hid h2; have MV2 := Lib.hid mv2; have TB2 := Lib.hid tb2; have HEND := Lib.hid hend2; have HOP2 := Lib.hid hop2
    clear g1 g2 h2 mm2 mv2 tb2 hm2 hd2 hop2 hdid hend2 d1 d15 d8 e0 e1 e2 HX
    unfold ptr at HER
    go_wp2_with fail
    refine HER.out.mono ?_
    rintro r w3 ⟨rfl, rfl⟩
    have hti : (m2.op i).t = t := by rw [HOP2.out]; exact HR.out.ht
    by_cases herr : m2.dev.err t = 0
    · have herr2 : ((m2.dev.err t : Nat) : Int) = 0 := congrArg Int.ofNat herr
      have hok2 := H2.out.ok i hi
      obtain ⟨h3, mm3⟩ := H2.out.setO (i := i) (j := 15) (v := i64 (nx + 1)) (o' := { m2.op i with next := nx + 1 }) hi rfl rfl rfl rfl (ofun_one (fun pv => by simp [ofun])) { hok2 with next := Nat.le_trans HNX.out HLL.out }
      obtain ⟨W3, hW3⟩ : ∃ W3, W3 = w2.setCell ⟨B.o i, 15, none⟩ (i64 (nx + 1)) := ⟨_, rfl⟩
      rw [← hW3] at h3 mm3
      obtain ⟨m3, hm3⟩ : ∃ m3 : MS, m3 = m2.set i { m2.op i with next := nx + 1 } := ⟨_, rfl⟩
      rw [← hm3] at h3
      have kp : (m3.op c).prog = (m1.op c).prog := by rw [hm3, ← HOP2.out]; exact set_key (m := m2) (i := i) (o := { m2.op i with next := nx + 1 }) (·.prog) rfl c
      have ks : (m3.op c).stage = s := by rw [hm3, ← HR.out.hst, ← HOP2.out]; exact set_key (m := m2) (i := i) (o := { m2.op i with next := nx + 1 }) (·.stage) rfl c
      have ke : (m3.op c).es = (m1.op c).es := by rw [hm3, ← HOP2.out]; exact set_key (m := m2) (i := i) (o := { m2.op i with next := nx + 1 }) (·.es) rfl c
      have kn : (m3.op i).next = nx + 1 := by rw [hm3, set_same]
      obtain ⟨pb', cap', q8, _⟩ := prog_cells h3 hc (by rw [kp]; exact HR.out.hins)
      rw [kp, HR.out.len] at q8
      have q15 : W3.cell? ⟨B.o i, 15, none⟩ = some (.int .i64 ((nx + 1 : Nat) : Int)) := by have := h3.cellO hi 15 (by omega) (by omega); unfold ofun at this; rw [kn] at this; exact this
      have h4 := h3.drew
      obtain ⟨W4, hW4⟩ : ∃ W4, W4 = W3.drew := ⟨_, rfl⟩
      have mm4 := mm3.trans (MMoved.drew W3)
      rw [← hW4] at h4 mm4
      have q7 : W4.cell? ⟨B.o c, 7, none⟩ = some (.int .i64 s) := by have := h4.cellO hc 7 (by omega) (by omega); unfold ofun at this; rw [ks] at this; exact this
      have hcast : ((nx + 1 : Nat) : Int) = (nx : Int) + 1 := rfl
      have HW3 := Lib.hid hW3; have HW4 := Lib.hid hW4
      unfold Dv.i64 at HW3
      rw [hcast] at HW3 q15
      have hend3 : M = if nx + 1 = L then m3.enter T c (s + 1) else m3 := by
        rw [HEND.out]
        unfold MS.went
        rw [hti, if_neg (fun hh => hh herr)]
        have e1 : (m2.op i).next + 1 = nx + 1 := by rw [HOP2.out, HR.out.hnx]
        rw [e1, ← hm3, kn, kp, HR.out.len]
      have H4 := Lib.hid h4; have MV4 := Lib.hid (MV2.out.trans mm4); have TB4 := Lib.hid (TB2.out.moved mm4); have HEND3 := Lib.hid hend3
      have HUP := Lib.hid (show Up ((m3.op c).es.map (fun e => line e.1)) by rw [ke]; exact HR.out.up)
      clear hW3 hW4 h3 mm3 hm3 kp ks ke kn h4 mm4 hcast hend3 hok2 herr hti k1
      go_wp2_with fail
      rw [← HW3.out]
      by_cases hl : nx + 1 = L
      · have hl2 := cast_eq1 hl
        have hl3 : decide ((nx : Int) + 1 = L) = true := decide_eq_true hl2
        have HEN := Lib.hid (enter_mw H4.out TB4.out (i := c) (s := s + 1) hc (by omega) (by have := HS4.out; omega) HUP.out)
        have hcs : ((s + 1 : Nat) : Int) = (s : Int) + 1 := rfl
        unfold ptr Dv.i64 at HEN
        rw [hcs] at HEN
        have HE3 := Lib.hid (show M = m3.enter T c (s + 1) by rw [HEND3.out, if_pos hl])
        clear hl hcs
        go_region
        rw [← HW4.out]
        go_wp2_with fail
        refine HEN.out.mono ?_
        rintro r w5 ⟨rfl, hend⟩
        have GG := Lib.hid (MWent.from MV4.out hend)
        rw [← HE3.out] at GG
        clear hend
        go_wp2_with fail
        go_returns
        exact ⟨rfl, GG.out⟩
      · have hl2 := cast_ne1 hl
        have hl3 : decide ((nx : Int) + 1 = L) = false := decide_eq_false hl2
        have GG := Lib.hid (show MWent w A B Lr N F G M W4 by rw [HEND3.out, if_neg hl]; exact ⟨F2, G, H4.out, MV4.out⟩)
        clear hl
        go_region
        rw [← HW4.out]
        go_wp2_with fail
        go_returns
        exact ⟨rfl, GG.out⟩
    · have herr2 : ¬ (((m2.dev.err t : Nat) : Int) = 0) := by omega
      have GG := Lib.hid (show MWent w A B Lr N F G M w2 by
        rw [HEND.out]
        unfold MS.went
        rw [hti, if_pos herr]
        exact ⟨F2, G, H2.out, MV2.out⟩)
      go_wp2_with fail
      go_returns
      exact ⟨rfl, GG.out⟩
  · have haim : m.aim i c = m.set i { m.op i with tgt := some c, inn := s, next := 0 } := by unfold MS.aim; rw [← hs, if_neg hcond]
    obtain ⟨h1, mm1⟩ := h0.setO (i := i) (j := 13) (v := ptr (B.o c)) (o' := { m.op i with tgt := some c }) hi rfl rfl rfl rfl (ofun_one (fun pv => by simp [ofun, optr])) { hok with tgt := fun j hj => by cases hj; exact hc }
    have hok1 := h1.ok i hi
    rw [MS.set_op] at hok1
    obtain ⟨h2, mm2⟩ := h1.setO (i := i) (j := 14) (v := i64 s) (o' := { m.op i with tgt := some c, inn := s }) hi (by rw [MS.set_op]) (by rw [MS.set_op]) (by rw [MS.set_op]) (by rw [MS.set_op]) (ofun_one (fun pv => by rw [MS.set_op]; simp [ofun])) { hok1 with inn := by show s ≤ 5; omega }
    rw [MS.set_set] at h2
    have hok2 := h2.ok i hi
    rw [MS.set_op] at hok2
    obtain ⟨h3, mm3⟩ := h2.setO (i := i) (j := 15) (v := i64 0) (o' := { m.op i with tgt := some c, inn := s, next := 0 }) hi (by rw [MS.set_op]) (by rw [MS.set_op]) (by rw [MS.set_op]) (by rw [MS.set_op]) (ofun_one (fun pv => by rw [MS.set_op]; simp [ofun])) { hok2 with next := by show (0 : Nat) ≤ 1000; omega }
    rw [MS.set_set, ← haim] at h3
    obtain ⟨W, hW⟩ : ∃ W, W = ((W0.setCell ⟨B.o i, 13, none⟩ (ptr (B.o c))).setCell ⟨B.o i, 14, none⟩ (i64 s)).setCell ⟨B.o i, 15, none⟩ (i64 0) := ⟨_, rfl⟩
    rw [← hW] at h3 mm3
    have mm := (mm1.trans mm2).trans mm3
    obtain ⟨m1, hm1⟩ : ∃ m1 : MS, m1 = m.aim i c := ⟨_, rfl⟩
    rw [← hm1] at h3 hM hnx
    have kp : (m1.op c).prog = (m.op c).prog := by rw [hm1, haim]; exact set_key (m := m) (i := i) (o := { m.op i with tgt := some c, inn := s, next := 0 }) (·.prog) rfl c
    have ks : (m1.op c).stage = s := by rw [hm1, haim]; exact (set_key (m := m) (i := i) (o := { m.op i with tgt := some c, inn := s, next := 0 }) (·.stage) rfl c).trans hs.symm
    have ke : (m1.op c).es = (m.op c).es := by rw [hm1, haim]; exact set_key (m := m) (i := i) (o := { m.op i with tgt := some c, inn := s, next := 0 }) (·.es) rfl c
    have kt : (m1.op i).t = t := by rw [hm1, haim, set_same, ht]
    have kn : (m1.op i).next = 0 := by rw [hm1, haim, set_same]
    have kd : m1.dev = m.dev := by rw [hm1, haim]; rfl
    obtain ⟨nx, hnxe⟩ : ∃ nx : Nat, nx = 0 := ⟨_, rfl⟩
    rw [kn, ← hnxe] at hnx
    obtain ⟨ins, hins⟩ : ∃ ins, (m.op c).prog[nx]? = some ins := ⟨_, List.getElem?_eq_getElem (by rw [← hL]; exact hnx)⟩
    have HR := Lib.hid (show AdvReady w A B Lr N F G T i c s nx L t ins m1 W from
      ⟨h3, mv0.trans mm, tb0.moved mm, ks, kt, by rw [kn, hnxe], by rw [kp]; exact hins, by rw [kp, hL], by rw [ke]; exact hup, by rw [kd]; exact hex⟩)
    have HM := Lib.hid hM; have HNX := Lib.hid hnx; have HW := Lib.hid hW
    unfold ptr Dv.i64 at HW
    have hz : ((0 : Nat) : Int) = 0 := rfl
    rw [hz] at HW
    clear hz
    have hnb : (nx : Int) < L := by omega
    have hnb2 : (L : Int) ≤ 1000 := by omega
    have w7 : W0.cell? ⟨B.o c, 7, none⟩ = some (.int .i64 s) := by rw [hs]; exact h0.cellO hc 7 (by omega) (by omega)
    have w13 : W0.cell? ⟨B.o i, 13, none⟩ = some (.pointer tv) := by rw [← htv]; exact h0.cellO hi 13 (by omega) (by omega)
    have w14 : W0.cell? ⟨B.o i, 14, none⟩ = some (.int .i64 (m.op i).inn) := h0.cellO hi 14 (by omega) (by omega)
    have w15 : W0.cell? ⟨B.o i, 15, none⟩ = some (.int .i64 (m.op i).next) := h0.cellO hi 15 (by omega) (by omega)
    have f13 := h0.freeO hi 13
    have f14 := h0.freeO hi 14
    have f15' := h0.freeO hi 15
    by_cases htg : (m.op i).tgt = some c
    · rw [decide_eq_true htg] at hne hne0
      have hnin : ¬ (((m.op i).inn : Int) = s) := fun e => hcond ⟨htg, by omega⟩
      have hdn : decide (((m.op i).inn : Int) = s) = false := decide_eq_false hnin
      have hdn2 : decide (¬ ((m.op i).inn : Int) = s) = true := decide_eq_true hnin
      clear h hT hok h0 mv0 tb0 hs hL ht htv hM hup hex hins hm1 hcond haim hs0 hs4 hpl hW0 h1 mm1 hok1 h2 mm2 hok2 h3 mm3 mm kp ks ke kt kn kd hW hnxe htg hnx
      unfold ptr
      simp only [Bool.not_true] at hne hne0
      go_enter Tryz.func176, Tryz.ntmps176
      go_wp2_with fail
      go_region
      try rw [← HW0.out]
      clear c7 c13 c14 hne hne0
      go_wp2_with fail
      rw [← HW.out]
      clear w7 w13 w14 w15 f13 f14 f15' hdn hnin hdn2
      have d1 : W.cell? ⟨B.o i, 1, none⟩ = some (.pointer (some ⟨A.t t, 0, none⟩)) := by have := HR.out.mw.cellO hi 1 (by omega) (by omega); unfold ofun at this; rw [HR.out.ht] at this; exact this
      have d15 : W.cell? ⟨B.o i, 15, none⟩ = some (.int .i64 nx) := by have := HR.out.mw.cellO hi 15 (by omega) (by omega); unfold ofun at this; rw [HR.out.hnx] at this; exact this
      obtain ⟨pb, cap, d8, e0, e1, e2⟩ := prog_cells HR.out.mw hc HR.out.hins
      rw [HR.out.len] at d8
      have ht : t < 8 := by have := (HR.out.mw.ok i hi).t; rw [HR.out.ht] at this; exact this
      have hin : ins.Ok := (HR.out.mw.ok c hc).prog _ (List.mem_of_getElem? HR.out.hins)
      have HX := Lib.hid (mexecute_dev HR.out.mw.drew.dev ht hin HR.out.ex)
      unfold ptr Dv.u64 at HX
      have HT8 := Lib.hid ht
      clear ht hin
      go_still_tail 14, (by kernel_rfl)
      go_wp2_with fail
      refine HX.out.mono ?_
      rintro r w2 ⟨rfl, F2, g1, g2⟩
      have HER := Lib.hid (err_dev g1 HT8.out)
      obtain ⟨h2, mm2⟩ := HR.out.mw.drew.moved g1 g2 (exec_L _ _ _)
      have mv2 := (HR.out.mv.trans (MMoved.drew _)).trans mm2
      have tb2 := (HR.out.tb.moved (MMoved.drew _)).moved mm2
      obtain ⟨m2, hm2⟩ : ∃ m2 : MS, m2 = { m1 with dev := m1.dev.exec t ins } := ⟨_, rfl⟩
      rw [← hm2] at h2
      have hop2 : m2.op = m1.op := by rw [hm2]
      have hd2 : m2.dev = m1.dev.exec t ins := by rw [hm2]
      rw [← hd2] at HER
      have k1 : w2.cell? ⟨B.o i, 1, none⟩ = some (.pointer (some ⟨A.t t, 0, none⟩)) := by have := h2.cellO hi 1 (by omega) (by omega); unfold ofun at this; rw [hop2, HR.out.ht] at this; exact this
      have k15 : w2.cell? ⟨B.o i, 15, none⟩ = some (.int .i64 nx) := by have := h2.cellO hi 15 (by omega) (by omega); unfold ofun at this; rw [hop2, HR.out.hnx] at this; exact this
      have f15 := h2.freeO hi 15
      have hdid : m1.did i c = m2 := by
        rw [hm2]
        unfold MS.did
        rw [HR.out.ht, HR.out.hnx, List.getD_eq_getElem?_getD, HR.out.hins]
        rfl
      have hend2 : M = MS.went T m2 i c s := by rw [HM.out, hdid]
      have H2 := Lib.hid h2; have MV2 := Lib.hid mv2; have TB2 := Lib.hid tb2; have HEND := Lib.hid hend2; have HOP2 := Lib.hid hop2
      clear g1 g2 h2 mm2 mv2 tb2 hm2 hd2 hop2 hdid hend2 d1 d15 d8 e0 e1 e2 HX
      unfold ptr at HER
      go_wp2_with fail
      refine HER.out.mono ?_
      rintro r w3 ⟨rfl, rfl⟩
      have hti : (m2.op i).t = t := by rw [HOP2.out]; exact HR.out.ht
      by_cases herr : m2.dev.err t = 0
      · have herr2 : ((m2.dev.err t : Nat) : Int) = 0 := congrArg Int.ofNat herr
        have hok2 := H2.out.ok i hi
        obtain ⟨h3, mm3⟩ := H2.out.setO (i := i) (j := 15) (v := i64 (nx + 1)) (o' := { m2.op i with next := nx + 1 }) hi rfl rfl rfl rfl (ofun_one (fun pv => by simp [ofun])) { hok2 with next := Nat.le_trans HNX.out HLL.out }
        obtain ⟨W3, hW3⟩ : ∃ W3, W3 = w2.setCell ⟨B.o i, 15, none⟩ (i64 (nx + 1)) := ⟨_, rfl⟩
        rw [← hW3] at h3 mm3
        obtain ⟨m3, hm3⟩ : ∃ m3 : MS, m3 = m2.set i { m2.op i with next := nx + 1 } := ⟨_, rfl⟩
        rw [← hm3] at h3
        have kp : (m3.op c).prog = (m1.op c).prog := by rw [hm3, ← HOP2.out]; exact set_key (m := m2) (i := i) (o := { m2.op i with next := nx + 1 }) (·.prog) rfl c
        have ks : (m3.op c).stage = s := by rw [hm3, ← HR.out.hst, ← HOP2.out]; exact set_key (m := m2) (i := i) (o := { m2.op i with next := nx + 1 }) (·.stage) rfl c
        have ke : (m3.op c).es = (m1.op c).es := by rw [hm3, ← HOP2.out]; exact set_key (m := m2) (i := i) (o := { m2.op i with next := nx + 1 }) (·.es) rfl c
        have kn : (m3.op i).next = nx + 1 := by rw [hm3, set_same]
        obtain ⟨pb', cap', q8, _⟩ := prog_cells h3 hc (by rw [kp]; exact HR.out.hins)
        rw [kp, HR.out.len] at q8
        have q15 : W3.cell? ⟨B.o i, 15, none⟩ = some (.int .i64 ((nx + 1 : Nat) : Int)) := by have := h3.cellO hi 15 (by omega) (by omega); unfold ofun at this; rw [kn] at this; exact this
        have h4 := h3.drew
        obtain ⟨W4, hW4⟩ : ∃ W4, W4 = W3.drew := ⟨_, rfl⟩
        have mm4 := mm3.trans (MMoved.drew W3)
        rw [← hW4] at h4 mm4
        have q7 : W4.cell? ⟨B.o c, 7, none⟩ = some (.int .i64 s) := by have := h4.cellO hc 7 (by omega) (by omega); unfold ofun at this; rw [ks] at this; exact this
        have hcast : ((nx + 1 : Nat) : Int) = (nx : Int) + 1 := rfl
        have HW3 := Lib.hid hW3; have HW4 := Lib.hid hW4
        unfold Dv.i64 at HW3
        rw [hcast] at HW3 q15
        have hend3 : M = if nx + 1 = L then m3.enter T c (s + 1) else m3 := by
          rw [HEND.out]
          unfold MS.went
          rw [hti, if_neg (fun hh => hh herr)]
          have e1 : (m2.op i).next + 1 = nx + 1 := by rw [HOP2.out, HR.out.hnx]
          rw [e1, ← hm3, kn, kp, HR.out.len]
        have H4 := Lib.hid h4; have MV4 := Lib.hid (MV2.out.trans mm4); have TB4 := Lib.hid (TB2.out.moved mm4); have HEND3 := Lib.hid hend3
        have HUP := Lib.hid (show Up ((m3.op c).es.map (fun e => line e.1)) by rw [ke]; exact HR.out.up)
        clear hW3 hW4 h3 mm3 hm3 kp ks ke kn h4 mm4 hcast hend3 hok2 herr hti k1
        go_wp2_with fail
        rw [← HW3.out]
        by_cases hl : nx + 1 = L
        · have hl2 := cast_eq1 hl
          have hl3 : decide ((nx : Int) + 1 = L) = true := decide_eq_true hl2
          have HEN := Lib.hid (enter_mw H4.out TB4.out (i := c) (s := s + 1) hc (by omega) (by have := HS4.out; omega) HUP.out)
          have hcs : ((s + 1 : Nat) : Int) = (s : Int) + 1 := rfl
          unfold ptr Dv.i64 at HEN
          rw [hcs] at HEN
          have HE3 := Lib.hid (show M = m3.enter T c (s + 1) by rw [HEND3.out, if_pos hl])
          clear hl hcs
          go_region
          rw [← HW4.out]
          go_wp2_with fail
          refine HEN.out.mono ?_
          rintro r w5 ⟨rfl, hend⟩
          have GG := Lib.hid (MWent.from MV4.out hend)
          rw [← HE3.out] at GG
          clear hend
          go_wp2_with fail
          go_returns
          exact ⟨rfl, GG.out⟩
        · have hl2 := cast_ne1 hl
          have hl3 : decide ((nx : Int) + 1 = L) = false := decide_eq_false hl2
          have GG := Lib.hid (show MWent w A B Lr N F G M W4 by rw [HEND3.out, if_neg hl]; exact ⟨F2, G, H4.out, MV4.out⟩)
          clear hl
          go_region
          rw [← HW4.out]
          go_wp2_with fail
          go_returns
          exact ⟨rfl, GG.out⟩
      · have herr2 : ¬ (((m2.dev.err t : Nat) : Int) = 0) := by omega
        have GG := Lib.hid (show MWent w A B Lr N F G M w2 by
          rw [HEND.out]
          unfold MS.went
          rw [hti, if_pos herr]
          exact ⟨F2, G, H2.out, MV2.out⟩)
        go_wp2_with fail
        go_returns
        exact ⟨rfl, GG.out⟩
    · rw [decide_eq_false htg] at hne hne0
      clear h hT hok h0 mv0 tb0 hs hL ht htv hM hup hex hins hm1 hcond haim hs0 hs4 hpl hW0 h1 mm1 hok1 h2 mm2 hok2 h3 mm3 mm kp ks ke kt kn kd hW hnxe htg hnx
      unfold ptr
      simp only [Bool.not_false] at hne hne0
      go_enter Tryz.func176, Tryz.ntmps176
      go_wp2_with fail
      go_region
      try rw [← HW0.out]
      clear c7 c13 c14 hne hne0
      go_wp2_with fail
      rw [← HW.out]
      clear w7 w13 w14 w15 f13 f14 f15'
      have d1 : W.cell? ⟨B.o i, 1, none⟩ = some (.pointer (some ⟨A.t t, 0, none⟩)) := by have := HR.out.mw.cellO hi 1 (by omega) (by omega); unfold ofun at this; rw [HR.out.ht] at this; exact this
      have d15 : W.cell? ⟨B.o i, 15, none⟩ = some (.int .i64 nx) := by have := HR.out.mw.cellO hi 15 (by omega) (by omega); unfold ofun at this; rw [HR.out.hnx] at this; exact this
      obtain ⟨pb, cap, d8, e0, e1, e2⟩ := prog_cells HR.out.mw hc HR.out.hins
      rw [HR.out.len] at d8
      have ht : t < 8 := by have := (HR.out.mw.ok i hi).t; rw [HR.out.ht] at this; exact this
      have hin : ins.Ok := (HR.out.mw.ok c hc).prog _ (List.mem_of_getElem? HR.out.hins)
      have HX := Lib.hid (mexecute_dev HR.out.mw.drew.dev ht hin HR.out.ex)
      unfold ptr Dv.u64 at HX
      have HT8 := Lib.hid ht
      clear ht hin
      go_still_tail 14, (by kernel_rfl)
      go_wp2_with fail
      refine HX.out.mono ?_
      rintro r w2 ⟨rfl, F2, g1, g2⟩
      have HER := Lib.hid (err_dev g1 HT8.out)
      obtain ⟨h2, mm2⟩ := HR.out.mw.drew.moved g1 g2 (exec_L _ _ _)
      have mv2 := (HR.out.mv.trans (MMoved.drew _)).trans mm2
      have tb2 := (HR.out.tb.moved (MMoved.drew _)).moved mm2
      obtain ⟨m2, hm2⟩ : ∃ m2 : MS, m2 = { m1 with dev := m1.dev.exec t ins } := ⟨_, rfl⟩
      rw [← hm2] at h2
      have hop2 : m2.op = m1.op := by rw [hm2]
      have hd2 : m2.dev = m1.dev.exec t ins := by rw [hm2]
      rw [← hd2] at HER
      have k1 : w2.cell? ⟨B.o i, 1, none⟩ = some (.pointer (some ⟨A.t t, 0, none⟩)) := by have := h2.cellO hi 1 (by omega) (by omega); unfold ofun at this; rw [hop2, HR.out.ht] at this; exact this
      have k15 : w2.cell? ⟨B.o i, 15, none⟩ = some (.int .i64 nx) := by have := h2.cellO hi 15 (by omega) (by omega); unfold ofun at this; rw [hop2, HR.out.hnx] at this; exact this
      have f15 := h2.freeO hi 15
      have hdid : m1.did i c = m2 := by
        rw [hm2]
        unfold MS.did
        rw [HR.out.ht, HR.out.hnx, List.getD_eq_getElem?_getD, HR.out.hins]
        rfl
      have hend2 : M = MS.went T m2 i c s := by rw [HM.out, hdid]
      have H2 := Lib.hid h2; have MV2 := Lib.hid mv2; have TB2 := Lib.hid tb2; have HEND := Lib.hid hend2; have HOP2 := Lib.hid hop2
      clear g1 g2 h2 mm2 mv2 tb2 hm2 hd2 hop2 hdid hend2 d1 d15 d8 e0 e1 e2 HX
      unfold ptr at HER
      go_wp2_with fail
      refine HER.out.mono ?_
      rintro r w3 ⟨rfl, rfl⟩
      have hti : (m2.op i).t = t := by rw [HOP2.out]; exact HR.out.ht
      by_cases herr : m2.dev.err t = 0
      · have herr2 : ((m2.dev.err t : Nat) : Int) = 0 := congrArg Int.ofNat herr
        have hok2 := H2.out.ok i hi
        obtain ⟨h3, mm3⟩ := H2.out.setO (i := i) (j := 15) (v := i64 (nx + 1)) (o' := { m2.op i with next := nx + 1 }) hi rfl rfl rfl rfl (ofun_one (fun pv => by simp [ofun])) { hok2 with next := Nat.le_trans HNX.out HLL.out }
        obtain ⟨W3, hW3⟩ : ∃ W3, W3 = w2.setCell ⟨B.o i, 15, none⟩ (i64 (nx + 1)) := ⟨_, rfl⟩
        rw [← hW3] at h3 mm3
        obtain ⟨m3, hm3⟩ : ∃ m3 : MS, m3 = m2.set i { m2.op i with next := nx + 1 } := ⟨_, rfl⟩
        rw [← hm3] at h3
        have kp : (m3.op c).prog = (m1.op c).prog := by rw [hm3, ← HOP2.out]; exact set_key (m := m2) (i := i) (o := { m2.op i with next := nx + 1 }) (·.prog) rfl c
        have ks : (m3.op c).stage = s := by rw [hm3, ← HR.out.hst, ← HOP2.out]; exact set_key (m := m2) (i := i) (o := { m2.op i with next := nx + 1 }) (·.stage) rfl c
        have ke : (m3.op c).es = (m1.op c).es := by rw [hm3, ← HOP2.out]; exact set_key (m := m2) (i := i) (o := { m2.op i with next := nx + 1 }) (·.es) rfl c
        have kn : (m3.op i).next = nx + 1 := by rw [hm3, set_same]
        obtain ⟨pb', cap', q8, _⟩ := prog_cells h3 hc (by rw [kp]; exact HR.out.hins)
        rw [kp, HR.out.len] at q8
        have q15 : W3.cell? ⟨B.o i, 15, none⟩ = some (.int .i64 ((nx + 1 : Nat) : Int)) := by have := h3.cellO hi 15 (by omega) (by omega); unfold ofun at this; rw [kn] at this; exact this
        have h4 := h3.drew
        obtain ⟨W4, hW4⟩ : ∃ W4, W4 = W3.drew := ⟨_, rfl⟩
        have mm4 := mm3.trans (MMoved.drew W3)
        rw [← hW4] at h4 mm4
        have q7 : W4.cell? ⟨B.o c, 7, none⟩ = some (.int .i64 s) := by have := h4.cellO hc 7 (by omega) (by omega); unfold ofun at this; rw [ks] at this; exact this
        have hcast : ((nx + 1 : Nat) : Int) = (nx : Int) + 1 := rfl
        have HW3 := Lib.hid hW3; have HW4 := Lib.hid hW4
        unfold Dv.i64 at HW3
        rw [hcast] at HW3 q15
        have hend3 : M = if nx + 1 = L then m3.enter T c (s + 1) else m3 := by
          rw [HEND.out]
          unfold MS.went
          rw [hti, if_neg (fun hh => hh herr)]
          have e1 : (m2.op i).next + 1 = nx + 1 := by rw [HOP2.out, HR.out.hnx]
          rw [e1, ← hm3, kn, kp, HR.out.len]
        have H4 := Lib.hid h4; have MV4 := Lib.hid (MV2.out.trans mm4); have TB4 := Lib.hid (TB2.out.moved mm4); have HEND3 := Lib.hid hend3
        have HUP := Lib.hid (show Up ((m3.op c).es.map (fun e => line e.1)) by rw [ke]; exact HR.out.up)
        clear hW3 hW4 h3 mm3 hm3 kp ks ke kn h4 mm4 hcast hend3 hok2 herr hti k1
        go_wp2_with fail
        rw [← HW3.out]
        by_cases hl : nx + 1 = L
        · have hl2 := cast_eq1 hl
          have hl3 : decide ((nx : Int) + 1 = L) = true := decide_eq_true hl2
          have HEN := Lib.hid (enter_mw H4.out TB4.out (i := c) (s := s + 1) hc (by omega) (by have := HS4.out; omega) HUP.out)
          have hcs : ((s + 1 : Nat) : Int) = (s : Int) + 1 := rfl
          unfold ptr Dv.i64 at HEN
          rw [hcs] at HEN
          have HE3 := Lib.hid (show M = m3.enter T c (s + 1) by rw [HEND3.out, if_pos hl])
          clear hl hcs
          go_region
          rw [← HW4.out]
          go_wp2_with fail
          refine HEN.out.mono ?_
          rintro r w5 ⟨rfl, hend⟩
          have GG := Lib.hid (MWent.from MV4.out hend)
          rw [← HE3.out] at GG
          clear hend
          go_wp2_with fail
          go_returns
          exact ⟨rfl, GG.out⟩
        · have hl2 := cast_ne1 hl
          have hl3 : decide ((nx : Int) + 1 = L) = false := decide_eq_false hl2
          have GG := Lib.hid (show MWent w A B Lr N F G M W4 by rw [HEND3.out, if_neg hl]; exact ⟨F2, G, H4.out, MV4.out⟩)
          clear hl
          go_region
          rw [← HW4.out]
          go_wp2_with fail
          go_returns
          exact ⟨rfl, GG.out⟩
      · have herr2 : ¬ (((m2.dev.err t : Nat) : Int) = 0) := by omega
        have GG := Lib.hid (show MWent w A B Lr N F G M w2 by
          rw [HEND.out]
          unfold MS.went
          rw [hti, if_pos herr]
          exact ⟨F2, G, H2.out, MV2.out⟩)
        go_wp2_with fail
        go_returns
        exact ⟨rfl, GG.out⟩
end Go.Proofs.YtejlgnebofdijaaGreatDoor.Dv
