/-
  A step of a read and of an operation, with what they do to the executions.
  step of the statement's package: the walk.
  The record of the events: plain facts. No walk.
-/
import Derived.Test.YtejlgnebofdijaaGreatDoorMCwA
import Derived.Test.YtejlgnebofdijaaGreatDoorMCw3
import Derived.Test.YtejlgnebofdijaaGreatDoorMHsA
namespace Go.Proofs.YtejlgnebofdijaaGreatDoor.Dv
open Go.RowKit
open Ln (Cl Ev Run up up_same up_ne)
set_option linter.unusedVariables false

theorem LI.fits {T od nw : Nat → Nat} {A N : Nat} {m : MS} (h : LI T od nw A N m) (hr : Ready T N m) (hok : m.dev.Ok) {i : Nat} (hi : i < N) (hd : (m.op i).done = false) : Fit T { m with cur := some (m.cur.getD i) } i (m.cur.getD i) := by
  cases hc : m.cur with
  | none =>
    obtain ⟨a, b⟩ := h.take hi hc hd
    exact a.fit b hok hi rfl
  | some c =>
    have e : ({ m with cur := some c } : MS) = m := by rw [← hc]
    show Fit T { m with cur := some c } i c
    rw [e]
    exact h.fit hr hok hi hc

/-- What a step of a read does. -/
def RdDone (T : Nat → Nat) (cl : Nat → Cl) (ev : List Ev) (pd : Nat → Option Nat) (n v : Nat) (od nw : Nat → Nat) (N t r raw' : Nat) (m1 : MS) (act : Nat → Act) : Prop :=
  raw' < 4611686018427387904 ∧ ∃ c l', pd t = some c ∧ (cl c).rd = true ∧ Lnk T cl (ev ++ [.fin c (raw' % 1099511627776)]) (up pd t none) n l' v od nw N m1 (up act t .idle)
theorem rd_all {w : World} {A : DAd} {B : MAd} {N : Nat} {m : MS} {F G : Nat → Option Role} {T : Nat → Nat} {cl : Nat → Cl} {ev : List Ev} {pd : Nat → Option Nat} {n v t r pl raw : Nat} {l : List (Nat × Nat)} {od nw : Nat → Nat} {act : Nat → Act}
    (h : MW w A B 96 N m F G) (hl : Lnk T cl ev pd n l v od nw N m act) (ha : act t = .rd r pl raw) (hr : RdX w r A B t pl raw) (hf : F r = none) (hg : G r = none) (ht : t < 8) (hex : m.dev.ex < 1000000) :
    ∃ (en : Bool) (m1 : MS) (pl' raw' : Nat), Calls Tryz.prog 183 #[ptr r] w (StepR w A B 96 N m1 F G r t pl' raw' en) ∧ m1.dev.ex ≤ m.dev.ex + 1 ∧
      (en = false → pl' < 3 ∧ pl < pl' ∧ ∃ l', Lnk T cl ev pd n l' v od nw N m1 (up act t (.rd r pl' raw'))) ∧
      (en = true → RdDone T cl ev pd n v od nw N t r raw' m1 act) := by
  obtain ⟨hraw, c, hp, hrd, hq⟩ := hl.rd t r pl raw ha
  have hL := hl.li.L
  have hok := h.dev.ok
  have hrr : pl < 3 → RdAt w r A B t pl raw false := fun hpl => by
    rcases hr with ⟨_, h1⟩ | ⟨h1, _⟩
    · exact h1
    · omega
  have hpl : pl = 0 ∨ pl = 1 ∨ pl = 2 := by
    rcases hq with ⟨h1, _⟩ | ⟨h1, _⟩
    · exact .inl h1
    · exact .inr h1
  rcases hpl with rfl | rfl | rfl
  · by_cases hst : ∃ x, m.cur = some x ∧ (m.op x).stage = 3
    · obtain ⟨x, hx, h3⟩ := hst
      have hy := hl.raw_yes hx h3
      have hcu : m.dev.cur 800 < 4611686018427387904 := ((hl.li.val 800 (.inl rfl)).cur hok).1
      have hes := (hl.li.stat x (hl.li.cur x hx).1).es
      refine ⟨true, m, 1, _, rd_load_yes (a := od x) (b := nw x) h (hrr (by omega)) hf hg ht hl.li.calm hL hex hx h3 hes hcu, by omega, fun q => (by cases q), fun _ => ?_⟩
      obtain ⟨c', h5⟩ := hl.load ha hy.1 hy.2
      obtain ⟨c2, e1, e2, e3⟩ := h5.finRd (t := t) (up_same _ _ _) (by omega)
      refine ⟨hy.1, c2, l ++ [(c', v)], e1, e2, ?_⟩
      have : up (up act t (.rd r 1 ((m.op x).seen.getD 0 0))) t .idle = up act t .idle := by
        funext u
        unfold up
        split <;> rfl
      rw [this] at e3
      exact e3
    · have hno : ∀ x, m.cur = some x → (m.op x).stage ≠ 3 := fun x hx h3 => hst ⟨x, hx, h3⟩
      have hy := hl.raw_no hok hno
      obtain ⟨c', h5⟩ := hl.load ha hy.1 hy.2
      exact ⟨false, m, 1, _, rd_load_no h (hrr (by omega)) hf hg ht hl.li.calm hL hex hno hy.1, by omega, fun _ => ⟨by omega, by omega, _, h5⟩, fun q => by cases q⟩
  · have hfit : (⟨2, 6400, 0⟩ : Ins).Fit m.dev.L := ⟨fun e => absurd e (by show ¬ (2 : Nat) = 1; omega), fun _ => by show 6400 < m.dev.L * 64; omega⟩
    have h5 := (hl.quiet hok (t := t) (ins := ⟨2, 6400, 0⟩) (by show (2 : Nat) ≠ 1; omega) hfit)
    have e : m.dev.exec t ⟨2, 6400, 0⟩ = m.dev.flush t 6400 := rfl
    rw [e] at h5
    have h6 := h5.place ha
    refine ⟨false, { m with dev := m.dev.flush t 6400 }, 2, raw, rd_flush h (hrr (by omega)) hf hg ht hl.li.calm hL hex, ?_, fun _ => ⟨by omega, by omega, _, h6⟩, fun q => by cases q⟩
    show (m.dev.flush t 6400).ex ≤ _
    rw [← e]
    exact exec_ex _ _ _
  · have hfit : (⟨3, 0, 0⟩ : Ins).Fit m.dev.L := ⟨fun e => absurd e (by show ¬ (3 : Nat) = 1; omega), fun e => absurd e (by show ¬ (3 : Nat) = 2; omega)⟩
    have h5 := (hl.quiet hok (t := t) (ins := ⟨3, 0, 0⟩) (by show (3 : Nat) ≠ 1; omega) hfit)
    have e : m.dev.exec t ⟨3, 0, 0⟩ = m.dev.fence t := rfl
    rw [e] at h5
    obtain ⟨c2, e1, e2, e3⟩ := h5.finRd ha (by omega)
    refine ⟨true, { m with dev := m.dev.fence t }, 3, raw, rd_fence h (hrr (by omega)) hf hg ht hl.li.calm hL hex, ?_, fun q => (by cases q), fun _ => ⟨hraw, c2, _, e1, e2, e3⟩⟩
    show (m.dev.fence t).ex ≤ _
    rw [← e]
    exact exec_ex _ _ _
end Go.Proofs.YtejlgnebofdijaaGreatDoor.Dv

namespace Go.Proofs.YtejlgnebofdijaaGreatDoor.Dv
open Go.RowKit
open Ln (Cl Ev Run up up_same up_ne)
set_option linter.unusedVariables false

theorem mstep_ex (T : Nat → Nat) (m : MS) (i : Nat) : (m.step T i).1.dev.ex ≤ m.dev.ex + 1 := by
  have on_ex : ∀ (s : DSt) (t : Nat) (b : Bool), (s.on t b).ex = s.ex := fun s t b => by
    unfold DSt.on DSt.fail DSt.setErr
    repeat' split
    all_goals rfl
  have enter_dev : ∀ (m : MS) (i s : Nat), (m.enter T i s).dev = m.dev := fun m i s => by unfold MS.enter; split <;> rfl
  have stop_dev : ∀ (m : MS) (i e : Nat), (m.stop i e).dev = m.dev := fun m i e => by unfold MS.stop; dsimp only; split <;> rfl
  have load_ex : ∀ (m : MS) (c t : Nat), (m.load T c t).dev.ex = m.dev.ex := fun m c t => by
    unfold MS.load
    dsimp only
    split
    · exact on_ex _ _ _
    · split
      · split
        · rw [enter_dev]; exact on_ex _ _ _
        · exact on_ex _ _ _
      · exact on_ex _ _ _
  have adv : ∀ (m : MS) (i c : Nat), (m.advance T i c).dev.ex ≤ m.dev.ex + 1 := fun m i c => by
    by_cases h : (m.op c).stage = 0
    · unfold MS.advance
      rw [if_pos h, load_ex]
      omega
    · rw [advance_eq T m i c h]
      have h1 : (m.aim i c).dev = m.dev := by unfold MS.aim; split <;> rfl
      have h2 : ((m.aim i c).did i c).dev.ex ≤ m.dev.ex + 1 := by
        unfold MS.did
        dsimp only
        rw [h1]
        exact exec_ex _ _ _
      unfold MS.went
      split
      · exact h2
      · split
        · rw [enter_dev]; exact h2
        · exact h2
  unfold MS.step
  split
  · dsimp only; omega
  · split
    · dsimp only; rw [stop_dev]; omega
    · split
      · dsimp only; rw [stop_dev]; omega
      · dsimp only
        have := adv { m with cur := some (m.cur.getD i) } i (m.cur.getD i)
        split
        · dsimp only; rw [stop_dev]; exact this
        · split
          · dsimp only; rw [stop_dev]; exact this
          · exact this

theorem as_rd (v : Value) (W : World) : (Instr.typeAssert (.iface 103 v) 40 103 true).run Tryz.prog W = .ok (.tuple #[v, .bool true]) W := by kernel_rfl
theorem as_op (v : Value) (W : World) : (Instr.typeAssert (.iface 93 v) 40 93 true).run Tryz.prog W = .ok (.tuple #[v, .bool true]) W := by kernel_rfl
theorem as_no (v : Value) (W : World) : (Instr.typeAssert (.iface 93 v) 40 103 true).run Tryz.prog W = .ok (.tuple #[.pointer none, .bool false]) W := by kernel_rfl
def CsMid (M : Nat) (T : Nat → Nat) (W0 : World) (wb kb kc : Nat) (s : CS) (t : Nat) (wc : World) : Prop :=
  ∃ s1, Cw M T W0 wb kb kc s1 wc ∧ s1.act t ≠ .idle ∧ Rest M s s1 ∧ s1.m.dev.ex = s.m.dev.ex ∧ (s.act t ≠ .idle → s1 = s) ∧ crs s1.ev = crs s.ev ∧ Oth t s s1
def CsPost (M : Nat) (T : Nat → Nat) (W0 : World) (wb kb kc : Nat) (s : CS) (t : Nat) (e : Ending) (w' : World) : Prop :=
  e = .returned (.bool true) ∧ ∃ s', Cw M T W0 wb kb kc s' w' ∧ Rest M s s' ∧ s'.m.dev.ex ≤ s.m.dev.ex + 1 ∧ (s.act t ≠ .idle → s'.n = s.n ∧ meas s'.m (s'.act t) < meas s.m (s.act t)) ∧ crs s'.ev = crs s.ev ∧ Oth t s s'
def CsEnd (M : Nat) (T : Nat → Nat) (W0 : World) (wb kb kc : Nat) (s1 : CS) (t : Nat) (w' : World) : Prop :=
  ∃ s', Cw M T W0 wb kb kc s' w' ∧ s'.rc = s1.rc ∧ s'.n = s1.n ∧ s'.m.dev.ex ≤ s1.m.dev.ex + 1 ∧ meas s'.m (s'.act t) < meas s1.m (s1.act t) ∧ crs s'.ev = crs s1.ev ∧ Oth t s1 s'
/-- The event is ready to be appended. -/
def CsEv (M : Nat) (T : Nat → Nat) (W0 : World) (wb kb kc : Nat) (s1 : CS) (t : Nat) (x : Nat) (wc : World) : Prop :=
  ∃ (s2 : CS) (c v : Nat) (fl : Bool), Ch M T W0 wb kb kc s2 wc ∧ s2.rc = s1.rc ∧ s2.n = s1.n ∧ s2.ev = s1.ev ∧ s2.nu = s1.nu ∧ s2.m.dev.ex ≤ s1.m.dev.ex + 1 ∧ Oth t s1 s2 ∧
    wc.heap[x]? = some (.cells #[.int .i64 c, .bool true, .bool false, .int .u64 v, .bool true, .int .i64 0, .bool fl] 52 (0, 0)) ∧
    ∃ pd l A od nw, Lnk T (fun k => (s1.rc k).cl) (s1.ev ++ [if fl then .fail c v else .fin c v]) (up pd t none) s1.n l A od nw s2.N s2.m (up s2.act t .idle) ∧ ∀ u c', pd u = some c' → s1.nu u = c'
theorem evc_fl (c v : Nat) (fl : Bool) : evc (if fl then .fail c v else .fin c v) = [.int .i64 c, .bool true, .bool false, .int .u64 v, .bool true, .int .i64 0, .bool fl] := by cases fl <;> rfl
theorem crs_fl (c v : Nat) (fl : Bool) : crs [if fl then .fail c v else .fin c v] = 0 := by cases fl <;> rfl

set_option maxHeartbeats 4000000 in
set_option maxRecDepth 100000 in
theorem step_cw {M : Nat} {T : Nat → Nat} {W0 : World} {wb kb kc t : Nat} {s : CS} {w : World} (h : Cw M T W0 wb kb kc s w) (ht : t < 3) (hex : s.m.dev.ex < 900000) :
    Calls Tryz.prog 10 #[ptr wb, .int .i64 t] w (CsPost M T W0 wb kb kc s t) := by
  have ht3 : t = 0 ∨ t = 1 ∨ t = 2 := by omega
  have c4 : w.cell? ⟨wb, 4 + t, none⟩ = some (actv s.B (s.act t)) := by
    have := h.ch.row.cell (4 + t) (by omega)
    rw [this]
    rcases ht3 with rfl | rfl | rfl <;> rfl
  have H := Lib.hid h
  have b2 : (t : Int) < 3 := by omega
  have HT3 := Lib.hid ht3
  clear h ht3
  unfold ptr
  go_enter Tryz.func10, Tryz.ntmps10
  go_upto_region 1 with fail
  go_cut [22] (fun v wc => (v = .bool false ∧ CsMid M T W0 wb kb kc s t wc) ∨ (v = .bool true ∧ s.act t = .idle ∧ Cw M T W0 wb kb kc s wc))
  case first =>
    cases ha : s.act t with
    | idle =>
      rw [ha] at c4
      unfold actv at c4
      have HBN := Lib.hid (begin_cw H.out ht ha)
      have HA := Lib.hid ha
      clear ha
      unfold ptr at HBN
      go_wp2_with fail
      refine HBN.out.mono ?_
      rintro e w1 (⟨rfl, hcw, _⟩ | ⟨rfl, s1, hcw, hn1, hact1, hdev1, hrest, hcrs, hoth⟩)
      · have GG := Lib.hid hcw
        clear hcw HBN
        go_wp2_with fail
        go_meet
        exact .inr ⟨rfl, HA.out, GG.out⟩
      · have GG := Lib.hid (show CsMid M T W0 wb kb kc s t w1 from ⟨s1, hcw, hact1, hrest, by rw [hdev1], fun q => absurd HA.out q, hcrs, hoth⟩)
        clear hcw hn1 hact1 hdev1 hrest hcrs hoth HBN
        go_wp2_with fail
        go_meet
        exact .inl ⟨rfl, GG.out⟩
    | rd r pl raw =>
      rw [ha] at c4
      unfold actv at c4
      have GG := Lib.hid (show CsMid M T W0 wb kb kc s t w from ⟨s, H.out, by rw [ha]; simp, fun P h => h, rfl, fun _ => rfl, rfl, fun _ _ => rfl⟩)
      clear ha
      go_wp2_with fail
      go_meet
      exact .inl ⟨rfl, GG.out⟩
    | op i =>
      rw [ha] at c4
      unfold actv at c4
      have GG := Lib.hid (show CsMid M T W0 wb kb kc s t w from ⟨s, H.out, by rw [ha]; simp, fun P h => h, rfl, fun _ => rfl, rfl, fun _ _ => rfl⟩)
      clear ha
      go_wp2_with fail
      go_meet
      exact .inl ⟨rfl, GG.out⟩
  case rest =>
    rcases hcut with ⟨rfl, s1, hcw, hact1, hrest, hex1, hsame, hcrs, hoth1⟩ | ⟨rfl, ha, hcw⟩
    · have HEND := Lib.hid (fun w' (h : CsEnd M T W0 wb kb kc s1 t w') => show CsPost M T W0 wb kb kc s t (.returned (.bool true)) w' from by
        obtain ⟨s', h1, h2, h3, h4, h5, h6, h7⟩ := h
        refine ⟨rfl, s', h1, fun P hP k hk1 hk2 => ?_, by omega, fun q => ?_, h6.trans hcrs, fun u hu => (h7 u hu).trans (hoth1 u hu)⟩
        · rw [h2]
          exact hrest P hP k (by rw [← h3]; exact hk1) hk2
        · have := hsame q
          subst this
          exact ⟨h3, h5⟩)
      have hex9 : s1.m.dev.ex < 900000 := by omega
      have HCW := Lib.hid hcw
      clear c4 hsame hrest hex1 hcrs hoth1
      have c4 : wc.cell? ⟨wb, 4 + t, none⟩ = some (actv s1.B (s1.act t)) := by
        have := hcw.ch.row.cell (4 + t) (by omega)
        rw [this]
        rcases HT3.out with rfl | rfl | rfl <;> rfl
      obtain ⟨pd, l, v, od, nw, hlk, hnu⟩ := hcw.lk
      have HLK := Lib.hid hlk; have HNU := Lib.hid hnu
      have hnum := hcw.ch.nub t
      have c7 := fun (W : World) (s2 : CS) (hW : Ch M T W0 wb kb kc s2 W) => show W.cell? ⟨wb, 7 + t, none⟩ = some (.int .i64 (s2.nu t)) from by
        have := hW.row.cell (7 + t) (by omega)
        rw [this]
        rcases HT3.out with rfl | rfl | rfl <;> rfl
      have c4' := fun (W : World) (s2 : CS) (hW : Ch M T W0 wb kb kc s2 W) => show W.cell? ⟨wb, 4 + t, none⟩ = some (actv s2.B (s2.act t)) from by
        have := hW.row.cell (4 + t) (by omega)
        rw [this]
        rcases HT3.out with rfl | rfl | rfl <;> rfl
      have C7 := Lib.hid c7; have C4 := Lib.hid c4'
      clear c7 c4' hcw hnu
      cases ha : s1.act t with
      | idle => exact absurd ha hact1
      | rd r pl raw =>
        rw [ha] at c4
        unfold actv at c4
        obtain ⟨hrx, hrf, hrg, hrlo⟩ := HCW.out.ch.rds t r pl raw ha
        obtain ⟨en, m1, pl', raw', hcall, hexm, hen, hent⟩ := rd_all HCW.out.ch.mw hlk ha hrx hrf hrg (by omega) (by omega)
        have hpl3 : pl < 3 := by
          obtain ⟨_, c0, _, _, hq⟩ := hlk.rd t r pl raw ha
          rcases hq with ⟨hq, _⟩ | ⟨hq, _⟩ <;> omega
        have HCA := Lib.hid hcall
        have HA := Lib.hid ha; have HEN := Lib.hid hen; have HENT := Lib.hid hent
        clear hlk hcall ha hen hent hrx hrf hrg hrlo hact1
        unfold ptr at HCA
        go_wp2_with fail
        refine HCA.out.mono ?_
        rintro e w1 ⟨rfl, hrd, hwent⟩
        cases en with
        | false =>
          obtain ⟨hp1, hp2, l', hl'⟩ := HEN.out rfl
          obtain ⟨F', hch⟩ := HCW.out.ch.readStep HA.out hwent (.inl ⟨hp1, hrd⟩)
          have GG := Lib.hid (HEND.out w1 ⟨_, ⟨hch, ⟨pd, l', v, od, nw, hl', HNU.out⟩, HCW.out.nn, HCW.out.cr⟩, rfl, rfl, hexm, by
            show meas m1 (up s1.act t (.rd r pl' raw') t) < meas s1.m (s1.act t)
            rw [up_same, HA.out]
            show 4 - pl' < 4 - pl
            omega, rfl, fun u hu => up_ne _ _ hu⟩)
          clear hwent hrd hch hl' hp1 hp2 HCA HEN HENT HCW
          go_wp2_with fail
          go_returns
          exact GG.out
        | true =>
          obtain ⟨hraw, c, l', hpc, hcr, hl'⟩ := HENT.out rfl
          obtain ⟨F', hch⟩ := HCW.out.ch.readStep (pl' := 3) HA.out hwent (.inr ⟨rfl, pl', hrd⟩)
          have hac : up s1.act t (.rd r 3 raw') t = .rd r 3 raw' := up_same _ _ _
          have d7 := C7.out w1 _ hch
          have d4 := C4.out w1 _ hch
          dsimp only at d7 d4
          rw [hac] at d4
          unfold actv at d4
          have hnc := HNU.out t c hpc
          have HCH := Lib.hid hch; have HRD := Lib.hid hrd; have HL' := Lib.hid hl'; have HNC := Lib.hid hnc; have HRAW := Lib.hid hraw
          have hwl := hch.row.lt
          have hrl := hrd.lt
          clear hwent hrd hch hl' hnc hraw HCA HEN HENT c4 hac
          go_upto_block 0 with (fail)
          go_cut [] (fun wc => CsEv M T W0 wb kb kc s1 t w1.heap.size wc)
          case first =>
            obtain ⟨V, hV⟩ : ∃ V, V = w1.alloc (.cells #[.int .i64 (s1.nu t : Nat), .bool true, .bool false, .int .u64 0, .bool true, .int .i64 0, .bool false] 52) := ⟨_, rfl⟩
            have hbV : Below w1.heap.size w1 V := by rw [hV]; exact below_alloc (Below.refl _ _)
            have hbx : V.heap[w1.heap.size]? = some (.cells #[.int .i64 (s1.nu t : Nat), .bool true, .bool false, .int .u64 0, .bool true, .int .i64 0, .bool false] 52 (0, 0)) := by rw [hV]; exact heap_alloc_new _ _
            rw [← hV]
            have x3 : V.cell? ⟨w1.heap.size, 3, none⟩ = some (.int .u64 0) := (cell_block hbx).trans rfl
            have f3 : V.frozen? ⟨w1.heap.size, 3, none⟩ = false := free_block hbx
            have HVA := Lib.hid (rvalue_any (HRD.out.of_block (hbV.block _ HRD.out.lt)) (by have := HRAW.out; omega))
            have GG := Lib.hid (show CsEv M T W0 wb kb kc s1 t w1.heap.size (V.setCell ⟨w1.heap.size, 3, none⟩ (.int .u64 ((raw' % 1099511627776 : Nat) : Int))) from
              ⟨_, c, raw' % 1099511627776, false, HCH.out.below (hbV.setCell (p := ⟨w1.heap.size, 3, none⟩) (Nat.le_refl _) _), rfl, rfl, rfl, rfl, hexm, fun u hu => up_ne _ _ hu, by
                rw [heap_set hbx, ← HNC.out]
                rfl, pd, l', v, od, nw, by
                  have h7 := HL'.out
                  have e : up (up s1.act t (.rd r 3 raw')) t .idle = up s1.act t .idle := by
                    funext u
                    unfold up
                    split <;> rfl
                  show Lnk T _ (s1.ev ++ [Ev.fin c (raw' % 1099511627776)]) _ _ _ _ _ _ _ _ (up (up s1.act t (.rd r 3 raw')) t .idle)
                  rw [e]
                  exact h7, HNU.out⟩)
            clear hV hbV hbx HCH HRD HL' HNC d7 d4
            unfold ptr Dv.u64 at HVA
            have ar := as_rd
            go_wp2_with fail
            refine HVA.out.mono ?_
            rintro e w5 ⟨rfl, rfl⟩
            go_wp2_with fail
            go_meet
            exact GG.out
          case rest =>
            obtain ⟨s2, c, ve, fl, hch, hrc2, hn2, hev2, hnu2, hexx, hoth2, hbox, pd', l', A', od', nw', hl', hnu'⟩ := hcut
            obtain ⟨ea, ec, hevv⟩ := own_slice hch.evs
            have hel := HCW.out.evl
            have hel1 : s2.ev.length ≤ 416 := by rw [hev2]; exact hel
            have v10 : wc.cell? ⟨wb, 10, none⟩ = some (.slice ea s2.ev.length ec) := by rw [← hevv]; exact hch.row.cell 10 (by omega)
            obtain ⟨xb, hxb⟩ : ∃ xb, xb = w1.heap.size := ⟨_, rfl⟩
            rw [← hxb] at hbox ⊢
            have y0 : wc.cell? ⟨xb, 0, none⟩ = some (.int .i64 c) := (cell_block hbox).trans rfl
            have y1 : wc.cell? ⟨xb, 1, none⟩ = some (.bool true) := (cell_block hbox).trans rfl
            have y2 : wc.cell? ⟨xb, 2, none⟩ = some (.bool false) := (cell_block hbox).trans rfl
            have y3 : wc.cell? ⟨xb, 3, none⟩ = some (.int .u64 ve) := (cell_block hbox).trans rfl
            have y4 : wc.cell? ⟨xb, 4, none⟩ = some (.bool true) := (cell_block hbox).trans rfl
            have y5 : wc.cell? ⟨xb, 5, none⟩ = some (.int .i64 0) := (cell_block hbox).trans rfl
            have y6 : wc.cell? ⟨xb, 6, none⟩ = some (.bool fl) := (cell_block hbox).trans rfl
            have hxl := heap_lt hbox
            have hwl := hch.row.lt
            have hbl2 : Below wc.heap.size wc (wc.drew.alloc (.cells #[.int .i64 c, .bool true, .bool false, .int .u64 ve, .bool true, .int .i64 0, .bool fl] 52)) := below_alloc (Below.refl _ wc).drew
            have h4 := hch.below hbl2
            have v10' : (wc.alloc (.cells #[.int .i64 c, .bool true, .bool false, .int .u64 ve, .bool true, .int .i64 0, .bool fl] 52)).cell? ⟨wb, 10, none⟩ = some (.slice ea s2.ev.length ec) := ((below_alloc (Below.refl _ wc)).cell (p := ⟨wb, 10, none⟩) hwl).trans v10
            have hN : (wc.drew.alloc (.cells #[.int .i64 c, .bool true, .bool false, .int .u64 ve, .bool true, .int .i64 0, .bool fl] 52)).heap[wc.heap.size]? = some (.cells #[.int .i64 c, .bool true, .bool false, .int .u64 ve, .bool true, .int .i64 0, .bool fl] 52 (0, 0)) := heap_alloc_new wc.drew _
            have HOW := Lib.hid (show (wc.drew.alloc (.cells #[.int .i64 c, .bool true, .bool false, .int .u64 ve, .bool true, .int .i64 0, .bool fl] 52)).ownsRow W0.heap.size 52 7 (.slice ea s2.ev.length ec) s2.ev.length (evcs s2.ev) from by
              have := h4.evs
              rw [← hevv]
              exact this)
            have HN := Lib.hid hN
            have HC63 := Lib.hid (show s2.ev.length + 1 ≤ maxLen ∧ (s2.ev.length + 1) * 48 ≤ 140737488355328 by unfold maxLen; omega)
            have HXX := Lib.hid h4.bel.size
            have HY := Lib.hid (fun (w4 : World) (g4 cap4 : Nat) (ho : w4.ownsRow W0.heap.size 52 7 (.slice (some ⟨g4, 0, none⟩) (s2.ev.length + 1) cap4) (s2.ev.length + 1) (evcs s2.ev ++ [.int .i64 c, .bool true, .bool false, .int .u64 ve, .bool true, .int .i64 0, .bool fl])) (hgr : (wc.drew.alloc (.cells #[.int .i64 c, .bool true, .bool false, .int .u64 ve, .bool true, .int .i64 0, .bool fl] 52)).grownBy w4 (Value.slice ea s2.ev.length ec).ownBlock) (hg4 : (Value.slice ea s2.ev.length ec).ownBlock = some g4 ∨ (wc.drew.alloc (.cells #[.int .i64 c, .bool true, .bool false, .int .u64 ve, .bool true, .int .i64 0, .bool fl] 52)).heap.size ≤ g4) =>
              show (∃ u, w4.cell? ⟨wb, 10, none⟩ = some u) ∧ w4.frozen? ⟨wb, 10, none⟩ = false ∧ Hid (Ch M T W0 wb kb kc (s2.push (if fl then .fail c ve else .fin c ve) (.slice (some ⟨g4, 0, none⟩) (s2.ev.length + 1) cap4)) (w4.setCell ⟨wb, 10, none⟩ (.slice (some ⟨g4, 0, none⟩) (s2.ev.length + 1) cap4))) from by
                have hne : (Value.slice ea s2.ev.length ec).ownBlock ≠ some wb := by rw [← hevv]; exact row_own_ne h4.row h4.evs (by decide)
                have hrow4 : Row w4 wb 45 11 _ := h4.row.of_block (hgr.block _ h4.row.lt hne.symm)
                exact ⟨⟨_, hrow4.cell 10 (by omega)⟩, hrow4.free 10, Lib.hid (h4.push (e := if fl then .fail c ve else .fin c ve) (by rw [evc_fl]; exact ho) (by rw [hevv]; exact hgr) (by rw [hevv]; exact hg4))⟩)
            have hel2 : (s2.ev.length : Int) ≤ 416 := by omega
            have HF := Lib.hid (And.intro hrc2 (And.intro hn2 (And.intro hev2 (And.intro hnu2 hexx))))
            have HLE := Lib.hid hl'; have HNE := Lib.hid hnu'; have HOT := Lib.hid hoth2
            clear hch hbox hxb h4 hevv hbl2 hN hel hrc2 hn2 hev2 hnu2 hexx hoth2 hl' hnu'
            go_upto_region 17 with (fail)
            go_cut [] (fun W => ∃ v, Ch M T W0 wb kb kc (s2.push (if fl then .fail c ve else .fin c ve) v) W)
            case first =>
              go_region_law (first | (refine step_append_own2 elCEv rfl _ _ rfl HOW.out rfl rfl HN.out rfl (by repeat (first | exact List.forall_mem_nil _ | refine List.forall_mem_cons.2 ⟨rfl, ?_⟩)) HC63.out.1 HC63.out.2 HXX.out ?_; intro g4 cap4 w4 hop4 hgr4 hgg4; obtain ⟨⟨zu, z1⟩, z2, z3⟩ := HY.out _ _ _ hop4 hgr4 hgg4; clear hop4 hgr4 hgg4))
              all_goals
                go_wp2_with fail
                go_meet
                first
                  | with_reducible exact ⟨_, z3.out⟩
                  | exact ⟨_, z3.out.below (below_drew (Below.refl _ _))⟩
            case rest =>
              obtain ⟨ev5, h5⟩ := hcut
              have v5 : ∃ u, wc.cell? ⟨wb, 4 + t, none⟩ = some u := ⟨_, h5.row.cell (4 + t) (by omega)⟩
              obtain ⟨v5v, v5⟩ := v5
              have f5 := h5.row.free (4 + t)
              have h6 := h5.setAct ht .idle (fun r' pl raw e => by cases e) (fun u r' pl raw pl' raw' hu e => by cases e) (fun i e => by cases e)
              have GG := Lib.hid (HEND.out (wc.setCell ⟨wb, 4 + t, none⟩ .nilIface) ⟨_, ⟨h6, ⟨_, l', A', od', nw', by
                  have h7 := HLE.out
                  rw [← HF.out.2.2.1, ← HF.out.1, ← HF.out.2.1] at h7
                  exact h7, fun u c' hc' => by
                    show s2.nu u = c'
                    rw [HF.out.2.2.2.1]
                    by_cases hu : u = t
                    · rw [hu, up_same] at hc'; cases hc'
                    · rw [up_ne _ _ hu] at hc'; exact HNE.out u c' hc'⟩, by show s2.n ≤ M; rw [HF.out.2.1]; exact HCW.out.nn, by
                    show crs (s2.ev ++ [if fl then .fail c ve else .fin c ve]) ≤ 400
                    rw [crs_append, crs_fl, HF.out.2.2.1]
                    have := HCW.out.cr
                    omega⟩, HF.out.1, HF.out.2.1, HF.out.2.2.2.2, by
                    show meas s2.m (up s2.act t .idle t) < _
                    rw [up_same]
                    exact (by show 0 < meas s1.m (s1.act t); rw [HA.out]; show 0 < 4 - pl; omega), by
                    show crs (s2.ev ++ [if fl then .fail c ve else .fin c ve]) = crs s1.ev
                    rw [crs_append, crs_fl, HF.out.2.2.1]; rfl, fun u hu => (up_ne _ _ hu).trans (HOT.out u hu)⟩)
              clear h5 h6
              go_wp2_with fail
              go_returns
              exact GG.out
      | op i =>
        rw [ha] at c4
        unfold actv at c4
        have hok := HCW.out.ch.mw.dev.ok
        obtain ⟨hi, hti, hie, _⟩ := hlk.op t i ha
        have HST := Lib.hid (step_fit HCW.out.ch.mw HCW.out.ch.tb (fun _ hd => hlk.li.fits hlk.rdy hok hi hd) hi (by omega))
        obtain ⟨l2, A2, hf, htr⟩ := hlk.step hok ha
        have hexm := mstep_ex T s1.m i
        have hmu := fun hb => hlk.li.mu hlk.rdy hok hi hie hb
        obtain ⟨R, hR⟩ : ∃ R, R = s1.m.step T i := ⟨_, rfl⟩
        rw [← hR] at HST hf htr hexm hmu
        have HA := Lib.hid ha; have HF1 := Lib.hid hf; have HTR := Lib.hid htr; have HMU := Lib.hid hmu; have HI := Lib.hid hi
        clear hlk ha hf htr hmu hok hti hie hR hact1
        unfold ptr at HST
        go_wp2_with fail
        refine HST.out.mono ?_
        intro e w1 hp
        obtain ⟨rfl, F', G', hmw, hmv⟩ := hp
        have hch := HCW.out.ch.moved hmw hmv rfl rfl (fun _ _ => rfl) (Nat.le_refl _)
        cases hb : R.2 with
        | false =>
          have GG := Lib.hid (HEND.out w1 ⟨_, ⟨hch, ⟨pd, l2, A2, od, nw, HF1.out hb, HNU.out⟩, HCW.out.nn, HCW.out.cr⟩, rfl, rfl, hexm, by
            show meas R.1 (s1.act t) < meas s1.m (s1.act t)
            rw [HA.out]
            show 1 + mu R.1 i < 1 + mu s1.m i
            have := HMU.out hb
            omega, rfl, fun _ _ => rfl⟩)
          clear hch hmw hmv HST HF1 HTR HMU HCW hb
          go_wp2_with fail
          go_returns
          exact GG.out
        | true =>
          obtain ⟨c, hpc, hcr, hend, herr, hl'⟩ := HTR.out hb
          have hnc := HNU.out t c hpc
          have hcn : c < s1.n := (HLK.out.run.thr.1 _ _ hpc).1
          have hcM : c < M := Nat.lt_of_lt_of_le hcn HCW.out.nn
          have d7 := C7.out w1 _ hch
          have d4 := C4.out w1 _ hch
          dsimp only at d7 d4
          rw [HA.out] at d4
          rw [hnc] at d7
          unfold actv at d4
          have hwl := hch.row.lt
          have hkl := hch.calls.lt
          have hm8 := hch.m8
          have hkc := hch.kcl
          have b6 : (c : Int) < M := by omega
          have b7 : (M : Int) ≤ 8 := by omega
          have b8 : (M : Int) ≤ kc := by omega
          obtain ⟨k0, k1, k2, k3⟩ := hch.call hcM
          obtain ⟨rcc, hrcc⟩ : ∃ rcc, rcc = s1.rc c := ⟨_, rfl⟩
          have hro := hch.rok c
          dsimp only at k0 k1 k2 k3 hro
          rw [← hrcc] at k0 k1 k2 k3 hro
          have eo := wrap_tmod hro.2.1
          have ho3 := hro.2.1
          have o2' : (rcc.od : Int) < 256 := by omega
          obtain ⟨oo, hoo⟩ : ∃ oo, oo = rcc.od % 3 := ⟨_, rfl⟩
          rw [← hoo] at eo
          have eo2 : (rcc.od : Int) % 3 = (oo : Int) := by omega
          obtain ⟨chg, hchg⟩ : ∃ chg, chg = (R.1.op i).changed := ⟨_, rfl⟩
          have v2 : w1.cell? ⟨wb, 2, none⟩ = some (.slice (some ⟨kb, 0, none⟩) M kc) := hch.row.cell 2 (by omega)
          have HCH := Lib.hid hch; have HL' := Lib.hid hl'; have HMW := Lib.hid hmw; have HEE := Lib.hid (And.intro hend herr); have HRC := Lib.hid hrcc; have HOO := Lib.hid hoo; have HCHG := Lib.hid hchg
          clear hch hl' hmw hmv hend herr hnc hrcc hoo hchg HST HF1 HTR HMU hb c4 k0 k1 k3 hro hkc hm8
          go_upto_block 0 with (fail)
          go_cut [] (fun wc => CsEv M T W0 wb kb kc s1 t w1.heap.size wc)
          case first =>
            obtain ⟨V, hV⟩ : ∃ V, V = w1.alloc (.cells #[.int .i64 c, .bool true, .bool false, .int .u64 0, .bool true, .int .i64 0, .bool false] 52) := ⟨_, rfl⟩
            have hbV : Below w1.heap.size w1 V := by rw [hV]; exact below_alloc (Below.refl _ _)
            have hbx : V.heap[w1.heap.size]? = some (.cells #[.int .i64 c, .bool true, .bool false, .int .u64 0, .bool true, .int .i64 0, .bool false] 52 (0, 0)) := by rw [hV]; exact heap_alloc_new _ _
            rw [← hV]
            have x0 : V.cell? ⟨w1.heap.size, 0, none⟩ = some (.int .i64 c) := (cell_block hbx).trans rfl
            have x3 : V.cell? ⟨w1.heap.size, 3, none⟩ = some (.int .u64 0) := (cell_block hbx).trans rfl
            have x6 : V.cell? ⟨w1.heap.size, 6, none⟩ = some (.bool false) := (cell_block hbx).trans rfl
            have f3 : V.frozen? ⟨w1.heap.size, 3, none⟩ = false := free_block hbx
            have f6 : V.frozen? ⟨w1.heap.size, 6, none⟩ = false := free_block hbx
            have v2' : V.cell? ⟨wb, 2, none⟩ = some (.slice (some ⟨kb, 0, none⟩) M kc) := (hbV.cell (p := ⟨wb, 2, none⟩) hwl).trans v2
            have k2' : V.cell? ⟨kb, c * 4 + 2, none⟩ = some (.int .u8 rcc.od) := (hbV.cell (p := ⟨kb, c * 4 + 2, none⟩) hkl).trans k2
            have HOK := Lib.hid (opok_ch (HCH.out.mw.below hbV).1 HI.out HEE.out.1 HEE.out.2)
            rw [show ((R.1.op i).changed) = chg from HCHG.out.symm] at HOK
            have GG := Lib.hid (fun (W : World) (hb : Below ((V.setCell ⟨w1.heap.size, 6, none⟩ (.bool (!chg))).setCell ⟨w1.heap.size, 3, none⟩ (.int .u64 (oo : Nat))).heap.size ((V.setCell ⟨w1.heap.size, 6, none⟩ (.bool (!chg))).setCell ⟨w1.heap.size, 3, none⟩ (.int .u64 (oo : Nat))) W) => show CsEv M T W0 wb kb kc s1 t w1.heap.size W from
              ⟨_, c, oo, !chg, HCH.out.below (((hbV.setCell (p := ⟨w1.heap.size, 6, none⟩) (Nat.le_refl _) _).setCell (p := ⟨w1.heap.size, 3, none⟩) (Nat.le_refl _) _).trans (hb.mono (Nat.le_trans hbV.size (Below.size ((((Below.refl w1.heap.size V).setCell (p := ⟨w1.heap.size, 6, none⟩) (Nat.le_refl _) _).setCell (p := ⟨w1.heap.size, 3, none⟩) (Nat.le_refl _) _)))))), rfl, rfl, rfl, rfl, hexm, fun _ _ => rfl, by
                have hx2 := heap_set (i := 3) (v := .int .u64 (oo : Nat)) (heap_set (i := 6) (v := .bool (!chg)) hbx)
                rw [hb.block _ (heap_lt hx2), hx2]
                rfl, pd, l2, A2, od, nw, by
                  have h7 := HL'.out
                  rw [← HCHG.out] at h7
                  have e : (if (!chg) = true then Ev.fail c oo else Ev.fin c oo) = (if chg = true then Ev.fin c (s1.rc c).cl.old else Ev.fail c (s1.rc c).cl.old) := by
                    have : (s1.rc c).cl.old = oo := by rw [HOO.out, HRC.out]; rfl
                    rw [this]
                    cases chg <;> rfl
                  rw [e]
                  exact h7, HNU.out⟩)
            clear hV hbV hbx HCH HL' HMW HEE d7 d4 v2 k2
            unfold ptr at HOK
            have ao := as_op
            have an := as_no
            go_wp2_with fail
            refine HOK.out.mono ?_
            rintro e w5 ⟨rfl, rfl⟩
            go_wp2_with fail
            go_region
            all_goals
              go_wp2_with fail
              go_meet
              first
                | with_reducible exact GG.out _ (below_drew (Below.refl _ _))
                | with_reducible exact GG.out _ (Below.refl _ _)
          case rest =>
            obtain ⟨s2, c, ve, fl, hch, hrc2, hn2, hev2, hnu2, hexx, hoth2, hbox, pd', l', A', od', nw', hl', hnu'⟩ := hcut
            obtain ⟨ea, ec, hevv⟩ := own_slice hch.evs
            have hel := HCW.out.evl
            have hel1 : s2.ev.length ≤ 416 := by rw [hev2]; exact hel
            have v10 : wc.cell? ⟨wb, 10, none⟩ = some (.slice ea s2.ev.length ec) := by rw [← hevv]; exact hch.row.cell 10 (by omega)
            obtain ⟨xb, hxb⟩ : ∃ xb, xb = w1.heap.size := ⟨_, rfl⟩
            rw [← hxb] at hbox ⊢
            have y0 : wc.cell? ⟨xb, 0, none⟩ = some (.int .i64 c) := (cell_block hbox).trans rfl
            have y1 : wc.cell? ⟨xb, 1, none⟩ = some (.bool true) := (cell_block hbox).trans rfl
            have y2 : wc.cell? ⟨xb, 2, none⟩ = some (.bool false) := (cell_block hbox).trans rfl
            have y3 : wc.cell? ⟨xb, 3, none⟩ = some (.int .u64 ve) := (cell_block hbox).trans rfl
            have y4 : wc.cell? ⟨xb, 4, none⟩ = some (.bool true) := (cell_block hbox).trans rfl
            have y5 : wc.cell? ⟨xb, 5, none⟩ = some (.int .i64 0) := (cell_block hbox).trans rfl
            have y6 : wc.cell? ⟨xb, 6, none⟩ = some (.bool fl) := (cell_block hbox).trans rfl
            have hxl := heap_lt hbox
            have hwl := hch.row.lt
            have hbl2 : Below wc.heap.size wc (wc.drew.alloc (.cells #[.int .i64 c, .bool true, .bool false, .int .u64 ve, .bool true, .int .i64 0, .bool fl] 52)) := below_alloc (Below.refl _ wc).drew
            have h4 := hch.below hbl2
            have v10' : (wc.alloc (.cells #[.int .i64 c, .bool true, .bool false, .int .u64 ve, .bool true, .int .i64 0, .bool fl] 52)).cell? ⟨wb, 10, none⟩ = some (.slice ea s2.ev.length ec) := ((below_alloc (Below.refl _ wc)).cell (p := ⟨wb, 10, none⟩) hwl).trans v10
            have hN : (wc.drew.alloc (.cells #[.int .i64 c, .bool true, .bool false, .int .u64 ve, .bool true, .int .i64 0, .bool fl] 52)).heap[wc.heap.size]? = some (.cells #[.int .i64 c, .bool true, .bool false, .int .u64 ve, .bool true, .int .i64 0, .bool fl] 52 (0, 0)) := heap_alloc_new wc.drew _
            have HOW := Lib.hid (show (wc.drew.alloc (.cells #[.int .i64 c, .bool true, .bool false, .int .u64 ve, .bool true, .int .i64 0, .bool fl] 52)).ownsRow W0.heap.size 52 7 (.slice ea s2.ev.length ec) s2.ev.length (evcs s2.ev) from by
              have := h4.evs
              rw [← hevv]
              exact this)
            have HN := Lib.hid hN
            have HC63 := Lib.hid (show s2.ev.length + 1 ≤ maxLen ∧ (s2.ev.length + 1) * 48 ≤ 140737488355328 by unfold maxLen; omega)
            have HXX := Lib.hid h4.bel.size
            have HY := Lib.hid (fun (w4 : World) (g4 cap4 : Nat) (ho : w4.ownsRow W0.heap.size 52 7 (.slice (some ⟨g4, 0, none⟩) (s2.ev.length + 1) cap4) (s2.ev.length + 1) (evcs s2.ev ++ [.int .i64 c, .bool true, .bool false, .int .u64 ve, .bool true, .int .i64 0, .bool fl])) (hgr : (wc.drew.alloc (.cells #[.int .i64 c, .bool true, .bool false, .int .u64 ve, .bool true, .int .i64 0, .bool fl] 52)).grownBy w4 (Value.slice ea s2.ev.length ec).ownBlock) (hg4 : (Value.slice ea s2.ev.length ec).ownBlock = some g4 ∨ (wc.drew.alloc (.cells #[.int .i64 c, .bool true, .bool false, .int .u64 ve, .bool true, .int .i64 0, .bool fl] 52)).heap.size ≤ g4) =>
              show (∃ u, w4.cell? ⟨wb, 10, none⟩ = some u) ∧ w4.frozen? ⟨wb, 10, none⟩ = false ∧ Hid (Ch M T W0 wb kb kc (s2.push (if fl then .fail c ve else .fin c ve) (.slice (some ⟨g4, 0, none⟩) (s2.ev.length + 1) cap4)) (w4.setCell ⟨wb, 10, none⟩ (.slice (some ⟨g4, 0, none⟩) (s2.ev.length + 1) cap4))) from by
                have hne : (Value.slice ea s2.ev.length ec).ownBlock ≠ some wb := by rw [← hevv]; exact row_own_ne h4.row h4.evs (by decide)
                have hrow4 : Row w4 wb 45 11 _ := h4.row.of_block (hgr.block _ h4.row.lt hne.symm)
                exact ⟨⟨_, hrow4.cell 10 (by omega)⟩, hrow4.free 10, Lib.hid (h4.push (e := if fl then .fail c ve else .fin c ve) (by rw [evc_fl]; exact ho) (by rw [hevv]; exact hgr) (by rw [hevv]; exact hg4))⟩)
            have hel2 : (s2.ev.length : Int) ≤ 416 := by omega
            have HF := Lib.hid (And.intro hrc2 (And.intro hn2 (And.intro hev2 (And.intro hnu2 hexx))))
            have HLE := Lib.hid hl'; have HNE := Lib.hid hnu'; have HOT := Lib.hid hoth2
            clear hch hbox hxb h4 hevv hbl2 hN hel hrc2 hn2 hev2 hnu2 hexx hoth2 hl' hnu'
            go_upto_region 17 with (fail)
            go_cut [] (fun W => ∃ v, Ch M T W0 wb kb kc (s2.push (if fl then .fail c ve else .fin c ve) v) W)
            case first =>
              go_region_law (first | (refine step_append_own2 elCEv rfl _ _ rfl HOW.out rfl rfl HN.out rfl (by repeat (first | exact List.forall_mem_nil _ | refine List.forall_mem_cons.2 ⟨rfl, ?_⟩)) HC63.out.1 HC63.out.2 HXX.out ?_; intro g4 cap4 w4 hop4 hgr4 hgg4; obtain ⟨⟨zu, z1⟩, z2, z3⟩ := HY.out _ _ _ hop4 hgr4 hgg4; clear hop4 hgr4 hgg4))
              all_goals
                go_wp2_with fail
                go_meet
                first
                  | with_reducible exact ⟨_, z3.out⟩
                  | exact ⟨_, z3.out.below (below_drew (Below.refl _ _))⟩
            case rest =>
              obtain ⟨ev5, h5⟩ := hcut
              have v5 : ∃ u, wc.cell? ⟨wb, 4 + t, none⟩ = some u := ⟨_, h5.row.cell (4 + t) (by omega)⟩
              obtain ⟨v5v, v5⟩ := v5
              have f5 := h5.row.free (4 + t)
              have h6 := h5.setAct ht .idle (fun r' pl raw e => by cases e) (fun u r' pl raw pl' raw' hu e => by cases e) (fun i e => by cases e)
              have GG := Lib.hid (HEND.out (wc.setCell ⟨wb, 4 + t, none⟩ .nilIface) ⟨_, ⟨h6, ⟨_, l', A', od', nw', by
                  have h7 := HLE.out
                  rw [← HF.out.2.2.1, ← HF.out.1, ← HF.out.2.1] at h7
                  exact h7, fun u c' hc' => by
                    show s2.nu u = c'
                    rw [HF.out.2.2.2.1]
                    by_cases hu : u = t
                    · rw [hu, up_same] at hc'; cases hc'
                    · rw [up_ne _ _ hu] at hc'; exact HNE.out u c' hc'⟩, by show s2.n ≤ M; rw [HF.out.2.1]; exact HCW.out.nn, by
                    show crs (s2.ev ++ [if fl then .fail c ve else .fin c ve]) ≤ 400
                    rw [crs_append, crs_fl, HF.out.2.2.1]
                    have := HCW.out.cr
                    omega⟩, HF.out.1, HF.out.2.1, HF.out.2.2.2.2, by
                    show meas s2.m (up s2.act t .idle t) < _
                    rw [up_same]
                    exact (by show 0 < meas s1.m (s1.act t); rw [HA.out]; show 0 < 1 + mu s1.m i; omega), by
                    show crs (s2.ev ++ [if fl then .fail c ve else .fin c ve]) = crs s1.ev
                    rw [crs_append, crs_fl, HF.out.2.2.1]; rfl, fun u hu => (up_ne _ _ hu).trans (HOT.out u hu)⟩)
              clear h5 h6
              go_wp2_with fail
              go_returns
              exact GG.out
    · have GG := Lib.hid (show CsPost M T W0 wb kb kc s t (.returned (.bool true)) wc from ⟨rfl, s, hcw, fun P h => h, by omega, fun q => absurd ha q, rfl, fun _ _ => rfl⟩)
      clear ha hcw c4
      go_wp2_with fail
      go_returns
      exact GG.out
end Go.Proofs.YtejlgnebofdijaaGreatDoor.Dv

namespace Go.Proofs.YtejlgnebofdijaaGreatDoor.Dv
open Go.RowKit
open Ln (Cl Ev HC Hi Run HOk hist up up_same up_ne)
set_option linter.unusedVariables false

def fls : List Ev → List Nat
  | [] => []
  | .fail c _ :: l => c :: fls l
  | _ :: l => fls l
theorem fls_mem : ∀ {l : List Ev} {c : Nat}, c ∈ fls l ↔ ∃ v, Ev.fail c v ∈ l
  | [], c => by simp [fls]
  | .fail d v :: l, c => by
    show c ∈ d :: fls l ↔ _
    rw [List.mem_cons, fls_mem (l := l)]
    constructor
    · rintro (rfl | ⟨w, h⟩)
      · exact ⟨v, by simp⟩
      · exact ⟨w, by simp [h]⟩
    · rintro ⟨w, h⟩
      rcases List.mem_cons.1 h with h | h
      · cases h; exact .inl rfl
      · exact .inr ⟨w, h⟩
  | .beg d :: l, c => by show c ∈ fls l ↔ _; rw [fls_mem (l := l)]; simp
  | .fin d v :: l, c => by show c ∈ fls l ↔ _; rw [fls_mem (l := l)]; simp
  | .crash :: l, c => by show c ∈ fls l ↔ _; rw [fls_mem (l := l)]; simp
theorem fls_append : ∀ (a b : List Ev), fls (a ++ b) = fls a ++ fls b
  | [], b => rfl
  | .fail c v :: a, b => by show c :: fls (a ++ b) = _; rw [fls_append a b]; rfl
  | .beg c :: a, b => fls_append a b
  | .fin c v :: a, b => fls_append a b
  | .crash :: a, b => fls_append a b

/-- What must hold where an event happens. -/
def EvOk (cl : Nat → Cl) (pd : Nat → Option Nat) (n : Nat) (l : List (Nat × Nat)) : Ev → Prop
  | .beg c => c = n ∧ pd (cl c).t = none
  | .fin c v => pd (cl c).t = some c ∧ (c, v) ∈ l
  | .fail c v => pd (cl c).t = some c
  | .crash => True
theorem Run.split {cl : Nat → Cl} {ev : List Ev} {pd : Nat → Option Nat} {n : Nat} {l : List (Nat × Nat)} {A : Nat} (h : Run cl ev pd n l A) :
    ∀ (a : List Ev) (e : Ev) (b : List Ev), ev = a ++ e :: b → ∃ pd' n' l' A', Run cl a pd' n' l' A' ∧ (n' ≤ n ∧ ∀ c, e = .beg c → n' < n) ∧ (∀ p ∈ l', p ∈ l) ∧ EvOk cl pd' n' l' e := by
  have last : ∀ {ev : List Ev} {x : Ev} {a : List Ev} {e : Ev} {b : List Ev}, ev ++ [x] = a ++ e :: b → (b = [] ∧ ev = a ∧ x = e) ∨ ∃ b', b = b' ++ [x] ∧ ev = a ++ e :: b' := by
    intro ev x a e b h
    rcases List.eq_nil_or_concat b with rfl | ⟨b', y, rfl⟩
    · have := List.append_inj' h rfl
      obtain ⟨h1, h2⟩ := this
      simp at h2
      exact .inl ⟨rfl, h1, h2⟩
    · rw [List.concat_eq_append] at h ⊢
      have h' : ev ++ [x] = (a ++ e :: b') ++ [y] := by rw [h]; simp
      obtain ⟨h1, h2⟩ := List.append_inj' h' rfl
      simp at h2
      subst h2
      exact .inr ⟨b', rfl, h1⟩
  induction h with
  | nil => intro a e b h; simp at h
  | @beg ev pd n l A h hp ih =>
    intro a e b hh
    rcases last hh with ⟨rfl, rfl, rfl⟩ | ⟨b', rfl, h1⟩
    · exact ⟨pd, n, l, A, h, ⟨Nat.le_succ _, fun _ _ => Nat.lt_succ_self _⟩, fun p hp => hp, rfl, hp⟩
    · obtain ⟨pd', n', l', A', i1, i2, i3, i4⟩ := ih a e b' h1
      exact ⟨pd', n', l', A', i1, ⟨Nat.le_succ_of_le i2.1, fun c q => Nat.lt_succ_of_lt (i2.2 c q)⟩, i3, i4⟩
  | @take ev pd n l A c h hp hl ha ih =>
    intro a e b hh
    obtain ⟨pd', n', l', A', i1, i2, i3, i4⟩ := ih a e b hh
    exact ⟨pd', n', l', A', i1, i2, fun p hp => List.mem_append_left _ (i3 p hp), i4⟩
  | @fin ev pd n l A c v h hp hl ih =>
    intro a e b hh
    rcases last hh with ⟨rfl, rfl, rfl⟩ | ⟨b', rfl, h1⟩
    · exact ⟨pd, n, l, A, h, ⟨Nat.le_refl _, fun c q => by cases q⟩, fun p hp => hp, hp, hl⟩
    · exact ih a e b' h1
  | @fail ev pd n l A c v h hp hl ih =>
    intro a e b hh
    rcases last hh with ⟨rfl, rfl, rfl⟩ | ⟨b', rfl, h1⟩
    · exact ⟨pd, n, l, A, h, ⟨Nat.le_refl _, fun c q => by cases q⟩, fun p hp => hp, hp⟩
    · exact ih a e b' h1
  | @crash ev pd n l A h ih =>
    intro a e b hh
    rcases last hh with ⟨rfl, rfl, rfl⟩ | ⟨b', rfl, h1⟩
    · exact ⟨pd, n, l, A, h, ⟨Nat.le_refl _, fun c q => by cases q⟩, fun p hp => hp, trivial⟩
    · exact ih a e b' h1
theorem hist_len (cl : Nat → Cl) (F : Nat → Bool) : ∀ (ev : List Ev), (hist cl F ev).n ≤ ev.length ∧ (hist cl F ev).calls.length ≤ ev.length ∧ (hist cl F ev).era ≤ ev.length := by
  intro ev
  have : ∀ (l : List Ev) (h : Hi) (k : Nat), h.n ≤ k → h.calls.length ≤ k → h.era ≤ k → (l.foldl (Hi.step cl F) h).n ≤ k + l.length ∧ (l.foldl (Hi.step cl F) h).calls.length ≤ k + l.length ∧ (l.foldl (Hi.step cl F) h).era ≤ k + l.length := by
    intro l
    induction l with
    | nil => intro h k a b c; exact ⟨a, b, c⟩
    | cons e l ih =>
      intro h k a b c
      have hs : (h.step cl F e).n ≤ k + 1 ∧ (h.step cl F e).calls.length ≤ k + 1 ∧ (h.step cl F e).era ≤ k + 1 := by
        cases e with
        | crash => exact ⟨by show h.n + 1 ≤ _; omega, by show h.calls.length ≤ _; omega, by show h.era + 1 ≤ _; omega⟩
        | beg c =>
          show (if F c then h else h.beg c (cl c)).n ≤ _ ∧ (if F c then h else h.beg c (cl c)).calls.length ≤ _ ∧ (if F c then h else h.beg c (cl c)).era ≤ _
          split
          · exact ⟨by omega, by omega, by omega⟩
          · exact ⟨by show h.n + 1 ≤ _; omega, by show (h.calls ++ [_]).length ≤ _; rw [List.length_append]; show h.calls.length + 1 ≤ _; omega, by show h.era ≤ _; omega⟩
        | fin c v =>
          show (if F c then h else h.fin (h.num c) v (cl c).t).n ≤ _ ∧ (if F c then h else h.fin (h.num c) v (cl c).t).calls.length ≤ _ ∧ (if F c then h else h.fin (h.num c) v (cl c).t).era ≤ _
          split
          · exact ⟨by omega, by omega, by omega⟩
          · exact ⟨by show h.n + 1 ≤ _; omega, by show (h.calls.modify _ _).length ≤ _; rw [List.length_modify]; omega, by show h.era ≤ _; omega⟩
        | fail c v => exact ⟨by show h.n ≤ _; omega, by show h.calls.length ≤ _; omega, by show h.era ≤ _; omega⟩
      have := ih (h.step cl F e) (k + 1) hs.1 hs.2.1 hs.2.2
      rw [List.foldl_cons, List.length_cons]
      omega
  have := this ev Hi.zero 0 (Nat.le_refl _) (Nat.le_refl _) (Nat.le_refl _)
  rw [Nat.zero_add] at this
  exact this

/-! ### the cells of the events -/
theorem evc_len (e : Ev) : (evc e).length = 7 := by cases e <;> rfl
theorem evc_form (e : Ev) : ∃ (c v : Nat) (en cr ok fl : Bool), evc e = [.int .i64 c, .bool en, .bool cr, .int .u64 v, .bool ok, .int .i64 0, .bool fl] := by
  cases e with
  | beg c => exact ⟨c, 0, false, false, false, false, rfl⟩
  | fin c v => exact ⟨c, v, true, false, true, false, rfl⟩
  | fail c v => exact ⟨c, v, true, false, true, true, rfl⟩
  | crash => exact ⟨0, 0, false, true, false, false, rfl⟩
theorem evcs_get : ∀ {l : List Ev} {k j : Nat} {y : Ev}, l[k]? = some y → j < 7 → (evcs l)[k * 7 + j]? = (evc y)[j]?
  | [], k, j, y, h, _ => by simp at h
  | x :: l, 0, j, y, h, hj => by
    simp at h
    subst h
    unfold evcs
    rw [List.flatMap_cons, Nat.zero_mul, Nat.zero_add, List.getElem?_append_left (by rw [evc_len]; exact hj)]
  | x :: l, k + 1, j, y, h, hj => by
    have := evcs_get (l := l) (k := k) (by simpa using h) hj
    unfold evcs at this ⊢
    rw [List.flatMap_cons, List.getElem?_append_right (by rw [evc_len]; omega), evc_len, show (k + 1) * 7 + j - 7 = k * 7 + j by omega]
    exact this
theorem ev_at {w : World} {X k : Nat} {v : Value} {l : List Ev} {e : Ev} (h : w.ownsRow X 52 7 v l.length (evcs l)) (hk : l[k]? = some e) : ∃ g cap, v = .slice (some ⟨g, 0, none⟩) l.length cap ∧ l.length ≤ cap ∧ g < w.heap.size ∧ ∀ j, j < 7 → w.cell? ⟨g, k * 7 + j, none⟩ = (evc e)[j]? := by
  have hlt := (List.getElem?_eq_some_iff.1 hk).1
  rcases h.2 with ⟨_, e0⟩ | ⟨g, cap, cur, e0, hb2, hh, hc, hm, hs, ht⟩
  · omega
  · refine ⟨g, cap, e0, hc, heap_lt hh, fun j hj => ?_⟩
    have := evcs_get hk hj
    have hjl : j < (evc e).length := by rw [evc_len]; exact hj
    rw [List.getElem?_eq_getElem hjl] at this ⊢
    have h2 := h.cells (g := g) (by rw [e0]; rfl) _ _ this
    rw [Addr.add_lit, Nat.zero_add] at h2
    exact h2
/-- A map's block is none of the history's. -/
theorem hfr_map {w w' : World} {X hb b ex : Nat} {H : Hi} {ev cv : Value} {f : Nat → Nat} (h : HAt X w hb H ev cv) (hm : IMap w b ex f) (hf : HFr hb ev cv w w') : IMap w' b ex f := by
  obtain ⟨D, ⟨es, clock, h1, h2⟩, h3⟩ := id hm
  obtain ⟨xs, hx⟩ := h.ev
  have no : ∀ {e : TypeId} {z n : Nat} {v : Value} {xs : List Value}, w.ownsRow X e z v n xs → v.ownBlock ≠ some b := by
    intro e z n v xs ho hv
    rcases ho.2 with ⟨rfl, _⟩ | ⟨g, cap, cur, rfl, _, hg, _⟩
    · cases hv
    · have : some g = some b := hv
      cases this
      rw [h1] at hg
      cases hg
  refine hm.kept (hf.block b (heap_lt h1) ?_)
  rintro (e | e | e)
  · obtain ⟨c, hc, _⟩ := h.row
    rw [← e, h1] at hc
    cases hc
  · exact no hx e
  · exact no h.cv e
theorem hfr_cells {w w' : World} {X hb b : Nat} {H : Hi} {ev cv : Value} {c : Array Value} {T : TypeId} (h : HAt X w hb H ev cv) (hm : w.heap[b]? = some (.cells c T (0, 0))) (h1 : T ≠ 178) (h2 : T ≠ 181) (h3 : T ≠ 168) (hf : HFr hb ev cv w w') : w'.heap[b]? = some (.cells c T (0, 0)) := by
  obtain ⟨xs, hx⟩ := h.ev
  have no : ∀ {e : TypeId} {z n : Nat} {v : Value} {xs : List Value}, w.ownsRow X e z v n xs → T ≠ e → v.ownBlock ≠ some b := by
    intro e z n v xs ho hne hv
    rcases ho.2 with ⟨rfl, _⟩ | ⟨g, cap, cur, rfl, _, hg, _⟩
    · cases hv
    · have : some g = some b := hv
      cases this
      rw [hm] at hg
      simp only [Option.some.injEq, Obj.cells.injEq] at hg
      exact hne hg.2.1
  refine (hf.block b (heap_lt hm) ?_).trans hm
  rintro (e | e | e)
  · obtain ⟨c', hc, _⟩ := h.row
    rw [← e, hm] at hc
    simp only [Option.some.injEq, Obj.cells.injEq] at hc
    exact h1 hc.2.1
  · exact no hx h2 e
  · exact no h.cv h3 e
theorem HAt.map {w w' : World} {X hb b ex : Nat} {H : Hi} {ev cv : Value} {f : Nat → Nat} (h : HAt X w hb H ev cv) (hm : IMap w b ex f) (hg : w.grownBy w' (some b)) : HAt X w' hb H ev cv := by
  obtain ⟨D, ⟨es, clock, h1, h2⟩, h3⟩ := id hm
  obtain ⟨xs, hx⟩ := h.ev
  have no : ∀ {e : TypeId} {z n : Nat} {v : Value} {xs : List Value}, w.ownsRow X e z v n xs → v.ownBlock ≠ some b := by
    intro e z n v xs ho hv
    rcases ho.2 with ⟨rfl, _⟩ | ⟨g, cap, cur, rfl, _, hg, _⟩
    · cases hv
    · have : some g = some b := hv
      cases this
      rw [h1] at hg
      cases hg
  have nb : hb ≠ b := by
    rintro rfl
    obtain ⟨c, hc, _⟩ := h.row
    rw [h1] at hc
    cases hc
  exact ⟨h.row.of_block (hg.block _ h.row.lt (fun e => nb (by cases e; rfl))), ⟨xs, own_agree hx (fun b2 hb2 => hg.block _ (hx.lt b2 hb2).2 (fun e => no hx (by rw [hb2, ← e])))⟩, own_agree h.cv (fun b2 hb2 => hg.block _ (h.cv.lt b2 hb2).2 (fun e => no h.cv (by rw [hb2, ← e]))), h.lo⟩
end Go.Proofs.YtejlgnebofdijaaGreatDoor.Dv
