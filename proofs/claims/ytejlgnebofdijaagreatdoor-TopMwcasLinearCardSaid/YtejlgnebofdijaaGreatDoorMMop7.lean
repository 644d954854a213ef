/-
  load of the package mwcas.
-/
import Derived.Test.YtejlgnebofdijaaGreatDoorMMop6
namespace Go.Proofs.YtejlgnebofdijaaGreatDoor.Dv
open Go.RowKit
set_option linter.unusedVariables false

theorem andNot62 {x : Nat} (h : x < 4611686018427387904) : bits .andNot .u64 (x : Int) 4611686018427387904 = (x : Int) := by
  have e := u64_andNot_nat x 4611686018427387904 (by omega) (by omega)
  have e2 : x &&& (18446744073709551615 - 4611686018427387904) = x := by
    apply Nat.eq_of_testBit_eq
    intro i
    rw [Nat.testBit_and]
    rcases Nat.lt_or_ge i 62 with hi | hi
    · have hh : ∀ i, i < 62 → (18446744073709551615 - 4611686018427387904 : Nat).testBit i = true := by decide
      rw [hh i hi, Bool.and_true]
    · rw [Nat.testBit_lt_two_pow (Nat.lt_of_lt_of_le (show x < 2 ^ 62 from h) (Nat.pow_le_pow_right (n := 2) (by omega) hi)), Bool.false_and]
  rw [e2] at e
  exact e
theorem and63i {x : Nat} (h : x < 4611686018427387904) : bits .and .u64 (x : Int) 9223372036854775808 = 0 := by
  have e := u64_and_nat x 9223372036854775808 (by omega) (by omega)
  rw [and63 (by omega)] at e
  exact e

theorem on_L (s : DSt) (t : Nat) (b : Bool) : (s.on t b).L = s.L := by
  unfold DSt.on DSt.fail
  split
  · split <;> rfl
  · split
    · rfl
    · split <;> rfl
theorem on_cur (s : DSt) (t : Nat) (b : Bool) (x : Nat) : (s.on t b).cur x = s.cur x := by
  unfold DSt.on DSt.fail
  split
  · split <;> rfl
  · split
    · rfl
    · split <;> rfl
theorem on_off {s : DSt} {t : Nat} (h : (s.on t true).err t = 0) : s.off = false := by
  cases e : s.off with
  | false => rfl
  | true =>
    unfold DSt.on at h
    rw [if_pos e] at h
    exact absurd h (fail_err (by omega))

theorem cast_eq1 {a b : Nat} (h : a + 1 = b) : (a : Int) + 1 = b := by omega
theorem cast_ne1 {a b : Nat} (h : ¬ a + 1 = b) : ¬ ((a : Int) + 1 = b) := by omega
theorem cast_le6 {a b : Nat} (h : a < b) (hb : b ≤ 6) : (a : Int) + 1 ≤ 6 := by omega
theorem wrap_6 {a : Int} (h0 : 0 ≤ a) (h : a ≤ 6) : wrap64 a = a := by unfold wrap64; omega
set_option maxHeartbeats 4000000 in
set_option maxRecDepth 4000 in
theorem load_mw {w : World} {A : DAd} {B : MAd} {Lr N : Nat} {m : MS} {F G : Nat → Option Role} {T : Nat → Nat} (h : MW w A B Lr N m F G) (hT : Tb w T F G) {c t : Nat} (hc : c < N) (ht : t < 8) (hld : (m.op c).loaded < (m.op c).es.length)
    (hup : Up ((m.op c).es.map (fun e => line e.1))) (hcw : ∀ e ∈ (m.op c).es, m.dev.cur (e.1 / 8) < 4611686018427387904) :
    Calls Tryz.prog 177 #[ptr (B.o c), ptr (A.t t)] w fun r w' => r = .returned (.tuple #[]) ∧ MWent w A B Lr N F G (m.load T c t) w' := by
  have hok := h.ok c hc
  obtain ⟨x, hx⟩ : ∃ x, x = (m.op c).ord.getD (m.op c).loaded 0 := ⟨_, rfl⟩
  have hgo : (m.op c).ord[(m.op c).loaded]? = some x := by
    have : (m.op c).loaded < (m.op c).ord.length := by rw [hok.ord.1]; exact hld
    rw [hx, List.getD_eq_getElem?_getD, List.getElem?_eq_getElem this]; rfl
  have hxl : x < (m.op c).es.length := hok.ord.2 x (List.mem_of_getElem? hgo)
  obtain ⟨e, he⟩ : ∃ e, e = (m.op c).es.getD x (0, 0, 0) := ⟨_, rfl⟩
  have hge : (m.op c).es[x]? = some e := by rw [he, List.getD_eq_getElem?_getD, List.getElem?_eq_getElem hxl]; rfl
  have hem : e ∈ (m.op c).es := List.mem_of_getElem? hge
  have hoff := hok.off e hem
  have hval := hok.val e hem
  have hL := h.dev.ok.lines
  have hwd : m.dev.word e.1 = true := by unfold DSt.word; simp only [Bool.and_eq_true, decide_eq_true_eq]; omega
  have hcv := hcw e hem
  have hvl := hok.seen.1
  obtain ⟨W0, hW0⟩ : ∃ W0, W0 = w.drew := ⟨_, rfl⟩
  have h0 := h.drew
  rw [← hW0] at h0
  have mv0 : MMoved F G F G w W0 := by rw [hW0]; exact MMoved.drew w
  have c4 : w.cell? ⟨B.o c, 4, none⟩ = some (.slice (some ⟨B.ord c, 0, none⟩) (m.op c).es.length (B.oc c)) := h.cellO hc 4 (by omega) (by omega)
  have c6 : w.cell? ⟨B.o c, 6, none⟩ = some (.int .i64 (m.op c).loaded) := h.cellO hc 6 (by omega) (by omega)
  have co : w.cell? ⟨B.ord c, (m.op c).loaded, none⟩ = some (.int .i64 x) := by
    have := (h.ord c hc) (m.op c).loaded (i64 x) (by rw [List.getElem?_map, hgo]; rfl)
    rw [Nat.zero_add] at this
    exact this
  have c3 : W0.cell? ⟨B.o c, 3, none⟩ = some (.slice (some ⟨B.en c, 0, none⟩) (m.op c).es.length (B.ec c)) := h0.cellO hc 3 (by omega) (by omega)
  have hld2 : ((m.op c).loaded : Int) < (m.op c).es.length := by omega
  have hxl2 : (x : Int) < (m.op c).es.length := by omega
  have hen : ∀ (w' : World), Seen w' (B.en c) 0 (encells (m.op c).es) → w'.cell? ⟨B.en c, x * 4, none⟩ = some (.int .u64 e.1) ∧ w'.cell? ⟨B.en c, x * 4 + 1, none⟩ = some (.int .u64 e.2.1) ∧ w'.cell? ⟨B.en c, x * 4 + 2, none⟩ = some (.int .u64 e.2.2) ∧ w'.cell? ⟨B.en c, x * 4 + 3, none⟩ = some (.bool false) := by
    intro w' hs
    obtain ⟨e1, e2, e3, e4⟩ := encells_get hge
    refine ⟨?_, ?_, ?_, ?_⟩
    · have := hs _ _ e1; rw [Nat.zero_add, Nat.mul_comm] at this; exact this
    · have := hs _ _ e2; rw [Nat.zero_add, Nat.mul_comm] at this; exact this
    · have := hs _ _ e3; rw [Nat.zero_add, Nat.mul_comm] at this; exact this
    · have := hs _ _ e4; rw [Nat.zero_add, Nat.mul_comm] at this; exact this
  have ce1 := (hen _ (h0.en c hc)).1
  have HLD := load_dev h0.dev ht e.1 (by omega)
  rw [hwd, Bool.and_true] at HLD
  obtain ⟨v, hv⟩ : ∃ v, v = if !m.dev.off then m.dev.cur (e.1 / 8) else 0 := ⟨_, rfl⟩
  have hve : (if (!m.dev.off) = true then m.dev.cur (e.1 / 8) else 0) = v := hv.symm
  rw [hve] at HLD
  have hend0 : m.load T c t = if (m.dev.on t true).err t ≠ 0 then { m with dev := m.dev.on t true } else if m.dev.cur (e.1 / 8) % 1099511627776 = e.2.1 then
      (if (m.op c).loaded + 1 = (m.op c).ord.length then (MS.set { m with dev := m.dev.on t true } c { m.op c with seen := (m.op c).seen.set x (m.dev.cur (e.1 / 8)), loaded := (m.op c).loaded + 1 }).enter T c 1
        else MS.set { m with dev := m.dev.on t true } c { m.op c with seen := (m.op c).seen.set x (m.dev.cur (e.1 / 8)), loaded := (m.op c).loaded + 1 })
      else MS.finish { m with dev := m.dev.on t true } c false := by
    rw [he, hx]; rfl
  rw [hok.ord.1] at hend0
  obtain ⟨M, hM⟩ : ∃ M, M = m.load T c t := ⟨_, rfl⟩
  rw [← hM] at hend0 ⊢
  have hval' : v < 4611686018427387904 := by
    rw [hv]
    split
    · exact hcv
    · omega
  have hsy : (m.dev.on t true).err t = 0 → m.dev.cur (e.1 / 8) = v := by
    intro hh
    rw [hv, on_off hh]
    rfl
  have HL2 := Lib.hid HLD; have H0 := Lib.hid h0; have M0 := Lib.hid mv0; have HTB := Lib.hid (hT.moved mv0); have HOK := Lib.hid hok; have HEND := Lib.hid hend0; have HUP := Lib.hid hup; have HEN := Lib.hid hen
  have HCV := Lib.hid hval'; have HX := Lib.hid hxl; have HLDN := Lib.hid hld; have HW0 := Lib.hid hW0; have HSY := Lib.hid hsy
  clear HLD h0 mv0 h hT hok hend0 hge hup hcw he hx hgo hem hL hcv hoff hval hxl hld hen hve hv hval' hwd hvl hsy hW0 hM
  unfold ptr u64 at *
  go_enter Tryz.func177, Tryz.ntmps177
  go_wp2_with fail
  go_region
  rw [← HW0.out]
  go_wp2_with fail
  refine HL2.out.mono ?_
  rintro r w1 ⟨rfl, hd1, mv1⟩
  obtain ⟨h1, mm1⟩ := H0.out.moved hd1 mv1 (on_L _ _ _)
  have HER := Lib.hid (err_dev hd1 ht)
  have M1 := Lib.hid (M0.out.trans mm1)
  have HT1 := Lib.hid (HTB.out.moved mm1)
  have H1 := Lib.hid h1
  have k3 : w1.cell? ⟨B.o c, 3, none⟩ = some (.slice (some ⟨B.en c, 0, none⟩) (m.op c).es.length (B.ec c)) := h1.cellO hc 3 (by omega) (by omega)
  obtain ⟨ka, kb, kc, kd⟩ := HEN.out _ (h1.en c hc)
  clear hd1 mv1 mm1 h1
  unfold ptr at HER
  go_wp2_with fail
  refine HER.out.mono ?_
  rintro r w2 ⟨rfl, rfl⟩
  by_cases herr : (m.dev.on t true).err t = 0
  · have herr2 : (((m.dev.on t true).err t : Nat) : Int) = 0 := congrArg Int.ofNat herr
    have hb2 := and63i HCV.out
    have hb3 := andNot62 HCV.out
    have hvv := HSY.out herr
    have HEND2 := Lib.hid HEND.out
    rw [if_neg (fun hh => hh herr), hvv] at HEND2
    by_cases hsat : v % 1099511627776 = e.2.1
    · have HSA := Lib.hid (satisfied_any (w := w1) (off := e.1) (old := e.2.1) (new := e.2.2) (raw := v) (by have := HCV.out; omega) true (by rw [hsat]; simp))
      rw [if_pos hsat] at HEND2
      unfold ent Dv.u64 at HSA
      go_wp2_with fail
      refine HSA.out.mono ?_
      rintro r w3 ⟨rfl, hb⟩
      obtain ⟨h3, mm3⟩ := H1.out.below hb
      have c5 : w3.cell? ⟨B.o c, 5, none⟩ = some (.slice (some ⟨B.se c, 0, none⟩) (m.op c).es.length (B.sc c)) := h3.cellO hc 5 (by omega) (by omega)
      have cs : w3.cell? ⟨B.se c, x, none⟩ = some (.int .u64 ((m.op c).seen.getD x 0 : Nat)) := (h3.se c hc).cell x HX.out
      have fs : w3.frozen? ⟨B.se c, x, none⟩ = false := (h3.se c hc).free x
      obtain ⟨h4, mm4⟩ := h3.setS (i := c) (x := x) (v := v) hc HX.out HCV.out
      have hok4 := h4.ok c hc
      rw [MS.set_op] at hok4
      obtain ⟨W4, hW4⟩ : ∃ W4, W4 = w3.setCell ⟨B.se c, x, none⟩ (u64 v) := ⟨_, rfl⟩
      rw [← hW4] at h4 mm4
      have d6 : w3.cell? ⟨B.o c, 6, none⟩ = some (.int .i64 (m.op c).loaded) := h3.cellO hc 6 (by omega) (by omega)
      have f6 := h3.freeO hc 6
      obtain ⟨h5, mm5⟩ := h4.setO (i := c) (j := 6) (v := i64 ((m.op c).loaded + 1)) (o' := { m.op c with seen := (m.op c).seen.set x v, loaded := (m.op c).loaded + 1 }) hc (by rw [MS.set_op]) (by rw [MS.set_op]) (by rw [MS.set_op]) (by rw [MS.set_op]) (ofun_one (fun pv => by rw [MS.set_op]; simp [ofun])) { hok4 with loaded := by have := HLDN.out; show (m.op c).loaded + 1 ≤ (m.op c).es.length; omega }
      rw [MS.set_set] at h5
      obtain ⟨W5, hW5⟩ : ∃ W5, W5 = W4.setCell ⟨B.o c, 6, none⟩ (i64 ((m.op c).loaded + 1)) := ⟨_, rfl⟩
      rw [← hW5] at h5 mm5
      have g6 : W5.cell? ⟨B.o c, 6, none⟩ = some (.int .i64 ((m.op c).loaded + 1 : Nat)) := by
        have := h5.cellO hc 6 (by omega) (by omega)
        rw [MS.set_op] at this
        exact this
      have g4 : W5.cell? ⟨B.o c, 4, none⟩ = some (.slice (some ⟨B.ord c, 0, none⟩) (m.op c).es.length (B.oc c)) := by
        have := h5.cellO hc 4 (by omega) (by omega)
        rw [MS.set_op] at this
        exact this
      have h6 := h5.drew
      have mm6 := ((mm3.trans mm4).trans mm5).trans (MMoved.drew _)
      obtain ⟨W6, hW6⟩ : ∃ W6, W6 = W5.drew := ⟨_, rfl⟩
      rw [← hW6] at h6 mm6
      have HW4 := Lib.hid hW4; have HW5 := Lib.hid hW5; have HW6 := Lib.hid hW6
      unfold Dv.u64 at HW4; unfold Dv.i64 at HW5
      have HT6 := Lib.hid (HT1.out.moved mm6)
      have hne1 : ¬ B.o c = B.se c := role_ne (h3.go c hc) (h3.gs c hc) (by simp)
      have hne2 : ¬ B.se c = B.o c := fun e => hne1 e.symm
      have hl6 : (((m.op c).loaded + 1 : Nat) : Int) = (m.op c).loaded + 1 := rfl
      rw [hl6] at HW5 g6
      have hl7 : ((m.op c).loaded : Int) + 1 ≤ 6 := cast_le6 HLDN.out HOK.out.n.2
      have hl8 : wrap64 ((m.op c).loaded + 1) = (m.op c).loaded + 1 := wrap_6 (by omega) hl7
      have HL := Lib.hid hl6
      have H6 := Lib.hid h6; have M6 := Lib.hid (M1.out.trans mm6)
      clear hW4 hW5 hW6 h3 mm3 h4 mm4 h5 mm5 h6 mm6 hb hok4
      clear hb2 hb3 k3 ka kb kc kd hsat hvv herr herr2 c3 c4 c6 co ce1 hld2 hl8
      go_wp2_with fail
      rw [← HW4.out, ← HW5.out]
      by_cases hl : (m.op c).loaded + 1 = (m.op c).es.length
      · rw [if_pos hl] at HEND2
        have HEN2 := Lib.hid (enter_mw H6.out HT6.out (i := c) (s := 1) hc (by omega) (by omega) (by rw [MS.set_op]; exact HUP.out))
        have hl2 := cast_eq1 hl
        have hl3 : decide (((m.op c).loaded : Int) + 1 = (m.op c).es.length) = true := decide_eq_true hl2
        unfold ptr Dv.i64 at HEN2
        go_region
        rw [← HW6.out]
        go_wp2_with fail
        refine HEN2.out.mono ?_
        rintro r w7 ⟨rfl, hend⟩
        have GG := Lib.hid (MWent.from M6.out hend)
        rw [← HEND2.out] at GG
        clear hend
        go_wp2_with fail
        go_returns
        exact ⟨rfl, GG.out⟩
      · rw [if_neg hl] at HEND2
        have GG := Lib.hid (show MWent w A B Lr N F G M W6 by rw [HEND2.out]; exact ⟨F, G, H6.out, M6.out⟩)
        have hl2 := cast_ne1 hl
        have hl3 : decide (((m.op c).loaded : Int) + 1 = (m.op c).es.length) = false := decide_eq_false hl2
        go_region
        rw [← HW6.out]
        go_wp2_with fail
        go_returns
        exact ⟨rfl, GG.out⟩
    · have HSA := Lib.hid (satisfied_any (w := w1) (off := e.1) (old := e.2.1) (new := e.2.2) (raw := v) (by have := HCV.out; omega) false (by simp [hsat]))
      rw [if_neg hsat] at HEND2
      unfold ent Dv.u64 at HSA
      go_wp2_with fail
      refine HSA.out.mono ?_
      rintro r w3 ⟨rfl, hb⟩
      obtain ⟨h3, mm3⟩ := H1.out.below hb
      have HF := Lib.hid (finish_mw h3 hc false)
      have M3 := Lib.hid (M1.out.trans mm3)
      clear h3 mm3 hb
      unfold ptr at HF
      go_wp2_with fail
      refine HF.out.mono ?_
      rintro r w4 ⟨rfl, hend⟩
      have GG := Lib.hid (MWent.from M3.out hend)
      rw [← HEND2.out] at GG
      clear hend
      go_wp2_with fail
      go_returns
      exact ⟨rfl, GG.out⟩
  · have herr2 : ¬ ((((m.dev.on t true).err t : Nat) : Int) = 0) := by omega
    have GG := Lib.hid (show MWent w A B Lr N F G M w1 by rw [HEND.out, if_pos herr]; exact ⟨F, G, H1.out, M1.out⟩)
    go_wp2_with fail
    go_returns
    exact ⟨rfl, GG.out⟩
end Go.Proofs.YtejlgnebofdijaaGreatDoor.Dv
