/-
  The small functions of the package device, walked: fail, on, counted, word, Err, Size, Lines, Thread, Load.
-/
import Derived.Test.YtejlgnebofdijaaGreatDoorMDevA
import Derived.WalkLawsBesides
import Derived.WalkSpells
import Derived.Deep.QuietTactic
import Derived.Outline
namespace Go.Proofs.YtejlgnebofdijaaGreatDoor.Dv
open Go.RowKit

def upd {α : Type} (f : Nat → α) (i : Nat) (v : α) : Nat → α := fun x => if x = i then v else f x
theorem upd_same {α : Type} (f : Nat → α) (i : Nat) (v : α) : upd f i v i = v := by simp [upd]
theorem upd_ne {α : Type} (f : Nat → α) {i x : Nat} (v : α) (h : x ≠ i) : upd f i v x = f x := by simp [upd, h]

def DSt.setErr (s : DSt) (i e : Nat) : DSt := { s with err := upd s.err i e }
def DSt.fail (s : DSt) (i e : Nat) : DSt := if s.err i = 0 then s.setErr i e else s
def DSt.ctl (s : DSt) (o a : Bool) (l x : Nat) : DSt := { s with off := o, armed := a, left := l, ex := x }

theorem DSt.Ok.setErr {s : DSt} (h : s.Ok) (i e : Nat) (he : e ≤ 20) : (s.setErr i e).Ok :=
  { h with err := fun t => by unfold DSt.setErr upd; dsimp only; split; exact he; exact h.err t }
theorem DSt.Ok.ctl {s : DSt} (h : s.Ok) (o a : Bool) (l x : Nat) (hl : l ≤ 1000000) (hx : s.ex ≤ x) (hx' : x ≤ 1000000) : (s.ctl o a l x).Ok :=
  { h with len := fun n => Nat.le_trans (h.len n) hx, ex := hx', left := hl, nb := Nat.le_trans h.nb hx }

theorem Dev.setErr {w : World} {A : DAd} {s : DSt} {F : Nat → Option Role} (h : Dev w A s F) {i e : Nat} (hi : i < 8) (he : e ≤ 20) :
    Dev (w.setCell ⟨A.t i, 2, none⟩ (i64 e)) A (s.setErr i e) F ∧ Moved F F w (w.setCell ⟨A.t i, 2, none⟩ (i64 e)) := by
  have hf := h.ft i hi
  refine ⟨{ h with ok := h.ok.setErr i e he, dev := ?_, per := ?_, cur := ?_, lin := ?_, thr := ?_, note := ?_, lt := ?_ }, ?_, fun _ _ => rfl⟩
  · exact h.dev.set_other (role_ne h.fd hf (by simp))
  · exact h.per.set_other (role_ne h.fper hf (by simp))
  · exact h.cur.set_other (role_ne h.fcur hf (by simp))
  · obtain ⟨hv, h1, h2⟩ := h.lin
    exact ⟨hv, h1.set_other (role_ne h.flin hf (by simp)), fun n hn => (h2 n hn).of_agree (fun k hk => heap_set_ne (role_ne hk hf (by simp)))⟩
  · intro j hj
    by_cases e' : j = i
    · subst e'
      refine ((h.thr j hj).set 2 (i64 e)).congr (fun x hx => ?_)
      have : x = 0 ∨ x = 1 ∨ x = 2 ∨ x = 3 := by omega
      rcases this with rfl | rfl | rfl | rfl <;> simp [tfun, DSt.setErr, upd]
    · refine ((h.thr j hj).set_other (role_ne (h.ft j hj) hf (by simp [e']))).congr (fun x hx => ?_)
      have : x = 0 ∨ x = 1 ∨ x = 2 ∨ x = 3 := by omega
      rcases this with rfl | rfl | rfl | rfl <;> simp [tfun, DSt.setErr, upd, e']
  · intro j hj
    exact (h.note j hj).of_agree (heap_set_ne (role_ne (h.fm j hj) hf (by simp)))
  · intro k hk; simpa [World.setCell] using h.lt k hk
  · exact (Only.refl _ _).set (by rw [hf]; simp) _

theorem Dev.setD {w : World} {A : DAd} {s : DSt} {F : Nat → Option Role} (h : Dev w A s F) {o a : Bool} {l x i : Nat} {v : Value} (hl : l ≤ 1000000) (hx : s.ex ≤ x) (hx' : x ≤ 1000000)
    (hc : ∀ y, y < 15 → dfun A (s.ctl o a l x) y = if y = i then v else dfun A s y) :
    Dev (w.setCell ⟨A.d, i, none⟩ v) A (s.ctl o a l x) F ∧ Moved F F w (w.setCell ⟨A.d, i, none⟩ v) := by
  have hf := h.fd
  refine ⟨{ h with ok := h.ok.ctl o a l x hl hx hx', dev := ?_, per := ?_, cur := ?_, lin := ?_, thr := ?_, note := ?_, lt := ?_ }, ?_, fun _ _ => rfl⟩
  · exact (h.dev.set i v).congr hc
  · exact h.per.set_other (role_ne h.fper hf (by simp))
  · exact h.cur.set_other (role_ne h.fcur hf (by simp))
  · obtain ⟨hv, h1, h2⟩ := h.lin
    exact ⟨hv, h1.set_other (role_ne h.flin hf (by simp)), fun n hn => (h2 n hn).of_agree (fun k hk => heap_set_ne (role_ne hk hf (by simp)))⟩
  · intro j hj
    exact (h.thr j hj).set_other (role_ne (h.ft j hj) hf (by simp))
  · intro j hj
    exact (h.note j hj).of_agree (heap_set_ne (role_ne (h.fm j hj) hf (by simp)))
  · intro k hk; simpa [World.setCell] using h.lt k hk
  · exact (Only.refl _ _).set (by rw [hf]; simp) _

theorem dfun_cases {A : DAd} {s s' : DSt} {i : Nat} {v : Value} (h : ∀ y, (y = 0 ∨ y = 1 ∨ y = 2 ∨ y = 11 ∨ y = 12 ∨ y = 13 ∨ y = 14) → dfun A s' y = if y = i then v else dfun A s y) (hi : i = 11 ∨ i = 12 ∨ i = 13 ∨ i = 14) :
    ∀ y, y < 15 → dfun A s' y = if y = i then v else dfun A s y := by
  intro y hy
  by_cases hy' : y = 0 ∨ y = 1 ∨ y = 2 ∨ y = 11 ∨ y = 12 ∨ y = 13 ∨ y = 14
  · exact h y hy'
  · have h1 : y ≠ i := by omega
    rw [if_neg h1]
    have : y = 3 ∨ y = 4 ∨ y = 5 ∨ y = 6 ∨ y = 7 ∨ y = 8 ∨ y = 9 ∨ y = 10 := by omega
    rcases this with rfl | rfl | rfl | rfl | rfl | rfl | rfl | rfl <;> rfl

theorem fail_dev {w : World} {A : DAd} {s : DSt} {F : Nat → Option Role} (h : Dev w A s F) {i e : Nat} (hi : i < 8) (he : e ≤ 20) :
    Calls Tryz.prog 68 #[ptr (A.t i), i64 e] w fun r w' => r = .returned (.tuple #[]) ∧ Dev w' A (s.fail i e) F ∧ Moved F F w w' := by
  have c2 : w.cell? ⟨A.t i, 2, none⟩ = some (.int .i64 (s.err i)) := (h.thr i hi).cell 2 (by omega)
  have f2 : w.frozen? ⟨A.t i, 2, none⟩ = false := (h.thr i hi).free 2
  by_cases hz : s.err i = 0
  · obtain ⟨h1, h2⟩ := h.setErr (e := e) hi he
    have e1 : s.fail i e = s.setErr i e := by simp [DSt.fail, hz]
    have d : decide ((s.err i : Int) = 0) = true := by simp; omega
    have d' : ((s.err i : Int) == 0) = true := by simp; omega
    rw [e1]; clear e1 hz
    have H1 := Lib.hid h1; have H2 := Lib.hid h2; clear h1 h2 h
    unfold ptr i64 at *
    go_enter Tryz.func68, Tryz.ntmps68
    go_wp2_with fail
    go_returns
    exact ⟨rfl, H1.out, H2.out⟩
  · have e1 : s.fail i e = s := by simp [DSt.fail, hz]
    have d : decide ((s.err i : Int) = 0) = false := by simp; omega
    have d' : ((s.err i : Int) == 0) = false := by simp; omega
    rw [e1]; clear e1 hz
    have H1 := Lib.hid h; clear h
    unfold ptr i64 at *
    go_enter Tryz.func68, Tryz.ntmps68
    go_wp2_with fail
    go_returns
    exact ⟨rfl, H1.out, Moved.refl _ _⟩

def DSt.on (s : DSt) (i : Nat) (valid : Bool) : DSt := if s.off then s.fail i 3 else if valid then s else s.fail i 2
/-- The state behind the count of an instruction, and whether it is executed. -/
def DSt.cnt (s : DSt) (i : Nat) (valid : Bool) : DSt × Bool :=
  if s.off then (s.fail i 3, false) else if valid = false then (s.fail i 2, false)
  else if s.armed && decide (s.left = 0) then ((s.ctl true s.armed s.left s.ex).fail i 3, false)
  else (s.ctl false s.armed (if s.armed then s.left - 1 else s.left) (s.ex + 1), true)

theorem on_dev {w : World} {A : DAd} {s : DSt} {F : Nat → Option Role} (h : Dev w A s F) {i : Nat} (hi : i < 8) (valid : Bool) :
    Calls Tryz.prog 35 #[ptr (A.t i), .bool valid] w fun r w' => r = .returned (.bool (!s.off && valid)) ∧ Dev w' A (s.on i valid) F ∧ Moved F F w w' := by
  have c0 : w.cell? ⟨A.t i, 0, none⟩ = some (.pointer (some ⟨A.d, 0, none⟩)) := (h.thr i hi).cell 0 (by omega)
  have c1 : w.cell? ⟨A.d, 11, none⟩ = some (.bool s.off) := h.dev.cell 11 (by omega)
  have H1 := Lib.hid h; clear h
  unfold DSt.on
  cases hoff : s.off
  · rw [hoff] at c1
    cases valid
    · simp only [ptr]
      go_enter Tryz.func35, Tryz.ntmps35
      go_wp2_with fail
      refine (fail_dev (e := 2) H1.out hi (by omega)).mono ?_
      rintro e w' ⟨rfl, h1, h2⟩
      have H2 := Lib.hid h1; have H3 := Lib.hid h2; clear h1 h2
      go_wp2_with fail
      go_returns
      exact ⟨rfl, H2.out, H3.out⟩
    · simp only [ptr]
      go_enter Tryz.func35, Tryz.ntmps35
      go_wp2_with fail
      go_returns
      exact ⟨rfl, H1.out, Moved.refl _ _⟩
  · rw [hoff] at c1
    simp only [ptr]
    go_enter Tryz.func35, Tryz.ntmps35
    go_wp2_with fail
    refine (fail_dev (e := 3) H1.out hi (by omega)).mono ?_
    rintro e w' ⟨rfl, h1, h2⟩
    have H2 := Lib.hid h1; have H3 := Lib.hid h2; clear h1 h2
    go_wp2_with fail
    go_returns
    exact ⟨rfl, H2.out, H3.out⟩

theorem counted_dev {w : World} {A : DAd} {s : DSt} {F : Nat → Option Role} (h : Dev w A s F) {i : Nat} (hi : i < 8) (valid : Bool) (hx : s.ex < 1000000) :
    Calls Tryz.prog 168 #[ptr (A.t i), .bool valid] w fun r w' => r = .returned (.bool (s.cnt i valid).2) ∧ Dev w' A (s.cnt i valid).1 F ∧ Moved F F w w' := by
  have H0 := Lib.hid h
  have hon := on_dev h hi valid
  by_cases hbad : s.off = true ∨ valid = false
  · have e1 : (s.cnt i valid).2 = false ∧ (s.cnt i valid).1 = s.on i valid ∧ (!s.off && valid) = false := by
      unfold DSt.cnt DSt.on
      cases hh : s.off <;> cases valid <;> simp [hh] at hbad ⊢
    obtain ⟨e2, e3, e4⟩ := e1
    rw [e2, e3]
    rw [e4] at hon
    have HO := Lib.hid hon; clear hon h e2 e3 e4 hbad
    simp only [ptr]
    go_enter Tryz.func168, Tryz.ntmps168
    go_wp2_with fail
    refine HO.out.mono ?_
    rintro e w' ⟨rfl, h1, h2⟩
    have H2 := Lib.hid h1; have H3 := Lib.hid h2; clear h1 h2
    go_wp2_with fail
    go_returns
    exact ⟨rfl, H2.out, H3.out⟩
  · have hoff : s.off = false := by cases hh : s.off; rfl; exact absurd (.inl hh) hbad
    have hval : valid = true := by cases hh : valid; exact absurd (.inr hh) hbad; rfl
    subst hval
    clear hbad
    have e4 : s.on i true = s := by simp [DSt.on, hoff]
    rw [e4, hoff] at hon
    have HO := Lib.hid hon; clear hon e4
    have hx2 : (s.ex : Int) < 1000000 := by omega
    have hl2 : (s.left : Int) ≤ 1000000 := by have := h.ok.left; omega
    cases harm : s.armed
    · have e5 : s.cnt i true = (s.ctl false s.armed s.left (s.ex + 1), true) := by simp [DSt.cnt, hoff, harm]
      rw [e5]; clear e5
      clear h
      simp only [ptr]
      go_enter Tryz.func168, Tryz.ntmps168
      go_wp2_with fail
      refine HO.out.mono ?_
      rintro e w' ⟨rfl, h1, h2⟩
      have c0 : w'.cell? ⟨A.t i, 0, none⟩ = some (.pointer (some ⟨A.d, 0, none⟩)) := (h1.thr i hi).cell 0 (by omega)
      have c1 : w'.cell? ⟨A.d, 12, none⟩ = some (.bool s.armed) := h1.dev.cell 12 (by omega)
      have c2 : w'.cell? ⟨A.d, 14, none⟩ = some (.int .u64 s.ex) := h1.dev.cell 14 (by omega)
      have f2 : w'.frozen? ⟨A.d, 14, none⟩ = false := h1.dev.free 14
      have h3 := h1.setD (o := false) (a := s.armed) (l := s.left) (x := s.ex + 1) (i := 14) (v := u64 (s.ex + 1)) (by omega) (by omega) (by omega)
        (dfun_cases (fun y hy => by rcases hy with rfl | rfl | rfl | rfl | rfl | rfl | rfl <;> simp [dfun, DSt.ctl, hoff]) (by omega))
      rw [harm] at c1
      simp only [u64, Int.natCast_add, Int.cast_ofNat_Int] at h3
      have H3 := Lib.hid h3.1; have H4 := Lib.hid (h2.trans h3.2); clear h1 h2 h3
      go_wp2_with fail
      go_returns
      exact ⟨rfl, H3.out, H4.out⟩
    · by_cases hz : s.left = 0
      · have e5 : s.cnt i true = ((s.ctl true s.armed s.left s.ex).fail i 3, false) := by simp [DSt.cnt, hoff, harm, hz]
        rw [e5]; clear e5
        clear h
        simp only [ptr]
        go_enter Tryz.func168, Tryz.ntmps168
        go_wp2_with fail
        refine HO.out.mono ?_
        rintro e w' ⟨rfl, h1, h2⟩
        have c0 : w'.cell? ⟨A.t i, 0, none⟩ = some (.pointer (some ⟨A.d, 0, none⟩)) := (h1.thr i hi).cell 0 (by omega)
        have c1 : w'.cell? ⟨A.d, 12, none⟩ = some (.bool s.armed) := h1.dev.cell 12 (by omega)
        have c2 : w'.cell? ⟨A.d, 13, none⟩ = some (.int .i64 s.left) := h1.dev.cell 13 (by omega)
        have f2 : w'.frozen? ⟨A.d, 11, none⟩ = false := h1.dev.free 11
        have c3 : w'.cell? ⟨A.d, 11, none⟩ = some (.bool s.off) := h1.dev.cell 11 (by omega)
        have h3 := h1.setD (o := true) (a := s.armed) (l := s.left) (x := s.ex) (i := 11) (v := .bool true) (by omega) (by omega) (by omega)
          (dfun_cases (fun y hy => by rcases hy with rfl | rfl | rfl | rfl | rfl | rfl | rfl <;> simp [dfun, DSt.ctl]) (by omega))
        rw [harm] at c1
        rw [hz] at c2
        have hf := fail_dev (e := 3) h3.1 hi (by omega)
        have HF := Lib.hid hf; have H4 := Lib.hid (h2.trans h3.2); clear h1 h2 h3 hf
        go_wp2_with fail
        refine HF.out.mono ?_
        rintro e w'' ⟨rfl, h1, h2⟩
        have H5 := Lib.hid h1; have H6 := Lib.hid h2; clear h1 h2
        go_wp2_with fail
        go_returns
        exact ⟨rfl, H5.out, H4.out.trans H6.out⟩
      · have e5 : s.cnt i true = (s.ctl false s.armed (s.left - 1) (s.ex + 1), true) := by simp [DSt.cnt, hoff, harm, hz]
        rw [e5]; clear e5
        clear h
        simp only [ptr]
        go_enter Tryz.func168, Tryz.ntmps168
        go_wp2_with fail
        refine HO.out.mono ?_
        rintro e w' ⟨rfl, h1, h2⟩
        have c0 : w'.cell? ⟨A.t i, 0, none⟩ = some (.pointer (some ⟨A.d, 0, none⟩)) := (h1.thr i hi).cell 0 (by omega)
        have c1 : w'.cell? ⟨A.d, 12, none⟩ = some (.bool s.armed) := h1.dev.cell 12 (by omega)
        have c2 : w'.cell? ⟨A.d, 13, none⟩ = some (.int .i64 s.left) := h1.dev.cell 13 (by omega)
        have f2 : w'.frozen? ⟨A.d, 13, none⟩ = false := h1.dev.free 13
        have c3 : w'.cell? ⟨A.d, 14, none⟩ = some (.int .u64 s.ex) := h1.dev.cell 14 (by omega)
        have f3 : w'.frozen? ⟨A.d, 14, none⟩ = false := h1.dev.free 14
        have h3 := h1.setD (o := s.off) (a := s.armed) (l := s.left - 1) (x := s.ex) (i := 13) (v := i64 (s.left - 1)) (by omega) (by omega) (by omega)
          (dfun_cases (fun y hy => by rcases hy with rfl | rfl | rfl | rfl | rfl | rfl | rfl <;> simp [dfun, DSt.ctl]) (by omega))
        have h4 := h3.1.setD (o := false) (a := s.armed) (l := s.left - 1) (x := s.ex + 1) (i := 14) (v := u64 (s.ex + 1)) (by omega) (by simp [DSt.ctl]) (by omega)
          (dfun_cases (fun y hy => by rcases hy with rfl | rfl | rfl | rfl | rfl | rfl | rfl <;> simp [dfun, DSt.ctl, hoff]) (by omega))
        have e6 : ((s.left - 1 : Nat) : Int) = (s.left : Int) - 1 := by omega
        have dz : ((s.left : Int) == 0) = false := by simp; omega
        have hlz : 1 ≤ (s.left : Int) := by omega
        rw [harm] at c1
        simp only [u64, i64, e6, Int.natCast_add, Int.cast_ofNat_Int] at h4 h3
        have H4 := Lib.hid h4.1; have H5 := Lib.hid ((h2.trans h3.2).trans h4.2); clear h1 h2 h3 h4 e6 hz
        go_wp2_with fail
        go_returns
        exact ⟨rfl, H4.out, H5.out⟩

theorem lines_dev {w : World} {A : DAd} {s : DSt} {F : Nat → Option Role} (h : Dev w A s F) :
    Calls Tryz.prog 53 #[ptr A.d] w fun r w' => r = .returned (.int .i64 s.L) ∧ w = w' := by
  have c0 : w.cell? ⟨A.d, 2, none⟩ = some (.slice (some ⟨A.lin, 0, none⟩) s.L s.L) := h.dev.cell 2 (by omega)
  clear h
  simp only [ptr]
  go_enter Tryz.func53, Tryz.ntmps53
  go_wp2_with fail
  go_returns
  exact ⟨rfl, rfl⟩

theorem size_dev {w : World} {A : DAd} {s : DSt} {F : Nat → Option Role} (h : Dev w A s F) :
    Calls Tryz.prog 22 #[ptr A.d] w fun r w' => r = .returned (.int .u64 (s.L * 64 : Nat)) ∧ w = w' := by
  have hL := h.ok.lines
  have hL2 : (s.L : Int) ≤ 4096 := by omega
  have H := Lib.hid h; clear h
  have e : ((s.L * 64 : Nat) : Int) = (s.L : Int) * 64 := by omega
  rw [e]; clear e hL
  go_enter Tryz.func22, Tryz.ntmps22
  go_wp2_with fail
  refine (lines_dev H.out).mono ?_
  rintro e w' ⟨rfl, rfl⟩
  go_wp2_with fail
  go_returns
  exact ⟨rfl, rfl⟩

/-- Is off the offset of a word? -/
def DSt.word (s : DSt) (off : Nat) : Bool := decide (off % 8 = 0) && decide (off < s.L * 64)

theorem word_dev {w : World} {A : DAd} {s : DSt} {F : Nat → Option Role} (h : Dev w A s F) {i : Nat} (hi : i < 8) (off : Nat) (ho : off < 18446744073709551616) :
    Calls Tryz.prog 36 #[ptr (A.t i), .int .u64 off] w fun r w' => r = .returned (.bool (s.word off)) ∧ w = w' := by
  have c0 : w.cell? ⟨A.t i, 0, none⟩ = some (.pointer (some ⟨A.d, 0, none⟩)) := (h.thr i hi).cell 0 (by omega)
  have H := Lib.hid h; clear h
  have ho2 : (off : Int) < 18446744073709551616 := by omega
  unfold DSt.word
  by_cases h8 : off % 8 = 0
  · have d : ((off : Int) % 8 == 0) = true := by simp; omega
    have d2 : decide (off % 8 = 0) = true := by simp; omega
    have d3 : decide ((off : Int) < ((s.L * 64 : Nat) : Int)) = decide (off < s.L * 64) := by apply decide_eq_decide.2; omega
    rw [d2, Bool.true_and, ← d3]; clear d2 d3 ho h8
    obtain ⟨M, hM⟩ : ∃ M : Int, M = ((s.L * 64 : Nat) : Int) := ⟨_, rfl⟩
    have hs := size_dev H.out
    rw [← hM] at hs ⊢
    have HS := Lib.hid hs; clear hs hM
    simp only [ptr]
    go_enter Tryz.func36, Tryz.ntmps36
    go_wp2_with fail
    refine HS.out.mono ?_
    rintro e w' ⟨rfl, rfl⟩
    go_wp2_with fail
    go_returns
    exact ⟨rfl, rfl⟩
  · have d : ((off : Int) % 8 == 0) = false := by simp; omega
    have d2 : decide (off % 8 = 0) = false := by simp; omega
    rw [d2, Bool.false_and]; clear d2 ho h8
    simp only [ptr]
    go_enter Tryz.func36, Tryz.ntmps36
    go_wp2_with fail
    go_returns
    exact ⟨rfl, rfl⟩

theorem err_dev {w : World} {A : DAd} {s : DSt} {F : Nat → Option Role} (h : Dev w A s F) {i : Nat} (hi : i < 8) :
    Calls Tryz.prog 28 #[ptr (A.t i)] w fun r w' => r = .returned (.int .i64 (s.err i)) ∧ w = w' := by
  have c0 : w.cell? ⟨A.t i, 0, none⟩ = some (.pointer (some ⟨A.d, 0, none⟩)) := (h.thr i hi).cell 0 (by omega)
  have c2 : w.cell? ⟨A.t i, 2, none⟩ = some (.int .i64 (s.err i)) := (h.thr i hi).cell 2 (by omega)
  clear h
  simp only [ptr]
  go_enter Tryz.func28, Tryz.ntmps28
  go_wp2_with fail
  go_returns
  exact ⟨rfl, rfl⟩
theorem tsize_dev {w : World} {A : DAd} {s : DSt} {F : Nat → Option Role} (h : Dev w A s F) {i : Nat} (hi : i < 8) :
    Calls Tryz.prog 166 #[ptr (A.t i)] w fun r w' => r = .returned (.int .u64 (s.L * 64 : Nat)) ∧ w = w' := by
  have c0 : w.cell? ⟨A.t i, 0, none⟩ = some (.pointer (some ⟨A.d, 0, none⟩)) := (h.thr i hi).cell 0 (by omega)
  have H := Lib.hid h; clear h
  simp only [ptr]
  go_enter Tryz.func166, Tryz.ntmps166
  go_wp2_with fail
  refine (size_dev H.out).mono ?_
  rintro e w' ⟨rfl, rfl⟩
  go_wp2_with fail
  go_returns
  exact ⟨rfl, rfl⟩
theorem thread_dev {w : World} {A : DAd} {s : DSt} {F : Nat → Option Role} (h : Dev w A s F) {i : Nat} (hi : i < 8) :
    Calls Tryz.prog 6 #[ptr A.d, .int .i64 i] w fun r w' => r = .returned (ptr (A.t i)) ∧ w = w' := by
  have c0 : w.cell? ⟨A.d, 3 + i, none⟩ = some (ptr (A.t i)) := by
    rw [h.dev.cell (3 + i) (by omega)]
    have : i = 0 ∨ i = 1 ∨ i = 2 ∨ i = 3 ∨ i = 4 ∨ i = 5 ∨ i = 6 ∨ i = 7 := by omega
    rcases this with rfl | rfl | rfl | rfl | rfl | rfl | rfl | rfl <;> rfl
  clear h
  have hi2 : (i : Int) < 8 := by omega
  have d1 : decide ((i : Int) < 0) = false := by simp
  have d2 : decide (8 ≤ (i : Int)) = false := by simp; omega
  simp only [ptr] at *
  go_enter Tryz.func6, Tryz.ntmps6
  go_wp2_with fail
  go_returns
  exact ⟨rfl, rfl⟩
theorem load_dev {w : World} {A : DAd} {s : DSt} {F : Nat → Option Role} (h : Dev w A s F) {i : Nat} (hi : i < 8) (off : Nat) (ho : off < 18446744073709551616) :
    Calls Tryz.prog 13 #[ptr (A.t i), .int .u64 off] w fun r w' => r = .returned (u64 (if !s.off && s.word off then s.cur (off / 8) else 0)) ∧ Dev w' A (s.on i (s.word off)) F ∧ Moved F F w w' := by
  have c0 : w.cell? ⟨A.t i, 0, none⟩ = some (.pointer (some ⟨A.d, 0, none⟩)) := (h.thr i hi).cell 0 (by omega)
  have H := Lib.hid h; clear h
  have hw := word_dev H.out hi off ho
  have hon := on_dev H.out hi (s.word off)
  have HW := Lib.hid hw; have HO := Lib.hid hon; clear hw hon
  cases hgo : (!s.off && s.word off)
  · rw [hgo] at HO
    simp only [ptr]
    go_enter Tryz.func13, Tryz.ntmps13
    go_wp2_with fail
    refine HW.out.mono ?_
    rintro e w' ⟨rfl, rfl⟩
    go_wp2_with fail
    refine HO.out.mono ?_
    rintro e w' ⟨rfl, h1, h2⟩
    have H2 := Lib.hid h1; have H3 := Lib.hid h2; clear h1 h2
    go_wp2_with fail
    go_returns
    exact ⟨rfl, H2.out, H3.out⟩
  · rw [hgo] at HO
    have e2 : s.on i (s.word off) = s := by simp only [Bool.and_eq_true, Bool.not_eq_true'] at hgo; simp [DSt.on, hgo.1, hgo.2]
    rw [e2] at HO ⊢
    simp only [ptr]
    go_enter Tryz.func13, Tryz.ntmps13
    go_wp2_with fail
    refine HW.out.mono ?_
    rintro e w' ⟨rfl, rfl⟩
    go_wp2_with fail
    refine HO.out.mono ?_
    rintro e w' ⟨rfl, h1, h2⟩
    have c0 : w'.cell? ⟨A.t i, 0, none⟩ = some (.pointer (some ⟨A.d, 0, none⟩)) := (h1.thr i hi).cell 0 (by omega)
    have hlt : off / 8 < 8 * s.L := by simp only [DSt.word, Bool.and_eq_true, decide_eq_true_eq] at hgo; omega
    have c1 : w'.cell? ⟨A.d, 1, none⟩ = some (.slice (some ⟨A.cur, 0, none⟩) (8 * s.L) A.cap) := h1.dev.cell 1 (by omega)
    have c2 : w'.cell? ⟨A.cur, off / 8, none⟩ = some (.int .u64 (s.cur (off / 8))) := h1.cur.cell _ hlt
    have hlt2 : (off : Int) / 8 < ((8 * s.L : Nat) : Int) := by omega
    have H2 := Lib.hid h1; have H3 := Lib.hid h2; clear h1 h2 hgo e2 HW HO
    go_wp2_with fail
    go_returns
    exact ⟨rfl, H2.out, H3.out⟩
end Go.Proofs.YtejlgnebofdijaaGreatDoor.Dv
