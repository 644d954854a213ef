/-
  The operations of the package mwcas as a plain machine. No program in sight.
  What every crash image of a device holds, and how instructions change it. No program in sight.
  The plain machine of mwcas on the words of the statement: what holds between any two steps. No program in sight.
  The invariant of the plain machine is kept by every step. No program in sight.
  Every step of the plain machine keeps the invariant. No program in sight.
-/
import Derived.Test.YtejlgnebofdijaaGreatDoorMMwA
namespace Go.Proofs.YtejlgnebofdijaaGreatDoor.Dv
open Go.RowKit
set_option linter.unusedVariables false

/-- An operation in progress. -/
structure OpS where
  t : Nat
  k : Nat
  es : List (Nat × Nat × Nat)
  ord : List Nat
  seen : List Nat
  loaded : Nat
  stage : Nat
  prog : List Ins
  done : Bool
  changed : Bool
  ended : Bool
  err : Nat
  tgt : Option Nat
  inn : Nat
  next : Nat

/-- A pool with its device and its operations. -/
structure MS where
  dev : DSt
  cur : Option Nat
  busy : Nat → Bool
  op : Nat → OpS

/-- The entries with the raw words as they will be. -/
def OpS.ents (o : OpS) : List En := (List.range o.es.length).map (fun i => ((o.es.getD i (0, 0, 0)).1, (o.es.getD i (0, 0, 0)).2.1, aft (o.es.getD i (0, 0, 0)).2.2 (o.seen.getD i 0)))
def OpS.recw (o : OpS) : List (Nat × Nat) := (List.range (ewords o.ents).length).map (fun i => (256 * o.k + 64 + 8 * i, (ewords o.ents).getD i 0))
/-- The stores of a stage. -/
def OpS.stores (T : Nat → Nat) (o : OpS) (s : Nat) : List (Nat × Nat) :=
  if s = 1 then o.recw else if s = 2 then [(256 * o.k, sst o.es.length (crcW T (ewords o.ents)))] else if s = 3 then ewr o.ents else [(256 * o.k, unusedW)]

def MS.set (m : MS) (i : Nat) (o : OpS) : MS := { m with op := upd m.op i o }
def MS.finish (m : MS) (i : Nat) (b : Bool) : MS := { m.set i { m.op i with done := true, changed := b } with cur := none }
def MS.enter (T : Nat → Nat) (m : MS) (i s : Nat) : MS :=
  if s ≤ 4 then m.set i { m.op i with stage := s, prog := Dv.prog ((m.op i).stores T s) } else (m.set i { m.op i with stage := s }).finish i true
/-- The current operation c loads its next word by thread t. -/
def MS.load (T : Nat → Nat) (m : MS) (c t : Nat) : MS :=
  let o := m.op c
  let idx := o.ord.getD o.loaded 0
  let e := o.es.getD idx (0, 0, 0)
  let w := m.dev.cur (e.1 / 8)
  let m1 := { m with dev := m.dev.on t true }
  if m1.dev.err t ≠ 0 then m1
  else if w % 1099511627776 = e.2.1 then
    let m2 := m1.set c { o with seen := o.seen.set idx w, loaded := o.loaded + 1 }
    if o.loaded + 1 = o.ord.length then m2.enter T c 1 else m2
  else m1.finish c false
def MS.advance (T : Nat → Nat) (m : MS) (i c : Nat) : MS :=
  if (m.op c).stage = 0 then m.load T c (m.op i).t
  else
    let s := (m.op c).stage
    let m1 := if (m.op i).tgt = some c ∧ (m.op i).inn = s then m else m.set i { m.op i with tgt := some c, inn := s, next := 0 }
    let m2 := { m1 with dev := m1.dev.exec (m1.op i).t ((m1.op c).prog.getD (m1.op i).next ⟨3, 0, 0⟩) }
    if m2.dev.err (m2.op i).t ≠ 0 then m2
    else
      let m3 := m2.set i { m2.op i with next := (m2.op i).next + 1 }
      if (m3.op i).next = (m3.op c).prog.length then m3.enter T c (s + 1) else m3
def MS.stop (m : MS) (i e : Nat) : MS :=
  let m1 := { m.set i { m.op i with ended := true, err := e } with busy := upd m.busy (m.op i).k false }
  if (m.op i).done = false ∧ m.cur = some i ∧ (m.op i).stage < 2 then { m1 with cur := none } else m1
/-- A step of operation i, and whether it has ended. -/
def MS.step (T : Nat → Nat) (m : MS) (i : Nat) : MS × Bool :=
  if (m.op i).ended then (m, true)
  else if m.dev.err (m.op i).t ≠ 0 then (m.stop i (m.dev.err (m.op i).t), true)
  else if (m.op i).done then (m.stop i 0, true)
  else
    let m1 := { m with cur := some (m.cur.getD i) }
    let m2 := m1.advance T i (m.cur.getD i)
    if m2.dev.err (m2.op i).t ≠ 0 then (m2.stop i (m2.dev.err (m2.op i).t), true)
    else if (m2.op i).done then (m2.stop i 0, true) else (m2, false)
end Go.Proofs.YtejlgnebofdijaaGreatDoor.Dv

namespace Go.Proofs.YtejlgnebofdijaaGreatDoor.Dv
open Go.RowKit
set_option linter.unusedVariables false

/-- Word x when the first k stores of its line are taken. -/
def DSt.at (s : DSt) (x k : Nat) : Nat := Dv.after (s.base x) x ((s.H (x / 8)).take k)
/-- Word x satisfies P in every image that takes p or more stores of its line. -/
def DSt.From (s : DSt) (x p : Nat) (P : Nat → Prop) : Prop := ∀ k, p ≤ k → k ≤ (s.H (x / 8)).length → P (s.at x k)
/-- Word x satisfies P in every image. -/
def DSt.All (s : DSt) (x : Nat) (P : Nat → Prop) : Prop := s.From x (s.dn (x / 8)) P
/-- Word x satisfies P in every image once thread t has fenced. -/
def DSt.Fl (s : DSt) (t x : Nat) (P : Nat → Prop) : Prop := s.All x P ∨ ∃ p, s.notes t (x / 8) = some p ∧ s.From x p P

theorem DSt.at_len (s : DSt) (x : Nat) : s.at x (s.H (x / 8)).length = s.cur x := by unfold DSt.at DSt.cur; rw [List.take_length]
theorem DSt.From.mono {s : DSt} {x p q : Nat} {P : Nat → Prop} (h : s.From x p P) (hq : p ≤ q) : s.From x q P := fun k h1 h2 => h k (Nat.le_trans hq h1) h2
theorem DSt.From.imp {s : DSt} {x p : Nat} {P Q : Nat → Prop} (h : s.From x p P) (hq : ∀ v, P v → Q v) : s.From x p Q := fun k h1 h2 => hq _ (h k h1 h2)
theorem DSt.All.imp {s : DSt} {x : Nat} {P Q : Nat → Prop} (h : s.All x P) (hq : ∀ v, P v → Q v) : s.All x Q := DSt.From.imp h hq
theorem DSt.All.cur {s : DSt} {x : Nat} {P : Nat → Prop} (h : s.All x P) (hok : s.Ok) : P (s.cur x) := by
  have := h (s.H (x / 8)).length (hok.dn _) (Nat.le_refl _)
  rwa [DSt.at_len] at this
theorem DSt.All.img {s : DSt} {x : Nat} {P : Nat → Prop} (h : s.All x P) {m : Nat → Nat} (hm : s.Cut m) : P (s.img m x) := h (m (x / 8)) (hm _).1 (hm _).2
theorem DSt.From.of_cur {s : DSt} {x : Nat} {P : Nat → Prop} (h : P (s.cur x)) : s.From x (s.H (x / 8)).length P := by
  intro k h1 h2
  have : k = (s.H (x / 8)).length := by omega
  subst this
  rw [DSt.at_len]
  exact h

/-- The same words, stores and notes. -/
structure Eqv (a b : DSt) : Prop where
  L : a.L = b.L
  base : a.base = b.base
  H : a.H = b.H
  dn : a.dn = b.dn
  notes : a.notes = b.notes
theorem Eqv.refl (a : DSt) : Eqv a a := ⟨rfl, rfl, rfl, rfl, rfl⟩
theorem Eqv.trans {a b c : DSt} (h : Eqv a b) (k : Eqv b c) : Eqv a c := ⟨h.L.trans k.L, h.base.trans k.base, h.H.trans k.H, h.dn.trans k.dn, h.notes.trans k.notes⟩
theorem Eqv.cur {a b : DSt} (h : Eqv a b) (x : Nat) : a.cur x = b.cur x := by unfold DSt.cur; rw [h.base, h.H]
theorem Eqv.from {a b : DSt} (h : Eqv a b) {x p : Nat} {P : Nat → Prop} (k : b.From x p P) : a.From x p P := by
  unfold DSt.From DSt.at at *
  rw [h.base, h.H]
  exact k
theorem Eqv.all {a b : DSt} (h : Eqv a b) {x : Nat} {P : Nat → Prop} (k : b.All x P) : a.All x P := by
  unfold DSt.All at *
  rw [h.dn]
  exact h.from k
theorem Eqv.fl {a b : DSt} (h : Eqv a b) {t x : Nat} {P : Nat → Prop} (k : b.Fl t x P) : a.Fl t x P := by
  rcases k with k | ⟨p, k1, k2⟩
  · exact .inl (h.all k)
  · exact .inr ⟨p, by rw [h.notes]; exact k1, h.from k2⟩

/-! ### the effect of an instruction that is executed -/
def DSt.did (s : DSt) (t : Nat) (x : Ins) : DSt := if x.op = 1 then s.write x.off x.val else if x.op = 2 then s.flushed t x.off else s.fenced t

theorem DSt.From.write {s : DSt} {x p off v : Nat} {P : Nat → Prop} (h : s.From x p P) (hp : p ≤ (s.H (x / 8)).length) (h8 : off % 8 = 0) (hv : x = off / 8 → P v) : (s.write off v).From x p P := by
  intro k h1 h2
  by_cases e : x / 8 = off / 64
  · have eH : (s.write off v).H (x / 8) = s.H (x / 8) ++ [(off, v)] := by unfold DSt.write; dsimp only; rw [e, upd_same]
    have eA : (s.write off v).at x k = Dv.after (s.base x) x ((s.H (x / 8) ++ [(off, v)]).take k) := by unfold DSt.at; rw [eH]; rfl
    rw [eA]
    rw [eH, List.length_append, List.length_singleton] at h2
    rcases Nat.lt_or_ge (s.H (x / 8)).length k with hk | hk
    · have : k = (s.H (x / 8) ++ [(off, v)]).length := by rw [List.length_append, List.length_singleton]; omega
      rw [this, List.take_length, after_snoc]
      dsimp only
      by_cases e2 : off / 8 = x
      · rw [if_pos e2]; exact hv e2.symm
      · rw [if_neg e2]
        have := h (s.H (x / 8)).length hp (Nat.le_refl _)
        rw [DSt.at_len] at this
        exact this
    · rw [List.take_append_of_le_length hk]
      exact h k h1 hk
  · have eH : (s.write off v).H (x / 8) = s.H (x / 8) := by unfold DSt.write; dsimp only; rw [upd_ne _ _ e]
    rw [eH] at h2
    have := h k h1 h2
    unfold DSt.at at *
    rw [eH]
    exact this
theorem DSt.All.write {s : DSt} {x off v : Nat} {P : Nat → Prop} (h : s.All x P) (hok : s.Ok) (h8 : off % 8 = 0) (hv : x = off / 8 → P v) : (s.write off v).All x P :=
  DSt.From.write h (hok.dn _) h8 hv
theorem DSt.Fl.write {s : DSt} {t x off v : Nat} {P : Nat → Prop} (h : s.Fl t x P) (hok : s.Ok) (h8 : off % 8 = 0) (hv : x = off / 8 → P v) : (s.write off v).Fl t x P := by
  rcases h with h | ⟨p, h1, h2⟩
  · exact .inl (h.write hok h8 hv)
  · exact .inr ⟨p, h1, h2.write (hok.note _ _ _ h1).1 h8 hv⟩

theorem DSt.Fl.flushed {s : DSt} {t x t0 off : Nat} {P : Nat → Prop} (h : s.Fl t x P) (hok : s.Ok) : (s.flushed t0 off).Fl t x P := by
  rcases h with h | ⟨p, h1, h2⟩
  · exact .inl h
  · by_cases e : t = t0
    · subst e
      by_cases e2 : x / 8 = off / 64
      · refine .inr ⟨(s.H (x / 8)).length, ?_, h2.mono (hok.note _ _ _ h1).1⟩
        unfold DSt.flushed DSt.setNote
        dsimp only
        rw [upd_same, e2, upd_same]
      · refine .inr ⟨p, ?_, h2⟩
        unfold DSt.flushed DSt.setNote
        dsimp only
        rw [upd_same, upd_ne _ _ e2]
        exact h1
    · refine .inr ⟨p, ?_, h2⟩
      unfold DSt.flushed DSt.setNote
      dsimp only
      rw [upd_ne _ _ e]
      exact h1
theorem DSt.flushed_fl {s : DSt} {t x off : Nat} {P : Nat → Prop} (h : P (s.cur x)) (hl : x / 8 = off / 64) : (s.flushed t off).Fl t x P := by
  refine .inr ⟨(s.H (x / 8)).length, ?_, DSt.From.of_cur h⟩
  unfold DSt.flushed DSt.setNote
  dsimp only
  rw [upd_same, hl, upd_same]

theorem fenced_dn (s : DSt) (t n : Nat) : s.dn n ≤ (s.fenced t).dn n := by
  unfold DSt.fenced
  dsimp only
  split
  · exact Nat.le_max_left _ _
  · exact Nat.le_refl _
theorem DSt.All.fenced {s : DSt} {t x : Nat} {P : Nat → Prop} (h : s.All x P) : (s.fenced t).All x P := DSt.From.mono (s := s) h (fenced_dn s t _)
theorem DSt.Fl.done {s : DSt} {t x : Nat} {P : Nat → Prop} (h : s.Fl t x P) : (s.fenced t).All x P := by
  rcases h with h | ⟨p, h1, h2⟩
  · exact h.fenced
  · refine DSt.From.mono (s := s) h2 ?_
    unfold DSt.fenced
    dsimp only
    rw [h1]
    exact Nat.le_max_right _ _
theorem DSt.Fl.fenced {s : DSt} {t x t0 : Nat} {P : Nat → Prop} (h : s.Fl t x P) : (s.fenced t0).Fl t x P := by
  by_cases e : t = t0
  · subst e; exact .inl h.done
  · rcases h with h | ⟨p, h1, h2⟩
    · exact .inl h.fenced
    · refine .inr ⟨p, ?_, h2⟩
      unfold DSt.fenced
      dsimp only
      rw [upd_ne _ _ e]
      exact h1

theorem DSt.did_all {s : DSt} {t x : Nat} {i : Ins} {P : Nat → Prop} (h : s.All x P) (hok : s.Ok) (h8 : i.op = 1 → i.off % 8 = 0) (hv : i.op = 1 → x = i.off / 8 → P i.val) : (s.did t i).All x P := by
  unfold DSt.did
  split
  · rename_i e; exact h.write hok (h8 e) (hv e)
  · split
    · exact h
    · exact h.fenced
theorem DSt.did_fl {s : DSt} {t t0 x : Nat} {i : Ins} {P : Nat → Prop} (h : s.Fl t x P) (hok : s.Ok) (h8 : i.op = 1 → i.off % 8 = 0) (hv : i.op = 1 → x = i.off / 8 → P i.val) : (s.did t0 i).Fl t x P := by
  unfold DSt.did
  split
  · rename_i e; exact h.write hok (h8 e) (hv e)
  · split
    · exact h.flushed hok
    · exact h.fenced
theorem DSt.did_cur {s : DSt} {t x : Nat} {i : Ins} (h8 : i.op = 1 → i.off % 8 = 0) : (s.did t i).cur x = if i.op = 1 ∧ x = i.off / 8 then i.val else s.cur x := by
  unfold DSt.did
  by_cases e : i.op = 1
  · rw [if_pos e, DSt.write_cur _ _ _ (h8 e)]
    simp [e]
  · rw [if_neg e, if_neg (show ¬ (i.op = 1 ∧ x = i.off / 8) from fun h => e h.1)]
    split <;> rfl

/-! ### which instructions are executed -/
theorem fail_err {s : DSt} {t e : Nat} (he : e ≠ 0) : (s.fail t e).err t ≠ 0 := by
  unfold DSt.fail
  split
  · unfold DSt.setErr; dsimp only; rw [upd_same]; exact he
  · assumption
theorem fail_eqv (s : DSt) (t e : Nat) : Eqv (s.fail t e) s := by
  unfold DSt.fail
  split
  · exact ⟨rfl, rfl, rfl, rfl, rfl⟩
  · exact Eqv.refl _
theorem cnt_cases (s : DSt) (t : Nat) (h0 : s.err t = 0) : ((s.cnt t true).2 = false ∧ (s.cnt t true).1.err t ≠ 0 ∧ Eqv (s.cnt t true).1 s) ∨ ((s.cnt t true).2 = true ∧ (s.cnt t true).1.err t = 0 ∧ Eqv (s.cnt t true).1 s) := by
  unfold DSt.cnt
  split
  · exact .inl ⟨rfl, fail_err (by omega), fail_eqv _ _ _⟩
  · rw [if_neg (by simp)]
    split
    · exact .inl ⟨rfl, fail_err (by omega), (fail_eqv _ _ _).trans ⟨rfl, rfl, rfl, rfl, rfl⟩⟩
    · exact .inr ⟨rfl, h0, ⟨rfl, rfl, rfl, rfl, rfl⟩⟩
theorem Eqv.write {a b : DSt} (h : Eqv a b) (off v : Nat) : Eqv (a.write off v) (b.write off v) := ⟨h.L, h.base, by unfold DSt.write; dsimp only; rw [h.H], h.dn, h.notes⟩
theorem Eqv.flushed {a b : DSt} (h : Eqv a b) (t off : Nat) : Eqv (a.flushed t off) (b.flushed t off) := ⟨h.L, h.base, h.H, h.dn, by unfold DSt.flushed DSt.setNote; dsimp only; rw [h.notes, h.H]⟩
theorem Eqv.fenced {a b : DSt} (h : Eqv a b) (t : Nat) : Eqv (a.fenced t) (b.fenced t) := ⟨h.L, h.base, h.H, by unfold DSt.fenced; dsimp only; rw [h.notes, h.dn], by unfold DSt.fenced; dsimp only; rw [h.notes]⟩

/-- A valid instruction is executed, or the thread has an error and nothing is changed. -/
theorem exec_cases (s : DSt) (t : Nat) (i : Ins) (h0 : s.err t = 0) (h1 : i.op = 1 → s.word i.off = true) (h2 : i.op = 2 → i.off < s.L * 64) :
    ((s.exec t i).err t ≠ 0 ∧ Eqv (s.exec t i) s) ∨ ((s.exec t i).err t = 0 ∧ Eqv (s.exec t i) (s.did t i)) := by
  have hc := cnt_cases s t h0
  unfold DSt.exec DSt.did
  by_cases e1 : i.op = 1
  · rw [if_pos e1, if_pos e1]
    unfold DSt.store
    rw [h1 e1]
    rcases hc with ⟨c1, c2, c3⟩ | ⟨c1, c2, c3⟩
    · rw [c1]; exact .inl ⟨c2, c3⟩
    · rw [c1]; exact .inr ⟨c2, c3.write _ _⟩
  · rw [if_neg e1, if_neg e1]
    by_cases e2 : i.op = 2
    · rw [if_pos e2, if_pos e2]
      unfold DSt.flush
      rw [decide_eq_true (h2 e2)]
      rcases hc with ⟨c1, c2, c3⟩ | ⟨c1, c2, c3⟩
      · rw [c1]; exact .inl ⟨c2, c3⟩
      · rw [c1]; exact .inr ⟨c2, c3.flushed _ _⟩
    · rw [if_neg e2, if_neg e2]
      unfold DSt.fence
      rcases hc with ⟨c1, c2, c3⟩ | ⟨c1, c2, c3⟩
      · rw [c1]; exact .inl ⟨c2, c3⟩
      · rw [c1]; exact .inr ⟨c2, c3.fenced _⟩

/-! ### programs -/
/-- The stores of a program: words of a line, each with one value. -/
structure StOk (l : List (Nat × Nat)) : Prop where
  al : ∀ p ∈ l, p.1 % 8 = 0
  one : ∀ p ∈ l, ∀ q ∈ l, p.1 / 8 = q.1 / 8 → p.2 = q.2
/-- The lines of a program. -/
def plines (l : List (Nat × Nat)) : List Nat := dd (l.map (fun p => line p.1)) l.length
theorem prog_eq (l : List (Nat × Nat)) : prog l = sins l ++ fins (plines l) ++ [⟨3, 0, 0⟩] := rfl
theorem prog_length (l : List (Nat × Nat)) : (prog l).length = l.length + (plines l).length + 1 := by rw [prog_eq]; simp [sins, fins]; omega
theorem mem_plines {l : List (Nat × Nat)} {y : Nat} : y ∈ plines l ↔ ∃ p ∈ l, line p.1 = y := by
  have : (l.map (fun p => line p.1)).length = l.length := by simp
  unfold plines
  rw [← this, mem_dd]
  simp
/-- What a thread has done when it has executed j instructions. -/
structure Done (s : DSt) (t : Nat) (l : List (Nat × Nat)) (j : Nat) : Prop where
  st : ∀ q p, q < j → l[q]? = some p → s.cur (p.1 / 8) = p.2
  fl : ∀ q y, l.length + q < j → (plines l)[q]? = some y → ∀ p ∈ l, line p.1 = y → s.Fl t (p.1 / 8) (fun v => v = p.2)

theorem Done.zero (s : DSt) (t : Nat) (l : List (Nat × Nat)) : Done s t l 0 := ⟨fun q p h => by omega, fun q y h => by omega⟩
theorem Done.eqv {a b : DSt} (h : Eqv a b) {t j : Nat} {l : List (Nat × Nat)} (k : Done b t l j) : Done a t l j :=
  ⟨fun q p h1 h2 => by rw [h.cur]; exact k.st q p h1 h2, fun q y h1 h2 p h3 h4 => h.fl (k.fl q y h1 h2 p h3 h4)⟩

theorem prog_mem {l : List (Nat × Nat)} {i : Ins} (h : i ∈ prog l) : (∃ p ∈ l, i = ⟨1, p.1, p.2⟩) ∨ (∃ y ∈ plines l, i = ⟨2, y, 0⟩) ∨ i = ⟨3, 0, 0⟩ := by
  rw [prog_eq, List.mem_append, List.mem_append] at h
  rcases h with (h | h) | h
  · obtain ⟨p, hp, rfl⟩ := List.mem_map.1 h; exact .inl ⟨p, hp, rfl⟩
  · obtain ⟨p, hp, rfl⟩ := List.mem_map.1 h; exact .inr (.inl ⟨p, hp, rfl⟩)
  · exact .inr (.inr (by simpa using h))
theorem prog_get {l : List (Nat × Nat)} {j : Nat} {i : Ins} (h : (prog l)[j]? = some i) :
    (∃ p, l[j]? = some p ∧ i = ⟨1, p.1, p.2⟩) ∨ (∃ q y, j = l.length + q ∧ (plines l)[q]? = some y ∧ i = ⟨2, y, 0⟩) ∨ (j = l.length + (plines l).length ∧ i = ⟨3, 0, 0⟩) := by
  rw [prog_eq] at h
  have e1 : (sins l).length = l.length := by simp [sins]
  have e2 : (fins (plines l)).length = (plines l).length := by simp [fins]
  rcases Nat.lt_or_ge j (l.length + (plines l).length) with hj | hj
  · rw [List.getElem?_append_left (by rw [List.length_append, e1, e2]; exact hj)] at h
    rcases Nat.lt_or_ge j l.length with hj2 | hj2
    · rw [List.getElem?_append_left (by rw [e1]; exact hj2)] at h
      unfold sins at h
      rw [List.getElem?_map, Option.map_eq_some_iff] at h
      obtain ⟨p, hp, rfl⟩ := h
      exact .inl ⟨p, hp, rfl⟩
    · rw [List.getElem?_append_right (by rw [e1]; exact hj2), e1] at h
      unfold fins at h
      rw [List.getElem?_map, Option.map_eq_some_iff] at h
      obtain ⟨y, hy, rfl⟩ := h
      exact .inr (.inl ⟨j - l.length, y, by omega, hy, rfl⟩)
  · rw [List.getElem?_append_right (by rw [List.length_append, e1, e2]; exact hj), List.length_append, e1, e2] at h
    have hj3 : j - (l.length + (plines l).length) = 0 := by
      rcases Nat.eq_zero_or_pos (j - (l.length + (plines l).length)) with h0 | h0
      · exact h0
      · rw [List.getElem?_eq_none (by simp; omega)] at h; cases h
    rw [hj3] at h
    simp at h
    exact .inr (.inr ⟨by omega, h.symm⟩)

/-- Another thread executes an instruction of the same program, or the same thread does. -/
theorem Done.other {s : DSt} {t j t0 : Nat} {l : List (Nat × Nat)} {i : Ins} (h : Done s t l j) (hok : s.Ok) (hl : StOk l) (hi : i ∈ prog l) : Done (s.did t0 i) t l j := by
  have h8 : i.op = 1 → i.off % 8 = 0 := by
    intro e
    rcases prog_mem hi with ⟨p, hp, rfl⟩ | ⟨y, _, rfl⟩ | rfl
    · exact hl.al p hp
    · cases e
    · cases e
  have hv : ∀ p ∈ l, i.op = 1 → p.1 / 8 = i.off / 8 → i.val = p.2 := by
    intro p hp e e2
    rcases prog_mem hi with ⟨q, hq, rfl⟩ | ⟨y, _, rfl⟩ | rfl
    · exact (hl.one p hp q hq e2).symm
    · cases e
    · cases e
  refine ⟨fun q p h1 h2 => ?_, fun q y h1 h2 p h3 h4 => DSt.did_fl (h.fl q y h1 h2 p h3 h4) hok h8 (hv p h3)⟩
  rw [DSt.did_cur h8]
  split
  · rename_i e; exact hv p (List.mem_of_getElem? h2) e.1 e.2
  · exact h.st q p h1 h2

/-- A thread goes on. -/
theorem Done.next {s : DSt} {t j : Nat} {l : List (Nat × Nat)} {i : Ins} (h : Done s t l j) (hok : s.Ok) (hl : StOk l) (hi : (prog l)[j]? = some i) : Done (s.did t i) t l (j + 1) := by
  have h0 := h.other (t0 := t) hok hl (List.mem_of_getElem? hi)
  rcases prog_get hi with ⟨p, hp, rfl⟩ | ⟨q, y, rfl, hy, rfl⟩ | ⟨hj, rfl⟩
  · refine ⟨fun q p' h1 h2 => ?_, fun q y h1 h2 => ?_⟩
    · rcases Nat.lt_or_ge q j with hq | hq
      · exact h0.st q p' hq h2
      · have : q = j := by omega
        subst this
        rw [hp] at h2
        cases h2
        rw [DSt.did_cur (fun _ => hl.al p (List.mem_of_getElem? hp))]
        simp
    · have := (List.getElem?_eq_some_iff.1 hp).1
      omega
  · refine ⟨fun q' p' h1 h2 => ?_, fun q' y' h1 h2 p h3 h4 => ?_⟩
    · have := (List.getElem?_eq_some_iff.1 h2).1
      exact h0.st q' p' (by omega) h2
    · rcases Nat.lt_or_ge q' q with hq | hq
      · exact h0.fl q' y' (by omega) h2 p h3 h4
      · have : q' = q := by omega
        subst this
        rw [hy] at h2
        cases h2
        obtain ⟨z, hz, hzp⟩ := List.getElem_of_mem h3
        have hc := h.st z p (by omega) (by rw [List.getElem?_eq_getElem hz, hzp])
        refine DSt.flushed_fl hc ?_
        rw [← h4]
        unfold line
        dsimp only
        omega
  · refine ⟨fun q' p' h1 h2 => ?_, fun q' y' h1 h2 p h3 h4 => ?_⟩
    · have := (List.getElem?_eq_some_iff.1 h2).1
      exact h0.st q' p' (by omega) h2
    · have := (List.getElem?_eq_some_iff.1 h2).1
      exact h0.fl q' y' (by omega) h2 p h3 h4
/-- A thread ends the program. -/
theorem Done.last {s : DSt} {t j : Nat} {l : List (Nat × Nat)} {i : Ins} (h : Done s t l j) (hi : (prog l)[j]? = some i) (hj : j + 1 = (prog l).length) : i.op = 3 ∧ ∀ p ∈ l, (s.did t i).All (p.1 / 8) (fun v => v = p.2) := by
  rw [prog_length] at hj
  rcases prog_get hi with ⟨p, hp, rfl⟩ | ⟨q, y, rfl, hy, rfl⟩ | ⟨hj2, rfl⟩
  · have := (List.getElem?_eq_some_iff.1 hp).1
    omega
  · have := (List.getElem?_eq_some_iff.1 hy).1
    omega
  · refine ⟨rfl, fun p hp => ?_⟩
    obtain ⟨q, hq, hqe⟩ := List.getElem_of_mem (mem_plines.2 ⟨p, hp, rfl⟩)
    have := h.fl q (line p.1) (by omega) (by rw [List.getElem?_eq_getElem hq, hqe]) p hp rfl
    exact this.done

/-! ### entries -/
theorem ents_get {o : OpS} {k : Nat} {x : Nat × Nat × Nat} (h : o.es[k]? = some x) : o.ents[k]? = some (x.1, x.2.1, aft x.2.2 (o.seen.getD k 0)) := by
  have hk : k < o.es.length := (List.getElem?_eq_some_iff.1 h).1
  unfold OpS.ents
  rw [List.getElem?_map, List.getElem?_range hk]
  simp [List.getD_eq_getElem?_getD, h]
theorem ents_mem {o : OpS} {x : En} (h : x ∈ o.ents) : ∃ e ∈ o.es, ∃ r z, (r = 0 ∨ r ∈ o.seen) ∧ z = aft e.2.2 r ∧ x = (e.1, e.2.1, z) := by
  unfold OpS.ents at h
  obtain ⟨k, hk, rfl⟩ := List.mem_map.1 h
  have hk' : k < o.es.length := by simpa using hk
  refine ⟨o.es.getD k (0, 0, 0), ?_, o.seen.getD k 0, _, ?_, rfl, rfl⟩
  · rw [List.getD_eq_getElem?_getD, List.getElem?_eq_getElem hk']
    exact List.getElem_mem hk'
  · rw [List.getD_eq_getElem?_getD]
    rcases Nat.lt_or_ge k o.seen.length with h' | h'
    · rw [List.getElem?_eq_getElem h']; exact .inr (List.getElem_mem h')
    · rw [List.getElem?_eq_none h']; exact .inl rfl
end Go.Proofs.YtejlgnebofdijaaGreatDoor.Dv

namespace Go.Proofs.YtejlgnebofdijaaGreatDoor.Dv
open Go.RowKit
set_option linter.unusedVariables false

/-- What word j may hold when the change is in stage st. -/
def Vok (n st j v : Nat) : Prop := if st ≤ 2 then v = j else if st = 3 then v = j ∨ (j < n ∧ v = 100 + j) else v = if j < n then 100 + j else j
def Vone (n st j : Nat) : Nat := if st ≤ 2 then j else if j < n then 100 + j else j
theorem Vok_one {n st j : Nat} (h : st ≠ 3) : Vok n st j (Vone n st j) := by
  unfold Vok Vone
  split
  · rfl
  · rfl
theorem Vok_eq {n st j v : Nat} (h : st ≠ 3) (hv : Vok n st j v) : v = Vone n st j := by
  unfold Vok Vone at *
  split at hv
  · rename_i h1; rw [if_pos h1]; exact hv
  · rename_i h1; rw [if_neg h1]; exact hv

def mainEs (n : Nat) : List (Nat × Nat × Nat) := (List.range n).map (fun i => (2304 + 8 * (n - 1 - i), n - 1 - i, 100 + (n - 1 - i)))
def OpS.status (T : Nat → Nat) (o : OpS) : Nat := sst o.es.length (crcW T (ewords o.ents))

/-- What never changes of operation i. -/
structure Stat (n i : Nat) (o : OpS) : Prop where
  k : o.k = i
  main : i = 0 → o.es = mainEs n
  help : i ≠ 0 → ∀ e ∈ o.es, ∃ j, j < n ∧ e.1 = 2304 + 8 * j ∧ e.2.1 = e.2.2 ∧ (e.2.1 = j ∨ e.2.1 = 100 + j)
  nd : (o.es.map (·.1)).Nodup
  len : 1 ≤ o.es.length ∧ o.es.length ≤ 6
  ordl : o.ord.length = o.es.length
  ordm : ∀ x, x < o.es.length → x ∈ o.ord
  ordv : ∀ x ∈ o.ord, x < o.es.length

/-- Entry e of a helper confirms what is there. -/
def Cons (n st : Nat) (e : Nat × Nat × Nat) : Prop := st ≠ 3 ∧ ∀ j, e.1 = 2304 + 8 * j → e.2.2 = Vone n st j

structure Inv (T : Nat → Nat) (n N : Nat) (m : MS) : Prop where
  size : 2 ≤ n ∧ n ≤ 6 ∧ 1 ≤ N ∧ N ≤ 3
  L : m.dev.L = 40
  stat : ∀ i, i < N → Stat n i (m.op i)
  val : ∀ j, j < 8 → m.dev.All (288 + j) (fun r => r < 4611686018427387904 ∧ Vok n (m.op 0).stage j (r % 1099511627776))
  sta : ∀ k, k < 8 → m.dev.All (32 * k) (fun r => r = unusedW ∨ (m.cur = some k ∧ 2 ≤ (m.op k).stage ∧ (m.op k).stage ≤ 4 ∧ r = (m.op k).status T))
  sta3 : ∀ c, m.cur = some c → (m.op c).stage = 3 → m.dev.All (32 * c) (fun r => r = (m.op c).status T)
  recd : ∀ c, m.cur = some c → 2 ≤ (m.op c).stage → (m.op c).stage ≤ 4 → ∀ q v, (ewords (m.op c).ents)[q]? = some v → m.dev.All (32 * c + 8 + q) (fun r => r = v)
  cur : ∀ c, m.cur = some c → c < N ∧ (m.op c).stage ≤ 4 ∧ (m.op c).done = false
  mid : ∀ i, i < N → 2 ≤ (m.op i).stage → (m.op i).stage ≤ 4 → m.cur = some i
  fresh : ∀ i, i < N → m.cur ≠ some i → (m.op i).done = false → (m.op i).ended = false → (m.op i).stage = 0 ∧ (m.op i).loaded = 0
  ld : ∀ c, m.cur = some c → c ≠ 0 → ∀ q x, q < (m.op c).loaded → (m.op c).ord[q]? = some x → Cons n (m.op 0).stage ((m.op c).es.getD x (0, 0, 0))
  ld1 : ∀ c, m.cur = some c → 1 ≤ (m.op c).stage → (m.op c).loaded = (m.op c).es.length
  main : ((m.op 0).done = true → (m.op 0).stage = 5 ∧ (m.op 0).changed = true) ∧ ((m.op 0).ended = true → (m.op 0).err = 0 → (m.op 0).done = true)
  tgt : ∀ i, i < N → ∀ c, (m.op i).tgt = some c → 1 ≤ (m.op i).inn ∧ (m.op i).inn ≤ (m.op c).stage
  prog : ∀ c, m.cur = some c → 1 ≤ (m.op c).stage → (m.op c).prog = Dv.prog ((m.op c).stores T (m.op c).stage)
  run : ∀ i, i < N → ∀ c, m.cur = some c → (m.op i).tgt = some c → (m.op i).inn = (m.op c).stage → Done m.dev (m.op i).t ((m.op c).stores T (m.op c).stage) (m.op i).next

/-- What holds besides between two steps. -/
structure Ready (T : Nat → Nat) (N : Nat) (m : MS) : Prop where
  ld : ∀ c, m.cur = some c → (m.op c).stage = 0 → (m.op c).loaded < (m.op c).es.length
  nx : ∀ i, i < N → ∀ c, m.cur = some c → (m.op i).tgt = some c → (m.op i).inn = (m.op c).stage → (m.op i).next < (Dv.prog ((m.op c).stores T (m.op c).stage)).length

theorem Stat.of_same {n i : Nat} {o o' : OpS} (h : Stat n i o) (hk : o'.k = o.k) (he : o'.es = o.es) (ho : o'.ord = o.ord) : Stat n i o' where
  k := hk.trans h.k
  main := fun e => he.trans (h.main e)
  help := fun e x hx => h.help e x (he ▸ hx)
  nd := by rw [he]; exact h.nd
  len := by rw [he]; exact h.len
  ordl := by rw [he, ho]; exact h.ordl
  ordm := fun x hx => by rw [ho]; exact h.ordm x (he ▸ hx)
  ordv := fun x hx => by rw [he]; exact h.ordv x (ho ▸ hx)

theorem mem_mainEs {n : Nat} {e : Nat × Nat × Nat} (h : e ∈ mainEs n) : ∃ j, j < n ∧ e = (2304 + 8 * j, j, 100 + j) := by
  obtain ⟨i, hi, rfl⟩ := List.mem_map.1 h
  have : i < n := by simpa using hi
  exact ⟨n - 1 - i, by omega, rfl⟩
theorem mainEs_mem {n j : Nat} (h : j < n) : (2304 + 8 * j, j, 100 + j) ∈ mainEs n := by
  refine List.mem_map.2 ⟨n - 1 - j, by simp; omega, ?_⟩
  have : n - 1 - (n - 1 - j) = j := by omega
  rw [this]

/-- An entry of an operation. -/
theorem Stat.ent {n i : Nat} {o : OpS} (h : Stat n i o) (hn : n ≤ 6) {e : Nat × Nat × Nat} (he : e ∈ o.es) :
    ∃ j, j < n ∧ e.1 = 2304 + 8 * j ∧ e.2.1 < 1000 ∧ e.2.2 < 1000 ∧ (i = 0 → e.2.1 = j ∧ e.2.2 = 100 + j) ∧ (i ≠ 0 → e.2.1 = e.2.2) := by
  by_cases hi : i = 0
  · rw [h.main hi] at he
    obtain ⟨j, hj, rfl⟩ := mem_mainEs he
    exact ⟨j, hj, rfl, by dsimp only; omega, by dsimp only; omega, fun _ => ⟨rfl, rfl⟩, fun h => absurd hi h⟩
  · obtain ⟨j, hj, h1, h2, h3⟩ := h.help hi e he
    exact ⟨j, hj, h1, by omega, by omega, fun h => absurd h hi, fun _ => h2⟩

theorem ents_length (o : OpS) : o.ents.length = o.es.length := by simp [OpS.ents]

/-- The stores of a stage. -/
theorem stores_mem {T : Nat → Nat} {n i s : Nat} {o : OpS} (h : Stat n i o) (hn : n ≤ 6) (hs : 1 ≤ s) (hs4 : s ≤ 4) {p : Nat × Nat} (hp : p ∈ o.stores T s) :
    (s = 1 ∧ ∃ q, q < 18 ∧ p.1 = 256 * i + 64 + 8 * q ∧ (ewords o.ents)[q]? = some p.2) ∨ (s = 2 ∧ p = (256 * i, o.status T)) ∨
    (s = 3 ∧ ∃ e ∈ o.es, ∃ j, j < n ∧ e.1 = 2304 + 8 * j ∧ p.1 = 2304 + 8 * j ∧ p.2 < 4611686018427387904 ∧ p.2 % 1099511627776 = e.2.2) ∨ (s = 4 ∧ p = (256 * i, unusedW)) := by
  have hk := h.k
  have : s = 1 ∨ s = 2 ∨ s = 3 ∨ s = 4 := by omega
  rcases this with rfl | rfl | rfl | rfl
  · refine .inl ⟨rfl, ?_⟩
    unfold OpS.stores at hp
    rw [if_pos rfl] at hp
    unfold OpS.recw at hp
    obtain ⟨q, hq, rfl⟩ := List.mem_map.1 hp
    have hq' : q < (ewords o.ents).length := by simpa using hq
    have hl := ewords_length o.ents
    rw [ents_length] at hl
    have := h.len
    refine ⟨q, by omega, by rw [hk], ?_⟩
    dsimp only
    rw [List.getD_eq_getElem?_getD, List.getElem?_eq_getElem hq']
    rfl
  · refine .inr (.inl ⟨rfl, ?_⟩)
    unfold OpS.stores at hp
    rw [if_neg (by omega), if_pos rfl] at hp
    simp at hp
    rw [hp, hk]
    rfl
  · refine .inr (.inr (.inl ⟨rfl, ?_⟩))
    unfold OpS.stores at hp
    rw [if_neg (by omega), if_neg (by omega), if_pos rfl] at hp
    unfold ewr at hp
    obtain ⟨x, hx, hxp⟩ := List.mem_map.1 hp
    obtain ⟨e, he, r, z, _, hz, hxe⟩ := ents_mem hx
    obtain ⟨j, hj, h1, _, h3, _⟩ := h.ent hn he
    have h4 := aft_lt (new := e.2.2) (raw := r) (by omega)
    have h5 := aft_mod (new := e.2.2) (raw := r) (by omega)
    rw [← hz] at h4 h5
    clear hz
    rw [hxe] at hxp
    dsimp only at hxp
    rw [← hxp]
    exact ⟨e, he, j, hj, h1, h1, h4, h5⟩
  · refine .inr (.inr (.inr ⟨rfl, ?_⟩))
    unfold OpS.stores at hp
    rw [if_neg (by omega), if_neg (by omega), if_neg (by omega)] at hp
    simp at hp
    rw [hp, hk]

theorem stores_ok {T : Nat → Nat} {n i s : Nat} {o : OpS} (h : Stat n i o) (hn : n ≤ 6) (hs : 1 ≤ s) (hs4 : s ≤ 4) : StOk (o.stores T s) where
  al := by
    intro p hp
    rcases stores_mem h hn hs hs4 hp with ⟨_, q, _, h1, _⟩ | ⟨_, rfl⟩ | ⟨_, e, _, j, _, _, h1, _⟩ | ⟨_, rfl⟩
    · rw [h1]; omega
    · dsimp only; omega
    · rw [h1]; omega
    · dsimp only; omega
  one := by
    intro p hp q hq hpq
    by_cases h3 : s = 3
    · subst h3
      unfold OpS.stores at hp hq
      rw [if_neg (by omega), if_neg (by omega), if_pos rfl] at hp hq
      unfold ewr at hp hq
      obtain ⟨x, hx, rfl⟩ := List.mem_map.1 hp
      obtain ⟨y, hy, rfl⟩ := List.mem_map.1 hq
      dsimp only at hpq ⊢
      obtain ⟨a, ha, hax⟩ := List.getElem_of_mem hx
      obtain ⟨b, hb, hby⟩ := List.getElem_of_mem hy
      have ha' : a < o.es.length := by rw [← ents_length]; exact ha
      have hb' : b < o.es.length := by rw [← ents_length]; exact hb
      have ea := ents_get (o := o) (List.getElem?_eq_getElem ha')
      have eb := ents_get (o := o) (List.getElem?_eq_getElem hb')
      rw [List.getElem?_eq_getElem ha, hax] at ea
      rw [List.getElem?_eq_getElem hb, hby] at eb
      have ea1 : x.1 = o.es[a].1 := by have := congrArg (fun z => z.1) (Option.some.inj ea); exact this
      have eb1 : y.1 = o.es[b].1 := by have := congrArg (fun z => z.1) (Option.some.inj eb); exact this
      obtain ⟨j, _, j1, _⟩ := h.ent hn (List.getElem_mem ha')
      obtain ⟨l, _, l1, _⟩ := h.ent hn (List.getElem_mem hb')
      have hab : (o.es.map (·.1))[a]'(by simpa using ha') = (o.es.map (·.1))[b]'(by simpa using hb') := by
        rw [List.getElem_map, List.getElem_map]
        omega
      have : a = b := (List.getElem_inj h.nd).1 hab
      subst this
      rw [← hax, ← hby]
    · rcases stores_mem h hn hs hs4 hp with ⟨_, q1, _, h1, v1⟩ | ⟨s1, rfl⟩ | ⟨s1, _⟩ | ⟨s1, rfl⟩
      · rcases stores_mem h hn hs hs4 hq with ⟨_, q2, _, h2, v2⟩ | ⟨s2, _⟩ | ⟨s2, _⟩ | ⟨s2, _⟩
        · have : q1 = q2 := by omega
          subst this
          rw [v1] at v2
          exact Option.some.inj v2
        all_goals omega
      · rcases stores_mem h hn hs hs4 hq with ⟨s2, _⟩ | ⟨_, rfl⟩ | ⟨s2, _⟩ | ⟨s2, _⟩
        · omega
        · rfl
        all_goals omega
      · omega
      · rcases stores_mem h hn hs hs4 hq with ⟨s2, _⟩ | ⟨s2, _⟩ | ⟨s2, _⟩ | ⟨_, rfl⟩
        · omega
        · omega
        · omega
        · rfl

/-! ### nothing but the handling of an operation changes -/
/-- The operations agree in all but ended, err. -/
structure Like (m m' : MS) : Prop where
  t : ∀ j, (m'.op j).t = (m.op j).t
  k : ∀ j, (m'.op j).k = (m.op j).k
  es : ∀ j, (m'.op j).es = (m.op j).es
  ord : ∀ j, (m'.op j).ord = (m.op j).ord
  seen : ∀ j, (m'.op j).seen = (m.op j).seen
  loaded : ∀ j, (m'.op j).loaded = (m.op j).loaded
  stage : ∀ j, (m'.op j).stage = (m.op j).stage
  prog : ∀ j, (m'.op j).prog = (m.op j).prog
  done : ∀ j, (m'.op j).done = (m.op j).done
  changed : ∀ j, (m'.op j).changed = (m.op j).changed
  tgt : ∀ j, (m'.op j).tgt = (m.op j).tgt
  inn : ∀ j, (m'.op j).inn = (m.op j).inn
  next : ∀ j, (m'.op j).next = (m.op j).next
theorem ents_same {a b : OpS} (he : a.es = b.es) (hs : a.seen = b.seen) : a.ents = b.ents := by unfold OpS.ents; rw [he, hs]
theorem status_same {T : Nat → Nat} {a b : OpS} (he : a.es = b.es) (hs : a.seen = b.seen) : a.status T = b.status T := by unfold OpS.status; rw [he, ents_same he hs]
theorem stores_same {T : Nat → Nat} {a b : OpS} (hk : a.k = b.k) (he : a.es = b.es) (hs : a.seen = b.seen) (s : Nat) : a.stores T s = b.stores T s := by
  unfold OpS.stores OpS.recw
  rw [hk, he, ents_same he hs]
theorem Like.ents {m m' : MS} (h : Like m m') (j : Nat) : (m'.op j).ents = (m.op j).ents := ents_same (h.es j) (h.seen j)
theorem Like.status {T : Nat → Nat} {m m' : MS} (h : Like m m') (j : Nat) : (m'.op j).status T = (m.op j).status T := status_same (h.es j) (h.seen j)
theorem Like.stores {T : Nat → Nat} {m m' : MS} (h : Like m m') (j s : Nat) : (m'.op j).stores T s = (m.op j).stores T s := stores_same (h.k j) (h.es j) (h.seen j) s

theorem Inv.like {T : Nat → Nat} {n N : Nat} {m m' : MS} (h : Inv T n N m) (hl : Like m m') (hd : Eqv m'.dev m.dev) (hc : m'.cur = m.cur) (hen : ∀ j, (m.op j).ended = true → (m'.op j).ended = true)
    (hm : (m'.op 0).ended = true → (m'.op 0).err = 0 → (m.op 0).done = true) : Inv T n N m' where
  size := h.size
  L := hd.L.trans h.L
  stat := fun i hi => (h.stat i hi).of_same (hl.k i) (hl.es i) (hl.ord i)
  val := fun j hj => by rw [hl.stage]; exact hd.all (h.val j hj)
  sta := fun k hk => by rw [hc, hl.stage, hl.status]; exact hd.all (h.sta k hk)
  sta3 := fun c hcc hs => by rw [hc] at hcc; rw [hl.stage] at hs; rw [hl.status]; exact hd.all (h.sta3 c hcc hs)
  recd := fun c hcc h1 h2 q v hq => by rw [hc] at hcc; rw [hl.stage] at h1 h2; rw [hl.ents] at hq; exact hd.all (h.recd c hcc h1 h2 q v hq)
  cur := fun c hcc => by rw [hc] at hcc; rw [hl.stage, hl.done]; exact h.cur c hcc
  mid := fun i hi h1 h2 => by rw [hl.stage] at h1 h2; rw [hc]; exact h.mid i hi h1 h2
  fresh := fun i hi h1 h2 h3 => by
    rw [hc] at h1; rw [hl.done] at h2; rw [hl.stage, hl.loaded]
    refine h.fresh i hi h1 h2 ?_
    cases e : (m.op i).ended with
    | false => rfl
    | true => rw [hen i e] at h3; cases h3
  ld := fun c hcc h0 q x h1 h2 => by rw [hc] at hcc; rw [hl.loaded] at h1; rw [hl.ord] at h2; rw [hl.stage, hl.es]; exact h.ld c hcc h0 q x h1 h2
  ld1 := fun c hcc h1 => by rw [hc] at hcc; rw [hl.stage] at h1; rw [hl.loaded, hl.es]; exact h.ld1 c hcc h1
  main := by rw [hl.done, hl.stage, hl.changed]; exact ⟨h.main.1, hm⟩
  tgt := fun i hi c h1 => by rw [hl.tgt] at h1; rw [hl.inn, hl.stage]; exact h.tgt i hi c h1
  prog := fun c hcc h1 => by rw [hc] at hcc; rw [hl.stage] at h1; rw [hl.prog, hl.stage, hl.stores]; exact h.prog c hcc h1
  run := fun i hi c hcc h1 h2 => by
    rw [hc] at hcc; rw [hl.tgt] at h1; rw [hl.inn, hl.stage] at h2; rw [hl.t, hl.stores, hl.stage, hl.next]
    exact Done.eqv hd (h.run i hi c hcc h1 h2)
theorem Ready.like {T : Nat → Nat} {N : Nat} {m m' : MS} (h : Ready T N m) (hl : Like m m') (hc : m'.cur = m.cur) : Ready T N m' where
  ld := fun c hcc h1 => by rw [hc] at hcc; rw [hl.stage] at h1; rw [hl.loaded, hl.es]; exact h.ld c hcc h1
  nx := fun i hi c hcc h1 h2 => by
    rw [hc] at hcc; rw [hl.tgt] at h1; rw [hl.inn, hl.stage] at h2; rw [hl.stores, hl.stage, hl.next]
    exact h.nx i hi c hcc h1 h2

/-- The current operation is given up before it is decided, or when it is done. -/
theorem Inv.drop {T : Nat → Nat} {n N : Nat} {m : MS} (h : Inv T n N m) (hd : ∀ c, m.cur = some c → (m.op c).stage < 2 ∧ (m.op c).ended = true) : Inv T n N { m with cur := none } where
  size := h.size
  L := h.L
  stat := h.stat
  val := h.val
  sta := fun k hk => (h.sta k hk).imp (fun r hr => by
    rcases hr with hr | ⟨h1, h2, _⟩
    · exact .inl hr
    · have := (hd k h1).1; omega)
  sta3 := fun c hc => by cases hc
  recd := fun c hc => by cases hc
  cur := fun c hc => by cases hc
  mid := fun i hi h1 h2 => by
    have h3 := h.mid i hi h1 h2
    have h4 := (hd i h3).1
    dsimp only at h1
    omega
  fresh := fun i hi _ h2 h3 => by
    by_cases e : m.cur = some i
    · have := (hd i e).2
      dsimp only at h3
      rw [this] at h3; cases h3
    · exact h.fresh i hi e h2 h3
  ld := fun c hc => by cases hc
  ld1 := fun c hc => by cases hc
  main := h.main
  tgt := h.tgt
  prog := fun c hc => by cases hc
  run := fun i hi c hc => by cases hc
theorem Ready.none {T : Nat → Nat} {N : Nat} {m : MS} (h : m.cur = none) : Ready T N m where
  ld := fun c hc => by rw [h] at hc; cases hc
  nx := fun i hi c hc => by rw [h] at hc; cases hc

theorem like_set {m : MS} {i : Nat} {o : OpS} (h : o.t = (m.op i).t ∧ o.k = (m.op i).k ∧ o.es = (m.op i).es ∧ o.ord = (m.op i).ord ∧ o.seen = (m.op i).seen ∧ o.loaded = (m.op i).loaded ∧ o.stage = (m.op i).stage ∧ o.prog = (m.op i).prog ∧ o.done = (m.op i).done ∧ o.changed = (m.op i).changed ∧ o.tgt = (m.op i).tgt ∧ o.inn = (m.op i).inn ∧ o.next = (m.op i).next) : Like m (m.set i o) := by
  obtain ⟨h1, h2, h3, h4, h5, h6, h7, h8, h9, h10, h11, h12, h13⟩ := h
  have key : ∀ {α : Type} (f : OpS → α), f o = f (m.op i) → ∀ j, f ((m.set i o).op j) = f (m.op j) := by
    intro α f hf j
    unfold MS.set upd
    dsimp only
    split
    · rename_i e; rw [e]; exact hf
    · rfl
  exact ⟨key _ h1, key _ h2, key _ h3, key _ h4, key _ h5, key _ h6, key _ h7, key _ h8, key _ h9, key _ h10, key _ h11, key _ h12, key _ h13⟩
theorem set_op' (m : MS) (i j : Nat) (o : OpS) : (m.set i o).op j = if j = i then o else m.op j := rfl

theorem Inv.stop {T : Nat → Nat} {n N : Nat} {m : MS} (h : Inv T n N m) (hr : Ready T N m) {i e : Nat} (hi : i < N) (he : e = 0 → (m.op i).done = true) : Inv T n N (m.stop i e) ∧ Ready T N (m.stop i e) := by
  obtain ⟨m1, hm1⟩ : ∃ m1 : MS, m1 = { m.set i { m.op i with ended := true, err := e } with busy := upd m.busy (m.op i).k false } := ⟨_, rfl⟩
  have hl : Like m m1 := by
    rw [hm1]
    have l := like_set (m := m) (i := i) (o := { m.op i with ended := true, err := e }) ⟨rfl, rfl, rfl, rfl, rfl, rfl, rfl, rfl, rfl, rfl, rfl, rfl, rfl⟩
    exact ⟨l.t, l.k, l.es, l.ord, l.seen, l.loaded, l.stage, l.prog, l.done, l.changed, l.tgt, l.inn, l.next⟩
  have hop : ∀ j, m1.op j = if j = i then { m.op i with ended := true, err := e } else m.op j := by intro j; rw [hm1]; rfl
  have hc : m1.cur = m.cur := by rw [hm1]; rfl
  have h1 : Inv T n N m1 := by
    refine h.like hl (by rw [hm1]; exact Eqv.refl _) hc (fun j hj => ?_) (fun a b => ?_)
    · rw [hop j]; split
      · rfl
      · exact hj
    · rw [hop 0] at a b
      by_cases e0 : 0 = i
      · rw [if_pos e0] at b
        rw [← e0] at he
        exact he b
      · rw [if_neg e0] at a b
        exact h.main.2 a b
  have hs : m.stop i e = if (m.op i).done = false ∧ m.cur = some i ∧ (m.op i).stage < 2 then { m1 with cur := none } else m1 := by rw [hm1]; rfl
  rw [hs]
  split
  · rename_i hcond
    refine ⟨h1.drop (fun c hcc => ?_), Ready.none rfl⟩
    rw [hc, hcond.2.1] at hcc
    cases hcc
    rw [hl.stage, hop i, if_pos rfl]
    exact ⟨hcond.2.2, rfl⟩
  · exact ⟨h1, hr.like hl hc⟩

/-- An operation becomes the current one. -/
theorem Inv.take {T : Nat → Nat} {n N : Nat} {m : MS} (h : Inv T n N m) {i : Nat} (hi : i < N) (hc : m.cur = none) (hd : (m.op i).done = false) (he : (m.op i).ended = false) : Inv T n N { m with cur := some i } ∧ Ready T N { m with cur := some i } := by
  have hf := h.fresh i hi (by rw [hc]; simp) hd he
  refine ⟨{ size := h.size, L := h.L, stat := h.stat, val := h.val, sta := ?_, sta3 := ?_, recd := ?_, cur := ?_, mid := ?_, fresh := ?_, ld := ?_, ld1 := ?_, main := h.main, tgt := h.tgt, prog := ?_, run := ?_ }, ?_, ?_⟩
  · exact fun k hk => (h.sta k hk).imp (fun r hr => by
      rcases hr with hr | ⟨h1, _⟩
      · exact .inl hr
      · rw [hc] at h1; cases h1)
  · intro c hcc h3
    cases hcc
    have := hf.1; dsimp only at h3; omega
  · intro c hcc h3
    cases hcc
    have := hf.1; dsimp only at h3; omega
  · intro c hcc
    cases hcc
    have := hf.1
    exact ⟨hi, by dsimp only; omega, hd⟩
  · intro j hj h1 h2
    have := h.mid j hj h1 h2
    rw [hc] at this; cases this
  · intro j hj _ h2 h3
    exact h.fresh j hj (by rw [hc]; simp) h2 h3
  · intro c hcc h0 q x hq
    cases hcc
    have := hf.2; dsimp only at hq; omega
  · intro c hcc h1
    cases hcc
    have := hf.1; dsimp only at h1; omega
  · intro c hcc h1
    cases hcc
    have := hf.1; dsimp only at h1; omega
  · intro j hj c hcc h1 h2
    cases hcc
    have h3 := h.tgt j hj _ h1
    have := hf.1; dsimp only at h2; omega
  · intro c hcc h1
    cases hcc
    have := (h.stat _ hi).len
    have := hf.2
    dsimp only
    omega
  · intro j hj c hcc h1 h2
    cases hcc
    have h3 := h.tgt j hj _ h1
    have := hf.1; dsimp only at h2; omega
end Go.Proofs.YtejlgnebofdijaaGreatDoor.Dv

namespace Go.Proofs.YtejlgnebofdijaaGreatDoor.Dv
open Go.RowKit
set_option linter.unusedVariables false

theorem set_key {m : MS} {i : Nat} {o : OpS} {α : Type} (f : OpS → α) (hf : f o = f (m.op i)) (j : Nat) : f ((m.set i o).op j) = f (m.op j) := by
  unfold MS.set upd
  dsimp only
  split
  · rename_i e; rw [e]; exact hf
  · rfl
theorem set_same (m : MS) (i : Nat) (o : OpS) : (m.set i o).op i = o := by rw [set_op', if_pos rfl]
theorem set_ne (m : MS) {i j : Nat} (o : OpS) (h : j ≠ i) : (m.set i o).op j = m.op j := by rw [set_op', if_neg h]

/-- The next word of the current operation is as its entry expects. -/
theorem Inv.seen {T : Nat → Nat} {n N : Nat} {m : MS} (h : Inv T n N m) (hok : m.dev.Ok) {c x : Nat} {e : Nat × Nat × Nat} {sn : List Nat} (hc : m.cur = some c) (hs : (m.op c).stage = 0)
    (hx : (m.op c).ord[(m.op c).loaded]? = some x) (he : (m.op c).es[x]? = some e) (hv : m.dev.cur (e.1 / 8) % 1099511627776 = e.2.1) :
    Inv T n N (m.set c { m.op c with seen := sn, loaded := (m.op c).loaded + 1 }) := by
  obtain ⟨o, ho⟩ : ∃ o : OpS, o = { m.op c with seen := sn, loaded := (m.op c).loaded + 1 } := ⟨_, rfl⟩
  rw [← ho]
  have kk : ∀ j, ((m.set c o).op j).k = (m.op j).k := set_key (·.k) (by rw [ho])
  have ke : ∀ j, ((m.set c o).op j).es = (m.op j).es := set_key (·.es) (by rw [ho])
  have ko : ∀ j, ((m.set c o).op j).ord = (m.op j).ord := set_key (·.ord) (by rw [ho])
  have ks : ∀ j, ((m.set c o).op j).stage = (m.op j).stage := set_key (·.stage) (by rw [ho])
  have kd : ∀ j, ((m.set c o).op j).done = (m.op j).done := set_key (·.done) (by rw [ho])
  have kc : ∀ j, ((m.set c o).op j).changed = (m.op j).changed := set_key (·.changed) (by rw [ho])
  have kn : ∀ j, ((m.set c o).op j).ended = (m.op j).ended := set_key (·.ended) (by rw [ho])
  have kr : ∀ j, ((m.set c o).op j).err = (m.op j).err := set_key (·.err) (by rw [ho])
  have kt : ∀ j, ((m.set c o).op j).tgt = (m.op j).tgt := set_key (·.tgt) (by rw [ho])
  have ki : ∀ j, ((m.set c o).op j).inn = (m.op j).inn := set_key (·.inn) (by rw [ho])
  have hcN := (h.cur c hc).1
  have hem : e ∈ (m.op c).es := List.mem_of_getElem? he
  exact {
    size := h.size
    L := h.L
    stat := fun i hi => (h.stat i hi).of_same (kk i) (ke i) (ko i)
    val := fun j hj => by rw [ks]; exact h.val j hj
    sta := fun k hk => (h.sta k hk).imp (fun r hr => by
      rcases hr with hr | ⟨h1, h2, h3⟩
      · exact .inl hr
      · rw [hc] at h1; cases h1; omega)
    sta3 := fun c' hc' h3 => by
      have : c' = c := by have : m.cur = some c' := hc'; rw [hc] at this; cases this; rfl
      subst this; rw [ks] at h3; omega
    recd := fun c' hc' h3 => by
      have : c' = c := by have : m.cur = some c' := hc'; rw [hc] at this; cases this; rfl
      subst this; rw [ks] at h3; omega
    cur := fun c' hc' => by rw [ks, kd]; exact h.cur c' hc'
    mid := fun i hi h1 h2 => by rw [ks] at h1 h2; exact h.mid i hi h1 h2
    fresh := fun i hi h1 h2 h3 => by
      have hne : i ≠ c := fun e => h1 (by rw [e]; exact hc)
      rw [set_ne m o hne] at h2 h3 ⊢
      exact h.fresh i hi h1 h2 h3
    ld := fun c' hc' h0 q x' h1 h2 => by
      have : c' = c := by have : m.cur = some c' := hc'; rw [hc] at this; cases this; rfl
      subst this
      rw [ks, ke]
      rw [ko] at h2
      rw [set_same, ho] at h1
      dsimp only at h1
      rcases Nat.lt_or_ge q (m.op c').loaded with hq | hq
      · exact h.ld c' hc h0 q x' hq h2
      · have hq2 : q = (m.op c').loaded := by omega
        rw [hq2, hx] at h2
        cases h2
        have hge : (m.op c').es.getD x (0, 0, 0) = e := by rw [List.getD_eq_getElem?_getD, he]; rfl
        rw [hge]
        have h3 : (m.op 0).stage ≠ 3 := by
          intro h3
          have := h.mid 0 (by have := h.size; omega) (by omega) (by omega)
          rw [hc] at this
          cases this
          exact h0 rfl
        refine ⟨h3, fun j hj => ?_⟩
        obtain ⟨j', hj', e1, _, _, _, e2⟩ := (h.stat c' hcN).ent h.size.2.1 hem
        have hjj : j' = j := by omega
        subst hjj
        have hw : e.1 / 8 = 288 + j' := by omega
        rw [hw] at hv
        have hV := (DSt.All.cur (h.val j' (by have := h.size; omega)) hok).2
        rw [hv] at hV
        rw [← e2 h0]
        exact Vok_eq h3 hV
    ld1 := fun c' hc' h3 => by
      have : c' = c := by have : m.cur = some c' := hc'; rw [hc] at this; cases this; rfl
      subst this; rw [ks] at h3; omega
    main := by rw [kd, ks, kc, kn, kr]; exact h.main
    tgt := fun i hi c' h1 => by rw [kt] at h1; rw [ki, ks]; exact h.tgt i hi c' h1
    prog := fun c' hc' h3 => by
      have : c' = c := by have : m.cur = some c' := hc'; rw [hc] at this; cases this; rfl
      subst this; rw [ks] at h3; omega
    run := fun i hi c' hc' h1 h2 => by
      have : c' = c := by have : m.cur = some c' := hc'; rw [hc] at this; cases this; rfl
      subst this
      rw [kt] at h1; rw [ki, ks] at h2
      have := h.tgt i hi _ h1
      omega }

/-- A helper finds another word. -/
theorem Inv.fails {T : Nat → Nat} {n N : Nat} {m : MS} (h : Inv T n N m) {c : Nat} (hc : m.cur = some c) (hs : (m.op c).stage = 0) (h0 : c ≠ 0) : Inv T n N (m.finish c false) := by
  obtain ⟨o, ho⟩ : ∃ o : OpS, o = { m.op c with done := true, changed := false } := ⟨_, rfl⟩
  have hfin : m.finish c false = { m.set c o with cur := none } := by rw [ho]; rfl
  rw [hfin]
  have kk : ∀ j, ((m.set c o).op j).k = (m.op j).k := set_key (·.k) (by rw [ho])
  have ke : ∀ j, ((m.set c o).op j).es = (m.op j).es := set_key (·.es) (by rw [ho])
  have ko : ∀ j, ((m.set c o).op j).ord = (m.op j).ord := set_key (·.ord) (by rw [ho])
  have ks : ∀ j, ((m.set c o).op j).stage = (m.op j).stage := set_key (·.stage) (by rw [ho])
  have kt : ∀ j, ((m.set c o).op j).tgt = (m.op j).tgt := set_key (·.tgt) (by rw [ho])
  have ki : ∀ j, ((m.set c o).op j).inn = (m.op j).inn := set_key (·.inn) (by rw [ho])
  have h00 : (m.set c o).op 0 = m.op 0 := set_ne m o (Ne.symm h0)
  exact {
    size := h.size
    L := h.L
    stat := fun i hi => (h.stat i hi).of_same (kk i) (ke i) (ko i)
    val := fun j hj => by dsimp only; rw [ks]; exact h.val j hj
    sta := fun k hk => (h.sta k hk).imp (fun r hr => by
      rcases hr with hr | ⟨h1, h2, h3⟩
      · exact .inl hr
      · rw [hc] at h1; cases h1; omega)
    sta3 := fun c' hc' => by cases hc'
    recd := fun c' hc' => by cases hc'
    cur := fun c' hc' => by cases hc'
    mid := fun i hi h1 h2 => by
      dsimp only at h1 h2
      rw [ks] at h1 h2
      have := h.mid i hi h1 h2
      rw [hc] at this; cases this; omega
    fresh := fun i hi _ h2 h3 => by
      dsimp only at h2 h3 ⊢
      have hne : i ≠ c := by
        intro e
        subst e
        rw [set_same, ho] at h2
        cases h2
      rw [set_ne m o hne] at h2 h3 ⊢
      exact h.fresh i hi (by rw [hc]; intro e; cases e; exact hne rfl) h2 h3
    ld := fun c' hc' => by cases hc'
    ld1 := fun c' hc' => by cases hc'
    main := by dsimp only; rw [h00]; exact h.main
    tgt := fun i hi c' h1 => by dsimp only at h1 ⊢; rw [kt] at h1; rw [ki, ks]; exact h.tgt i hi c' h1
    prog := fun c' hc' => by cases hc'
    run := fun i hi c' hc' => by cases hc' }

theorem ewr_has {o : OpS} {e : Nat × Nat × Nat} (h : e ∈ o.es) : ∃ z r, z = aft e.2.2 r ∧ (e.1, z) ∈ ewr o.ents := by
  obtain ⟨x, hx, hxe⟩ := List.getElem_of_mem h
  have h1 := ents_get (o := o) (k := x) (x := e) (by rw [List.getElem?_eq_getElem hx, hxe])
  refine ⟨aft e.2.2 (o.seen.getD x 0), o.seen.getD x 0, rfl, ?_⟩
  unfold ewr
  exact List.mem_map.2 ⟨_, List.mem_of_getElem? h1, rfl⟩

/-- The current operation goes on to stage s. -/
theorem Inv.enter {T : Nat → Nat} {n N : Nat} {m : MS} (h : Inv T n N m) {c s : Nat} (hc : m.cur = some c) (hs : (m.op c).stage + 1 = s) (hs4 : s ≤ 4)
    (h1 : s = 1 → (m.op c).loaded = (m.op c).es.length) (hall : 2 ≤ s → ∀ p ∈ (m.op c).stores T (m.op c).stage, m.dev.All (p.1 / 8) (fun v => v = p.2)) :
    Inv T n N (m.enter T c s) ∧ Ready T N (m.enter T c s) := by
  obtain ⟨o, ho⟩ : ∃ o : OpS, o = { m.op c with stage := s, prog := Dv.prog ((m.op c).stores T s) } := ⟨_, rfl⟩
  have hen : m.enter T c s = m.set c o := by rw [ho]; unfold MS.enter; rw [if_pos hs4]
  rw [hen]
  have kk : ∀ j, ((m.set c o).op j).k = (m.op j).k := set_key (·.k) (by rw [ho])
  have ke : ∀ j, ((m.set c o).op j).es = (m.op j).es := set_key (·.es) (by rw [ho])
  have ko : ∀ j, ((m.set c o).op j).ord = (m.op j).ord := set_key (·.ord) (by rw [ho])
  have ksn : ∀ j, ((m.set c o).op j).seen = (m.op j).seen := set_key (·.seen) (by rw [ho])
  have kl : ∀ j, ((m.set c o).op j).loaded = (m.op j).loaded := set_key (·.loaded) (by rw [ho])
  have kd : ∀ j, ((m.set c o).op j).done = (m.op j).done := set_key (·.done) (by rw [ho])
  have kc : ∀ j, ((m.set c o).op j).changed = (m.op j).changed := set_key (·.changed) (by rw [ho])
  have kn : ∀ j, ((m.set c o).op j).ended = (m.op j).ended := set_key (·.ended) (by rw [ho])
  have kr : ∀ j, ((m.set c o).op j).err = (m.op j).err := set_key (·.err) (by rw [ho])
  have kt : ∀ j, ((m.set c o).op j).tgt = (m.op j).tgt := set_key (·.tgt) (by rw [ho])
  have ki : ∀ j, ((m.set c o).op j).inn = (m.op j).inn := set_key (·.inn) (by rw [ho])
  have kst : ∀ j, ((m.set c o).op j).status T = (m.op j).status T := fun j => status_same (ke j) (ksn j)
  have ken : ∀ j, ((m.set c o).op j).ents = (m.op j).ents := fun j => ents_same (ke j) (ksn j)
  have kso : ∀ j z, ((m.set c o).op j).stores T z = (m.op j).stores T z := fun j z => stores_same (kk j) (ke j) (ksn j) z
  have kcc : ((m.set c o).op c).stage = s := by rw [set_same, ho]
  have kne : ∀ j, j ≠ c → ((m.set c o).op j).stage = (m.op j).stage := fun j hj => by rw [set_ne m o hj]
  have kge : ∀ j, (m.op j).stage ≤ ((m.set c o).op j).stage := by
    intro j
    by_cases e : j = c
    · rw [e, kcc]; omega
    · rw [kne j e]; exact Nat.le_refl _
  have only : ∀ {c'}, (m.set c o).cur = some c' → c' = c := by
    intro c' hc'
    have : m.cur = some c' := hc'
    rw [hc] at this; cases this; rfl
  have hcN := (h.cur c hc).1
  have hk := (h.stat c hcN).k
  refine ⟨{ size := h.size, L := h.L, stat := fun i hi => (h.stat i hi).of_same (kk i) (ke i) (ko i), val := ?_, sta := ?_, sta3 := ?_, recd := ?_, cur := ?_, mid := ?_, fresh := ?_, ld := ?_, ld1 := ?_, main := ?_, tgt := ?_, prog := ?_, run := ?_ }, ?_, ?_⟩
  · intro j hj
    have hv := h.val j hj
    by_cases e0 : c = 0
    · subst e0
      rw [kcc]
      have : s = 1 ∨ s = 2 ∨ s = 3 ∨ s = 4 := by omega
      rcases this with rfl | rfl | rfl | rfl
      · refine hv.imp (fun r hr => ⟨hr.1, ?_⟩)
        have h2 := hr.2
        unfold Vok at h2 ⊢
        rw [if_pos (by omega)] at h2 ⊢
        exact h2
      · refine hv.imp (fun r hr => ⟨hr.1, ?_⟩)
        have h2 := hr.2
        unfold Vok at h2 ⊢
        rw [if_pos (by omega)] at h2 ⊢
        exact h2
      · refine hv.imp (fun r hr => ⟨hr.1, ?_⟩)
        have h2 := hr.2
        unfold Vok at h2 ⊢
        rw [if_pos (by omega)] at h2
        rw [if_neg (by omega), if_pos rfl]
        exact .inl h2
      · by_cases hjn : j < n
        · have hes := (h.stat 0 hcN).main rfl
          have hmem : (2304 + 8 * j, j, 100 + j) ∈ (m.op 0).es := by rw [hes]; exact mainEs_mem hjn
          obtain ⟨z, r, hz, hm⟩ := ewr_has hmem
          have hst : (m.op 0).stores T (m.op 0).stage = ewr (m.op 0).ents := by
            have : (m.op 0).stage = 3 := by omega
            rw [this]; rfl
          have ha := hall (by omega) _ (by rw [hst]; exact hm)
          have h4 := aft_lt (new := 100 + j) (raw := r) (by omega)
          have h5 := aft_mod (new := 100 + j) (raw := r) (by omega)
          dsimp only at hz
          rw [← hz] at h4 h5
          clear hz
          dsimp only at ha
          have hw : (2304 + 8 * j) / 8 = 288 + j := by omega
          rw [hw] at ha
          refine ha.imp (fun v hv => ?_)
          rw [hv]
          refine ⟨h4, ?_⟩
          rw [h5]
          unfold Vok
          rw [if_neg (by omega), if_neg (by omega), if_pos hjn]
        · refine hv.imp (fun r hr => ⟨hr.1, ?_⟩)
          have h2 := hr.2
          unfold Vok at h2 ⊢
          rw [if_neg (by omega), if_pos (by omega)] at h2
          rw [if_neg (by omega), if_neg (by omega), if_neg hjn]
          rcases h2 with h2 | h2
          · exact h2
          · exact absurd h2.1 hjn
    · rw [kne 0 (Ne.symm e0)]
      exact hv
  · intro k hk8
    refine (h.sta k hk8).imp (fun r hr => ?_)
    rcases hr with hr | ⟨a1, a2, a3, a4⟩
    · exact .inl hr
    · have : k = c := by rw [hc] at a1; cases a1; rfl
      subst this
      refine .inr ⟨hc, ?_, ?_, ?_⟩
      · rw [kcc]; omega
      · rw [kcc]; exact hs4
      · rw [kst]; exact a4
  · intro c' hc' h3
    cases only hc'
    rw [kcc] at h3
    subst h3
    rw [kst]
    have hst : (m.op c).stores T (m.op c).stage = [(256 * (m.op c).k, (m.op c).status T)] := by
      have : (m.op c).stage = 2 := by omega
      rw [this]; rfl
    have ha := hall (by omega) (256 * (m.op c).k, (m.op c).status T) (by rw [hst]; simp)
    dsimp only at ha
    rw [hk] at ha
    have hw : 256 * c / 8 = 32 * c := by omega
    rw [hw] at ha
    exact ha
  · intro c' hc' h2 h4 q v hq
    cases only hc'
    rw [kcc] at h2 h4
    rw [ken] at hq
    by_cases e2 : s = 2
    · have hst : (m.op c).stores T (m.op c).stage = (m.op c).recw := by
        have : (m.op c).stage = 1 := by omega
        rw [this]; rfl
      have hq' := (List.getElem?_eq_some_iff.1 hq).1
      have ha := hall h2 (256 * (m.op c).k + 64 + 8 * q, v) (by
        rw [hst]
        unfold OpS.recw
        refine List.mem_map.2 ⟨q, by simpa using hq', ?_⟩
        rw [List.getD_eq_getElem?_getD, hq]
        rfl)
      dsimp only at ha
      rw [hk] at ha
      have hw : (256 * c + 64 + 8 * q) / 8 = 32 * c + 8 + q := by omega
      rw [hw] at ha
      exact ha
    · exact h.recd c hc (by omega) (by omega) q v hq
  · intro c' hc'
    cases only hc'
    rw [kcc, kd]
    exact ⟨hcN, hs4, (h.cur c hc).2.2⟩
  · intro i hi a b
    by_cases e : i = c
    · rw [e]; exact hc
    · rw [kne i e] at a b
      exact h.mid i hi a b
  · intro i hi a b d
    have hne : i ≠ c := fun e => a (by rw [e]; exact hc)
    rw [set_ne m o hne] at b d ⊢
    exact h.fresh i hi a b d
  · intro c' hc' h0 q x a b
    cases only hc'
    rw [kl] at a; rw [ko] at b
    rw [kne 0 (Ne.symm h0), ke]
    exact h.ld c hc h0 q x a b
  · intro c' hc' _
    cases only hc'
    rw [kl, ke]
    by_cases e1 : s = 1
    · exact h1 e1
    · exact h.ld1 c hc (by omega)
  · rw [kd, kc, kn, kr]
    refine ⟨fun hd => ?_, h.main.2⟩
    by_cases e0 : c = 0
    · subst e0
      rw [(h.cur 0 hc).2.2] at hd; cases hd
    · rw [kne 0 (Ne.symm e0)]
      exact h.main.1 hd
  · intro i hi c' a
    rw [kt] at a
    rw [ki]
    have := h.tgt i hi c' a
    exact ⟨this.1, Nat.le_trans this.2 (kge c')⟩
  · intro c' hc' _
    cases only hc'
    rw [kso, kcc, set_same, ho]
  · intro i hi c' hc' a b
    cases only hc'
    rw [kt] at a
    rw [ki, kcc] at b
    have := h.tgt i hi c a
    omega
  · intro c' hc' a
    cases only hc'
    rw [kcc] at a
    omega
  · intro i hi c' hc' a b
    cases only hc'
    rw [kt] at a
    rw [ki, kcc] at b
    have := h.tgt i hi c a
    omega

/-- The current operation has cleared its descriptor. -/
theorem Inv.over {T : Nat → Nat} {n N : Nat} {m : MS} (h : Inv T n N m) {c : Nat} (hc : m.cur = some c) (hs : (m.op c).stage = 4)
    (hall : ∀ p ∈ (m.op c).stores T (m.op c).stage, m.dev.All (p.1 / 8) (fun v => v = p.2)) : Inv T n N (m.enter T c 5) ∧ Ready T N (m.enter T c 5) := by
  obtain ⟨o, ho⟩ : ∃ o : OpS, o = { m.op c with stage := 5, done := true, changed := true } := ⟨_, rfl⟩
  have hen : m.enter T c 5 = { m.set c o with cur := none } := by
    rw [ho]
    unfold MS.enter
    rw [if_neg (by omega)]
    unfold MS.finish
    rw [set_same]
    unfold MS.set
    dsimp only
    congr 1
    funext j
    unfold upd
    split <;> rfl
  rw [hen]
  have kk : ∀ j, ((m.set c o).op j).k = (m.op j).k := set_key (·.k) (by rw [ho])
  have ke : ∀ j, ((m.set c o).op j).es = (m.op j).es := set_key (·.es) (by rw [ho])
  have ko : ∀ j, ((m.set c o).op j).ord = (m.op j).ord := set_key (·.ord) (by rw [ho])
  have kt : ∀ j, ((m.set c o).op j).tgt = (m.op j).tgt := set_key (·.tgt) (by rw [ho])
  have ki : ∀ j, ((m.set c o).op j).inn = (m.op j).inn := set_key (·.inn) (by rw [ho])
  have kcc : ((m.set c o).op c).stage = 5 := by rw [set_same, ho]
  have kne : ∀ j, j ≠ c → ((m.set c o).op j).stage = (m.op j).stage := fun j hj => by rw [set_ne m o hj]
  have kge : ∀ j, (m.op j).stage ≤ ((m.set c o).op j).stage := by
    intro j
    by_cases e : j = c
    · rw [e, kcc]; omega
    · rw [kne j e]; exact Nat.le_refl _
  have hcN := (h.cur c hc).1
  have hk := (h.stat c hcN).k
  refine ⟨{ size := h.size, L := h.L, stat := fun i hi => (h.stat i hi).of_same (kk i) (ke i) (ko i), val := ?_, sta := ?_, sta3 := fun c' hc' => (by cases hc'), recd := fun c' hc' => (by cases hc'), cur := fun c' hc' => (by cases hc'), mid := ?_, fresh := ?_, ld := fun c' hc' => (by cases hc'), ld1 := fun c' hc' => (by cases hc'), main := ?_, tgt := ?_, prog := fun c' hc' => (by cases hc'), run := fun i hi c' hc' => (by cases hc') }, Ready.none rfl⟩
  · intro j hj
    have hv := h.val j hj
    dsimp only
    by_cases e0 : c = 0
    · subst e0
      rw [kcc]
      refine hv.imp (fun r hr => ⟨hr.1, ?_⟩)
      have h2 := hr.2
      unfold Vok at h2 ⊢
      rw [if_neg (by omega), if_neg (by omega)] at h2 ⊢
      exact h2
    · rw [kne 0 (Ne.symm e0)]
      exact hv
  · intro k hk8
    by_cases e : k = c
    · subst e
      have hst : (m.op k).stores T (m.op k).stage = [(256 * (m.op k).k, unusedW)] := by rw [hs]; rfl
      have ha := hall (256 * (m.op k).k, unusedW) (by rw [hst]; simp)
      dsimp only at ha
      rw [hk] at ha
      have hw : 256 * k / 8 = 32 * k := by omega
      rw [hw] at ha
      exact ha.imp (fun v hv => .inl hv)
    · refine (h.sta k hk8).imp (fun r hr => ?_)
      rcases hr with hr | ⟨a1, _⟩
      · exact .inl hr
      · rw [hc] at a1; cases a1; exact absurd rfl e
  · intro i hi a b
    dsimp only at a b
    by_cases e : i = c
    · rw [e, kcc] at b; omega
    · rw [kne i e] at a b
      have := h.mid i hi a b
      rw [hc] at this; cases this; exact absurd rfl e
  · intro i hi _ b d
    dsimp only at b d ⊢
    have hne : i ≠ c := by
      intro e
      subst e
      rw [set_same, ho] at b
      cases b
    rw [set_ne m o hne] at b d ⊢
    exact h.fresh i hi (by rw [hc]; intro e; cases e; exact hne rfl) b d
  · dsimp only
    by_cases e0 : c = 0
    · subst e0
      rw [set_same, ho]
      exact ⟨fun _ => ⟨rfl, rfl⟩, fun _ _ => rfl⟩
    · rw [set_ne m o (Ne.symm e0)]
      exact h.main
  · intro i hi c' a
    dsimp only at a ⊢
    rw [kt] at a
    rw [ki]
    have := h.tgt i hi c' a
    exact ⟨this.1, Nat.le_trans this.2 (kge c')⟩

/-- Operation i takes another place in the stage of the current one. -/
theorem Inv.place {T : Nat → Nat} {n N : Nat} {m : MS} (h : Inv T n N m) {i c nx : Nat} (hc : m.cur = some c) (hs : 1 ≤ (m.op c).stage) (hd : Done m.dev (m.op i).t ((m.op c).stores T (m.op c).stage) nx) :
    Inv T n N (m.set i { m.op i with tgt := some c, inn := (m.op c).stage, next := nx }) := by
  obtain ⟨o, ho⟩ : ∃ o : OpS, o = { m.op i with tgt := some c, inn := (m.op c).stage, next := nx } := ⟨_, rfl⟩
  rw [← ho]
  have kk : ∀ j, ((m.set i o).op j).k = (m.op j).k := set_key (·.k) (by rw [ho])
  have ke : ∀ j, ((m.set i o).op j).es = (m.op j).es := set_key (·.es) (by rw [ho])
  have ko : ∀ j, ((m.set i o).op j).ord = (m.op j).ord := set_key (·.ord) (by rw [ho])
  have ksn : ∀ j, ((m.set i o).op j).seen = (m.op j).seen := set_key (·.seen) (by rw [ho])
  have kl : ∀ j, ((m.set i o).op j).loaded = (m.op j).loaded := set_key (·.loaded) (by rw [ho])
  have ks : ∀ j, ((m.set i o).op j).stage = (m.op j).stage := set_key (·.stage) (by rw [ho])
  have kp : ∀ j, ((m.set i o).op j).prog = (m.op j).prog := set_key (·.prog) (by rw [ho])
  have kd : ∀ j, ((m.set i o).op j).done = (m.op j).done := set_key (·.done) (by rw [ho])
  have kc : ∀ j, ((m.set i o).op j).changed = (m.op j).changed := set_key (·.changed) (by rw [ho])
  have kn : ∀ j, ((m.set i o).op j).ended = (m.op j).ended := set_key (·.ended) (by rw [ho])
  have kr : ∀ j, ((m.set i o).op j).err = (m.op j).err := set_key (·.err) (by rw [ho])
  have ktt : ∀ j, ((m.set i o).op j).t = (m.op j).t := set_key (·.t) (by rw [ho])
  have kst : ∀ j, ((m.set i o).op j).status T = (m.op j).status T := fun j => status_same (ke j) (ksn j)
  have ken : ∀ j, ((m.set i o).op j).ents = (m.op j).ents := fun j => ents_same (ke j) (ksn j)
  have kso : ∀ j z, ((m.set i o).op j).stores T z = (m.op j).stores T z := fun j z => stores_same (kk j) (ke j) (ksn j) z
  exact {
    size := h.size
    L := h.L
    stat := fun i hi => (h.stat i hi).of_same (kk i) (ke i) (ko i)
    val := fun j hj => by rw [ks]; exact h.val j hj
    sta := fun k hk => by rw [ks, kst]; exact h.sta k hk
    sta3 := fun c' hc' h3 => by rw [ks] at h3; rw [kst]; exact h.sta3 c' hc' h3
    recd := fun c' hc' h1 h2 q v hq => by rw [ks] at h1 h2; rw [ken] at hq; exact h.recd c' hc' h1 h2 q v hq
    cur := fun c' hc' => by rw [ks, kd]; exact h.cur c' hc'
    mid := fun i hi h1 h2 => by rw [ks] at h1 h2; exact h.mid i hi h1 h2
    fresh := fun i hi h1 h2 h3 => by rw [kd] at h2; rw [kn] at h3; rw [ks, kl]; exact h.fresh i hi h1 h2 h3
    ld := fun c' hc' h0 q x h1 h2 => by rw [kl] at h1; rw [ko] at h2; rw [ks, ke]; exact h.ld c' hc' h0 q x h1 h2
    ld1 := fun c' hc' h1 => by rw [ks] at h1; rw [kl, ke]; exact h.ld1 c' hc' h1
    main := by rw [kd, ks, kc, kn, kr]; exact h.main
    tgt := fun j hj c' h1 => by
      rw [ks]
      by_cases e : j = i
      · subst e
        rw [set_same, ho] at h1 ⊢
        cases h1
        exact ⟨hs, Nat.le_refl _⟩
      · rw [set_ne m o e] at h1 ⊢
        exact h.tgt j hj c' h1
    prog := fun c' hc' h1 => by rw [ks] at h1; rw [kp, ks, kso]; exact h.prog c' hc' h1
    run := fun j hj c' hc' h1 h2 => by
      rw [ks] at h2
      rw [ktt, kso, ks]
      by_cases e : j = i
      · subst e
        rw [set_same, ho] at h1 ⊢
        cases h1
        exact hd
      · rw [set_ne m o e] at h1 h2 ⊢
        exact h.run j hj c' hc' h1 h2 }

/-- A thread executes an instruction of the stage of the current operation. -/
theorem Inv.exec {T : Nat → Nat} {n N : Nat} {m : MS} (h : Inv T n N m) (hok : m.dev.Ok) {c t : Nat} {ins : Ins} {d : DSt} (hc : m.cur = some c) (hs : 1 ≤ (m.op c).stage)
    (hi : ins ∈ Dv.prog ((m.op c).stores T (m.op c).stage)) (hd : Eqv d (m.dev.did t ins)) : Inv T n N { m with dev := d } := by
  have hcc := h.cur c hc
  have hst := h.stat c hcc.1
  have hsok := stores_ok (T := T) hst h.size.2.1 hs hcc.2.1
  have h8 : ins.op = 1 → ins.off % 8 = 0 := by
    intro e
    rcases prog_mem hi with ⟨p, hp, rfl⟩ | ⟨y, _, rfl⟩ | rfl
    · exact hsok.al p hp
    · cases e
    · cases e
  have hsz := h.size
  have hop : ins.op = 1 → ∃ p ∈ (m.op c).stores T (m.op c).stage, ins = ⟨1, p.1, p.2⟩ := by
    intro e
    rcases prog_mem hi with ⟨p, hp, rfl⟩ | ⟨y, _, rfl⟩ | rfl
    · exact ⟨p, hp, rfl⟩
    · cases e
    · cases e
  exact {
    size := h.size
    L := by
      rw [hd.L]
      have : (m.dev.did t ins).L = m.dev.L := by
        unfold DSt.did
        split
        · rfl
        · split <;> rfl
      rw [this]
      exact h.L
    stat := h.stat
    val := fun j hj => hd.all (DSt.did_all (h.val j hj) hok h8 (fun e1 e2 => by
      obtain ⟨p, hp, rfl⟩ := hop e1
      dsimp only at e2 ⊢
      rcases stores_mem hst h.size.2.1 hs hcc.2.1 hp with ⟨_, q, hq, a, _⟩ | ⟨_, rfl⟩ | ⟨s3, e, he, j', hj', a, b, v1, v2⟩ | ⟨_, rfl⟩
      · omega
      · dsimp only at e2; omega
      · have hjj : j' = j := by omega
        subst hjj
        refine ⟨v1, ?_⟩
        rw [v2]
        by_cases e0 : c = 0
        · subst e0
          obtain ⟨j2, _, b1, _, _, b2, _⟩ := hst.ent h.size.2.1 he
          have hjj : j2 = j' := by omega
          subst hjj
          unfold Vok
          rw [if_neg (by omega), if_pos s3]
          exact .inr ⟨hj', (b2 rfl).2⟩
        · obtain ⟨x, hx, hxe⟩ := List.getElem_of_mem he
          obtain ⟨q, hq, hqx⟩ := List.getElem_of_mem (hst.ordm x hx)
          have hl := h.ld1 c hc hs
          have := h.ld c hc e0 q x (by rw [hl, ← hst.ordl]; exact hq) (by rw [List.getElem?_eq_getElem hq, hqx])
          rw [List.getD_eq_getElem?_getD, List.getElem?_eq_getElem hx, hxe] at this
          have hcons := this.2 j' a
          dsimp only [Option.getD_some] at hcons
          rw [hcons]
          exact Vok_one this.1
      · dsimp only at e2; omega))
    sta := fun k hk => hd.all (DSt.did_all (h.sta k hk) hok h8 (fun e1 e2 => by
      obtain ⟨p, hp, rfl⟩ := hop e1
      dsimp only at e2 ⊢
      rcases stores_mem hst h.size.2.1 hs hcc.2.1 hp with ⟨_, q, hq, a, _⟩ | ⟨s2, rfl⟩ | ⟨s3, e, he, j', hj', a, b, v1, v2⟩ | ⟨_, rfl⟩
      · omega
      · dsimp only at e2 ⊢
        have : k = c := by omega
        subst this
        exact .inr ⟨hc, by omega, by omega, rfl⟩
      · omega
      · exact .inl rfl))
    sta3 := fun c' hc' h3 => hd.all (DSt.did_all (h.sta3 c' hc' h3) hok h8 (fun e1 e2 => by
      have : c' = c := by have : m.cur = some c' := hc'; rw [hc] at this; cases this; rfl
      subst this
      obtain ⟨p, hp, rfl⟩ := hop e1
      dsimp only at e2 h3 ⊢
      rcases stores_mem hst h.size.2.1 hs hcc.2.1 hp with ⟨s1, q, hq, a, _⟩ | ⟨s2, rfl⟩ | ⟨s3, e, he, j', hj', a, b, v1, v2⟩ | ⟨s4, rfl⟩
      · omega
      · omega
      · omega
      · omega))
    recd := fun c' hc' h1 h2 q v hq => hd.all (DSt.did_all (h.recd c' hc' h1 h2 q v hq) hok h8 (fun e1 e2 => by
      have : c' = c := by have : m.cur = some c' := hc'; rw [hc] at this; cases this; rfl
      subst this
      have hq' := (List.getElem?_eq_some_iff.1 hq).1
      rw [ewords_length, ents_length] at hq'
      dsimp only at hq'
      have := hst.len
      obtain ⟨p, hp, rfl⟩ := hop e1
      dsimp only at e2 h1 h2 ⊢
      rcases stores_mem hst h.size.2.1 hs hcc.2.1 hp with ⟨s1, q, hq, a, _⟩ | ⟨s2, rfl⟩ | ⟨s3, e, he, j', hj', a, b, v1, v2⟩ | ⟨s4, rfl⟩
      · omega
      · dsimp only at e2; omega
      · omega
      · dsimp only at e2; omega))
    cur := h.cur
    mid := h.mid
    fresh := h.fresh
    ld := h.ld
    ld1 := h.ld1
    main := h.main
    tgt := h.tgt
    prog := h.prog
    run := fun i hi' c' hc' h1 h2 => by
      have : c' = c := by have : m.cur = some c' := hc'; rw [hc] at this; cases this; rfl
      subst this
      exact Done.eqv hd (Done.other (h.run i hi' c' hc h1 h2) hok hsok hi) }
end Go.Proofs.YtejlgnebofdijaaGreatDoor.Dv

namespace Go.Proofs.YtejlgnebofdijaaGreatDoor.Dv
open Go.RowKit
set_option linter.unusedVariables false

theorem on_eqv (s : DSt) (t : Nat) (b : Bool) : Eqv (s.on t b) s := by
  unfold DSt.on
  split
  · exact fail_eqv _ _ _
  · split
    · exact Eqv.refl _
    · exact fail_eqv _ _ _
theorem Like.dev {m : MS} (d : DSt) : Like m { m with dev := d } := ⟨fun _ => rfl, fun _ => rfl, fun _ => rfl, fun _ => rfl, fun _ => rfl, fun _ => rfl, fun _ => rfl, fun _ => rfl, fun _ => rfl, fun _ => rfl, fun _ => rfl, fun _ => rfl, fun _ => rfl⟩
theorem Inv.dev {T : Nat → Nat} {n N : Nat} {m : MS} (h : Inv T n N m) {d : DSt} (hd : Eqv d m.dev) : Inv T n N { m with dev := d } :=
  h.like (Like.dev d) hd rfl (fun _ hj => hj) h.main.2

/-- The words of the current operation of the change are as it expects. -/
theorem Inv.main_old {T : Nat → Nat} {n N : Nat} {m : MS} (h : Inv T n N m) (hok : m.dev.Ok) (hs : (m.op 0).stage = 0) {e : Nat × Nat × Nat} (he : e ∈ (m.op 0).es) : m.dev.cur (e.1 / 8) % 1099511627776 = e.2.1 := by
  have hsz := h.size
  have hst := h.stat 0 (by omega)
  rw [hst.main rfl] at he
  obtain ⟨j, hj, rfl⟩ := mem_mainEs he
  dsimp only
  have hw : (2304 + 8 * j) / 8 = 288 + j := by omega
  rw [hw]
  have := (DSt.All.cur (h.val j (by omega)) hok).2
  unfold Vok at this
  rw [if_pos (by omega)] at this
  exact this

theorem Inv.load {T : Nat → Nat} {n N : Nat} {m : MS} (h : Inv T n N m) (hr : Ready T N m) (hok : m.dev.Ok) {c t : Nat} (hc : m.cur = some c) (hs : (m.op c).stage = 0) : Inv T n N (m.load T c t) ∧ Ready T N (m.load T c t) := by
  have hcN := (h.cur c hc).1
  have hst := h.stat c hcN
  have hlt := hr.ld c hc hs
  obtain ⟨x, hx⟩ : ∃ x, x = (m.op c).ord.getD (m.op c).loaded 0 := ⟨_, rfl⟩
  have hgo : (m.op c).ord[(m.op c).loaded]? = some x := by
    have : (m.op c).loaded < (m.op c).ord.length := by rw [hst.ordl]; exact hlt
    rw [hx, List.getD_eq_getElem?_getD, List.getElem?_eq_getElem this]; rfl
  have hxl : x < (m.op c).es.length := hst.ordv x (List.mem_of_getElem? hgo)
  obtain ⟨e, he⟩ : ∃ e, e = (m.op c).es.getD x (0, 0, 0) := ⟨_, rfl⟩
  have hge : (m.op c).es[x]? = some e := by rw [he, List.getD_eq_getElem?_getD, List.getElem?_eq_getElem hxl]; rfl
  have hem : e ∈ (m.op c).es := List.mem_of_getElem? hge
  obtain ⟨m1, hm1⟩ : ∃ m1 : MS, m1 = { m with dev := m.dev.on t true } := ⟨_, rfl⟩
  have hend : m.load T c t = if m1.dev.err t ≠ 0 then m1 else if m.dev.cur (e.1 / 8) % 1099511627776 = e.2.1 then
      (if (m.op c).loaded + 1 = (m.op c).ord.length then (m1.set c { m.op c with seen := (m.op c).seen.set x (m.dev.cur (e.1 / 8)), loaded := (m.op c).loaded + 1 }).enter T c 1
        else m1.set c { m.op c with seen := (m.op c).seen.set x (m.dev.cur (e.1 / 8)), loaded := (m.op c).loaded + 1 })
      else m1.finish c false := by
    rw [he, hx, hm1]; rfl
  rw [hend]
  have hi1 : Inv T n N m1 := by rw [hm1]; exact h.dev (on_eqv _ _ _)
  have hr1 : Ready T N m1 := by rw [hm1]; exact hr.like (Like.dev _) rfl
  have hop1 : m1.op = m.op := by rw [hm1]
  have hc1 : m1.cur = some c := by rw [hm1]; exact hc
  split
  · exact ⟨hi1, hr1⟩
  · split
    · rename_i hv
      have h2 := (h.seen (sn := (m.op c).seen.set x (m.dev.cur (e.1 / 8))) hok hc hs hgo hge hv).dev (on_eqv m.dev t true)
      obtain ⟨o, ho⟩ : ∃ o : OpS, o = { m.op c with seen := (m.op c).seen.set x (m.dev.cur (e.1 / 8)), loaded := (m.op c).loaded + 1 } := ⟨_, rfl⟩
      rw [← ho] at h2 ⊢
      have h2' : Inv T n N (m1.set c o) := by rw [hm1]; exact h2
      have hc2 : (m1.set c o).cur = some c := hc1
      have hs2 : ((m1.set c o).op c).stage = 0 := by rw [set_same, ho]; exact hs
      have hl2 : ((m1.set c o).op c).loaded = (m.op c).loaded + 1 := by rw [set_same, ho]
      have he2 : ((m1.set c o).op c).es = (m.op c).es := by rw [set_same, ho]
      split
      · rename_i hl
        refine h2'.enter hc2 (by rw [hs2]) (by omega) (fun _ => ?_) (fun h => by omega)
        rw [hl2, he2, ← hst.ordl]
        exact hl
      · rename_i hl
        refine ⟨h2', ?_, ?_⟩
        · intro c' hc' _
          have : c' = c := by rw [hc2] at hc'; cases hc'; rfl
          subst this
          rw [hl2, he2]
          rw [hst.ordl] at hl
          omega
        · intro i hi c' hc' a b
          have : c' = c := by rw [hc2] at hc'; cases hc'; rfl
          subst this
          have := h2'.tgt i hi _ a
          omega
    · rename_i hv
      have h0 : c ≠ 0 := by
        intro e0
        subst e0
        exact hv (h.main_old hok hs hem)
      exact ⟨hi1.fails hc1 (by rw [hop1]; exact hs) h0, Ready.none rfl⟩

/-- What follows an instruction of the current operation. -/
def MS.went (T : Nat → Nat) (m2 : MS) (i c s : Nat) : MS :=
  if m2.dev.err (m2.op i).t ≠ 0 then m2
  else if ((m2.set i { m2.op i with next := (m2.op i).next + 1 }).op i).next = ((m2.set i { m2.op i with next := (m2.op i).next + 1 }).op c).prog.length then
    (m2.set i { m2.op i with next := (m2.op i).next + 1 }).enter T c (s + 1) else m2.set i { m2.op i with next := (m2.op i).next + 1 }
def MS.aim (m : MS) (i c : Nat) : MS := if (m.op i).tgt = some c ∧ (m.op i).inn = (m.op c).stage then m else m.set i { m.op i with tgt := some c, inn := (m.op c).stage, next := 0 }
def MS.did (m1 : MS) (i c : Nat) : MS := { m1 with dev := m1.dev.exec (m1.op i).t ((m1.op c).prog.getD (m1.op i).next ⟨3, 0, 0⟩) }
theorem advance_eq (T : Nat → Nat) (m : MS) (i c : Nat) (h : (m.op c).stage ≠ 0) : m.advance T i c = (((m.aim i c).did i c).went T i c (m.op c).stage) := by
  unfold MS.advance
  rw [if_neg h]
  rfl

theorem Inv.advance {T : Nat → Nat} {n N : Nat} {m : MS} (h : Inv T n N m) (hr : Ready T N m) (hok : m.dev.Ok) {i c : Nat} (hi : i < N) (hc : m.cur = some c) (h0 : m.dev.err (m.op i).t = 0) :
    Inv T n N (m.advance T i c) ∧ Ready T N (m.advance T i c) := by
  by_cases hs0 : (m.op c).stage = 0
  · unfold MS.advance
    rw [if_pos hs0]
    exact h.load hr hok hc hs0
  · rw [advance_eq T m i c hs0]
    obtain ⟨s, hs⟩ : ∃ s, s = (m.op c).stage := ⟨_, rfl⟩
    rw [← hs]
    have hs1 : 1 ≤ (m.op c).stage := by omega
    have hcc := h.cur c hc
    have hst := h.stat c hcc.1
    obtain ⟨m1, hm1⟩ : ∃ m1 : MS, m1 = m.aim i c := ⟨_, rfl⟩
    rw [← hm1]
    -- the place
    have hp : Inv T n N m1 ∧ m1.dev = m.dev ∧ m1.cur = m.cur ∧ (∀ j, (m1.op j).t = (m.op j).t) ∧ (m1.op c).stage = s ∧ (m1.op i).tgt = some c ∧ (m1.op i).inn = s ∧
        Ready T N m1 := by
      rw [hm1]
      unfold MS.aim
      rw [← hs]
      split
      · rename_i hcond
        exact ⟨h, rfl, rfl, fun _ => rfl, hs.symm, hcond.1, hcond.2, hr⟩
      · have hI := h.place (i := i) hc hs1 (Done.zero _ _ _)
        rw [← hs] at hI
        obtain ⟨o, ho⟩ : ∃ o : OpS, o = { m.op i with tgt := some c, inn := s, next := 0 } := ⟨_, rfl⟩
        rw [← ho] at hI ⊢
        have ks : ∀ j, ((m.set i o).op j).stage = (m.op j).stage := set_key (·.stage) (by rw [ho])
        have kl : ∀ j, ((m.set i o).op j).loaded = (m.op j).loaded := set_key (·.loaded) (by rw [ho])
        have ke : ∀ j, ((m.set i o).op j).es = (m.op j).es := set_key (·.es) (by rw [ho])
        have kk : ∀ j, ((m.set i o).op j).k = (m.op j).k := set_key (·.k) (by rw [ho])
        have ksn : ∀ j, ((m.set i o).op j).seen = (m.op j).seen := set_key (·.seen) (by rw [ho])
        refine ⟨hI, rfl, rfl, set_key (·.t) (by rw [ho]), by rw [ks, hs], by rw [set_same, ho], by rw [set_same, ho], ?_, ?_⟩
        · intro c' hc' a
          rw [ks] at a
          rw [kl, ke]
          exact hr.ld c' hc' a
        · intro j hj c' hc' a b
          rw [stores_same (kk c') (ke c') (ksn c'), ks]
          rw [ks] at b
          by_cases e : j = i
          · subst e
            rw [set_same, ho]
            rw [prog_length]
            dsimp only
            omega
          · rw [set_ne m o e] at a b ⊢
            exact hr.nx j hj c' hc' a b
    obtain ⟨hI1, hd1, hcu1, kt1, hs1', ht1, hin1, hr1⟩ := hp
    clear hm1 hr
    have hc1 : m1.cur = some c := by rw [hcu1]; exact hc
    have hnx := hr1.nx i hi c hc1 ht1 (by rw [hin1, hs1'])
    have hpr := hI1.prog c hc1 (by omega)
    have hrun := hI1.run i hi c hc1 ht1 (by rw [hin1, hs1'])
    have hst1 := hI1.stat c hcc.1
    have hok1 : m1.dev.Ok := by rw [hd1]; exact hok
    have hs4 : s ≤ 4 := by have := (hI1.cur c hc1).2.1; omega
    rw [hs1'] at hnx hpr hrun
    have hsok := stores_ok (T := T) hst1 h.size.2.1 (show 1 ≤ s by omega) hs4
    obtain ⟨ins, hins⟩ : ∃ ins, ins = (m1.op c).prog.getD (m1.op i).next ⟨3, 0, 0⟩ := ⟨_, rfl⟩
    have hget : (Dv.prog ((m1.op c).stores T s))[(m1.op i).next]? = some ins := by
      rw [hins, hpr, List.getD_eq_getElem?_getD, List.getElem?_eq_getElem hnx]; rfl
    have himem := List.mem_of_getElem? hget
    obtain ⟨m2, hm2⟩ : ∃ m2 : MS, m2 = { m1 with dev := m1.dev.exec (m1.op i).t ins } := ⟨_, rfl⟩
    have hdid : m1.did i c = m2 := by rw [hm2, hins]; rfl
    rw [hdid]
    unfold MS.went
    have hop2 : m2.op = m1.op := by rw [hm2]
    have hc2 : m2.cur = some c := by rw [hm2]; exact hc1
    have hbnd : ∀ p ∈ (m1.op c).stores T s, p.1 % 8 = 0 ∧ p.1 < 2560 := by
      intro p hp
      refine ⟨hsok.al p hp, ?_⟩
      have hsz := h.size
      have := hcc.1
      rcases stores_mem hst1 h.size.2.1 (by omega) hs4 hp with ⟨_, q, hq, a, _⟩ | ⟨_, rfl⟩ | ⟨s3, e, he, j', hj', a, b, v1, v2⟩ | ⟨_, rfl⟩
      · omega
      · dsimp only; omega
      · omega
      · dsimp only; omega
    have hLL := hI1.L
    have hex := exec_cases m1.dev (m1.op i).t ins (by rw [hd1, kt1]; exact h0) (by
      intro e
      rcases prog_mem himem with ⟨p, hp, rfl⟩ | ⟨y, _, rfl⟩ | rfl
      · have := hbnd p hp
        unfold DSt.word
        simp only [Bool.and_eq_true, decide_eq_true_eq]
        rw [hLL]
        omega
      · cases e
      · cases e) (by
      intro e
      rcases prog_mem himem with ⟨p, hp, rfl⟩ | ⟨y, hy, rfl⟩ | rfl
      · cases e
      · obtain ⟨p, hp, hpy⟩ := mem_plines.1 hy
        have := hbnd p hp
        rw [hLL]
        rw [← hpy]
        unfold line
        dsimp only
        omega
      · cases e)
    have hd2 : m2.dev = m1.dev.exec (m1.op i).t ins := by rw [hm2]
    rw [← hd2] at hex
    rcases hex with ⟨a, b⟩ | ⟨a, b⟩
    · rw [if_pos (by rw [hop2]; exact a)]
      have hI2 := hI1.dev b
      have hr2 := hr1.like (Like.dev m2.dev) rfl
      have hm2' : m2 = { m1 with dev := m2.dev } := by rw [hm2]
      rw [hm2']
      exact ⟨hI2, hr2⟩
    · rw [if_neg (by rw [hop2]; exact fun hh => hh a)]
      have hI2 : Inv T n N m2 := by
        have := hI1.exec hok1 hc1 (by omega) (by rw [hs1']; exact himem) b
        have hm2' : m2 = { m1 with dev := m2.dev } := by rw [hm2]
        rw [hm2']
        exact this
      have hdn := Done.eqv b (hrun.next hok1 hsok hget)
      rw [← hop2] at hdn
      have hs2 : (m2.op c).stage = s := by rw [hop2]; exact hs1'
      have hI3 := hI2.place (i := i) (nx := (m2.op i).next + 1) hc2 (by omega) (by rw [hs2]; exact hdn)
      have hsame : ({ m2.op i with tgt := some c, inn := (m2.op c).stage, next := (m2.op i).next + 1 } : OpS) = { m2.op i with next := (m2.op i).next + 1 } := by
        have e1 : (m2.op i).tgt = some c := by rw [hop2]; exact ht1
        have e2 : (m2.op i).inn = (m2.op c).stage := by rw [hop2, hin1, hs1']
        rw [← e1, ← e2]
      rw [hsame] at hI3
      obtain ⟨o, ho⟩ : ∃ o : OpS, o = { m2.op i with next := (m2.op i).next + 1 } := ⟨_, rfl⟩
      rw [← ho] at hI3 ⊢
      have ks : ∀ j, ((m2.set i o).op j).stage = (m2.op j).stage := set_key (·.stage) (by rw [ho])
      have kl : ∀ j, ((m2.set i o).op j).loaded = (m2.op j).loaded := set_key (·.loaded) (by rw [ho])
      have ke : ∀ j, ((m2.set i o).op j).es = (m2.op j).es := set_key (·.es) (by rw [ho])
      have kk : ∀ j, ((m2.set i o).op j).k = (m2.op j).k := set_key (·.k) (by rw [ho])
      have ksn : ∀ j, ((m2.set i o).op j).seen = (m2.op j).seen := set_key (·.seen) (by rw [ho])
      have kp : ∀ j, ((m2.set i o).op j).prog = (m2.op j).prog := set_key (·.prog) (by rw [ho])
      have kso : ∀ j z, ((m2.set i o).op j).stores T z = (m2.op j).stores T z := fun j z => stores_same (kk j) (ke j) (ksn j) z
      have hc3 : (m2.set i o).cur = some c := hc2
      have hs3 : ((m2.set i o).op c).stage = s := by rw [ks]; exact hs2
      have hnxt : ((m2.set i o).op i).next = (m1.op i).next + 1 := by rw [set_same, ho, hop2]
      have hlen : ((m2.set i o).op c).prog.length = (Dv.prog ((m1.op c).stores T s)).length := by rw [kp, hop2, hpr]
      rw [hnxt, hlen]
      split
      · rename_i hlast
        have hfin := hrun.last hget hlast
        have hall : ∀ p ∈ ((m2.set i o).op c).stores T ((m2.set i o).op c).stage, (m2.set i o).dev.All (p.1 / 8) (fun v => v = p.2) := by
          intro p hp
          rw [kso, hs3, hop2] at hp
          exact b.all (hfin.2 p hp)
        by_cases e4 : s = 4
        · rw [e4]
          exact hI3.over hc3 (by rw [hs3, e4]) hall
        · exact hI3.enter hc3 (by rw [hs3]) (by omega) (fun hh => by omega) (fun _ => hall)
      · rename_i hnl
        refine ⟨hI3, ?_, ?_⟩
        · intro c' hc' a'
          have : c' = c := by rw [hc3] at hc'; cases hc'; rfl
          subst this
          rw [hs3] at a'
          omega
        · intro j hj c' hc' a' b'
          have : c' = c := by rw [hc3] at hc'; cases hc'; rfl
          subst this
          rw [kso, hs3, hop2]
          by_cases e : j = i
          · subst e
            rw [hnxt]
            omega
          · rw [hs3] at b'
            rw [set_ne m2 o e, hop2] at a' b' ⊢
            have := hr1.nx j hj _ hc1 a' (by rw [b', hs1'])
            rw [hs1'] at this
            exact this

theorem Inv.step {T : Nat → Nat} {n N : Nat} {m : MS} (h : Inv T n N m) (hr : Ready T N m) (hok : m.dev.Ok) {i : Nat} (hi : i < N) : Inv T n N (m.step T i).1 ∧ Ready T N (m.step T i).1 := by
  unfold MS.step
  split
  · exact ⟨h, hr⟩
  · rename_i he
    split
    · rename_i hx
      exact h.stop hr hi (fun e => absurd e hx)
    · rename_i hx
      split
      · rename_i hd
        exact h.stop hr hi (fun _ => hd)
      · rename_i hd
        dsimp only
        obtain ⟨c, hc⟩ : ∃ c, c = m.cur.getD i := ⟨_, rfl⟩
        rw [← hc]
        obtain ⟨m1, hm1⟩ : ∃ m1 : MS, m1 = { m with cur := some c } := ⟨_, rfl⟩
        rw [← hm1]
        have hI : Inv T n N m1 ∧ Ready T N m1 := by
          rw [hm1]
          cases hcu : m.cur with
          | none =>
            rw [hcu] at hc
            simp at hc
            rw [hc]
            exact h.take hi hcu (by simpa using hd) (by simpa using he)
          | some c' =>
            rw [hcu] at hc
            simp at hc
            rw [hc, ← hcu]
            exact ⟨h, hr⟩
        have hc1 : m1.cur = some c := by rw [hm1]
        have hA := hI.1.advance hI.2 (by rw [hm1]; exact hok) hi hc1 (by rw [hm1]; exact Classical.byContradiction hx)
        split
        · rename_i hx2
          exact hA.1.stop hA.2 hi (fun e => absurd e hx2)
        · split
          · rename_i hd2
            exact hA.1.stop hA.2 hi (fun _ => hd2)
          · exact hA
end Go.Proofs.YtejlgnebofdijaaGreatDoor.Dv
