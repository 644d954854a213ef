/-
  A pool's program gets a new block.
-/
import Derived.Test.YtjoipeojenfiiaaGreatDoorMMop4
namespace Go.Proofs.YtjoipeojenfiiaaGreatDoor.Dv
open Go.RowKit
set_option linter.unusedVariables false

/-- Only new blocks. -/
theorem MW.below {w w' : World} {A : DAd} {B : MAd} {Lr N : Nat} {m : MS} {F G : Nat → Option Role} (h : MW w A B Lr N m F G) (hb : Below w.heap.size w w') : MW w' A B Lr N m F G ∧ MMoved F G F G w w' :=
  h.moved (s := m.dev) (h.dev.below hb) ⟨Only.of_below hb, fun _ _ => rfl⟩ rfl

/-- A block with no role becomes a program of operation i. -/
theorem MW.adopt {w : World} {A : DAd} {B : MAd} {Lr N : Nat} {m : MS} {F G : Nat → Option Role} (h : MW w A B Lr N m F G) {g i : Nat} (hg : G g = none) (hf : F g = none) (hl : g < w.heap.size) : MW w A B Lr N m F (upd G g (some (6, i))) := by
  have ne : ∀ b q, G b = some q → upd G g (some (6, i)) b = some q := by
    intro b q hb
    rw [upd_ne _ _ (fun e => by rw [e, hg] at hb; cases hb)]
    exact hb
  have hop : ∀ j, j < N → ∃ pv, Row w (B.o j) 81 16 (ofun A B (m.op j) j pv) ∧ PV w (upd G g (some (6, i))) j pv (m.op j).prog := by
    intro j hj
    obtain ⟨pv, h1, h2⟩ := h.op j hj
    refine ⟨pv, h1, ?_⟩
    rcases h2 with h2 | ⟨pb, c, e1, e2, e3⟩
    · exact .inl h2
    · exact .inr ⟨pb, c, e1, ne _ _ e2, e3⟩
  have hgf : ∀ b, upd G g (some (6, i)) b ≠ none → F b = none ∧ b < w.heap.size := by
    intro b hb
    by_cases e : b = g
    · rw [e]; exact ⟨hf, hl⟩
    · rw [upd_ne _ _ e] at hb
      exact h.gf b hb
  exact { h with op := hop, gp := ne _ _ h.gp, gb := ne _ _ h.gb, go := fun j hj => ne _ _ (h.go j hj), ge := fun j hj => ne _ _ (h.ge j hj), gr := fun j hj => ne _ _ (h.gr j hj), gs := fun j hj => ne _ _ (h.gs j hj), gf := hgf }

/-- The program of an operation is set. -/
theorem MW.setV {w : World} {A : DAd} {B : MAd} {Lr N : Nat} {m : MS} {F G : Nat → Option Role} (h : MW w A B Lr N m F G) {i : Nat} {v : Value} {l : List Ins} (hi : i < N) (hpv : PV w G i v l) (hl : ∀ x ∈ l, x.Ok) :
    MW (w.setCell ⟨B.o i, 8, none⟩ v) A B Lr N (m.set i { m.op i with prog := l }) F G ∧ MMoved F G F G w (w.setCell ⟨B.o i, 8, none⟩ v) := by
  have hg := h.go i hi
  have hok : ({ m.op i with prog := l } : OpS).Ok Lr (64 * m.dev.L) B.nb N := { h.ok i hi with prog := hl }
  refine ⟨{ h with dev := h.devSet hg, pool := h.pool.set_other (role_ne h.gp hg (by simp)), busy := h.busy.set_other (role_ne h.gb hg (by simp)), op := ?_, en := ?_, ord := ?_, se := ?_, gf := ?_, ok := ?_ }, MMoved.set hg⟩
  · intro k hk
    by_cases e : k = i
    · subst e
      obtain ⟨pv, h1, h2⟩ := h.op k hk
      unfold MS.set
      dsimp only
      rw [upd_same]
      refine ⟨v, (h1.set 8 v).congr (fun y hy => ?_), hpv.of_agree (fun b hb => heap_set_ne (role_ne hb hg (by simp)))⟩
      rcases lt16 hy with rfl | rfl | rfl | rfl | rfl | rfl | rfl | rfl | rfl | rfl | rfl | rfl | rfl | rfl | rfl | rfl <;> rfl
    · obtain ⟨pv, h1, h2⟩ := h.op k hk
      unfold MS.set
      dsimp only
      rw [upd_ne _ _ e]
      exact ⟨pv, h1.set_other (role_ne (h.go k hk) hg (by simp [e])), h2.of_agree (fun b hb => heap_set_ne (role_ne hb hg (by simp)))⟩
  · intro k hk
    have : ((m.set i { m.op i with prog := l }).op k).es = (m.op k).es := by unfold MS.set upd; dsimp only; split; rename_i e; rw [e]; rfl
    rw [this]
    exact seen_set_ne (h.en k hk) (role_ne (h.ge k hk) hg (by simp))
  · intro k hk
    have : ((m.set i { m.op i with prog := l }).op k).ord = (m.op k).ord := by unfold MS.set upd; dsimp only; split; rename_i e; rw [e]; rfl
    rw [this]
    exact seen_set_ne (h.ord k hk) (role_ne (h.gr k hk) hg (by simp))
  · intro k hk
    have e1 : ((m.set i { m.op i with prog := l }).op k).es = (m.op k).es := by unfold MS.set upd; dsimp only; split; rename_i e; rw [e]; rfl
    have e2 : ((m.set i { m.op i with prog := l }).op k).seen = (m.op k).seen := by unfold MS.set upd; dsimp only; split; rename_i e; rw [e]; rfl
    rw [e1, e2]
    exact (h.se k hk).set_other (role_ne (h.gs k hk) hg (by simp))
  · intro b hb
    have := h.gf b hb
    exact ⟨this.1, by simpa [World.setCell] using this.2⟩
  · intro k hk
    unfold MS.set upd
    dsimp only
    split
    · exact hok
    · exact h.ok k hk

theorem prog_ok {l : List (Nat × Nat)} (h : ∀ p ∈ l, p.1 < 18446744073709551616 ∧ p.2 < 18446744073709551616) : ∀ x ∈ prog l, x.Ok := by
  intro x hx
  unfold prog at hx
  rw [List.mem_append, List.mem_append] at hx
  rcases hx with (hx | hx) | hx
  · obtain ⟨p, hp, rfl⟩ := List.mem_map.1 hx
    exact ⟨by dsimp only; omega, by dsimp only; omega, (h p hp).1, (h p hp).2⟩
  · obtain ⟨y, hy, rfl⟩ := List.mem_map.1 hx
    have e : (l.map (fun p => line p.1)).length = l.length := by simp
    rw [← e] at hy
    have hy' := (mem_dd _ _).1 hy
    obtain ⟨p, hp, rfl⟩ := List.mem_map.1 hy'
    have := (h p hp).1
    refine ⟨by dsimp only; omega, by dsimp only; omega, ?_, by dsimp only; omega⟩
    show line p.1 < _
    unfold line
    omega
  · simp at hx
    subst hx
    exact ⟨by decide, by decide, by decide, by decide⟩

/-- The new program of an operation, made in blocks of its own, is stored. -/
theorem MW.newProg {w0 w1 w2 : World} {A : DAd} {B : MAd} {Lr N : Nat} {m : MS} {F G : Nat → Option Role} (h : MW w1 A B Lr N m F G) (mv : MMoved F G F G w0 w1) {i : Nat} (hi : i < N) {l : List Ins} (hl : ∀ x ∈ l, x.Ok) {g cap : Nat}
    (hown : w2.ownsRow w1.heap.size 139 3 (.slice (some ⟨g, 0, none⟩) l.length cap) l.length (icells l)) (hb : Below w1.heap.size w1 w2) :
    (∃ v, w2.cell? ⟨B.o i, 8, none⟩ = some v) ∧ w2.frozen? ⟨B.o i, 8, none⟩ = false ∧ MWent w0 A B Lr N F G (m.set i { m.op i with prog := l }) (w2.setCell ⟨B.o i, 8, none⟩ (.slice (some ⟨g, 0, none⟩) l.length cap)) := by
  obtain ⟨h2, mv2⟩ := h.below hb
  have hg := hown.lt g rfl
  have gn : G g = none := by
    cases e : G g with
    | none => rfl
    | some q => have := (h.gf g (by rw [e]; simp)).2; omega
  have fn : F g = none := by
    cases e : F g with
    | none => rfl
    | some q => have := h.dev.lt g (by rw [e]; simp); omega
  have h3 := h2.adopt (i := i) gn fn hg.2
  have hs : Seen w2 g 0 (icells l) := fun j u hj => by
    have := hown.cells (g := g) rfl j u hj
    rw [Addr.add_lit] at this
    exact this
  obtain ⟨h4, mv4⟩ := h3.setV hi (v := .slice (some ⟨g, 0, none⟩) l.length cap) (l := l) (.inr ⟨g, cap, rfl, upd_same _ _ _, hs⟩) hl
  obtain ⟨pv, r1, _⟩ := h2.op i hi
  have mvg : MMoved F G F (upd G g (some (6, i))) w0 w2 := ⟨(mv.trans mv2).only, fun k hk => ⟨rfl, by
    have : k < w1.heap.size := Nat.lt_of_lt_of_le hk mv.only.size
    rw [upd_ne _ _ (show k ≠ g by omega)]⟩⟩
  exact ⟨⟨_, r1.cell 8 (by omega)⟩, r1.free 8, F, upd G g (some (6, i)), h4, mvg.trans mv4⟩
end Go.Proofs.YtjoipeojenfiiaaGreatDoor.Dv
