/-
  step of the package sched, over the operations of a pool.
  step, start, Run of the package sched, over the operations of a pool: the walks.
  start, Run of the package sched, over the operations of a pool: the walks.
  Run of the package sched, over the operations of a pool: the walk.
-/
import Derived.Test.YtjoipeojenfiiaaGreatDoorMBegB
namespace Go.Proofs.YtjoipeojenfiiaaGreatDoor.Dv
open Go.RowKit
set_option linter.unusedVariables false

theorem MW.of_agree {w w' : World} {A : DAd} {B : MAd} {Lr N : Nat} {m : MS} {F G : Nat → Option Role} (h : MW w A B Lr N m F G) (hag : ∀ k, F k ≠ none ∨ G k ≠ none → w'.heap[k]? = w.heap[k]?) (hs : w.heap.size ≤ w'.heap.size) : MW w' A B Lr N m F G := by
  have kq : ∀ b q, G b = some q → w'.heap[b]? = w.heap[b]? := fun b q hq => hag b (.inr (by rw [hq]; simp))
  refine { h with dev := h.dev.of_agree (fun k hk => hag k (.inl hk)) hs, pool := h.pool.of_block (kq _ _ h.gp), busy := h.busy.of_block (kq _ _ h.gb), op := ?_, en := fun i hi => (h.en i hi).of_block (kq _ _ (h.ge i hi)), ord := fun i hi => (h.ord i hi).of_block (kq _ _ (h.gr i hi)), se := fun i hi => (h.se i hi).of_block (kq _ _ (h.gs i hi)), gf := ?_ }
  · intro i hi
    obtain ⟨pv, h1, h2⟩ := h.op i hi
    exact ⟨pv, h1.of_block (kq _ _ (h.go i hi)), h2.of_agree (fun b hb => kq b _ hb)⟩
  · intro b hb
    have h1 := h.gf b hb
    exact ⟨h1.1, Nat.lt_of_lt_of_le h1.2 hs⟩
theorem MW.free {w w' : World} {A : DAd} {B : MAd} {Lr N : Nat} {m : MS} {F G : Nat → Option Role} {P : Nat → Prop} (h : MW w A B Lr N m F G) (ho : Only P w w') (hP : ∀ k, P k → k < w.heap.size → F k = none ∧ G k = none) : MW w' A B Lr N m F G :=
  h.of_agree (fun k hk => by
    have hlt : k < w.heap.size := by
      rcases hk with hk | hk
      · exact h.dev.lt k hk
      · exact (h.gf k hk).2
    refine ho.block k hlt (fun hp => ?_)
    have := hP k hp hlt
    rcases hk with hk | hk
    · exact hk this.1
    · exact hk this.2) ho.size

def mach (b : Nat) : Value := .iface 37 (.pointer (some ⟨b, 0, none⟩))
def updZ (f : Nat → Int) (i : Nat) (v : Int) : Nat → Int := fun x => if x = i then v else f x
/-- The log of an execution. -/
structure Lg where
  sa : Option Addr
  sn : Nat
  sc : Nat
  lf : Int
  ef : Nat → Int
def Lg.cells (g : Lg) (N mb mc eb : Nat) : Array Value := #[.slice (some ⟨mb, 0, none⟩) N mc, .slice g.sa g.sn g.sc, .slice (some ⟨eb, 0, none⟩) N N, .int .i64 g.lf]
/-- The state between two steps; no more than k steps have been logged. -/
structure SchSt (W : World) (A : DAd) (B : MAd) (N n ex0 : Nat) (T : Nat → Nat) (F0 G0 : Nat → Option Role) (X rb mb mc eb : Nat) (k : Nat) (w : World) (m : MS) (F G : Nat → Option Role) (g : Lg) : Prop where
  mw : MW w A B 32 N m F G
  mv : MMoved F0 G0 F G W w
  inv : Inv T n N m
  rdy : Ready T N m
  tb : Tb w T F G
  ex : m.dev.ex ≤ ex0 + k
  r : w.heap[rb]? = some (.cells (g.cells N mb mc eb) 93 (0, 0))
  own : ∃ xs, w.ownsRow X 3 1 (.slice g.sa g.sn g.sc) g.sn xs
  os : ∀ b, (Value.slice g.sa g.sn g.sc).ownBlock = some b → F b = none ∧ G b = none
  ms : ∀ i, i < N → w.cell? ⟨mb, i, none⟩ = some (mach (B.o i))
  e : Row w eb 3 N (fun i => .int .i64 (g.ef i))
  bd : -1000 - (k : Int) ≤ g.lf ∧ g.lf ≤ 1000 ∧ g.sn ≤ k ∧ ∀ i, -1 ≤ g.ef i ∧ g.ef i ≤ 100000
  fr : F rb = none ∧ G rb = none
  fm : F mb = none ∧ G mb = none
  fe : F eb = none ∧ G eb = none
  ge : W.heap.size ≤ rb ∧ W.heap.size ≤ eb ∧ W.heap.size ≤ X ∧ eb < X ∧ mb < W.heap.size
  tl : 0 < W.heap.size
  xl : X ≤ w.heap.size
  mt : ∃ cm, w.heap[mb]? = some (.cells cm 130 (0, 0))

theorem own_agree {w w' : World} {X : Nat} {e : TypeId} {z n : Nat} {v : Value} {xs : List Value} (h : w.ownsRow X e z v n xs) (hag : ∀ b, v.ownBlock = some b → w'.heap[b]? = w.heap[b]?) : w'.ownsRow X e z v n xs := by
  refine ⟨h.1, ?_⟩
  rcases h.2 with hn | ⟨g, cap, cur, rfl, hb, hgg, rest⟩
  · exact .inl hn
  · exact .inr ⟨g, cap, cur, rfl, hb, (hag g rfl).trans hgg, rest⟩
theorem on_ex (s : DSt) (t : Nat) (b : Bool) : (s.on t b).ex = s.ex := by
  unfold DSt.on DSt.fail DSt.setErr
  repeat' split
  all_goals rfl
theorem enter_dev (T : Nat → Nat) (m : MS) (i s : Nat) : (m.enter T i s).dev = m.dev := by
  unfold MS.enter
  split <;> rfl
theorem stop_dev (m : MS) (i e : Nat) : (m.stop i e).dev = m.dev := by
  unfold MS.stop
  dsimp only
  split <;> rfl
theorem load_ex (T : Nat → Nat) (m : MS) (c t : Nat) : (m.load T c t).dev.ex = m.dev.ex := by
  unfold MS.load
  dsimp only
  split
  · exact on_ex _ _ _
  · split
    · split
      · rw [enter_dev]; exact on_ex _ _ _
      · exact on_ex _ _ _
    · exact on_ex _ _ _
theorem advance_ex (T : Nat → Nat) (m : MS) (i c : Nat) : (m.advance T i c).dev.ex ≤ m.dev.ex + 1 := by
  by_cases h : (m.op c).stage = 0
  · unfold MS.advance
    rw [if_pos h, load_ex]
    omega
  · rw [advance_eq T m i c h]
    have h1 : (m.aim i c).dev = m.dev := by unfold MS.aim; split <;> rfl
    have h2 : ((m.aim i c).did i c).dev.ex ≤ m.dev.ex + 1 := by
      unfold MS.did
      dsimp only
      rw [h1]
      exact exec_ex _ _ _
    unfold MS.went
    split
    · exact h2
    · split
      · rw [enter_dev]; exact h2
      · exact h2
theorem step_ex (T : Nat → Nat) (m : MS) (i : Nat) : (m.step T i).1.dev.ex ≤ m.dev.ex + 1 := by
  unfold MS.step
  split
  · dsimp only; omega
  · split
    · dsimp only; rw [stop_dev]; omega
    · split
      · dsimp only; rw [stop_dev]; omega
      · dsimp only
        have := advance_ex T { m with cur := some (m.cur.getD i) } i (m.cur.getD i)
        split
        · dsimp only; rw [stop_dev]; exact this
        · split
          · dsimp only; rw [stop_dev]; exact this
          · exact this

section
variable {W : World} {A : DAd} {B : MAd} {N n ex0 : Nat} {T : Nat → Nat} {F0 G0 : Nat → Option Role} {X rb mb mc eb : Nat} {k : Nat} {w : World} {m : MS} {F G : Nat → Option Role} {g : Lg}
theorem SchSt.more (h : SchSt W A B N n ex0 T F0 G0 X rb mb mc eb k w m F G g) {k' : Nat} (hk : k ≤ k') : SchSt W A B N n ex0 T F0 G0 X rb mb mc eb k' w m F G g :=
  { h with ex := by have := h.ex; omega, bd := ⟨by have := h.bd.1; omega, h.bd.2.1, by have := h.bd.2.2.1; omega, h.bd.2.2.2⟩ }
theorem MMoved.only2 {F G F' G' : Nat → Option Role} {P : Nat → Prop} {a b c : World} (h : MMoved F G F' G' a b) (ho : Only P b c) (hP : ∀ k, P k → a.heap.size ≤ k) : MMoved F G F' G' a c :=
  ⟨h.only.trans ho (fun i hi hp => absurd (hP i hp) (by omega)), h.same⟩
/-- A change of the log alone. -/
theorem SchSt.change (h : SchSt W A B N n ex0 T F0 G0 X rb mb mc eb k w m F G g) {w' : World} {P : Nat → Prop} (ho : Only P w w') (hP : ∀ b, P b → b < w.heap.size → F b = none ∧ G b = none ∧ W.heap.size ≤ b) :
    MW w' A B 32 N m F G ∧ MMoved F0 G0 F G W w' ∧ Tb w' T F G ∧ (∀ i, i < N → w'.cell? ⟨mb, i, none⟩ = some (mach (B.o i))) ∧ (∃ cm, w'.heap[mb]? = some (.cells cm 130 (0, 0))) := by
  have hz := h.mv.only.size
  obtain ⟨cm, hcm⟩ := h.mt
  have hmb : w'.heap[mb]? = w.heap[mb]? := ho.block mb (heap_lt hcm) (fun hp => by have := (hP mb hp (heap_lt hcm)).2.2; have := h.ge; omega)
  refine ⟨h.mw.free ho (fun b hb hl => ⟨(hP b hb hl).1, (hP b hb hl).2.1⟩), ?_, ?_, ?_, cm, hmb.trans hcm⟩
  · have ho2 : Only (fun b => P b ∧ b < w.heap.size) w w' := ⟨ho.os, ho.tape, ho.output, ho.size, fun b hb hn => ho.block b hb (fun hp => hn ⟨hp, hb⟩)⟩
    exact h.mv.only2 ho2 (fun b hb => (hP b hb.1 hb.2).2.2)
  · have hl := h.tb.tab.lt
    refine ⟨h.tb.tab.of_block (ho.block _ hl (fun hp => ?_)), h.tb.f, h.tb.g⟩
    have h1 := (hP _ hp hl).2.2
    have h2 := h.tl
    omega
  · intro i hi
    rw [World.cell?_of_block (a := ⟨mb, i, none⟩) hmb]
    exact h.ms i hi
theorem only_set (w : World) (b i : Nat) (v : Value) : Only (fun k => k = b) w (w.setCell ⟨b, i, none⟩ v) := (Only.refl (fun k => k = b) w).set (F := fun k => k = b) rfl v
theorem SchSt.drew (h : SchSt W A B N n ex0 T F0 G0 X rb mb mc eb k w m F G g) : SchSt W A B N n ex0 T F0 G0 X rb mb mc eb k w.drew m F G g := by
  obtain ⟨a, b, c, d, e⟩ := h.change (w' := w.drew) (P := fun _ => False) ((Only.refl _ _).drew) (fun _ hb => hb.elim)
  exact { h with mw := a, mv := b, tb := c, ms := d, mt := e, r := h.r, own := h.own, e := h.e.of_block rfl, xl := h.xl }
/-- A machine has ended. -/
theorem SchSt.ended (h : SchSt W A B N n ex0 T F0 G0 X rb mb mc eb k w m F G g) {i : Nat} {v : Int} (hv : -1 ≤ v ∧ v ≤ 100000) : SchSt W A B N n ex0 T F0 G0 X rb mb mc eb k (w.setCell ⟨eb, i, none⟩ (.int .i64 v)) m F G { g with ef := updZ g.ef i v } := by
  obtain ⟨a, b, c, d, e⟩ := h.change (only_set w eb i (.int .i64 v)) (fun b hb _ => by subst hb; exact ⟨h.fe.1, h.fe.2, h.ge.2.1⟩)
  obtain ⟨ce, hce, _⟩ := id h.e
  have hne : rb ≠ eb := fun e => by have := h.r; rw [e, hce] at this; simp at this
  obtain ⟨xs, ho⟩ := h.own
  refine { h with mw := a, mv := b, tb := c, ms := d, mt := e, xl := by simpa [World.setCell] using h.xl, r := (heap_set_ne hne).trans h.r, own := ⟨xs, ?_⟩, e := ?_, bd := ⟨h.bd.1, h.bd.2.1, h.bd.2.2.1, ?_⟩ }
  · refine ho.kept (grownBy_set w eb i _) (.inr (fun e => ?_))
    have := (ho.lt eb e).1
    have := h.ge
    omega
  · refine (h.e.set i _).congr (fun x hx => ?_)
    unfold updZ
    dsimp only
    split <;> rfl
  · intro x
    unfold updZ
    dsimp only
    split
    · exact hv
    · exact h.bd.2.2.2 x
theorem SchSt.left (h : SchSt W A B N n ex0 T F0 G0 X rb mb mc eb k w m F G g) {v : Int} (hv : -1000 - (k : Int) ≤ v ∧ v ≤ 1000) : SchSt W A B N n ex0 T F0 G0 X rb mb mc eb k (w.setCell ⟨rb, 3, none⟩ (.int .i64 v)) m F G { g with lf := v } := by
  obtain ⟨a, b, c, d, e⟩ := h.change (only_set w rb 3 (.int .i64 v)) (fun b hb _ => by subst hb; exact ⟨h.fr.1, h.fr.2, h.ge.1⟩)
  obtain ⟨ce, hce, hc2⟩ := id h.e
  have hne : eb ≠ rb := fun e => by have := h.r; rw [← e, hce] at this; simp at this
  obtain ⟨xs, ho⟩ := h.own
  exact { h with mw := a, mv := b, tb := c, ms := d, mt := e, xl := by simpa [World.setCell] using h.xl, r := (heap_set h.r).trans rfl, own := ⟨xs, own_set1 ho h.r (by decide)⟩, e := h.e.set_other hne, bd := ⟨hv.1, hv.2, h.bd.2.2.1, h.bd.2.2.2⟩ }
/-- One more step is logged. -/
theorem SchSt.log (h : SchSt W A B N n ex0 T F0 G0 X rb mb mc eb k w m F G g) {V : World} {g6 cap6 : Nat} {ys : List Value} (hown : V.ownsRow X 3 1 (.slice (some ⟨g6, 0, none⟩) (g.sn + 1) cap6) (g.sn + 1) ys) (hgr : w.grownBy V (Value.slice g.sa g.sn g.sc).ownBlock)
    (hg : (Value.slice g.sa g.sn g.sc).ownBlock = some g6 ∨ w.heap.size ≤ g6) : SchSt W A B N n ex0 T F0 G0 X rb mb mc eb (k + 1) (V.setCell ⟨rb, 1, none⟩ (.slice (some ⟨g6, 0, none⟩) (g.sn + 1) cap6)) m F G { g with sa := some ⟨g6, 0, none⟩, sn := g.sn + 1, sc := cap6 } := by
  obtain ⟨xs, ho⟩ := h.own
  obtain ⟨ce, hce, hc2⟩ := id h.e
  have hz := h.mv.only.size
  have hob : ∀ b, (Value.slice g.sa g.sn g.sc).ownBlock = some b → X ≤ b := fun b hb => (ho.lt b hb).1
  have hoV : Only (fun b => (Value.slice g.sa g.sn g.sc).ownBlock = some b) w V := ⟨hgr.os, hgr.tape, hgr.output, hgr.size, fun b hb hn => hgr.block b hb (fun e => hn e.symm)⟩
  have hon : Only (fun b => (Value.slice g.sa g.sn g.sc).ownBlock = some b ∨ b = rb) w (V.setCell ⟨rb, 1, none⟩ (.slice (some ⟨g6, 0, none⟩) (g.sn + 1) cap6)) := (hoV.mono (fun b hb => .inl hb)).set (.inr rfl) _
  obtain ⟨qa, qb, qc, qd, qe⟩ := h.change hon (fun b hb _ => by
    rcases hb with hb | rfl
    · exact ⟨(h.os b hb).1, (h.os b hb).2, by have := hob b hb; have := h.ge; omega⟩
    · exact ⟨h.fr.1, h.fr.2, h.ge.1⟩)
  have hrV : V.heap[rb]? = some (.cells (g.cells N mb mc eb) 93 (0, 0)) := (hgr.block _ (heap_lt h.r) (own_cells_ne ho h.r (by decide))).trans h.r
  have heV : V.heap[eb]? = w.heap[eb]? := hgr.block _ (heap_lt hce) (fun e => by have := hob eb e.symm; have := h.ge; omega)
  have hne : eb ≠ rb := fun e => by have := h.r; rw [← e, hce] at this; simp at this
  refine { mw := qa, mv := qb, inv := h.inv, rdy := h.rdy, tb := qc, ex := by have := h.ex; omega, r := (heap_set hrV).trans rfl, own := ⟨ys, own_set1 hown hrV (by decide)⟩, os := ?_, ms := qd, e := (h.e.of_block heV).set_other hne, bd := ⟨by have := h.bd.1; dsimp only; omega, h.bd.2.1, by have := h.bd.2.2.1; dsimp only; omega, h.bd.2.2.2⟩, fr := h.fr, fm := h.fm, fe := h.fe, ge := h.ge, tl := h.tl, xl := Nat.le_trans h.xl (Nat.le_trans hgr.size (by simp [World.setCell])), mt := qe }
  intro b hb
  have hb6 : b = g6 := by have : some g6 = some b := hb; exact (Option.some.inj this).symm
  subst hb6
  rcases hg with hg | hg
  · exact h.os b hg
  · constructor
    · cases e : F b with
      | none => rfl
      | some q => have := h.mw.dev.lt b (by rw [e]; simp); omega
    · cases e : G b with
      | none => rfl
      | some q => have := (h.mw.gf b (by rw [e]; simp)).2; omega
/-- A step of an operation. -/
theorem SchSt.went (h : SchSt W A B N n ex0 T F0 G0 X rb mb mc eb k w m F G g) {i : Nat} (hi : i < N) {w1 : World} (hw : MWent w A B 32 N F G (m.step T i).1 w1) : ∃ m1 F1 G1, SchSt W A B N n ex0 T F0 G0 X rb mb mc eb (k + 1) w1 m1 F1 G1 g := by
  obtain ⟨F1, G1, h1, mv1⟩ := hw
  have keep : ∀ b, F b = none ∧ G b = none → b < w.heap.size → w1.heap[b]? = w.heap[b]? := fun b hb hl => mv1.only.block b hl (by rw [hb.1, hb.2]; simp)
  have role : ∀ b, F b = none ∧ G b = none → b < w.heap.size → F1 b = none ∧ G1 b = none := fun b hb hl => by rw [(mv1.same b hl).1, (mv1.same b hl).2]; exact hb
  obtain ⟨xs, ho⟩ := h.own
  obtain ⟨ce, hce, hc2⟩ := id h.e
  obtain ⟨cm, hcm⟩ := h.mt
  have hex := step_ex T m i
  have hiv := h.inv.step h.rdy h.mw.dev.ok hi
  have kr := keep rb h.fr (heap_lt h.r)
  have km := keep mb h.fm (heap_lt hcm)
  have ke := keep eb h.fe (heap_lt hce)
  refine ⟨_, F1, G1, { mw := h1, mv := h.mv.trans mv1, inv := hiv.1, rdy := hiv.2, tb := h.tb.moved mv1, ex := by have := h.ex; omega, r := kr.trans h.r, own := ⟨xs, ?_⟩, os := fun b hb => role b (h.os b hb) (ho.lt b hb).2, ms := ?_, e := h.e.of_block ke, bd := ⟨by have := h.bd.1; omega, h.bd.2.1, by have := h.bd.2.2.1; omega, h.bd.2.2.2⟩, fr := role rb h.fr (heap_lt h.r), fm := role mb h.fm (heap_lt hcm), fe := role eb h.fe (heap_lt hce), ge := h.ge, tl := h.tl, xl := Nat.le_trans h.xl mv1.only.size, mt := ⟨cm, km.trans hcm⟩ }⟩
  · exact own_agree ho (fun b hb => keep b (h.os b hb) (ho.lt b hb).2)
  · intro j hj
    rw [World.cell?_of_block (a := ⟨mb, j, none⟩) km]
    exact h.ms j hj
end
end Go.Proofs.YtjoipeojenfiiaaGreatDoor.Dv

namespace Go.Proofs.YtjoipeojenfiiaaGreatDoor.Dv
open Go.RowKit
set_option linter.unusedVariables false

/-- What a step leaves. -/
def StpPost (W : World) (A : DAd) (B : MAd) (N n ex0 : Nat) (T : Nat → Nat) (F0 G0 : Nat → Option Role) (X rb mb mc eb k : Nat) (e : Ending) (w' : World) : Prop :=
  e = .returned (.tuple #[]) ∧ ∃ m F G g, SchSt W A B N n ex0 T F0 G0 X rb mb mc eb k w' m F G g

set_option maxHeartbeats 4000000 in
set_option maxRecDepth 8000 in
theorem step_sch {W : World} {A : DAd} {B : MAd} {N n ex0 : Nat} {T : Nat → Nat} {F0 G0 : Nat → Option Role} {X rb mb mc eb k : Nat} {w : World} {m : MS} {F G : Nat → Option Role} {g : Lg} (h : SchSt W A B N n ex0 T F0 G0 X rb mb mc eb k w m F G g) {i : Nat} (hi : i < N) (hk : k ≤ 1000) (hex : ex0 + 2000 < 1000000) :
    Calls Tryz.prog 36 #[ptr rb, .int .i64 i] w (StpPost W A B N n ex0 T F0 G0 X rb mb mc eb (k + 3)) := by
  have hsm := h.mw.small
  have hi2 : (i : Int) < N := by omega
  have hN3 : (N : Int) ≤ 3 := by omega
  have c0 : w.cell? ⟨rb, 0, none⟩ = some (.slice (some ⟨mb, 0, none⟩) N mc) := (cell_block h.r).trans rfl
  have c2 : w.cell? ⟨rb, 2, none⟩ = some (.slice (some ⟨eb, 0, none⟩) N N) := (cell_block h.r).trans rfl
  have cm := h.ms i hi
  have ce := h.e.cell i hi
  have hbd := h.bd
  have hef := hbd.2.2.2 i
  have H := Lib.hid h
  unfold mach at cm
  by_cases hend : 0 ≤ g.ef i
  · have GG := Lib.hid (show StpPost W A B N n ex0 T F0 G0 X rb mb mc eb (k + 3) (.returned (.tuple #[])) w from ⟨rfl, m, F, G, g, h.more (by omega)⟩)
    have d1 : decide (0 ≤ g.ef i) = true := decide_eq_true hend
    clear h hbd hsm
    unfold ptr
    go_enter Tryz.func36, Tryz.ntmps36
    go_wp2_with fail
    go_returns
    exact GG.out
  · have d1 : decide (0 ≤ g.ef i) = false := decide_eq_false hend
    have HS := Lib.hid (step_mw h.mw h.tb h.inv h.rdy hi (by have := h.ex; omega))
    clear h hbd hsm
    unfold ptr at *
    go_enter Tryz.func36, Tryz.ntmps36
    go_wp2_with fail
    refine HS.out.mono ?_
    rintro e w1 hp
    obtain ⟨rfl, hw⟩ := hp
    obtain ⟨m1, F1, G1, h1⟩ := H.out.went hi hw
    have H1 := Lib.hid h1
    clear hw HS c0 c2 cm ce
    have e0 : w1.cell? ⟨rb, 0, none⟩ = some (.slice (some ⟨mb, 0, none⟩) N mc) := (cell_block h1.r).trans rfl
    have e1 : w1.cell? ⟨rb, 1, none⟩ = some (.slice g.sa g.sn g.sc) := (cell_block h1.r).trans rfl
    have e2 : w1.cell? ⟨rb, 2, none⟩ = some (.slice (some ⟨eb, 0, none⟩) N N) := (cell_block h1.r).trans rfl
    have e3 : w1.cell? ⟨rb, 3, none⟩ = some (.int .i64 g.lf) := (cell_block h1.r).trans rfl
    have ee := h1.e.cell i hi
    have fe := h1.e.free i
    have hbd := h1.bd
    have hsn : (g.sn : Int) ≤ 100000 := by omega
    have hlf : -3000 ≤ g.lf ∧ g.lf ≤ 1000 := by omega
    cases hb : (m.step T i).2 with
    | false =>
      have f1 : w1.frozen? ⟨rb, 1, none⟩ = false := free_block h1.r
      obtain ⟨xs, ho⟩ := h1.own
      have HO := Lib.hid ho
      have HBD := Lib.hid hbd
      have HZ := Lib.hid h1.xl
      clear h1 hbd ho hb
      go_wp2_with (at_builtin; refine wpList_own1 elInts rfl _ _ rfl HO.out rfl rfl ?c1 rfl ?c2 ?c3 ?c4 ?c5 ?_)
      case c1 => rfl
      case c2 => rfl
      case c3 => unfold maxLen; omega
      case c4 => omega
      case c5 => exact HZ.out
      intro g6 cap6 V6 ho6 hgr6 hg6
      have hr6 : V6.heap[rb]? = some (.cells (g.cells N mb mc eb) 93 (0, 0)) := (hgr6.block _ (heap_lt H1.out.r) (own_cells_ne HO.out H1.out.r (by decide))).trans H1.out.r
      have t1 : V6.cell? ⟨rb, 1, none⟩ = some (.slice g.sa g.sn g.sc) := (cell_block hr6).trans rfl
      have t2 : V6.frozen? ⟨rb, 1, none⟩ = false := free_block hr6
      have GG := Lib.hid (show StpPost W A B N n ex0 T F0 G0 X rb mb mc eb (k + 3) (.returned (.tuple #[])) (V6.setCell ⟨rb, 1, none⟩ (.slice (some ⟨g6, 0, none⟩) (g.sn + 1) cap6)) from ⟨rfl, _, _, _, _, (H1.out.log ho6 hgr6 hg6).more (by omega)⟩)
      clear ho6 hgr6 hg6 hr6
      go_wp2_with fail
      go_returns
      exact GG.out
    | true =>
      obtain ⟨W2, hW2⟩ : ∃ W2, W2 = (w1.setCell ⟨eb, i, none⟩ (.int .i64 g.sn)).drew := ⟨_, rfl⟩
      have h2 := (h1.ended (i := i) (v := g.sn) ⟨by omega, hsn⟩).drew
      rw [← hW2] at h2
      have s3 : W2.cell? ⟨rb, 3, none⟩ = some (.int .i64 g.lf) := (cell_block h2.r).trans rfl
      have g3 : W2.frozen? ⟨rb, 3, none⟩ = false := free_block h2.r
      have h3 := (h2.more (k' := k + 2) (by omega)).left (v := g.lf - 1) ⟨by have := hbd.1; omega, by omega⟩
      obtain ⟨W3, hW3⟩ : ∃ W3, W3 = W2.setCell ⟨rb, 3, none⟩ (.int .i64 (g.lf - 1)) := ⟨_, rfl⟩
      rw [← hW3] at h3
      have v1 : W3.cell? ⟨rb, 1, none⟩ = some (.slice g.sa g.sn g.sc) := (cell_block h3.r).trans rfl
      obtain ⟨xs, ho⟩ := h3.own
      have HO := Lib.hid ho; have H3 := Lib.hid h3; have HW2 := Lib.hid hW2; have HW3 := Lib.hid hW3; have HZ := Lib.hid h3.xl
      clear h1 h2 h3 hbd ho hb hW2 hW3
      go_upto_region 3 with fail
      go_region
      rw [← HW2.out]
      clear e0 e1 e2 e3 ee fe
      go_upto_region 5 with fail
      rw [← HW3.out]
      clear s3 g3
      go_wp2_with (at_builtin; refine wpList_own1 elInts rfl _ _ rfl HO.out rfl rfl ?c1 rfl ?c2 ?c3 ?c4 ?c5 ?_)
      case c1 => rfl
      case c2 => rfl
      case c3 => unfold maxLen; omega
      case c4 => omega
      case c5 => exact HZ.out
      intro g6 cap6 V6 ho6 hgr6 hg6
      have hr6 := (hgr6.block _ (heap_lt H3.out.r) (own_cells_ne HO.out H3.out.r (by decide))).trans H3.out.r
      have t1 : V6.cell? ⟨rb, 1, none⟩ = some (.slice g.sa g.sn g.sc) := (cell_block hr6).trans rfl
      have t2 : V6.frozen? ⟨rb, 1, none⟩ = false := free_block hr6
      have GG := Lib.hid (show StpPost W A B N n ex0 T F0 G0 X rb mb mc eb (k + 3) (.returned (.tuple #[])) (V6.setCell ⟨rb, 1, none⟩ (.slice (some ⟨g6, 0, none⟩) (g.sn + 1) cap6)) from ⟨rfl, _, _, _, _, H3.out.log ho6 hgr6 hg6⟩)
      clear ho6 hgr6 hg6 hr6
      go_wp2_with fail
      go_returns
      exact GG.out
end Go.Proofs.YtjoipeojenfiiaaGreatDoor.Dv

namespace Go.Proofs.YtjoipeojenfiiaaGreatDoor.Dv
open Go.RowKit
set_option linter.unusedVariables false

/-- A slice of machines. -/
structure Machs (w : World) (B : MAd) (N mb : Nat) (F G : Nat → Option Role) : Prop where
  ms : ∀ i, i < N → w.cell? ⟨mb, i, none⟩ = some (mach (B.o i))
  mt : ∃ cm, w.heap[mb]? = some (.cells cm 130 (0, 0))
  f : F mb = none ∧ G mb = none
def zerosI (n : Nat) : Array Value := madeCells (Value.int .i64 0).cells n
theorem zerosI_get {n x : Nat} (h : x < n) : (zerosI n)[x]? = some (.int .i64 0) := by
  unfold zerosI madeCells
  rw [Array.getElem?_map, Array.getElem?_range, if_pos h]
  simp [Value.cells, Nat.mod_one]
def SaRel (W : World) (A : DAd) (B : MAd) (N n ex0 : Nat) (T : Nat → Nat) (F G : Nat → Option Role) (X rb mb mc eb : Nat) (m : MS) (i : Value) (wl : World) : Prop :=
  ∃ (j : Nat) (ef : Nat → Int), j ≤ N ∧ i = .int .i64 (j : Nat) ∧ SchSt W A B N n ex0 T F G X rb mb mc eb 0 wl m F G ⟨none, 0, 0, j, ef⟩
def SaPost (W : World) (A : DAd) (B : MAd) (N n ex0 : Nat) (T : Nat → Nat) (F0 G0 : Nat → Option Role) (mb mc : Nat) (e : Ending) (w' : World) : Prop :=
  ∃ X rb eb m F G g, e = .returned (ptr rb) ∧ SchSt W A B N n ex0 T F0 G0 X rb mb mc eb 0 w' m F G g

theorem sch_start {w : World} {A : DAd} {B : MAd} {N n : Nat} {m : MS} {F G : Nat → Option Role} {T : Nat → Nat} (h : MW w A B 32 N m F G) (hT : Tb w T F G) (hI : Inv T n N m) (hr : Ready T N m) {mb mc : Nat} (hM : Machs w B N mb F G) :
    SchSt w A B N n m.dev.ex T F G (w.heap.size + 1 + 1) (w.heap.size + 1) mb mc w.heap.size 0 ((w.alloc (.cells (zerosI N) 3)).alloc (.cells (Lg.cells ⟨none, 0, 0, 0, fun _ => 0⟩ N mb mc w.heap.size) 93)) m F G ⟨none, 0, 0, 0, fun _ => 0⟩ := by
  have hb : Below w.heap.size w ((w.alloc (.cells (zerosI N) 3)).alloc (.cells (Lg.cells ⟨none, 0, 0, 0, fun _ => 0⟩ N mb mc w.heap.size) 93)) := below_alloc (below_alloc (Below.refl _ _))
  obtain ⟨h1, mv1⟩ := h.below hb
  have fr : ∀ b, w.heap.size ≤ b → F b = none ∧ G b = none := fun b hb => by
    constructor
    · cases e : F b with
      | none => rfl
      | some q => have := h.dev.lt b (by rw [e]; simp); omega
    · cases e : G b with
      | none => rfl
      | some q => have := (h.gf b (by rw [e]; simp)).2; omega
  obtain ⟨cm, hcm⟩ := hM.mt
  have hml := heap_lt hcm
  exact { mw := h1, mv := mv1, inv := hI, rdy := hr, tb := hT.moved mv1, ex := Nat.le_refl _, r := ha11 _ _ _, own := ⟨[], World.ownsRow_nil _ _ _ _⟩, os := fun b hb => (by cases hb), ms := fun i hi => (by rw [hb.cell (show (Addr.mk mb i none).block < _ from hml)]; exact hM.ms i hi), e := row_of_cells (ha10 _ _ _) (fun x hx => zerosI_get hx), bd := ⟨by dsimp only; omega, by dsimp only; omega, Nat.le_refl _, fun i => ⟨by dsimp only; omega, by dsimp only; omega⟩⟩, fr := fr _ (by omega), fm := hM.f, fe := fr _ (Nat.le_refl _), ge := ⟨by omega, Nat.le_refl _, by omega, by omega, hml⟩, tl := hT.tab.lt, xl := by simp, mt := ⟨cm, (hb.block mb hml).trans hcm⟩ }

set_option maxHeartbeats 4000000 in
set_option maxRecDepth 8000 in
theorem start_sch {w : World} {A : DAd} {B : MAd} {N n : Nat} {m : MS} {F G : Nat → Option Role} {T : Nat → Nat} (h : MW w A B 32 N m F G) (hT : Tb w T F G) (hI : Inv T n N m) (hr : Ready T N m) {mb mc : Nat} (hM : Machs w B N mb F G) :
    Calls Tryz.prog 35 #[.slice (some ⟨mb, 0, none⟩) N mc] w (SaPost w A B N n m.dev.ex T F G mb mc) := by
  have hsm := h.small
  have hN3 : (N : Int) ≤ 3 := by omega
  have HS := Lib.hid (show SaRel w A B N n m.dev.ex T F G (w.heap.size + 1 + 1) (w.heap.size + 1) mb mc w.heap.size m (.int .i64 (0 : Nat)) _ from ⟨0, fun _ => 0, by omega, rfl, sch_start (mc := mc) h hT hI hr hM⟩)
  obtain ⟨i, hi, hz, hsz, hby⟩ := info_parts infoInt
  have hmk := fun V => run_make (P := Tryz.prog) V 23 3 i _ Tryz.underlying23 hi hz .i64 .i64 (N : Int) (N : Int) (by omega) (Int.le_refl _) (by rw [hby]; omega) (by omega)
  simp only [show (N : Int).toNat = N by omega, hsz, Nat.mul_one] at hmk
  obtain ⟨X, hX⟩ : ∃ X, X = w.heap.size + 1 + 1 := ⟨_, rfl⟩
  obtain ⟨ex0, hex0⟩ : ∃ ex0, ex0 = m.dev.ex := ⟨_, rfl⟩
  rw [← hX, ← hex0] at HS
  rw [← hex0]
  clear h hT hI hr hM hi hz hsz hby hsm hX hex0
  unfold Lg.cells zerosI at HS
  go_enter Tryz.func35, Tryz.ntmps35
  go_wp2_with fail
  go_loopw [15] (fun i wl => SaRel w A B N n ex0 T F G X (w.heap.size + 1) mb mc w.heap.size m i wl) (fun i _ => N - (intOf i).toNat)
  case atStart => exact HS.out
  case round =>
    obtain ⟨j, ef, hj, rfl, hst⟩ := hrel
    by_cases hlt : j < N
    · have hlt2 : (j : Int) < N := by omega
      have c1 := hst.ms j hlt
      have c2 : wr.cell? ⟨w.heap.size + 1, 2, none⟩ = some (.slice (some ⟨w.heap.size, 0, none⟩) N N) := (cell_block hst.r).trans rfl
      have c3 := hst.e.cell j hlt
      have f3 := hst.e.free j
      have h2 := hst.ended (i := j) (v := -1) ⟨by omega, by omega⟩
      obtain ⟨W2, hW2⟩ : ∃ W2, W2 = wr.setCell ⟨w.heap.size, j, none⟩ (.int .i64 (-1)) := ⟨_, rfl⟩
      rw [← hW2] at h2
      have s3 : W2.cell? ⟨w.heap.size + 1, 3, none⟩ = some (.int .i64 (j : Nat)) := (cell_block h2.r).trans rfl
      have g3 : W2.frozen? ⟨w.heap.size + 1, 3, none⟩ = false := free_block h2.r
      have h3 := h2.left (v := ((j + 1 : Nat) : Int)) ⟨by omega, by omega⟩
      have G := Lib.hid (show SaRel w A B N n ex0 T F G X (w.heap.size + 1) mb mc w.heap.size m (.int .i64 ((j + 1 : Nat) : Int)) (W2.setCell ⟨w.heap.size + 1, 3, none⟩ (.int .i64 ((j + 1 : Nat) : Int))) from ⟨j + 1, _, hlt, rfl, h3⟩)
      have HW2 := Lib.hid hW2
      unfold mach at c1
      clear hst h2 h3 hW2 hj
      go_upto_region 6 with fail
      rw [← HW2.out]
      clear c2 c3 f3
      go_wp2_with fail
      go_roundw
      case rel => simpa using G.out
      case measure => simp [intOf]; omega
    · obtain rfl : j = N := by omega
      have GG := Lib.hid (show SaPost w A B j n ex0 T F G mb mc (.returned (ptr (w.heap.size + 1))) wr from ⟨X, _, _, m, F, G, _, rfl, hst⟩)
      have q1 : ¬ ((j : Int) < j) := by omega
      unfold ptr at GG
      clear hst hlt
      go_wp2_with fail
      go_returns
      exact GG.out
end Go.Proofs.YtjoipeojenfiiaaGreatDoor.Dv

namespace Go.Proofs.YtjoipeojenfiiaaGreatDoor.Dv
open Go.RowKit
set_option linter.unusedVariables false

/-- The picks can be read, and are none of the blocks of the device and the pool. -/
def Picks (w : World) (F G : Nat → Option Role) (pa : Option Addr) (zs : List Int) : Prop :=
  ∀ j z, zs[j]? = some z → -9223372036854775808 ≤ z ∧ z ≤ 9223372036854775807 ∧ ∃ b o, pa = some ⟨b, o, none⟩ ∧ w.cell? ⟨b, o + j, none⟩ = some (.int .i64 z) ∧ F b = none ∧ G b = none
def RnRel (W : World) (A : DAd) (B : MAd) (N n ex0 : Nat) (T : Nat → Nat) (F0 G0 : Nat → Option Role) (X rb mb mc eb len : Nat) (i : Value) (wl : World) : Prop :=
  ∃ (j : Nat) (m : MS) (F G : Nat → Option Role) (g : Lg), j ≤ len ∧ i = .int .i64 (j : Nat) ∧ SchSt W A B N n ex0 T F0 G0 X rb mb mc eb (3 * j) wl m F G g
def RnPost (w : World) (A : DAd) (B : MAd) (N n : Nat) (T : Nat → Nat) (F0 G0 : Nat → Option Role) (ex0 : Nat) (e : Ending) (w' : World) : Prop :=
  ∃ v m F G, e = .returned v ∧ MW w' A B 32 N m F G ∧ MMoved F0 G0 F G w w' ∧ Inv T n N m ∧ m.dev.ex ≤ ex0

set_option maxHeartbeats 4000000 in
set_option maxRecDepth 8000 in
theorem run_sch {w : World} {A : DAd} {B : MAd} {N n : Nat} {m : MS} {F G : Nat → Option Role} {T : Nat → Nat} (h : MW w A B 32 N m F G) (hT : Tb w T F G) (hI : Inv T n N m) (hr : Ready T N m) {mb mc pc : Nat} (hM : Machs w B N mb F G) {pa : Option Addr} {zs : List Int} (hp : Picks w F G pa zs) (hl : zs.length ≤ 300) (hex : m.dev.ex ≤ 10000) :
    Calls Tryz.prog 10 #[.slice (some ⟨mb, 0, none⟩) N mc, .slice pa zs.length pc] w (RnPost w A B N n T F G (m.dev.ex + 2000)) := by
  have hsz := hI.size
  obtain ⟨W, hW⟩ : ∃ W, W = w.alloc (.cells #[.slice none 0 0, .slice none 0 0] 47) := ⟨_, rfl⟩
  have hbW : Below w.heap.size w W := by rw [hW]; exact below_alloc (Below.refl _ _)
  obtain ⟨hw, mvw⟩ := h.below hbW
  obtain ⟨cm, hcm⟩ := hM.mt
  have hMW : Machs W B N mb F G := ⟨fun i hi => by rw [hbW.cell (show (Addr.mk mb i none).block < _ from heap_lt hcm)]; exact hM.ms i hi, ⟨cm, (hbW.block mb (heap_lt hcm)).trans hcm⟩, hM.f⟩
  have HSA := Lib.hid (start_sch (mc := mc) hw (hT.moved mvw) hI hr hMW)
  have hWb : W.heap[w.heap.size]? = some (.cells #[.slice none 0 0, .slice none 0 0] 47 (0, 0)) := by rw [hW]; exact heap_alloc_new _ _
  have fW : F w.heap.size = none ∧ G w.heap.size = none := by
    constructor
    · cases e : F w.heap.size with
      | none => rfl
      | some q => have := h.dev.lt w.heap.size (by rw [e]; simp); omega
    · cases e : G w.heap.size with
      | none => rfl
      | some q => have := (h.gf w.heap.size (by rw [e]; simp)).2; omega
  have hl2 : (zs.length : Int) ≤ 300 := by omega
  have hN3 : (N : Int) ≤ 3 := by omega
  have hN1 : (1 : Int) ≤ N := by omega
  have hN0 : (0 : Int) < N := by omega
  have dN : decide (0 < N) = true := decide_eq_true (by omega)
  have dN2 : decide ((0 : Int) < N) = true := decide_eq_true hN0
  have HP := Lib.hid hp; have HW := Lib.hid hW; have HBW := Lib.hid hbW; have MVW := Lib.hid mvw; have HWB := Lib.hid hWb; have HFW := Lib.hid fW
  obtain ⟨ex0, hex0⟩ : ∃ ex0, ex0 = m.dev.ex := ⟨_, rfl⟩
  rw [← hex0] at HSA hex ⊢
  clear h hT hI hr hM hp hw mvw hMW hcm hW hbW hWb fW hex0

  go_enter Tryz.func10, Tryz.ntmps10
  go_upto_region 1 with fail
  rw [← HW.out]
  go_wp2_with fail
  refine HSA.out.mono ?_
  rintro e w1 ⟨X, rb, eb, m1, F1, G1, g1, rfl, hst⟩
  have HST := Lib.hid (show RnRel W A B N n ex0 T F G X rb mb mc eb zs.length (.int .i64 (0 : Nat)) w1 from ⟨0, m1, F1, G1, g1, by omega, rfl, hst⟩)
  clear hst HSA
  unfold ptr
  go_wp2_with fail
  go_loopw [12] (fun i wl => RnRel W A B N n ex0 T F G X rb mb mc eb zs.length i wl) (fun i _ => zs.length - (intOf i).toNat)
  case atStart => exact HST.out
  case round =>
    obtain ⟨j, m2, F2, G2, g2, hj, rfl, hst⟩ := hrel
    by_cases hlt : j < zs.length
    · have hlt2 : (j : Int) < zs.length := by omega
      obtain ⟨z, hz⟩ : ∃ z, z = zs[j] := ⟨_, rfl⟩
      obtain ⟨z1, z2, pb, po, hpa, hcell, hfb⟩ := HP.out j z (by rw [hz]; exact List.getElem?_eq_getElem hlt)
      subst hpa
      have hpl := World.block_lt_of_cell? _ _ hcell
      have c1 : wr.cell? ⟨pb, po + j, none⟩ = some (.int .i64 z) := by
        have hb2 : W.heap[pb]? = w.heap[pb]? := HBW.out.block pb hpl
        have hb3 : wr.heap[pb]? = W.heap[pb]? := hst.mv.only.block pb (Nat.lt_of_lt_of_le hpl HBW.out.size) (by rw [hfb.1, hfb.2]; simp)
        rw [World.cell?_of_block (a := ⟨pb, po + j, none⟩) (hb3.trans hb2)]
        exact hcell
      by_cases hneg : z < 0
      · have d1 : decide (0 ≤ z) = false := decide_eq_false (by omega)
        have G3 := Lib.hid (show RnRel W A B N n ex0 T F G X rb mb mc eb zs.length (.int .i64 ((j + 1 : Nat) : Int)) wr from ⟨j + 1, m2, F2, G2, g2, by omega, rfl, hst.more (by omega)⟩)
        clear hst hz hcell hpl hj
        go_wp2_with fail
        go_roundw
        case rel => simpa using G3.out
        case measure => simp [intOf]; omega
      · have d1 : decide (0 ≤ z) = true := decide_eq_true (by omega)
        have hz0 : 0 ≤ z := by omega
        obtain ⟨q, hq⟩ : ∃ q : Nat, q = (z % (N : Int)).toNat := ⟨_, rfl⟩
        have hm1 := Int.emod_nonneg z (show (N : Int) ≠ 0 by omega)
        have hm2 := Int.emod_lt_of_pos z (show (0 : Int) < N by omega)
        have hqz : z % (N : Int) = (q : Int) := by omega
        have hqt : z.tmod (N : Int) = (q : Int) := by rw [Int.tmod_eq_emod_of_nonneg hz0]; exact hqz
        have hqN : q < N := by omega
        have HSS := Lib.hid (step_sch hst hqN (by omega) (by omega))
        clear hst hz hcell hpl hj hq hm1 hm2
        unfold ptr at HSS
        go_wp2_with fail
        refine HSS.out.mono ?_
        rintro e w3 ⟨rfl, m3, F3, G3, g3, h3⟩
        have GG := Lib.hid (show RnRel W A B N n ex0 T F G X rb mb mc eb zs.length (.int .i64 ((j + 1 : Nat) : Int)) w3 from ⟨j + 1, m3, F3, G3, g3, by omega, rfl, h3.more (by omega)⟩)
        clear h3 HSS hqz hqt
        go_wp2_with fail
        go_roundw
        case rel => simpa using GG.out
        case measure => simp [intOf]; omega
    · obtain rfl : j = zs.length := by omega
      have q1 : ¬ ((zs.length : Int) < zs.length) := by omega
      have e1 : wr.cell? ⟨rb, 1, none⟩ = some (.slice g2.sa g2.sn g2.sc) := (cell_block hst.r).trans rfl
      have e2 : wr.cell? ⟨rb, 2, none⟩ = some (.slice (some ⟨eb, 0, none⟩) N N) := (cell_block hst.r).trans rfl
      have hb3 : wr.heap[w.heap.size]? = some (.cells #[.slice none 0 0, .slice none 0 0] 47 (0, 0)) := (hst.mv.only.block _ (heap_lt HWB.out) (by rw [HFW.out.1, HFW.out.2]; simp)).trans HWB.out
      have k0 : wr.cell? ⟨w.heap.size, 0, none⟩ = some (.slice none 0 0) := (cell_block hb3).trans rfl
      have k1 : wr.cell? ⟨w.heap.size, 1, none⟩ = some (.slice none 0 0) := (cell_block hb3).trans rfl
      have k2 : wr.frozen? ⟨w.heap.size, 0, none⟩ = false := free_block hb3
      have k3 : wr.frozen? ⟨w.heap.size, 1, none⟩ = false := free_block hb3
      have hon : Only (fun k => k = w.heap.size) wr ((wr.setCell ⟨w.heap.size, 0, none⟩ (.slice g2.sa g2.sn g2.sc)).setCell ⟨w.heap.size, 1, none⟩ (.slice (some ⟨eb, 0, none⟩) N N)) := (only_set _ _ _ _).set (F := fun k => k = w.heap.size) rfl _
      have hsame := hst.mv.same w.heap.size (heap_lt HWB.out)
      have hmwf := hst.mw.free hon (fun b hb _ => by subst hb; rw [hsame.1, hsame.2]; exact HFW.out)
      have hmv : MMoved F G F2 G2 w ((wr.setCell ⟨w.heap.size, 0, none⟩ (.slice g2.sa g2.sn g2.sc)).setCell ⟨w.heap.size, 1, none⟩ (.slice (some ⟨eb, 0, none⟩) N N)) := (MVW.out.trans hst.mv).only2 hon (fun b hb => by subst hb; exact Nat.le_refl _)
      have GG := Lib.hid (show RnPost w A B N n T F G (ex0 + 2000) (.returned (.agg #[.slice g2.sa g2.sn g2.sc, .slice (some ⟨eb, 0, none⟩) N N])) _ from ⟨_, m2, F2, G2, rfl, hmwf, hmv, hst.inv, by have := hst.ex; omega⟩)
      clear hst hb3 hon hsame hmwf hmv hlt hj HP
      go_wp2_with fail
      refine bodyPost_ret (v := .agg #[.slice g2.sa g2.sn g2.sc, .slice (some ⟨eb, 0, none⟩) N N]) ?_ rfl GG.out
      simp [results, Tryz.results10, go_sem, k0, k1]
end Go.Proofs.YtjoipeojenfiiaaGreatDoor.Dv
