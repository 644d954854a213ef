/-
  The world of the statement TopMwcasLinear as blocks: its calls, what its threads do, its events. No walk.
  begin of the statement's package: the swap of two calls, the event of a beginning.
  begin of the statement's package: what it leaves.
-/
import Derived.Test.YtejlgnebofdijaaGreatDoorMLkA
import Derived.Test.YtejlgnebofdijaaGreatDoorMLrB
import Derived.Test.YtejlgnebofdijaaGreatDoorMRdA
import Derived.Deep.RegionLaw
import Derived.Deep.CutBlock
import Derived.BigRegion
import Derived.Laws.EntriesVeiled
namespace Go.Proofs.YtejlgnebofdijaaGreatDoor.Dv
open Go.RowKit
open Ln (Cl Ev Run up up_same up_ne)
set_option linter.unusedVariables false

/-- A call as it is handed in. -/
structure RC where
  th : Nat
  rd : Bool
  od : Nat
  nw : Nat
def RC.cl (c : RC) : Cl := ⟨c.th % 3, c.rd, c.od % 3, c.nw % 3⟩
def RC.Ok (c : RC) : Prop := c.th < 256 ∧ c.od < 256 ∧ c.nw < 256
def ccf (rc : Nat → RC) (x : Nat) : Value := if x % 4 = 0 then .int .u8 (rc (x / 4)).th else if x % 4 = 1 then .bool (rc (x / 4)).rd else if x % 4 = 2 then .int .u8 (rc (x / 4)).od else .int .u8 (rc (x / 4)).nw
def evc : Ev → List Value
  | .beg c => [.int .i64 c, .bool false, .bool false, .int .u64 0, .bool false, .int .i64 0, .bool false]
  | .fin c v => [.int .i64 c, .bool true, .bool false, .int .u64 v, .bool true, .int .i64 0, .bool false]
  | .fail c v => [.int .i64 c, .bool true, .bool false, .int .u64 v, .bool true, .int .i64 0, .bool true]
  | .crash => [.int .i64 0, .bool false, .bool true, .int .u64 0, .bool false, .int .i64 0, .bool false]
def evcs (l : List Ev) : List Value := l.flatMap evc
theorem evcs_snoc (l : List Ev) (e : Ev) : evcs (l ++ [e]) = evcs l ++ evc e := by simp [evcs]
theorem infoCEv : (Tryz.prog.info? 52).map (fun i => (i.zero, i.size, i.bytes)) = some (some (.agg #[.int .i64 0, .bool false, .bool false, .int .u64 0, .bool false, .int .i64 0, .bool false]), 7, 48) := by kernel_rfl
theorem elCEv : El Tryz.prog 43 52 7 48 := El.of Tryz.underlying43 infoCEv rfl (by omega)
def actv (B : MAd) : Act → Value
  | .idle => .nilIface
  | .rd r _ _ => .iface 103 (.pointer (some ⟨r, 0, none⟩))
  | .op i => .iface 93 (.pointer (some ⟨B.o i, 0, none⟩))

/-- All of the state. -/
structure CS where
  A : DAd
  B : MAd
  N : Nat
  m : MS
  F : Nat → Option Role
  G : Nat → Option Role
  rc : Nat → RC
  ev : List Ev
  n : Nat
  act : Nat → Act
  nu : Nat → Nat
  evv : Value
def cwf (M kb kc : Nat) (s : CS) : Nat → Value
  | 0 => ptr s.A.d
  | 1 => ptr s.B.p
  | 2 => .slice (some ⟨kb, 0, none⟩) M kc
  | 3 => .int .i64 s.n
  | 4 => actv s.B (s.act 0)
  | 5 => actv s.B (s.act 1)
  | 6 => actv s.B (s.act 2)
  | 7 => .int .i64 (s.nu 0)
  | 8 => .int .i64 (s.nu 1)
  | 9 => .int .i64 (s.nu 2)
  | _ => s.evv
/-- A read in progress (place below 3), or one that has ended (place 3). -/
def RdX (w : World) (r : Nat) (A : DAd) (B : MAd) (t pl raw : Nat) : Prop := (pl < 3 ∧ RdAt w r A B t pl raw false) ∨ (pl = 3 ∧ ∃ p, RdAt w r A B t p raw true)
theorem RdX.lt {w : World} {r t pl raw : Nat} {A : DAd} {B : MAd} (h : RdX w r A B t pl raw) : r < w.heap.size := by
  rcases h with ⟨_, h⟩ | ⟨_, p, h⟩
  · exact h.lt
  · exact h.lt
theorem RdX.of_block {w w' : World} {r t pl raw : Nat} {A : DAd} {B : MAd} (h : RdX w r A B t pl raw) (hb : w'.heap[r]? = w.heap[r]?) : RdX w' r A B t pl raw := by
  rcases h with ⟨a, h⟩ | ⟨a, p, h⟩
  · exact .inl ⟨a, h.of_block hb⟩
  · exact .inr ⟨a, p, h.of_block hb⟩
theorem RdX.cells {w : World} {r t pl raw : Nat} {A : DAd} {B : MAd} (h : RdX w r A B t pl raw) : ∃ c, w.heap[r]? = some (.cells c 153 (0, 0)) := by
  rcases h with ⟨_, h⟩ | ⟨_, p, h⟩
  · exact ⟨_, h⟩
  · exact ⟨_, h⟩
theorem RdX.pool {w : World} {r t pl raw : Nat} {A : DAd} {B B' : MAd} (h : RdX w r A B t pl raw) (hp : B'.p = B.p) : RdX w r A B' t pl raw := by
  unfold RdX RdAt at *
  rw [hp]
  exact h
theorem RdX.ne {w : World} {r t pl raw : Nat} {A : DAd} {B : MAd} (h : RdX w r A B t pl raw) {b n : Nat} {e : TypeId} {f : Nat → Value} (hr : Row w b e n f) (hne : 153 ≠ e) : r ≠ b := by
  rintro rfl
  obtain ⟨c, hc⟩ := h.cells
  obtain ⟨c', hc', _⟩ := hr
  rw [hc] at hc'
  simp only [Option.some.injEq, Obj.cells.injEq] at hc'
  exact hne hc'.2.1
theorem RdX.ne_own {w : World} {r t pl raw : Nat} {A : DAd} {B : MAd} (h : RdX w r A B t pl raw) {X z n : Nat} {e : TypeId} {v : Value} {xs : List Value} (ho : w.ownsRow X e z v n xs) (hne : 153 ≠ e) : v.ownBlock ≠ some r := by
  intro hv
  obtain ⟨c, hc⟩ := h.cells
  rcases ho.2 with ⟨e4, _⟩ | ⟨g', cap', cur, e4, _, hh, _⟩
  · rw [e4] at hv; cases hv
  · rw [e4] at hv
    have : some g' = some r := hv
    cases this
    rw [hc] at hh
    simp only [Option.some.injEq, Obj.cells.injEq] at hh
    exact hne hh.2.1
structure Ch (M : Nat) (T : Nat → Nat) (W0 : World) (wb kb kc : Nat) (s : CS) (w : World) : Prop where
  row : Row w wb 45 11 (cwf M kb kc s)
  calls : Row w kb 37 (4 * M) (ccf s.rc)
  evs : w.ownsRow W0.heap.size 52 7 s.evv s.ev.length (evcs s.ev)
  mw : MW w s.A s.B 96 s.N s.m s.F s.G
  tb : Tb w T s.F s.G
  rds : ∀ t r pl raw, s.act t = .rd r pl raw → RdX w r s.A s.B t pl raw ∧ s.F r = none ∧ s.G r = none ∧ W0.heap.size ≤ r
  dist : ∀ t u r pl raw pl' raw', t ≠ u → s.act t = .rd r pl raw → s.act u ≠ .rd r pl' raw'
  opn : ∀ t i, s.act t = .op i → i < s.N
  nub : ∀ t, s.nu t ≤ 1000
  m8 : 2 ≤ M ∧ M ≤ 8
  kcl : M ≤ kc ∧ kc ≤ maxLen
  rok : ∀ k, (s.rc k).Ok
  nb : s.B.nb = 24
  fw : s.F wb = none ∧ s.G wb = none
  fk : s.F kb = none ∧ s.G kb = none
  fe : ∀ b, s.evv.ownBlock = some b → s.F b = none ∧ s.G b = none
  bel : Below W0.heap.size W0 w
  lo : ∀ b, s.F b ≠ none ∨ s.G b ≠ none → W0.heap.size ≤ b
  lo2 : W0.heap.size ≤ wb ∧ W0.heap.size ≤ kb
  gl : (1 : Nat) < W0.heap.size

section
variable {M : Nat} {T : Nat → Nat} {W0 : World} {wb kb kc : Nat} {s : CS} {w w' : World}
theorem x11 {x : Nat} (h : x < 11) : x = 0 ∨ x = 1 ∨ x = 2 ∨ x = 3 ∨ x = 4 ∨ x = 5 ∨ x = 6 ∨ x = 7 ∨ x = 8 ∨ x = 9 ∨ x = 10 := by omega
theorem MW.none2 {w : World} {A : DAd} {B : MAd} {Lr N : Nat} {m : MS} {F G : Nat → Option Role} (h : MW w A B Lr N m F G) {b : Nat} (hb : w.heap.size ≤ b) : F b = none ∧ G b = none := by
  constructor
  · cases e : F b with
    | none => rfl
    | some q => have := h.dev.lt b (by rw [e]; simp); omega
  · cases e : G b with
    | none => rfl
    | some q => have := (h.gf b (by rw [e]; simp)).2; omega
theorem Ch.below (h : Ch M T W0 wb kb kc s w) (hb : Below w.heap.size w w') : Ch M T W0 wb kb kc s w' :=
  { h with
    row := h.row.of_block (hb.block _ h.row.lt)
    calls := h.calls.of_block (hb.block _ h.calls.lt)
    evs := own_agree h.evs (fun b hb2 => hb.block b (h.evs.lt b hb2).2)
    mw := (h.mw.below hb).1
    tb := h.tb.moved (h.mw.below hb).2
    rds := fun t r pl raw e => by
      obtain ⟨a, b⟩ := h.rds t r pl raw e
      exact ⟨a.of_block (hb.block _ a.lt), b⟩
    bel := h.bel.trans (hb.mono h.bel.size) }
/-- The pool has moved on; the operations that there were are where they were. -/
theorem Ch.moved (h : Ch M T W0 wb kb kc s w) {B' : MAd} {N' : Nat} {m' : MS} {F' G' : Nat → Option Role} (hmw : MW w' s.A B' 96 N' m' F' G') (mv : MMoved s.F s.G F' G' w w') (hnb : B'.nb = s.B.nb) (hp : B'.p = s.B.p) (ho : ∀ i, i < s.N → B'.o i = s.B.o i) (hN : s.N ≤ N') :
    Ch M T W0 wb kb kc { s with B := B', N := N', m := m', F := F', G := G' } w' := by
  have keep : ∀ b, b < w.heap.size → s.F b = none → s.G b = none → w'.heap[b]? = w.heap[b]? := fun b hb h1 h2 => mv.only.block b hb (by rw [h1, h2]; simp)
  have act : ∀ t, actv B' (s.act t) = actv s.B (s.act t) := fun t => by
    cases e : s.act t with
    | idle => rfl
    | rd r pl raw => rfl
    | op i =>
      show Value.iface _ (.pointer (some ⟨B'.o i, 0, none⟩)) = Value.iface _ (.pointer (some ⟨s.B.o i, 0, none⟩))
      rw [ho i (h.opn t i e)]
  have hevl : ∀ b, s.evv.ownBlock = some b → b < w.heap.size := fun b hb => (h.evs.lt b hb).2
  refine { row := ?_, calls := ?_, evs := ?_, mw := hmw, tb := h.tb.moved mv, rds := ?_, dist := h.dist, opn := fun t i e => Nat.lt_of_lt_of_le (h.opn t i e) hN, nub := h.nub, m8 := h.m8, kcl := h.kcl, rok := h.rok, nb := hnb.trans h.nb, fw := ?_, fk := ?_, fe := ?_, bel := ?_, lo := ?_, lo2 := h.lo2, gl := h.gl }
  · refine (h.row.of_block (keep _ h.row.lt h.fw.1 h.fw.2)).congr (fun x hx => ?_)
    rcases x11 hx with rfl | rfl | rfl | rfl | rfl | rfl | rfl | rfl | rfl | rfl | rfl
    · rfl
    · show ptr _ = ptr _; rw [hp]
    · rfl
    · rfl
    · exact act 0
    · exact act 1
    · exact act 2
    · rfl
    · rfl
    · rfl
    · rfl
  · exact h.calls.of_block (keep _ h.calls.lt h.fk.1 h.fk.2)
  · exact own_agree h.evs (fun b hb => keep b (hevl b hb) (h.fe b hb).1 (h.fe b hb).2)
  · intro t r pl raw e
    obtain ⟨a, b, c, d⟩ := h.rds t r pl raw e
    refine ⟨?_, by show F' r = none; rw [(mv.same r a.lt).1]; exact b, by show G' r = none; rw [(mv.same r a.lt).2]; exact c, d⟩
    exact (a.of_block (keep _ a.lt b c)).pool hp
  · show F' wb = none ∧ G' wb = none
    rw [(mv.same wb h.row.lt).1, (mv.same wb h.row.lt).2]; exact h.fw
  · show F' kb = none ∧ G' kb = none
    rw [(mv.same kb h.calls.lt).1, (mv.same kb h.calls.lt).2]; exact h.fk
  · intro b hb
    show F' b = none ∧ G' b = none
    rw [(mv.same b (hevl b hb)).1, (mv.same b (hevl b hb)).2]; exact h.fe b hb
  · refine ⟨mv.only.os.trans h.bel.os, mv.only.tape.trans h.bel.tape, mv.only.output.trans h.bel.output, Nat.le_trans h.bel.size mv.only.size, fun k hk => ?_⟩
    exact (mv.only.block k (Nat.lt_of_lt_of_le hk h.bel.size) (fun hf => by have := h.lo k hf; omega)).trans (h.bel.block k hk)
  · intro b hb
    rcases Nat.lt_or_ge b w.heap.size with h1 | h1
    · have hb : F' b ≠ none ∨ G' b ≠ none := hb
      rw [(mv.same b h1).1, (mv.same b h1).2] at hb
      exact h.lo b hb
    · have := h.bel.size; omega
/-- A cell of the world's own block is set. -/
theorem Ch.setw (h : Ch M T W0 wb kb kc s w) {s' : CS} {x : Nat} {v : Value} (hA : s'.A = s.A) (hB : s'.B = s.B) (hN : s'.N = s.N) (hm : s'.m = s.m) (hF : s'.F = s.F) (hG : s'.G = s.G) (hrc : s'.rc = s.rc) (hev : s'.ev = s.ev) (hevv : s'.evv = s.evv)
    (hc : ∀ y, y < 11 → cwf M kb kc s' y = if y = x then v else cwf M kb kc s y) (hact : ∀ t r pl raw, s'.act t = .rd r pl raw → RdX w r s.A s.B t pl raw ∧ s.F r = none ∧ s.G r = none ∧ W0.heap.size ≤ r)
    (hdist : ∀ t u r pl raw pl' raw', t ≠ u → s'.act t = .rd r pl raw → s'.act u ≠ .rd r pl' raw') (hopn : ∀ t i, s'.act t = .op i → i < s.N) (hnub : ∀ t, s'.nu t ≤ 1000) : Ch M T W0 wb kb kc s' (w.setCell ⟨wb, x, none⟩ v) := by
  have hon : Only (fun b => b = wb) w (w.setCell ⟨wb, x, none⟩ v) := (Only.refl (fun b => b = wb) w).set (F := fun b => b = wb) rfl v
  have hmw := h.mw.free hon (fun k hk _ => by rw [hk]; exact h.fw)
  refine { row := (h.row.set x v).congr (fun y hy => (hc y hy)), calls := ?_, evs := ?_, mw := ?_, tb := ?_, rds := ?_, dist := hdist, opn := fun t i e => by rw [hN]; exact hopn t i e, nub := hnub, m8 := h.m8, kcl := h.kcl, rok := by rw [hrc]; exact h.rok, nb := by rw [hB]; exact h.nb, fw := by rw [hF, hG]; exact h.fw, fk := by rw [hF, hG]; exact h.fk, fe := by rw [hF, hG, hevv]; exact h.fe, bel := h.bel.setCell h.lo2.1 _, lo := by rw [hF, hG]; exact h.lo, lo2 := h.lo2, gl := h.gl }
  · rw [hrc]; exact h.calls.of_block (heap_set_ne (row_types_ne h.calls h.row (by decide)))
  · rw [hevv, hev]
    exact own_agree h.evs (fun b hb => heap_set_ne (fun e => row_own_ne h.row h.evs (by decide) (by rw [hb, e])))
  · rw [hA, hB, hN, hm, hF, hG]; exact hmw
  · rw [hF, hG]
    exact ⟨h.tb.tab.of_block (heap_set_ne (by have := h.gl; have := h.lo2.1; omega)), h.tb.f, h.tb.g⟩
  · intro t r pl raw e
    obtain ⟨a, b⟩ := hact t r pl raw e
    rw [hA, hB, hF, hG]
    exact ⟨a.of_block (heap_set_ne (a.ne h.row (by decide))), b⟩
def CS.setAct (s : CS) (t : Nat) (a : Act) : CS := { s with act := up s.act t a }
def CS.setNum (s : CS) (t c : Nat) : CS := { s with nu := up s.nu t c }
def CS.setNext (s : CS) (n : Nat) : CS := { s with n := n }
def CS.push (s : CS) (e : Ev) (v : Value) : CS := { s with ev := s.ev ++ [e], evv := v }
theorem Ch.setAct (h : Ch M T W0 wb kb kc s w) {t : Nat} (ht : t < 3) (a : Act) (hr : ∀ r pl raw, a = .rd r pl raw → RdX w r s.A s.B t pl raw ∧ s.F r = none ∧ s.G r = none ∧ W0.heap.size ≤ r) (hd : ∀ u r pl raw pl' raw', u ≠ t → a = .rd r pl raw → s.act u ≠ .rd r pl' raw') (ho : ∀ i, a = .op i → i < s.N) :
    Ch M T W0 wb kb kc (s.setAct t a) (w.setCell ⟨wb, 4 + t, none⟩ (actv s.B a)) := by
  refine h.setw (s' := s.setAct t a) rfl rfl rfl rfl rfl rfl rfl rfl rfl (fun y hy => ?_) ?_ ?_ ?_ h.nub
  · have ht3 : t = 0 ∨ t = 1 ∨ t = 2 := by omega
    have e0 : cwf M kb kc (s.setAct t a) y = if y = 4 then actv s.B (up s.act t a 0) else if y = 5 then actv s.B (up s.act t a 1) else if y = 6 then actv s.B (up s.act t a 2) else cwf M kb kc s y := by
      rcases x11 hy with rfl | rfl | rfl | rfl | rfl | rfl | rfl | rfl | rfl | rfl | rfl <;> rfl
    have e1 : ∀ j, j < 3 → cwf M kb kc s (4 + j) = actv s.B (s.act j) := fun j hj => by
      have : j = 0 ∨ j = 1 ∨ j = 2 := by omega
      rcases this with rfl | rfl | rfl <;> rfl
    rw [e0]
    unfold up
    rcases ht3 with rfl | rfl | rfl
    · by_cases h4 : y = 4
      · subst h4; rfl
      · by_cases h5 : y = 5
        · subst h5; rfl
        · by_cases h6 : y = 6
          · subst h6; rfl
          · rw [if_neg h4, if_neg h5, if_neg h6, if_neg h4]
    · by_cases h4 : y = 4
      · subst h4; rfl
      · by_cases h5 : y = 5
        · subst h5; rfl
        · by_cases h6 : y = 6
          · subst h6; rfl
          · rw [if_neg h4, if_neg h5, if_neg h6, if_neg h5]
    · by_cases h4 : y = 4
      · subst h4; rfl
      · by_cases h5 : y = 5
        · subst h5; rfl
        · by_cases h6 : y = 6
          · subst h6; rfl
          · rw [if_neg h4, if_neg h5, if_neg h6, if_neg h6]
  · intro u r pl raw e
    by_cases hu : u = t
    · rw [hu] at e ⊢
      have e : up s.act t a t = _ := e
      rw [up_same] at e
      exact hr r pl raw e
    · have e : up s.act t a u = _ := e
      rw [up_ne _ _ hu] at e
      exact h.rds u r pl raw e
  · intro u u' r pl raw pl' raw' hne e e'
    have e : up s.act t a u = _ := e
    have e' : up s.act t a u' = _ := e'
    by_cases hu : u = t
    · rw [hu, up_same] at e
      rw [up_ne _ _ (by omega)] at e'
      exact hd u' r pl raw pl' raw' (by omega) e e'
    · rw [up_ne _ _ hu] at e
      by_cases hu' : u' = t
      · rw [hu', up_same] at e'
        exact hd u r pl' raw' pl raw hu e' e
      · rw [up_ne _ _ hu'] at e'
        exact h.dist u u' r pl raw pl' raw' hne e e'
  · intro u i e
    have e : up s.act t a u = _ := e
    by_cases hu : u = t
    · rw [hu, up_same] at e; exact ho i e
    · rw [up_ne _ _ hu] at e; exact h.opn u i e
theorem Ch.setNum (h : Ch M T W0 wb kb kc s w) {t : Nat} (ht : t < 3) {c : Nat} (hc : c ≤ 1000) : Ch M T W0 wb kb kc (s.setNum t c) (w.setCell ⟨wb, 7 + t, none⟩ (.int .i64 c)) := by
  refine h.setw (s' := s.setNum t c) rfl rfl rfl rfl rfl rfl rfl rfl rfl (fun y hy => ?_) h.rds h.dist h.opn (fun u => ?_)
  · have ht3 : t = 0 ∨ t = 1 ∨ t = 2 := by omega
    rcases ht3 with rfl | rfl | rfl <;> rcases x11 hy with rfl | rfl | rfl | rfl | rfl | rfl | rfl | rfl | rfl | rfl | rfl <;> rfl
  · show up s.nu t c u ≤ 1000
    unfold up
    split
    · exact hc
    · exact h.nub u
theorem Ch.setNext (h : Ch M T W0 wb kb kc s w) (n : Nat) : Ch M T W0 wb kb kc (s.setNext n) (w.setCell ⟨wb, 3, none⟩ (.int .i64 n)) := by
  refine h.setw (s' := s.setNext n) rfl rfl rfl rfl rfl rfl rfl rfl rfl (fun y hy => ?_) h.rds h.dist h.opn h.nub
  rcases x11 hy with rfl | rfl | rfl | rfl | rfl | rfl | rfl | rfl | rfl | rfl | rfl <;> rfl
/-- An event is appended. -/
theorem Ch.push (h : Ch M T W0 wb kb kc s w) {e : Ev} {w4 : World} {g4 cap4 : Nat} (ho : w4.ownsRow W0.heap.size 52 7 (.slice (some ⟨g4, 0, none⟩) (s.ev.length + 1) cap4) (s.ev.length + 1) (evcs s.ev ++ evc e)) (hgr : w.grownBy w4 s.evv.ownBlock) (hg : s.evv.ownBlock = some g4 ∨ w.heap.size ≤ g4) :
    Ch M T W0 wb kb kc (s.push e (.slice (some ⟨g4, 0, none⟩) (s.ev.length + 1) cap4)) (w4.setCell ⟨wb, 10, none⟩ (.slice (some ⟨g4, 0, none⟩) (s.ev.length + 1) cap4)) := by
  have hon : Only (fun b => s.evv.ownBlock = some b) w w4 := ⟨hgr.os, hgr.tape, hgr.output, hgr.size, fun b hb hn => hgr.block b hb (fun e => hn e.symm)⟩
  have hmw := h.mw.free hon (fun b hb _ => h.fe b hb)
  have nw : s.evv.ownBlock ≠ some wb := row_own_ne h.row h.evs (by decide)
  have nk : s.evv.ownBlock ≠ some kb := row_own_ne h.calls h.evs (by decide)
  have hrow : Row w4 wb 45 11 (cwf M kb kc s) := h.row.of_block (hgr.block _ h.row.lt nw.symm)
  have fe4 : s.F g4 = none ∧ s.G g4 = none := by
    rcases hg with hg | hg
    · exact h.fe g4 hg
    · exact h.mw.none2 hg
  have hon2 : Only (fun b => b = wb) w4 (w4.setCell ⟨wb, 10, none⟩ (.slice (some ⟨g4, 0, none⟩) (s.ev.length + 1) cap4)) := (Only.refl (fun b => b = wb) w4).set (F := fun b => b = wb) rfl _
  have hmw2 := hmw.free hon2 (fun k hk _ => by rw [hk]; exact h.fw)
  have hne : wb ≠ g4 := fun e => by
    rcases ho.2 with ⟨e1, _⟩ | ⟨g', cap', cur, e1, _, hh, _⟩
    · cases e1
    · cases e1
      obtain ⟨c, hc, _⟩ := hrow
      rw [e, hh] at hc
      simp at hc
  refine { row := (hrow.set 10 _).congr (fun y hy => ?_), calls := ?_, evs := ?_, mw := hmw2, tb := ?_, rds := ?_, dist := h.dist, opn := h.opn, nub := h.nub, m8 := h.m8, kcl := h.kcl, rok := h.rok, nb := h.nb, fw := h.fw, fk := h.fk, fe := ?_, bel := ?_, lo := h.lo, lo2 := h.lo2, gl := h.gl }
  · rcases x11 hy with rfl | rfl | rfl | rfl | rfl | rfl | rfl | rfl | rfl | rfl | rfl <;> rfl
  · exact (h.calls.of_block (hgr.block _ h.calls.lt nk.symm)).of_block (heap_set_ne (row_types_ne h.calls h.row (by decide)))
  · show (w4.setCell _ _).ownsRow _ _ 7 _ (s.ev ++ [e]).length (evcs (s.ev ++ [e]))
    rw [evcs_snoc, List.length_append]
    exact own_agree ho (fun b hb => heap_set_ne (fun e2 => by have : some g4 = some b := hb; cases this; exact hne e2.symm))
  · refine ⟨(h.tb.tab.of_block (hgr.block _ h.tb.tab.lt (fun e => ?_))).of_block (heap_set_ne (by have := h.gl; have := h.lo2.1; omega)), h.tb.f, h.tb.g⟩
    have := (h.evs.lt _ e.symm).1
    have := h.gl
    omega
  · intro t r pl raw e2
    obtain ⟨a, b⟩ := h.rds t r pl raw e2
    exact ⟨(a.of_block (hgr.block _ a.lt (fun e3 => a.ne_own h.evs (by decide) e3.symm))).of_block (heap_set_ne (a.ne h.row (by decide))), b⟩
  · intro b hb
    have : some g4 = some b := hb
    cases this
    exact fe4
  · exact (below_grown h.bel hgr (h.bel.size) (fun b hb => (h.evs.lt b hb).1)).setCell h.lo2.1 _
/-- The block of the calls is changed. -/
theorem Ch.setCalls (h : Ch M T W0 wb kb kc s w) {rc' : Nat → RC} (hon : Only (fun b => b = kb) w w') (hrow : Row w' kb 37 (4 * M) (ccf rc')) (hok : ∀ k, (rc' k).Ok) : Ch M T W0 wb kb kc { s with rc := rc' } w' := by
  have keep : ∀ b, b < w.heap.size → b ≠ kb → w'.heap[b]? = w.heap[b]? := fun b hb hne => hon.block b hb hne
  have nw : wb ≠ kb := (row_types_ne h.calls h.row (by decide)).symm
  refine { row := (h.row.of_block (keep _ h.row.lt nw)).congr (fun y hy => ?_), calls := hrow, evs := own_agree h.evs (fun b hb => keep b (h.evs.lt b hb).2 (fun e => row_own_ne h.calls h.evs (by decide) (by rw [hb, e]))), mw := h.mw.free hon (fun k hk _ => by rw [hk]; exact h.fk), tb := ⟨h.tb.tab.of_block (keep _ h.tb.tab.lt (by have := h.gl; have := h.lo2.2; omega)), h.tb.f, h.tb.g⟩, rds := ?_, dist := h.dist, opn := h.opn, nub := h.nub, m8 := h.m8, kcl := h.kcl, rok := hok, nb := h.nb, fw := h.fw, fk := h.fk, fe := h.fe, bel := ?_, lo := h.lo, lo2 := h.lo2, gl := h.gl }
  · rcases x11 hy with rfl | rfl | rfl | rfl | rfl | rfl | rfl | rfl | rfl | rfl | rfl <;> rfl
  · intro t r pl raw e
    obtain ⟨a, b⟩ := h.rds t r pl raw e
    exact ⟨a.of_block (keep _ a.lt (a.ne h.calls (by decide))), b⟩
  · refine ⟨hon.os.trans h.bel.os, hon.tape.trans h.bel.tape, hon.output.trans h.bel.output, Nat.le_trans h.bel.size hon.size, fun k hk => ?_⟩
    exact (keep k (Nat.lt_of_lt_of_le hk h.bel.size) (by have := h.lo2.2; omega)).trans (h.bel.block k hk)
/-- A read has made a step. -/
theorem Ch.readStep (h : Ch M T W0 wb kb kc s w) {t r pl raw pl' raw' : Nat} {m1 : MS} (ha : s.act t = .rd r pl raw) (hw : RWent w s.A s.B 96 s.N m1 s.F s.G r w') (hr : RdX w' r s.A s.B t pl' raw') :
    ∃ F', Ch M T W0 wb kb kc { s with m := m1, F := F', act := up s.act t (.rd r pl' raw') } w' := by
  obtain ⟨F', hmw, hon, hF⟩ := hw
  obtain ⟨a, hf, hg, hlo⟩ := h.rds t r pl raw ha
  have keep : ∀ b, b < w.heap.size → s.F b = none → s.G b = none → b ≠ r → w'.heap[b]? = w.heap[b]? := fun b hb h1 h2 h3 => hon.block b hb (by rw [h1, h2]; simp [h3])
  have hevl : ∀ b, s.evv.ownBlock = some b → b < w.heap.size := fun b hb => (h.evs.lt b hb).2
  have hact : ∀ u, actv s.B (up s.act t (.rd r pl' raw') u) = actv s.B (s.act u) := fun u => by
    by_cases hu : u = t
    · rw [hu, up_same, ha]; rfl
    · rw [up_ne _ _ hu]
  refine ⟨F', { row := ?_, calls := h.calls.of_block (keep _ h.calls.lt h.fk.1 h.fk.2 (a.ne h.calls (by decide)).symm), evs := own_agree h.evs (fun b hb => keep b (hevl b hb) (h.fe b hb).1 (h.fe b hb).2 (fun e => a.ne_own h.evs (by decide) (by rw [hb, e]))), mw := hmw, tb := ⟨h.tb.tab.of_block (keep _ h.tb.tab.lt h.tb.f h.tb.g (by have := h.gl; omega)), (hF _ h.tb.tab.lt).trans h.tb.f, h.tb.g⟩, rds := ?_, dist := ?_, opn := ?_, nub := h.nub, m8 := h.m8, kcl := h.kcl, rok := h.rok, nb := h.nb, fw := ?_, fk := ?_, fe := ?_, bel := ?_, lo := ?_, lo2 := h.lo2, gl := h.gl }⟩
  · refine (h.row.of_block (keep _ h.row.lt h.fw.1 h.fw.2 (a.ne h.row (by decide)).symm)).congr (fun y hy => ?_)
    rcases x11 hy with rfl | rfl | rfl | rfl | rfl | rfl | rfl | rfl | rfl | rfl | rfl
    · rfl
    · rfl
    · rfl
    · rfl
    · exact hact 0
    · exact hact 1
    · exact hact 2
    · rfl
    · rfl
    · rfl
    · rfl
  · intro u r2 pl2 raw2 e
    by_cases hu : u = t
    · subst hu
      have e : up s.act u (.rd r pl' raw') u = _ := e
      rw [up_same] at e
      cases e
      exact ⟨hr, by show F' r = none; rw [hF r a.lt]; exact hf, hg, hlo⟩
    · have e : up s.act t (.rd r pl' raw') u = _ := e
      rw [up_ne _ _ hu] at e
      obtain ⟨a2, b2, c2, d2⟩ := h.rds u r2 pl2 raw2 e
      refine ⟨a2.of_block (keep _ a2.lt b2 c2 (fun e2 => ?_)), by show F' r2 = none; rw [hF r2 a2.lt]; exact b2, c2, d2⟩
      rw [e2] at e
      exact h.dist t u r pl raw pl2 raw2 (Ne.symm hu) ha e
  · intro u u' r2 pl2 raw2 pl3 raw3 hne e e'
    have e : up s.act t (.rd r pl' raw') u = _ := e
    have e' : up s.act t (.rd r pl' raw') u' = _ := e'
    by_cases hu : u = t
    · rw [hu, up_same] at e
      cases e
      rw [up_ne _ _ (by omega)] at e'
      exact h.dist t u' r pl raw pl3 raw3 (by omega) ha e'
    · rw [up_ne _ _ hu] at e
      by_cases hu' : u' = t
      · rw [hu', up_same] at e'
        cases e'
        exact h.dist t u r pl raw pl2 raw2 (Ne.symm hu) ha e
      · rw [up_ne _ _ hu'] at e'
        exact h.dist u u' r2 pl2 raw2 pl3 raw3 hne e e'
  · intro u i e
    have e : up s.act t (.rd r pl' raw') u = _ := e
    by_cases hu : u = t
    · rw [hu, up_same] at e; cases e
    · rw [up_ne _ _ hu] at e; exact h.opn u i e
  · exact ⟨by show F' wb = none; rw [hF wb h.row.lt]; exact h.fw.1, h.fw.2⟩
  · exact ⟨by show F' kb = none; rw [hF kb h.calls.lt]; exact h.fk.1, h.fk.2⟩
  · intro b hb
    exact ⟨by show F' b = none; rw [hF b (hevl b hb)]; exact (h.fe b hb).1, (h.fe b hb).2⟩
  · refine ⟨hon.os.trans h.bel.os, hon.tape.trans h.bel.tape, hon.output.trans h.bel.output, Nat.le_trans h.bel.size hon.size, fun k hk => ?_⟩
    refine (hon.block k (Nat.lt_of_lt_of_le hk h.bel.size) ?_).trans (h.bel.block k hk)
    rintro (hf | hf | hf)
    · have := h.lo k (.inl hf); omega
    · have := h.lo k (.inr hf); omega
    · omega
  · intro b hb
    rcases Nat.lt_or_ge b w.heap.size with h1 | h1
    · have hb : F' b ≠ none ∨ s.G b ≠ none := hb
      rw [hF b h1] at hb
      exact h.lo b hb
    · have := h.bel.size; omega
end
end Go.Proofs.YtejlgnebofdijaaGreatDoor.Dv

namespace Go.Proofs.YtejlgnebofdijaaGreatDoor.Dv
open Go.RowKit
open Ln (Cl Ev Run up up_same up_ne)
set_option linter.unusedVariables false

def swp (rc : Nat → RC) (k n : Nat) : Nat → RC := fun i => if i = k then rc n else if i = n then rc k else rc i
def set4 (f : Nat → Value) (p : Nat) (c : RC) : Nat → Value := fun x => if x / 4 = p then (if x % 4 = 0 then .int .u8 c.th else if x % 4 = 1 then .bool c.rd else if x % 4 = 2 then .int .u8 c.od else .int .u8 c.nw) else f x
def put4 (w : World) (b p : Nat) (c : RC) : World := (((w.setCell ⟨b, p * 4, none⟩ (.int .u8 c.th)).setCell ⟨b, p * 4 + 1, none⟩ (.bool c.rd)).setCell ⟨b, p * 4 + 2, none⟩ (.int .u8 c.od)).setCell ⟨b, p * 4 + 3, none⟩ (.int .u8 c.nw)
theorem row_put4 {w : World} {b M p : Nat} {e : TypeId} {f : Nat → Value} (h : Row w b e (4 * M) f) (c : RC) : Row (put4 w b p c) b e (4 * M) (set4 f p c) := by
  refine ((((h.set (p * 4) _).set (p * 4 + 1) _).set (p * 4 + 2) _).set (p * 4 + 3) _).congr (fun x hx => ?_)
  unfold set4
  have hm : x % 4 < 4 := Nat.mod_lt _ (by omega)
  by_cases hp : x / 4 = p
  · have h4 : x % 4 = 0 ∨ x % 4 = 1 ∨ x % 4 = 2 ∨ x % 4 = 3 := by omega
    rcases h4 with h4 | h4 | h4 | h4
    · rw [if_pos hp, h4]
      simp [show x = p * 4 by omega]
    · rw [if_pos hp, h4]
      simp [show x = p * 4 + 1 by omega]
    · rw [if_pos hp, h4]
      simp [show x = p * 4 + 2 by omega]
    · rw [if_pos hp, h4]
      simp [show x = p * 4 + 3 by omega]
  · have e0 : ¬ x = p * 4 := by omega
    have e1 : ¬ x = p * 4 + 1 := by omega
    have e2 : ¬ x = p * 4 + 2 := by omega
    have e3 : ¬ x = p * 4 + 3 := by omega
    simp [hp, e0, e1, e2, e3]
theorem only_put4 (w : World) (b p : Nat) (c : RC) : Only (fun x => x = b) w (put4 w b p c) :=
  (((((Only.refl (fun x => x = b) w).set (F := fun x => x = b) rfl _).set (F := fun x => x = b) rfl _).set (F := fun x => x = b) rfl _).set (F := fun x => x = b) rfl _)
theorem swp1 (rc : Nat → RC) (k n x : Nat) : set4 (set4 (ccf rc) k (rc n)) n (rc k) x = ccf (swp rc k n) x := by
  unfold set4 ccf swp
  by_cases h1 : x / 4 = n
  · by_cases h2 : x / 4 = k
    · have : k = n := by omega
      subst this
      simp [h1]
    · have h3 : ¬ n = k := by omega
      simp [h1, h3]
  · by_cases h2 : x / 4 = k
    · have h3 : ¬ k = n := by omega
      simp [h2, h3]
    · simp [h1, h2]
theorem swp2 (rc : Nat → RC) (k n x : Nat) : set4 (set4 (ccf rc) n (rc k)) k (rc n) x = ccf (swp rc k n) x := by
  unfold set4 ccf swp
  by_cases h1 : x / 4 = n
  · by_cases h2 : x / 4 = k
    · have : k = n := by omega
      subst this
      simp [h1]
    · have h3 : ¬ n = k := by omega
      simp [h1, h3]
  · by_cases h2 : x / 4 = k
    · have h3 : ¬ k = n := by omega
      simp [h2]
    · simp [h1, h2]
def CS.swap (s : CS) (k : Nat) : CS := { s with rc := swp s.rc k s.n }
section
variable {M : Nat} {T : Nat → Nat} {W0 : World} {wb kb kc : Nat} {s : CS} {w w' : World}
theorem swp_ok {rc : Nat → RC} (h : ∀ k, (rc k).Ok) (k n : Nat) : ∀ i, (swp rc k n i).Ok := fun i => by
  unfold swp
  split
  · exact h n
  · split
    · exact h k
    · exact h i
theorem Ch.swap1 (h : Ch M T W0 wb kb kc s w) (k : Nat) : Ch M T W0 wb kb kc (s.swap k) (put4 (put4 w kb k (s.rc s.n)) kb s.n (s.rc k)) :=
  h.setCalls ((only_put4 _ _ _ _).trans (only_put4 _ _ _ _) (fun _ _ e => e)) ((row_put4 (row_put4 h.calls _) _).congr (fun x _ => (swp1 s.rc k s.n x).symm)) (swp_ok h.rok _ _)
theorem Ch.swap2 (h : Ch M T W0 wb kb kc s w) (k : Nat) : Ch M T W0 wb kb kc (s.swap k) (put4 (put4 w kb s.n (s.rc k)) kb k (s.rc s.n)) :=
  h.setCalls ((only_put4 _ _ _ _).trans (only_put4 _ _ _ _) (fun _ _ e => e)) ((row_put4 (row_put4 h.calls _) _).congr (fun x _ => (swp2 s.rc k s.n x).symm)) (swp_ok h.rok _ _)
/-- The cells of call k. -/
theorem Ch.call (h : Ch M T W0 wb kb kc s w) {k : Nat} (hk : k < M) : w.cell? ⟨kb, k * 4, none⟩ = some (.int .u8 (s.rc k).th) ∧ w.cell? ⟨kb, k * 4 + 1, none⟩ = some (.bool (s.rc k).rd) ∧ w.cell? ⟨kb, k * 4 + 2, none⟩ = some (.int .u8 (s.rc k).od) ∧ w.cell? ⟨kb, k * 4 + 3, none⟩ = some (.int .u8 (s.rc k).nw) := by
  have c := fun j (hj : j < 4) => h.calls.cell (k * 4 + j) (by omega)
  have e : ∀ j, j < 4 → (k * 4 + j) / 4 = k ∧ (k * 4 + j) % 4 = j := fun j hj => by omega
  refine ⟨?_, ?_, ?_, ?_⟩
  · have := c 0 (by omega)
    unfold ccf at this
    rw [(e 0 (by omega)).1, (e 0 (by omega)).2] at this
    exact this
  · have := c 1 (by omega)
    unfold ccf at this
    rw [(e 1 (by omega)).1, (e 1 (by omega)).2] at this
    exact this
  · have := c 2 (by omega)
    unfold ccf at this
    rw [(e 2 (by omega)).1, (e 2 (by omega)).2] at this
    exact this
  · have := c 3 (by omega)
    unfold ccf at this
    rw [(e 3 (by omega)).1, (e 3 (by omega)).2] at this
    exact this
end
end Go.Proofs.YtejlgnebofdijaaGreatDoor.Dv

namespace Go.Proofs.YtejlgnebofdijaaGreatDoor.Dv
open Go.RowKit
open Ln (Cl Ev Run up up_same up_ne)
set_option linter.unusedVariables false

structure Cw (M : Nat) (T : Nat → Nat) (W0 : World) (wb kb kc : Nat) (s : CS) (w : World) : Prop where
  ch : Ch M T W0 wb kb kc s w
  lk : ∃ pd l v od nw, Lnk T (fun k => (s.rc k).cl) s.ev pd s.n l v od nw s.N s.m s.act ∧ ∀ t c, pd t = some c → s.nu t = c
  nn : s.n ≤ M
  cr : crs s.ev ≤ 400
theorem Cw.below {M : Nat} {T : Nat → Nat} {W0 : World} {wb kb kc : Nat} {s : CS} {w w' : World} (h : Cw M T W0 wb kb kc s w) (hb : Below w.heap.size w w') : Cw M T W0 wb kb kc s w' := { h with ch := h.ch.below hb }
theorem Cw.evl {M : Nat} {T : Nat → Nat} {W0 : World} {wb kb kc : Nat} {s : CS} {w : World} (h : Cw M T W0 wb kb kc s w) : s.ev.length ≤ 416 := by
  obtain ⟨pd, l, v, od, nw, hl, _⟩ := h.lk
  have h1 := Run.evs hl.run
  have h2 := h.nn
  have h3 := h.ch.m8
  have h4 := h.cr
  omega
/-- What is said of all calls that are left stays true of them. -/
def Rest (M : Nat) (s s' : CS) : Prop := ∀ P : RC → Prop, (∀ k, s.n ≤ k → k < M → P (s.rc k)) → ∀ k, s'.n ≤ k → k < M → P (s'.rc k)
/-- The other threads do what they did. -/
def Oth (t : Nat) (s s' : CS) : Prop := ∀ u, u ≠ t → s'.act u = s.act u
def BnPost (M : Nat) (T : Nat → Nat) (W0 : World) (wb kb kc : Nat) (s : CS) (t : Nat) (e : Ending) (w' : World) : Prop :=
  (e = .returned (.bool false) ∧ Cw M T W0 wb kb kc s w' ∧ ∀ k, s.n ≤ k → k < M → (s.rc k).th % 3 ≠ t) ∨
  (e = .returned (.bool true) ∧ ∃ s', Cw M T W0 wb kb kc s' w' ∧ s'.n = s.n + 1 ∧ s'.act t ≠ .idle ∧ s'.m.dev = s.m.dev ∧ Rest M s s' ∧ crs s'.ev = crs s.ev ∧ Oth t s s')
def BnRel (M : Nat) (s : CS) (t : Nat) (w : World) (i : Value) (wl : World) : Prop := ∃ k : Nat, s.n ≤ k ∧ k ≤ M ∧ i = .int .i64 (k : Nat) ∧ Below w.heap.size w wl ∧ ∀ j, s.n ≤ j → j < k → (s.rc j).th % 3 ≠ t
def BoxAt (w : World) (cb : Nat) (c : RC) : Prop := w.heap[cb]? = some (.cells #[.int .u8 c.th, .bool c.rd, .int .u8 c.od, .int .u8 c.nw] 37 (0, 0))
/-- After the swap. -/
def SwCut (M : Nat) (T : Nat → Nat) (W0 : World) (wb kb kc : Nat) (s : CS) (k cb : Nat) (wc : World) : Prop := Ch M T W0 wb kb kc (s.swap k) wc ∧ BoxAt wc cb (s.rc k)
/-- After the operation or the read is made. -/
def MdCut (M : Nat) (T : Nat → Nat) (W0 : World) (wb kb kc : Nat) (s : CS) (k t : Nat) (wc : World) : Prop :=
  ∃ s1, Ch M T W0 wb kb kc s1 wc ∧ s1.n = s.n ∧ s1.ev = s.ev ∧ s1.rc = swp s.rc k s.n ∧ s1.nu = s.nu ∧ s1.act t ≠ .idle ∧ s1.m.dev = s.m.dev ∧ Oth t s s1 ∧
    ∃ pd l v od nw, Lnk T (fun k => (s1.rc k).cl) (s.ev ++ [.beg s.n]) (up pd t (some s.n)) (s.n + 1) l v od nw s1.N s1.m s1.act ∧ ∀ t c, pd t = some c → s.nu t = c

theorem wrap_tmod {x : Nat} (hx : x < 256) : IntKind.u64.wrap ((x : Int).tmod 3) = ((x % 3 : Nat) : Int) := by
  rw [Int.tmod_eq_emod_of_nonneg (by omega), IntKind.wrap_u64]
  omega
theorem es2_new {a b : Nat} (ha : a < 3) (hb : b < 3) : EsNew 7040 (es2 a b) := by
  refine ⟨⟨by show 1 ≤ 2; omega, by show 2 ≤ 6; omega⟩, fun e he => ?_, fun e he => ?_, by show ([6400, 6528] : List Nat).Nodup; decide⟩
  · simp [es2] at he
    rcases he with rfl | rfl <;> simp
  · simp [es2] at he
    rcases he with rfl | rfl <;> (dsimp only; omega)
theorem Rest.swap {M : Nat} {s s' : CS} {k : Nat} (hk : s.n ≤ k) (hkM : k < M) (hrc : s'.rc = swp s.rc k s.n) (hn : s'.n = s.n + 1) : Rest M s s' := by
  intro P h j h1 h2
  rw [hrc]
  unfold swp
  split
  · exact h _ (Nat.le_refl _) (by omega)
  · split
    · exact h k hk hkM
    · exact h j (by omega) h2
/-- The link behind the swap. -/
theorem Lnk.swap {T : Nat → Nat} {s : CS} {pd : Nat → Option Nat} {l : List (Nat × Nat)} {v : Nat} {od nw : Nat → Nat} {k : Nat} (h : Lnk T (fun k => (s.rc k).cl) s.ev pd s.n l v od nw s.N s.m s.act) (hk : s.n ≤ k) :
    Lnk T (fun j => (swp s.rc k s.n j).cl) s.ev pd s.n l v od nw s.N s.m s.act ∧ (swp s.rc k s.n s.n).cl = (s.rc k).cl := by
  refine ⟨h.congr (fun c hc => ?_), ?_⟩
  · unfold swp
    rw [if_neg (by omega), if_neg (by omega)]
  · unfold swp
    by_cases e : s.n = k
    · rw [if_pos e, e]
    · rw [if_neg e, if_pos rfl]
def BkS (wb cb p od nw : Nat) (w : World) : Prop := w.cell? ⟨wb, 1, none⟩ = some (.pointer (some ⟨p, 0, none⟩)) ∧ w.cell? ⟨cb, 2, none⟩ = some (.int .u8 od) ∧ w.cell? ⟨cb, 3, none⟩ = some (.int .u8 nw)
theorem BkS.below {wb cb p od nw : Nat} {w w' : World} (h : BkS wb cb p od nw w) (hb : Below w.heap.size w w') : BkS wb cb p od nw w' :=
  ⟨(hb.cell (p := ⟨wb, 1, none⟩) (World.block_lt_of_cell? _ _ h.1)).trans h.1, (hb.cell (p := ⟨cb, 2, none⟩) (World.block_lt_of_cell? _ _ h.2.1)).trans h.2.1, (hb.cell (p := ⟨cb, 3, none⟩) (World.block_lt_of_cell? _ _ h.2.2)).trans h.2.2⟩

/-- append onto a row of one's own, as one step of a region that draws; the block of the result. -/
theorem step_append_own2 {P : Program} {ops : Array Oper} {o : Oper} {a : Go.Act} {w : World} {K : Go.Act → World → Prop} {Q : Exit → Go.Act → World → Prop} {En : Prop} {t e : TypeId} {size bytes : Nat} (E : El P t e size bytes)
    (hg : o.guard = none) (s x : Operand) (hop : o.op = Op.call { callee := Callee.builtin Builtin.append, args := #[s, x], argTypes := #[t, t] })
    {base n N : Nat} {v : Value} {xs : List Value} {cs : Array Value} {T' : TypeId} (hown : w.ownsRow base e size v n xs) (hs : a.eval s = v) (hx : a.eval x = .slice (some ⟨N, 0, none⟩) 1 1) (hN : w.heap[N]? = some (.cells cs T' (0, 0)))
    (hcs : cs.size = size) (h1 : ∀ u ∈ cs.toList, u.oneCell' = true) (h63 : n + 1 ≤ maxLen) (hbytes : (n + 1) * bytes ≤ 140737488355328) (hbase : base ≤ w.heap.size)
    (hK : ∀ g cap w', w'.ownsRow base e size (.slice (some ⟨g, 0, none⟩) (n + 1) cap) (n + 1) (xs ++ cs.toList) → w.grownBy w' v.ownBlock → (v.ownBlock = some g ∨ w.heap.size ≤ g) → K (a.put o.dst (.slice (some ⟨g, 0, none⟩) (n + 1) cap)) w') :
    if Region.wanted o (yielded ops a.tmps) = true then Oper.wp P o a w K Q else En := by
  have hw : Region.wanted o (yielded ops a.tmps) = true := by simp [Region.wanted, hg]
  rw [if_pos hw]
  obtain ⟨g, cap, w', hrun, how, hgr, hg2⟩ := append_own2 (w := w) E hown ⟨N, 0, none⟩ 1 1 cs.toList (by simpa using hcs) (fun j u hj => by
    rw [Addr.add_lit, Nat.zero_add, cell_block hN]; simpa using hj) h1 (by omega) h63 hbytes hbase
  unfold Oper.wp
  simp [execOp, hop, resolve, invoke, builtin, hs, hx, hrun, Result.andThen]
  exact hK g cap w' how hgr hg2

end Go.Proofs.YtejlgnebofdijaaGreatDoor.Dv
