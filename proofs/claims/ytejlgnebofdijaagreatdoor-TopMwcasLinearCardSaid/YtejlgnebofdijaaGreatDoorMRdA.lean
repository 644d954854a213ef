/-
  Reads of the package mwcas: before, Read, Value.
  Step of a read of the package mwcas.
  Read of the package mwcas; OK.
-/
import Derived.Test.YtejlgnebofdijaaGreatDoorMBegB
import Derived.Test.YtejlgnebofdijaaGreatDoorMMop9
import Derived.Test.YtejlgnebofdijaaGreatDoorMLiA
import Derived.StillTailTactics
import Derived.Deep.CutBlock
import Derived.Deep.DeepCutAuto
namespace Go.Proofs.YtejlgnebofdijaaGreatDoor.Dv
open Go.RowKit
set_option linter.unusedVariables false

/-! ### before -/
theorem bef1_any {w : World} {bx b c off : Nat} (hc : w.cell? ⟨bx, 0, none⟩ = some (.int .u64 off)) :
    Calls Tryz.prog 186 #[ent off b c, ptr bx] w fun e w' => e = .returned (.bool true) ∧ Below w.heap.size w w' := by
  have d1 : ((off : Int) == (off : Int)) = true := by simp
  have hlt := World.block_lt_of_cell? _ _ hc
  have hc2 : (w.alloc (.cells #[.int .u64 off, .int .u64 b, .int .u64 c, .bool false] 110)).cell? ⟨bx, 0, none⟩ = some (.int .u64 off) := by rw [(below_alloc (Below.refl _ w)).cell hlt]; exact hc
  clear hlt
  unfold ent ptr u64
  go_enter Tryz.func186, Tryz.ntmps186
  go_wp2_with fail
  go_returns
  exact ⟨rfl, below_alloc (Below.refl _ _)⟩
theorem callBef (args : Array Value) (w : World) : (callFunc 186 args).run Tryz.prog w = .ok (.enter 186 args) w := by kernel_rfl
def I0Rel (w : World) (i : Value) (wr : World) : Prop := i = .int .i64 (0 : Nat) ∧ wr = w
theorem index0_any {w : World} {eb cap bx off a b : Nat} {l : List (Nat × Nat × Nat)} (hs : Seen w eb 0 (encells ((off, a, b) :: l))) (hn : l.length ≤ 5) (hc : w.cell? ⟨bx, 0, none⟩ = some (.int .u64 off)) :
    Calls Tryz.prog 81 #[.slice (some ⟨eb, 0, none⟩) (l.length + 1) cap, .func (.func 186) #[] #[ptr bx]] w fun e w' => e = .returned (.int .i64 0) ∧ Below w.heap.size w w' := by
  have hcall := callBef
  have b1 : (0 : Int) < (l.length : Int) + 1 := by omega
  have b2 : (l.length : Int) ≤ 5 := by omega
  obtain ⟨e1, e2, e3, e4⟩ := encells_get (l := (off, a, b) :: l) (k := 0) (e := (off, a, b)) rfl
  have c1 : w.cell? ⟨eb, 0, none⟩ = some (.int .u64 off) := hs _ _ e1
  have c2 : w.cell? ⟨eb, 1, none⟩ = some (.int .u64 a) := hs _ _ e2
  have c3 : w.cell? ⟨eb, 2, none⟩ = some (.int .u64 b) := hs _ _ e3
  have c4 : w.cell? ⟨eb, 3, none⟩ = some (.bool false) := hs _ _ e4
  have HSA := Lib.hid (bef1_any (w := w) (bx := bx) (b := a) (c := b) (off := off) hc)
  clear hs hc e1 e2 e3 e4
  unfold ent ptr u64 at HSA
  unfold ptr
  go_enter Tryz.func81, Tryz.ntmps81
  go_wp2_with fail
  go_loopw [8] (fun i wr => I0Rel w i wr) (fun i _ => l.length + 1 - (intOf i).toNat)
  case atStart => exact ⟨rfl, rfl⟩
  case round =>
    obtain ⟨rfl, rfl⟩ := hrel
    go_wp2_with fail
    refine HSA.out.mono ?_
    rintro e w4 ⟨rfl, hb4⟩
    have G := Lib.hid hb4
    clear hb4
    go_wp2_with fail
    go_returns
    exact ⟨rfl, G.out⟩

theorem before_no {w : World} {A : DAd} {B : MAd} {Lr N : Nat} {m : MS} {F G : Nat → Option Role} (h : MW w A B Lr N m F G) (hno : ∀ c, m.cur = some c → (m.op c).stage ≠ 3) {off : Nat} :
    Calls Tryz.prog 185 #[ptr B.p, u64 off] w fun e w' => e = .returned (.tuple #[.int .u64 0, .bool false]) ∧ Below w.heap.size w w' := by
  have hb : Below w.heap.size w (w.alloc (.cells #[.int .u64 off] 48)) := below_alloc (Below.refl _ _)
  have h1 := (h.below hb).1
  have HB := Lib.hid hb
  obtain ⟨W, hW⟩ : ∃ W, W = w.alloc (.cells #[.int .u64 off] 48) := ⟨_, rfl⟩
  rw [← hW] at h1 HB
  cases hc : m.cur with
  | none =>
    have c5 : W.cell? ⟨B.p, 5, none⟩ = some (.pointer none) := by have := h1.pool.cell 5 (by omega); rw [hc] at this; exact this
    have HW := Lib.hid hW
    clear h h1 hno hc hb hW
    unfold ptr u64
    go_enter Tryz.func185, Tryz.ntmps185
    go_upto_region 1 with fail
    rw [← HW.out]
    go_wp2_with fail
    go_returns
    exact ⟨rfl, HB.out⟩
  | some c =>
    have hcN := h.cur c hc
    have c5 : W.cell? ⟨B.p, 5, none⟩ = some (.pointer (some ⟨B.o c, 0, none⟩)) := by have := h1.pool.cell 5 (by omega); rw [hc] at this; exact this
    have c7 : W.cell? ⟨B.o c, 7, none⟩ = some (.int .i64 (m.op c).stage) := h1.cellO hcN 7 (by omega) (by omega)
    have hs := hno c hc
    have hs5 := (h.ok c hcN).stage
    obtain ⟨s, hss⟩ : ∃ s, s = (m.op c).stage := ⟨_, rfl⟩
    rw [← hss] at c7 hs hs5
    have d1 : ((s : Int) != 3) = true := by simp; omega
    have d2 : ((s : Int) == 3) = false := beq_eq_false_iff_ne.2 (by omega)
    have d3 : ¬ (s : Int) = 3 := by omega
    have HW := Lib.hid hW
    clear h h1 hno hc hb hW hss hs hcN
    unfold ptr u64
    go_enter Tryz.func185, Tryz.ntmps185
    go_upto_region 1 with fail
    rw [← HW.out]
    go_wp2_with fail
    go_returns
    exact ⟨rfl, HB.out⟩

theorem before_yes {w : World} {A : DAd} {B : MAd} {Lr N c a b : Nat} {m : MS} {F G : Nat → Option Role} (h : MW w A B Lr N m F G) (hc : m.cur = some c) (hs : (m.op c).stage = 3) (hes : (m.op c).es = [(6400, a, b), (6528, a, b)]) :
    Calls Tryz.prog 185 #[ptr B.p, u64 6400] w fun e w' => e = .returned (.tuple #[.int .u64 ((m.op c).seen.getD 0 0 : Nat), .bool true]) ∧ Below w.heap.size w w' := by
  have hb : Below w.heap.size w (w.alloc (.cells #[.int .u64 6400] 48)) := below_alloc (Below.refl _ _)
  have h1 := (h.below hb).1
  have hnb : (w.alloc (.cells #[.int .u64 6400] 48)).cell? ⟨w.heap.size, 0, none⟩ = some (.int .u64 6400) := (cell_block (heap_alloc_new _ _)).trans rfl
  have HB := Lib.hid hb
  obtain ⟨W, hW⟩ : ∃ W, W = w.alloc (.cells #[.int .u64 6400] 48) := ⟨_, rfl⟩
  rw [← hW] at h1 HB hnb
  have hcN := h.cur c hc
  have c5 : W.cell? ⟨B.p, 5, none⟩ = some (.pointer (some ⟨B.o c, 0, none⟩)) := by have := h1.pool.cell 5 (by omega); rw [hc] at this; exact this
  have c7 : W.cell? ⟨B.o c, 7, none⟩ = some (.int .i64 3) := by have := h1.cellO hcN 7 (by omega) (by omega); unfold ofun at this; rw [hs] at this; exact this
  have c3 : W.cell? ⟨B.o c, 3, none⟩ = some (.slice (some ⟨B.en c, 0, none⟩) 2 (B.ec c)) := by have := h1.cellO hcN 3 (by omega) (by omega); unfold ofun at this; rw [hes] at this; exact this
  have c5s : W.cell? ⟨B.o c, 5, none⟩ = some (.slice (some ⟨B.se c, 0, none⟩) 2 (B.sc c)) := by have := h1.cellO hcN 5 (by omega) (by omega); unfold ofun at this; rw [hes] at this; exact this
  have hse := h1.en c hcN
  rw [hes] at hse
  have HI := Lib.hid (fun (w1 : World) (hb1 : Below W.heap.size W w1) => index0_any (w := w1) (cap := B.ec c) (bx := w.heap.size) (l := [(6528, a, b)]) (hse.below hb1 (Nat.le_refl _)) (by simp) ((hb1.cell (p := ⟨w.heap.size, 0, none⟩) (World.block_lt_of_cell? _ _ hnb)).trans hnb))
  have hro := h1.se c hcN
  rw [hes] at hro
  have cs : W.cell? ⟨B.se c, 0, none⟩ = some (.int .u64 ((m.op c).seen.getD 0 0 : Nat)) := hro.cell 0 (by simp)
  have HW := Lib.hid hW
  have H1 := Lib.hid h1
  have hop : ∀ w1, Below W.heap.size W w1 → w1.cell? ⟨B.o c, 5, none⟩ = some (.slice (some ⟨B.se c, 0, none⟩) 2 (B.sc c)) ∧ w1.cell? ⟨B.se c, 0, none⟩ = some (.int .u64 ((m.op c).seen.getD 0 0 : Nat)) := fun w1 hb1 => ⟨(hb1.cell (p := ⟨B.o c, 5, none⟩) (World.block_lt_of_cell? _ _ c5s)).trans c5s, (hb1.cell (p := ⟨B.se c, 0, none⟩) (World.block_lt_of_cell? _ _ cs)).trans cs⟩
  have HOP := Lib.hid hop
  obtain ⟨x, hx⟩ : ∃ x, x = (m.op c).seen.getD 0 0 := ⟨_, rfl⟩
  rw [← hx] at HOP ⊢
  clear h h1 hc hb hW hs hcN hse hro cs hop c5s hes hx
  unfold ptr u64
  go_enter Tryz.func185, Tryz.ntmps185
  go_upto_region 1 with fail
  rw [← HW.out]
  unfold ptr at HI
  go_wp2_with fail
  refine (HI.out _ (Below.refl _ _)).mono ?_
  rintro e w4 ⟨rfl, hb4⟩
  obtain ⟨k1, k2⟩ := HOP.out w4 hb4
  have G := Lib.hid (HB.out.trans (hb4.mono HB.out.size))
  clear hb4
  go_wp2_with fail
  go_returns
  exact ⟨rfl, G.out⟩

/-! ### Value of a read that has ended -/
/-- A read as a block. -/
def RdAt (w : World) (r : Nat) (A : DAd) (B : MAd) (t pl raw : Nat) (en : Bool) : Prop := w.heap[r]? = some (.cells #[ptr B.p, ptr (A.t t), u64 6400, .int .i64 pl, .int .u64 raw, .bool en, .int .i64 0] 153 (0, 0))
theorem rvalue_any {w : World} {r : Nat} {A : DAd} {B : MAd} {t pl raw : Nat} (h : RdAt w r A B t pl raw true) (hr : raw < 18446744073709551616) :
    Calls Tryz.prog 31 #[ptr r] w fun e w' => e = .returned (.tuple #[u64 (raw % 1099511627776), .int .i64 0]) ∧ w = w' := by
  have e2 := u64_and_nat raw 1099511627775 hr (by omega)
  rw [and40] at e2
  have q2 : ((1099511627775 : Nat) : Int) = 1099511627775 := rfl
  rw [q2] at e2
  have k4 : w.cell? ⟨r, 4, none⟩ = some (.int .u64 raw) := (cell_block h).trans rfl
  have k5 : w.cell? ⟨r, 5, none⟩ = some (.bool true) := (cell_block h).trans rfl
  have k6 : w.cell? ⟨r, 6, none⟩ = some (.int .i64 0) := (cell_block h).trans rfl
  generalize raw % 1099511627776 = y at *
  clear h q2
  unfold ptr u64
  go_enter Tryz.func31, Tryz.ntmps31
  go_wp2_with fail
  go_returns
  exact ⟨rfl, rfl⟩
end Go.Proofs.YtejlgnebofdijaaGreatDoor.Dv

namespace Go.Proofs.YtejlgnebofdijaaGreatDoor.Dv
open Go.RowKit
set_option linter.unusedVariables false

theorem MW.of_agree {w w' : World} {A : DAd} {B : MAd} {Lr N : Nat} {m : MS} {F G : Nat → Option Role} (h : MW w A B Lr N m F G) (hag : ∀ k, F k ≠ none ∨ G k ≠ none → w'.heap[k]? = w.heap[k]?) (hs : w.heap.size ≤ w'.heap.size) : MW w' A B Lr N m F G := by
  have kq : ∀ b q, G b = some q → w'.heap[b]? = w.heap[b]? := fun b q hq => hag b (.inr (by rw [hq]; simp))
  refine { h with dev := h.dev.of_agree (fun k hk => hag k (.inl hk)) hs, pool := h.pool.of_block (kq _ _ h.gp), busy := h.busy.of_block (kq _ _ h.gb), op := ?_, en := fun i hi => (h.en i hi).of_block (kq _ _ (h.ge i hi)), ord := fun i hi => (h.ord i hi).of_block (kq _ _ (h.gr i hi)), se := fun i hi => (h.se i hi).of_block (kq _ _ (h.gs i hi)), gf := ?_ }
  · intro i hi
    obtain ⟨pv, h1, h2⟩ := h.op i hi
    exact ⟨pv, h1.of_block (kq _ _ (h.go i hi)), h2.of_agree (fun b hb => kq b _ hb)⟩
  · intro b hb
    have h1 := h.gf b hb
    exact ⟨h1.1, Nat.lt_of_lt_of_le h1.2 hs⟩
theorem MW.free {w w' : World} {A : DAd} {B : MAd} {Lr N : Nat} {m : MS} {F G : Nat → Option Role} {P : Nat → Prop} (h : MW w A B Lr N m F G) (ho : Only P w w') (hP : ∀ k, P k → k < w.heap.size → F k = none ∧ G k = none) : MW w' A B Lr N m F G :=
  h.of_agree (fun k hk => by
    have hlt : k < w.heap.size := by
      rcases hk with hk | hk
      · exact h.dev.lt k hk
      · exact (h.gf k hk).2
    refine ho.block k hlt (fun hp => ?_)
    have := hP k hp hlt
    rcases hk with hk | hk
    · exact hk this.1
    · exact hk this.2) ho.size

/-- The pool's device has come to the state d, and the read's block is the only other one that has changed. -/
def RWent (w : World) (A : DAd) (B : MAd) (Lr N : Nat) (m : MS) (F G : Nat → Option Role) (r : Nat) (w' : World) : Prop :=
  ∃ F', MW w' A B Lr N m F' G ∧ Only (fun k => F k ≠ none ∨ G k ≠ none ∨ k = r) w w' ∧ ∀ k, k < w.heap.size → F' k = F k
theorem RWent.of {w w1 : World} {A : DAd} {B : MAd} {Lr N : Nat} {m1 : MS} {F F1 G : Nat → Option Role} {r : Nat} (h1 : MW w1 A B Lr N m1 F1 G) (mv : MMoved F G F1 G w w1) : RWent w A B Lr N m1 F G r w1 :=
  ⟨F1, h1, mv.only.mono (fun k hk => by rcases hk with h | h; exact .inl h; exact .inr (.inl h)), fun k hk => (mv.same k hk).1⟩
theorem RWent.set {w w1 : World} {A : DAd} {B : MAd} {Lr N : Nat} {m : MS} {F G : Nat → Option Role} {r : Nat} (h : RWent w A B Lr N m F G r w1) (hr : r < w.heap.size) (hf : F r = none) (hg : G r = none) (i : Nat) (v : Value) : RWent w A B Lr N m F G r (w1.setCell ⟨r, i, none⟩ v) := by
  obtain ⟨F1, h1, ho, hs⟩ := h
  refine ⟨F1, h1.free (P := fun k => k = r) ((Only.refl (fun k => k = r) w1).set (F := fun k => k = r) (b := r) rfl v) ?_, ho.set (.inr (.inr rfl)) v, hs⟩
  rintro k rfl _
  exact ⟨(hs k hr).trans hf, hg⟩

section
variable {w : World} {r t pl raw : Nat} {A : DAd} {B : MAd} {en : Bool}
theorem RdAt.lt (h : RdAt w r A B t pl raw en) : r < w.heap.size := heap_lt h
theorem RdAt.of_block {w' : World} (h : RdAt w r A B t pl raw en) (hb : w'.heap[r]? = w.heap[r]?) : RdAt w' r A B t pl raw en := hb.trans h
theorem RdAt.setPl (h : RdAt w r A B t pl raw en) (x : Nat) : RdAt (w.setCell ⟨r, 3, none⟩ (.int .i64 x)) r A B t x raw en := (heap_set h).trans rfl
theorem RdAt.setRaw (h : RdAt w r A B t pl raw en) (x : Nat) : RdAt (w.setCell ⟨r, 4, none⟩ (.int .u64 x)) r A B t pl x en := (heap_set h).trans rfl
theorem RdAt.setEn (h : RdAt w r A B t pl raw en) (x : Bool) : RdAt (w.setCell ⟨r, 5, none⟩ (.bool x)) r A B t pl raw x := (heap_set h).trans rfl
theorem RdAt.cells (h : RdAt w r A B t pl raw en) : w.cell? ⟨r, 0, none⟩ = some (.pointer (some ⟨B.p, 0, none⟩)) ∧ w.cell? ⟨r, 1, none⟩ = some (.pointer (some ⟨A.t t, 0, none⟩)) ∧ w.cell? ⟨r, 2, none⟩ = some (.int .u64 6400) ∧ w.cell? ⟨r, 3, none⟩ = some (.int .i64 pl) ∧ w.cell? ⟨r, 4, none⟩ = some (.int .u64 raw) ∧ w.cell? ⟨r, 5, none⟩ = some (.bool en) ∧ ∀ i, w.frozen? ⟨r, i, none⟩ = false :=
  ⟨(cell_block h).trans rfl, (cell_block h).trans rfl, (cell_block h).trans rfl, (cell_block h).trans rfl, (cell_block h).trans rfl, (cell_block h).trans rfl, fun i => free_block h⟩
end

def BfCut (W : World) (x : Nat) (ok : Bool) (a b : Value) (wx : World) : Prop := a = .int .u64 x ∧ b = .bool ok ∧ Below W.heap.size W wx
theorem RdAt.below {w w' : World} {r t pl raw : Nat} {A : DAd} {B : MAd} {en : Bool} (h : RdAt w r A B t pl raw en) (hb : Below w.heap.size w w') : w'.cell? ⟨r, 0, none⟩ = some (.pointer (some ⟨B.p, 0, none⟩)) ∧ w'.cell? ⟨r, 2, none⟩ = some (.int .u64 6400) := by
  have := (h.of_block (hb.block r h.lt)).cells
  exact ⟨this.1, this.2.2.1⟩

def StepR (w : World) (A : DAd) (B : MAd) (Lr N : Nat) (m : MS) (F G : Nat → Option Role) (r t pl raw : Nat) (en : Bool) (e : Ending) (w' : World) : Prop :=
  e = .returned (.bool en) ∧ RdAt w' r A B t pl raw en ∧ RWent w A B Lr N m F G r w'

set_option maxHeartbeats 4000000 in
set_option maxRecDepth 4000 in
/-- A step that flushes. -/
theorem rd_flush {w : World} {A : DAd} {B : MAd} {Lr N : Nat} {m : MS} {F G : Nat → Option Role} {r t raw : Nat} (h : MW w A B Lr N m F G) (hr : RdAt w r A B t 1 raw false) (hf : F r = none) (hg : G r = none) (ht : t < 8) (hc : ∀ u, Calm m.dev u) (hL : m.dev.L = 110) (hex : m.dev.ex < 1000000) :
    Calls Tryz.prog 183 #[ptr r] w (StepR w A B Lr N { m with dev := m.dev.flush t 6400 } F G r t 2 raw false) := by
  have hrl := hr.lt
  obtain ⟨k0, k1, k2, k3, k4, k5, kf⟩ := hr.cells
  have her := (hc t).err
  have HER := Lib.hid (err_dev h.dev ht)
  rw [her] at HER
  have HFL := Lib.hid (flush_dev (h.drew).dev ht (off := 6400) (by omega) hex)
  have hcalm : (m.dev.flush t 6400).err t = 0 := by
    have := (calm_exec hc (t := t) (x := ⟨2, 6400, 0⟩) ⟨fun e => by simp at e, fun _ => by rw [hL]; decide⟩).1 t
    exact this.err
  have hLL : (m.dev.flush t 6400).L = m.dev.L := by
    have := (calm_exec hc (t := t) (x := ⟨2, 6400, 0⟩) ⟨fun e => by simp at e, fun _ => by rw [hL]; decide⟩).2.L
    exact this
  have post : ∀ w1, Dev w1 A (m.dev.flush t 6400) F → Moved F F w.drew w1 → MW w1 A B Lr N { m with dev := m.dev.flush t 6400 } F G ∧ RdAt w1 r A B t 1 raw false ∧ RWent w A B Lr N { m with dev := m.dev.flush t 6400 } F G r w1 := by
    intro w1 hd hm
    obtain ⟨h1, mv1⟩ := h.drew.moved hd hm hLL
    exact ⟨h1, hr.of_block (hm.only.block r hrl (by rw [hf]; simp)), RWent.of h1 ((MMoved.drew _).trans mv1)⟩
  have HP := Lib.hid post
  have HRL := Lib.hid (And.intro hrl (And.intro hf hg))
  clear post h hr hc her hLL hL hf hg hrl
  unfold ptr u64 at *
  go_enter Tryz.func183, Tryz.ntmps183
  go_wp2_with fail
  refine HER.out.mono ?_
  rintro e w1 ⟨rfl, rfl⟩
  go_wp2_with fail
  go_still_tail 8, (by kernel_rfl)
  go_wp2_with fail
  refine HFL.out.mono ?_
  rintro e w1 ⟨rfl, hd, hm⟩
  obtain ⟨h1, hr1, hw1⟩ := HP.out w1 hd hm
  obtain ⟨j0, j1, j2, j3, j4, j5, jf⟩ := hr1.cells
  have hr2 := hr1.setPl 2
  have hw2 := hw1.set HRL.out.1 HRL.out.2.1 HRL.out.2.2 3 (.int .i64 2)
  obtain ⟨W2, hW2⟩ : ∃ W2, W2 = w1.setCell ⟨r, 3, none⟩ (.int .i64 2) := ⟨_, rfl⟩
  replace hr2 : RdAt W2 r A B t 2 raw false := by rw [hW2]; exact hr2
  replace hw2 : RWent w A B Lr N { m with dev := m.dev.flush t 6400 } F G r W2 := by rw [hW2]; exact hw2
  obtain ⟨l0, l1, l2, l3, l4, l5, lf⟩ := hr2.cells
  obtain ⟨F2, h2, _, _⟩ := id hw2
  have HE2 := err_dev h2.dev ht
  replace HE2 : Calls Tryz.prog 28 #[.pointer (some ⟨A.t t, 0, none⟩)] W2 fun r w' => r = .returned (.int .i64 0) ∧ W2 = w' := by
    have := HE2
    unfold ptr at this
    dsimp only at this
    rw [hcalm] at this
    exact this
  have HE := Lib.hid HE2
  have GG := Lib.hid (show StepR w A B Lr N { m with dev := m.dev.flush t 6400 } F G r t 2 raw false (.returned (.bool false)) W2 from ⟨rfl, hr2, hw2⟩)
  have HW := Lib.hid hW2
  clear hd hm h1 hr1 hw1 hr2 hw2 h2 HE2 hW2 HP HFL HER hcalm
  go_upto_region 21 with fail
  have e2 : (w1.setCell ⟨r, 3, none⟩ (.int .i64 2)) = W2 := HW.out.symm
  rw [e2]
  go_wp2_with fail
  refine HE.out.mono ?_
  rintro e w3 ⟨rfl, rfl⟩
  go_wp2_with fail
  go_returns
  exact GG.out

set_option maxHeartbeats 4000000 in
set_option maxRecDepth 4000 in
/-- A step that fences. -/
theorem rd_fence {w : World} {A : DAd} {B : MAd} {Lr N : Nat} {m : MS} {F G : Nat → Option Role} {r t raw : Nat} (h : MW w A B Lr N m F G) (hr : RdAt w r A B t 2 raw false) (hf : F r = none) (hg : G r = none) (ht : t < 8) (hc : ∀ u, Calm m.dev u) (hL : m.dev.L = 110) (hex : m.dev.ex < 1000000) :
    Calls Tryz.prog 183 #[ptr r] w (StepR w A B Lr N { m with dev := m.dev.fence t } F G r t 3 raw true) := by
  have hrl := hr.lt
  obtain ⟨k0, k1, k2, k3, k4, k5, kf⟩ := hr.cells
  have her := (hc t).err
  have HER := Lib.hid (err_dev h.dev ht)
  rw [her] at HER
  have HFL := Lib.hid (fence_dev h.dev ht hex)
  have hcalm : (m.dev.fence t).err t = 0 := by
    have := (calm_exec hc (t := t) (x := ⟨3, 0, 0⟩) ⟨fun e => by simp at e, fun e => by simp at e⟩).1 t
    exact this.err
  have hLL : (m.dev.fence t).L = m.dev.L := by
    have := (calm_exec hc (t := t) (x := ⟨3, 0, 0⟩) ⟨fun e => by simp at e, fun e => by simp at e⟩).2.L
    exact this
  have post : ∀ w1, Dev w1 A (m.dev.fence t) F → Moved F F w w1 → MW w1 A B Lr N { m with dev := m.dev.fence t } F G ∧ RdAt w1 r A B t 2 raw false ∧ RWent w A B Lr N { m with dev := m.dev.fence t } F G r w1 := by
    intro w1 hd hm
    obtain ⟨h1, mv1⟩ := h.moved hd hm hLL
    exact ⟨h1, hr.of_block (hm.only.block r hrl (by rw [hf]; simp)), RWent.of h1 mv1⟩
  have HP := Lib.hid post
  have HRL := Lib.hid (And.intro hrl (And.intro hf hg))
  clear post h hr hc her hLL hL hf hg hrl
  unfold ptr at *
  go_enter Tryz.func183, Tryz.ntmps183
  go_wp2_with fail
  refine HER.out.mono ?_
  rintro e w1 ⟨rfl, rfl⟩
  go_wp2_with fail
  refine HFL.out.mono ?_
  rintro e w1 ⟨rfl, hd, hm⟩
  obtain ⟨h1, hr1, hw1⟩ := HP.out w1 hd hm
  obtain ⟨j0, j1, j2, j3, j4, j5, jf⟩ := hr1.cells
  have hr2 := (hr1.setEn true).setPl 3
  have hw2 := (hw1.set HRL.out.1 HRL.out.2.1 HRL.out.2.2 5 (.bool true)).set HRL.out.1 HRL.out.2.1 HRL.out.2.2 3 (.int .i64 3)
  obtain ⟨W2, hW2⟩ : ∃ W2, W2 = (w1.setCell ⟨r, 5, none⟩ (.bool true)).setCell ⟨r, 3, none⟩ (.int .i64 3) := ⟨_, rfl⟩
  replace hr2 : RdAt W2 r A B t 3 raw true := by rw [hW2]; exact hr2
  replace hw2 : RWent w A B Lr N { m with dev := m.dev.fence t } F G r W2 := by rw [hW2]; exact hw2
  obtain ⟨l0, l1, l2, l3, l4, l5, lf⟩ := hr2.cells
  obtain ⟨F2, h2, _, _⟩ := id hw2
  have HE2 := err_dev h2.dev ht
  replace HE2 : Calls Tryz.prog 28 #[.pointer (some ⟨A.t t, 0, none⟩)] W2 fun r w' => r = .returned (.int .i64 0) ∧ W2 = w' := by
    have := HE2
    unfold ptr at this
    dsimp only at this
    rw [hcalm] at this
    exact this
  have HE := Lib.hid HE2
  have GG := Lib.hid (show StepR w A B Lr N { m with dev := m.dev.fence t } F G r t 3 raw true (.returned (.bool true)) W2 from ⟨rfl, hr2, hw2⟩)
  have HW := Lib.hid hW2
  clear hd hm h1 hr1 hw1 hr2 hw2 h2 HE2 hW2 HP HFL HER hcalm
  go_upto_region 21 with fail
  have e2 : ((w1.setCell ⟨r, 5, none⟩ (.bool true)).setCell ⟨r, 3, none⟩ (.int .i64 3)) = W2 := HW.out.symm
  rw [e2]
  go_wp2_with fail
  refine HE.out.mono ?_
  rintro e w3 ⟨rfl, rfl⟩
  go_wp2_with fail
  go_returns
  exact GG.out

set_option maxHeartbeats 4000000 in
set_option maxRecDepth 4000 in
/-- A step that loads while the current operation stores its words. -/
theorem rd_load_yes {w : World} {A : DAd} {B : MAd} {Lr N c a b : Nat} {m : MS} {F G : Nat → Option Role} {r t raw : Nat} (h : MW w A B Lr N m F G) (hr : RdAt w r A B t 0 raw false) (hf : F r = none) (hg : G r = none) (ht : t < 8) (hc : ∀ u, Calm m.dev u) (hL : m.dev.L = 110) (hex : m.dev.ex < 1000000) (hcu : m.cur = some c) (hs : (m.op c).stage = 3) (hes : (m.op c).es = [(6400, a, b), (6528, a, b)]) (hy : m.dev.cur 800 < 4611686018427387904) :
    Calls Tryz.prog 183 #[ptr r] w (StepR w A B Lr N m F G r t 1 ((m.op c).seen.getD 0 0) true) := by
  have hrl := hr.lt
  obtain ⟨k0, k1, k2, k3, k4, k5, kf⟩ := hr.cells
  have her := (hc t).err
  have HER := Lib.hid (err_dev h.dev ht)
  rw [her] at HER
  have hon : m.dev.on t (m.dev.word 6400) = m.dev := by
    unfold DSt.on DSt.word
    rw [(hc t).off, hL]
    simp
  have hval : (if (!m.dev.off && m.dev.word 6400) = true then m.dev.cur (6400 / 8) else 0) = m.dev.cur 800 := by
    unfold DSt.word
    rw [(hc t).off, hL]
    simp
  have hld := load_dev (h.drew).dev ht 6400 (by omega)
  rw [hon, hval] at hld
  have HLD := Lib.hid hld
  obtain ⟨y, hyy⟩ : ∃ y, y = m.dev.cur 800 := ⟨_, rfl⟩
  rw [← hyy] at hy HLD
  have hcalm : m.dev.err t = 0 := (hc t).err
  have post : ∀ w1, Dev w1 A m.dev F → Moved F F w.drew w1 → MW w1 A B Lr N m F G ∧ RdAt w1 r A B t 0 raw false ∧ RWent w A B Lr N m F G r w1 := by
    intro w1 hd hm
    obtain ⟨h1, mv1⟩ := h.drew.moved hd hm rfl
    exact ⟨h1, hr.of_block (hm.only.block r hrl (by rw [hf]; simp)), RWent.of h1 ((MMoved.drew _).trans mv1)⟩
  have HP := Lib.hid post
  have hbf : ∀ w1, MW w1 A B Lr N m F G → Calls Tryz.prog 185 #[ptr B.p, u64 6400] w1 (fun e w' => e = .returned (.tuple #[.int .u64 ((m.op c).seen.getD 0 0 : Nat), .bool true]) ∧ Below w1.heap.size w1 w') := fun w1 h1 => before_yes h1 hcu hs hes
  have HBF := Lib.hid hbf
  have HRL := Lib.hid (And.intro hrl (And.intro hf hg))
  obtain ⟨x, hx⟩ : ∃ x, x = (m.op c).seen.getD 0 0 := ⟨_, rfl⟩
  rw [← hx] at HBF ⊢
  clear hbf post h hr hc her hL hf hg hrl hld hval hon hyy hcu hs hes hx
  unfold ptr u64 at *
  go_enter Tryz.func183, Tryz.ntmps183
  go_wp2_with fail
  refine HER.out.mono ?_
  rintro e w1 ⟨rfl, rfl⟩
  go_wp2_with fail
  go_still_tail 8, (by kernel_rfl)
  go_wp2_with fail
  refine HLD.out.mono ?_
  rintro e w1 ⟨rfl, hd, hm⟩
  obtain ⟨h1, hr1, hw1⟩ := HP.out w1 hd hm
  obtain ⟨j0, j1, j2, j3, j4, j5, jf⟩ := hr1.cells
  have HB := Lib.hid (fun w2 (hb : Below w1.heap.size w1 w2) => (HBF.out _ (h1.below hb).1).mono (fun e w' hh => (⟨hh.1, hb.trans (hh.2.mono hb.size)⟩ : e = _ ∧ Below w1.heap.size w1 w')))
  have H1 := Lib.hid h1; have HR1 := Lib.hid hr1; have HW1 := Lib.hid hw1; have HX0 := Lib.hid (Below.refl w1.heap.size w1)
  clear hd hm h1 hr1 hw1 HP HLD HBF HER
  go_upto_region 9 with fail
  go_cut [5, 6] (fun u v wx => BfCut w1 x true u v wx)
  case first =>
    go_region_held3 (fun w' => w'.cell? ⟨r, 0, none⟩ = some (.pointer (some ⟨B.p, 0, none⟩)) ∧ w'.cell? ⟨r, 2, none⟩ = some (.int .u64 6400))
      (exact RdAt.below HR1.out (by repeat (first | assumption | exact HX0.out | apply below_alloc | apply below_drew)))
      (first
        | (go_at_call 185; refine (HB.out _ (by repeat (first | assumption | exact HX0.out | apply below_alloc | apply below_drew))).mono ?_; rintro e V1 ⟨rfl, hX1⟩))
    all_goals
      go_wp2_with fail
      go_meet
      exact ⟨rfl, rfl, by assumption⟩
  obtain ⟨rfl, rfl, hb2⟩ := hcut
  have ewc : ∃ w2, w2 = wc := ⟨_, rfl⟩
  obtain ⟨w2, ew2⟩ := ewc
  subst ew2
  obtain ⟨h2, mv2⟩ := H1.out.below hb2
  have hr2 : RdAt w2 r A B t 0 raw false := HR1.out.of_block (hb2.block r HR1.out.lt)
  have hw2 : RWent w A B Lr N m F G r w2 := by
    obtain ⟨F1, _, ho, hs⟩ := HW1.out
    refine ⟨F, h2, ho.trans (G := fun _ => False) (Only.of_below hb2) (fun _ _ hh => hh.elim), fun _ _ => rfl⟩
  obtain ⟨i0, i1, i2, i3, i4, i5, jf2⟩ := hr2.cells
  have hr3 := ((hr2.setRaw x).setEn true).setPl 1
  have hw3 := ((hw2.set HRL.out.1 HRL.out.2.1 HRL.out.2.2 4 (.int .u64 x)).set HRL.out.1 HRL.out.2.1 HRL.out.2.2 5 (.bool true)).set HRL.out.1 HRL.out.2.1 HRL.out.2.2 3 (.int .i64 (1 : Nat))
  obtain ⟨W3, hW3⟩ : ∃ W3, W3 = ((w2.setCell ⟨r, 4, none⟩ (.int .u64 x)).setCell ⟨r, 5, none⟩ (.bool true)).setCell ⟨r, 3, none⟩ (.int .i64 (1 : Nat)) := ⟨_, rfl⟩
  rw [← hW3] at hr3 hw3
  obtain ⟨l0, l1, l2, l3, l4, l5, lf⟩ := hr3.cells
  obtain ⟨F2, h3, _, _⟩ := id hw3
  have HE2 := err_dev h3.dev ht
  replace HE2 : Calls Tryz.prog 28 #[.pointer (some ⟨A.t t, 0, none⟩)] W3 fun r w' => r = .returned (.int .i64 0) ∧ W3 = w' := by
    have := HE2
    unfold ptr at this
    rw [hcalm] at this
    exact this
  have HE := Lib.hid HE2
  have GG := Lib.hid (show StepR w A B Lr N m F G r t 1 x true (.returned (.bool true)) W3 from ⟨rfl, hr3, hw3⟩)
  have HW := Lib.hid hW3
  clear hb2 h2 mv2 hr2 hw2 hr3 hw3 h3 HE2 hW3 HB hcalm H1 HR1 HW1
  go_upto_region 21 with fail
  rw [show ((w2.setCell ⟨r, 4, none⟩ (.int .u64 x)).setCell ⟨r, 5, none⟩ (.bool true)).setCell ⟨r, 3, none⟩ (.int .i64 1) = W3 from HW.out.symm]
  go_wp2_with fail
  refine HE.out.mono ?_
  rintro e w3 ⟨rfl, rfl⟩
  go_wp2_with fail
  go_returns
  exact GG.out


set_option maxHeartbeats 4000000 in
set_option maxRecDepth 4000 in
/-- A step that loads otherwise. -/
theorem rd_load_no {w : World} {A : DAd} {B : MAd} {Lr N : Nat} {m : MS} {F G : Nat → Option Role} {r t raw : Nat} (h : MW w A B Lr N m F G) (hr : RdAt w r A B t 0 raw false) (hf : F r = none) (hg : G r = none) (ht : t < 8) (hc : ∀ u, Calm m.dev u) (hL : m.dev.L = 110) (hex : m.dev.ex < 1000000) (hno : ∀ c, m.cur = some c → (m.op c).stage ≠ 3) (hy : m.dev.cur 800 < 4611686018427387904) :
    Calls Tryz.prog 183 #[ptr r] w (StepR w A B Lr N m F G r t 1 (m.dev.cur 800) false) := by
  have hrl := hr.lt
  obtain ⟨k0, k1, k2, k3, k4, k5, kf⟩ := hr.cells
  have her := (hc t).err
  have HER := Lib.hid (err_dev h.dev ht)
  rw [her] at HER
  have hon : m.dev.on t (m.dev.word 6400) = m.dev := by
    unfold DSt.on DSt.word
    rw [(hc t).off, hL]
    simp
  have hval : (if (!m.dev.off && m.dev.word 6400) = true then m.dev.cur (6400 / 8) else 0) = m.dev.cur 800 := by
    unfold DSt.word
    rw [(hc t).off, hL]
    simp
  have hld := load_dev (h.drew).dev ht 6400 (by omega)
  rw [hon, hval] at hld
  have HLD := Lib.hid hld
  obtain ⟨y, hyy⟩ : ∃ y, y = m.dev.cur 800 := ⟨_, rfl⟩
  rw [← hyy] at hy HLD ⊢
  have hcalm : m.dev.err t = 0 := (hc t).err
  have post : ∀ w1, Dev w1 A m.dev F → Moved F F w.drew w1 → MW w1 A B Lr N m F G ∧ RdAt w1 r A B t 0 raw false ∧ RWent w A B Lr N m F G r w1 := by
    intro w1 hd hm
    obtain ⟨h1, mv1⟩ := h.drew.moved hd hm rfl
    exact ⟨h1, hr.of_block (hm.only.block r hrl (by rw [hf]; simp)), RWent.of h1 ((MMoved.drew _).trans mv1)⟩
  have HP := Lib.hid post
  have hbf : ∀ w1, MW w1 A B Lr N m F G → Calls Tryz.prog 185 #[ptr B.p, u64 6400] w1 (fun e w' => e = .returned (.tuple #[.int .u64 0, .bool false]) ∧ Below w1.heap.size w1 w') := fun w1 h1 => before_no h1 hno
  have HBF := Lib.hid hbf
  have HRL := Lib.hid (And.intro hrl (And.intro hf hg))
  have b1 := and63i hy
  have b2 := andNot62 hy
  clear hbf post h hr hc her hL hf hg hrl hld hval hon hyy hno
  unfold ptr u64 at *
  go_enter Tryz.func183, Tryz.ntmps183
  go_wp2_with fail
  refine HER.out.mono ?_
  rintro e w1 ⟨rfl, rfl⟩
  go_wp2_with fail
  go_still_tail 8, (by kernel_rfl)
  go_wp2_with fail
  refine HLD.out.mono ?_
  rintro e w1 ⟨rfl, hd, hm⟩
  obtain ⟨h1, hr1, hw1⟩ := HP.out w1 hd hm
  obtain ⟨j0, j1, j2, j3, j4, j5, jf⟩ := hr1.cells
  have HB := Lib.hid (fun w2 (hb : Below w1.heap.size w1 w2) => (HBF.out _ (h1.below hb).1).mono (fun e w' hh => (⟨hh.1, hb.trans (hh.2.mono hb.size)⟩ : e = _ ∧ Below w1.heap.size w1 w')))
  have H1 := Lib.hid h1; have HR1 := Lib.hid hr1; have HW1 := Lib.hid hw1; have HX0 := Lib.hid (Below.refl w1.heap.size w1)
  clear hd hm h1 hr1 hw1 HP HLD HBF HER
  go_upto_region 9 with fail
  go_cut [5, 6] (fun u v wx => BfCut w1 0 false u v wx)
  case first =>
    go_region_held3 (fun w' => w'.cell? ⟨r, 0, none⟩ = some (.pointer (some ⟨B.p, 0, none⟩)) ∧ w'.cell? ⟨r, 2, none⟩ = some (.int .u64 6400))
      (exact RdAt.below HR1.out (by repeat (first | assumption | exact HX0.out | apply below_alloc | apply below_drew)))
      (first
        | (go_at_call 185; refine (HB.out _ (by repeat (first | assumption | exact HX0.out | apply below_alloc | apply below_drew))).mono ?_; rintro e V1 ⟨rfl, hX1⟩))
    all_goals
      go_wp2_with fail
      go_meet
      exact ⟨rfl, rfl, by assumption⟩
  obtain ⟨rfl, rfl, hb2⟩ := hcut
  have ewc : ∃ w2, w2 = wc := ⟨_, rfl⟩
  obtain ⟨w2, ew2⟩ := ewc
  subst ew2
  obtain ⟨h2, mv2⟩ := H1.out.below hb2
  have hr2 : RdAt w2 r A B t 0 raw false := HR1.out.of_block (hb2.block r HR1.out.lt)
  have hw2 : RWent w A B Lr N m F G r w2 := by
    obtain ⟨F1, _, ho, hs⟩ := HW1.out
    refine ⟨F, h2, ho.trans (G := fun _ => False) (Only.of_below hb2) (fun _ _ hh => hh.elim), fun _ _ => rfl⟩
  obtain ⟨i0, i1, i2, i3, i4, i5, jf2⟩ := hr2.cells
  have hr3 := (hr2.setRaw y).setPl 1
  have hw3 := (hw2.set HRL.out.1 HRL.out.2.1 HRL.out.2.2 4 (.int .u64 y)).set HRL.out.1 HRL.out.2.1 HRL.out.2.2 3 (.int .i64 (1 : Nat))
  obtain ⟨W3, hW3⟩ : ∃ W3, W3 = (w2.setCell ⟨r, 4, none⟩ (.int .u64 y)).setCell ⟨r, 3, none⟩ (.int .i64 (1 : Nat)) := ⟨_, rfl⟩
  rw [← hW3] at hr3 hw3
  obtain ⟨l0, l1, l2, l3, l4, l5, lf⟩ := hr3.cells
  obtain ⟨F2, h3, _, _⟩ := id hw3
  have HE2 := err_dev h3.dev ht
  replace HE2 : Calls Tryz.prog 28 #[.pointer (some ⟨A.t t, 0, none⟩)] W3 fun r w' => r = .returned (.int .i64 0) ∧ W3 = w' := by
    have := HE2
    unfold ptr at this
    rw [hcalm] at this
    exact this
  have HE := Lib.hid HE2
  have GG := Lib.hid (show StepR w A B Lr N m F G r t 1 y false (.returned (.bool false)) W3 from ⟨rfl, hr3, hw3⟩)
  have HW := Lib.hid hW3
  clear hb2 h2 mv2 hr2 hw2 hr3 hw3 h3 HE2 hW3 HB hcalm H1 HR1 HW1
  go_upto_region 21 with fail
  rw [show (w2.setCell ⟨r, 4, none⟩ (.int .u64 y)).setCell ⟨r, 3, none⟩ (.int .i64 1) = W3 from HW.out.symm]
  go_wp2_with fail
  refine HE.out.mono ?_
  rintro e w3 ⟨rfl, rfl⟩
  go_wp2_with fail
  go_returns
  exact GG.out
end Go.Proofs.YtejlgnebofdijaaGreatDoor.Dv

namespace Go.Proofs.YtejlgnebofdijaaGreatDoor.Dv
open Go.RowKit
set_option linter.unusedVariables false

theorem opok_ch {w : World} {A : DAd} {B : MAd} {Lr N : Nat} {m : MS} {F G : Nat → Option Role} (h : MW w A B Lr N m F G) {i : Nat} (hi : i < N) (h1 : (m.op i).ended = true) (h2 : (m.op i).err = 0) : Calls Tryz.prog 32 #[ptr (B.o i)] w fun e w' => e = .returned (.bool (m.op i).changed) ∧ w = w' := by
  have c1 : w.cell? ⟨B.o i, 11, none⟩ = some (.bool true) := by rw [← h1]; exact h.cellO hi 11 (by omega) (by omega)
  have c2 : w.cell? ⟨B.o i, 12, none⟩ = some (.int .i64 0) := by have := h.cellO hi 12 (by omega) (by omega); unfold ofun at this; rw [h2] at this; exact this
  have c3 : w.cell? ⟨B.o i, 10, none⟩ = some (.bool (m.op i).changed) := h.cellO hi 10 (by omega) (by omega)
  cases hc : (m.op i).changed with
  | true =>
    rw [hc] at c3
    clear h h1 h2 hc
    unfold ptr
    go_enter Tryz.func32, Tryz.ntmps32
    go_wp2_with fail
    go_returns
    exact ⟨rfl, rfl⟩
  | false =>
    rw [hc] at c3
    clear h h1 h2 hc
    unfold ptr
    go_enter Tryz.func32, Tryz.ntmps32
    go_wp2_with fail
    go_returns
    exact ⟨rfl, rfl⟩

def ReadPost (w : World) (A : DAd) (B : MAd) (t : Nat) (e : Ending) (w' : World) : Prop := ∃ r, e = .returned (ptr r) ∧ w.heap.size ≤ r ∧ RdAt w' r A B t 0 0 false ∧ Below w.heap.size w w'
set_option maxHeartbeats 4000000 in
set_option maxRecDepth 4000 in
theorem read_mw {w : World} {A : DAd} {B : MAd} {N t : Nat} {m : MS} {F G : Nat → Option Role} (h : MW w A B 96 N m F G) (ht : t < 8) (hL : m.dev.L = 110) :
    Calls Tryz.prog 33 #[ptr B.p, i64 t, u64 6400] w (ReadPost w A B t) := by
  have p0 : w.cell? ⟨B.p, 0, none⟩ = some (.pointer (some ⟨A.d, 0, none⟩)) := h.pool.cell 0 (by omega)
  have p1 : w.cell? ⟨B.p, 1, none⟩ = some (.int .i64 0) := h.pool.cell 1 (by omega)
  have p2 : w.cell? ⟨B.p, 2, none⟩ = some (.int .i64 (96 : Nat)) := h.pool.cell 2 (by omega)
  have p3 : w.cell? ⟨B.p, 3, none⟩ = some (.int .u64 (7040 : Nat)) := by
    have := h.pool.cell 3 (by omega)
    rw [hL] at this
    exact this
  have HO := Lib.hid (outside_any (w := w) (Lr := 96) (S := 7040) (off := 6400) (by omega) (by omega) (by omega) (by omega))
  have H := Lib.hid h
  have b1 : (t : Int) < 8 := by omega
  clear h hL
  unfold ptr u64 i64 rgn at *
  go_enter Tryz.func33, Tryz.ntmps33
  go_wp2_with fail
  refine HO.out.mono ?_
  rintro e w1 ⟨rfl, hb1⟩
  have hp0 : w1.cell? ⟨B.p, 0, none⟩ = some (.pointer (some ⟨A.d, 0, none⟩)) := (hb1.cell (p := ⟨B.p, 0, none⟩) (World.block_lt_of_cell? _ _ p0)).trans p0
  have HT := Lib.hid (thread_dev (H.out.below hb1).1.dev ht)
  have HB := Lib.hid hb1
  clear hb1
  unfold ptr at HT
  go_wp2_with fail
  refine HT.out.mono ?_
  rintro e w2 ⟨rfl, rfl⟩
  have GG := Lib.hid (show ReadPost w A B t (.returned (ptr w1.heap.size)) (w1.alloc (.cells #[.pointer (some ⟨B.p, 0, none⟩), .pointer (some ⟨A.t t, 0, none⟩), .int .u64 6400, .int .i64 0, .int .u64 0, .bool false, .int .i64 0] 153)) from ⟨_, rfl, HB.out.size, heap_alloc_new _ _, below_alloc HB.out⟩)
  clear HO HT HB
  unfold ptr at GG
  go_wp2_with fail
  go_returns
  exact GG.out
end Go.Proofs.YtejlgnebofdijaaGreatDoor.Dv
