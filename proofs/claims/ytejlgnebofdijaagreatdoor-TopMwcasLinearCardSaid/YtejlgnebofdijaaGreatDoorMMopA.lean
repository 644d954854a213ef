/-
  A pool of operations as blocks of the heap.
  Stores into the blocks of a pool; finish, end, execute of the package mwcas.
-/
import Derived.Test.YtejlgnebofdijaaGreatDoorMPlA
namespace Go.Proofs.YtejlgnebofdijaaGreatDoor.Dv
open Go.RowKit
set_option linter.unusedVariables false

/-- The addresses of a pool and its operations. -/
structure MAd where
  p : Nat
  busy : Nat
  nb : Nat
  o : Nat → Nat
  en : Nat → Nat
  ord : Nat → Nat
  se : Nat → Nat
  ec : Nat → Nat
  oc : Nat → Nat
  sc : Nat → Nat

def optr (B : MAd) : Option Nat → Value
  | none => .pointer none
  | some i => ptr (B.o i)
def pfun (A : DAd) (B : MAd) (Lr S : Nat) (cur : Option Nat) : Nat → Value
  | 0 => ptr A.d
  | 1 => i64 0
  | 2 => i64 Lr
  | 3 => u64 S
  | 4 => .slice (some ⟨B.busy, 0, none⟩) B.nb B.nb
  | _ => optr B cur
def ofun (A : DAd) (B : MAd) (o : OpS) (i : Nat) (pv : Value) : Nat → Value
  | 0 => ptr B.p
  | 1 => ptr (A.t o.t)
  | 2 => i64 o.k
  | 3 => .slice (some ⟨B.en i, 0, none⟩) o.es.length (B.ec i)
  | 4 => .slice (some ⟨B.ord i, 0, none⟩) o.es.length (B.oc i)
  | 5 => .slice (some ⟨B.se i, 0, none⟩) o.es.length (B.sc i)
  | 6 => i64 o.loaded
  | 7 => i64 o.stage
  | 8 => pv
  | 9 => .bool o.done
  | 10 => .bool o.changed
  | 11 => .bool o.ended
  | 12 => i64 o.err
  | 13 => optr B o.tgt
  | 14 => i64 o.inn
  | _ => i64 o.next
def encells (l : List (Nat × Nat × Nat)) : List Value := l.flatMap (fun e => [u64 e.1, u64 e.2.1, u64 e.2.2, .bool false])
/-- The program of operation i. -/
def PV (w : World) (G : Nat → Option Role) (i : Nat) (pv : Value) (l : List Ins) : Prop :=
  (l = [] ∧ pv = .slice none 0 0) ∨ ∃ pb c, pv = .slice (some ⟨pb, 0, none⟩) l.length c ∧ G pb = some (6, i) ∧ Seen w pb 0 (icells l)

/-- What every operation satisfies. -/
structure OpS.Ok (Lr S nb N : Nat) (o : OpS) : Prop where
  t : o.t < 8
  k : o.k < nb
  n : 1 ≤ o.es.length ∧ o.es.length ≤ 6
  off : ∀ e ∈ o.es, e.1 % 8 = 0 ∧ Lr * 64 ≤ e.1 ∧ e.1 < S
  val : ∀ e ∈ o.es, e.2.1 < 1099511627776 ∧ e.2.2 < 1099511627776
  ord : o.ord.length = o.es.length ∧ ∀ x ∈ o.ord, x < o.es.length
  seen : o.seen.length = o.es.length ∧ ∀ x ∈ o.seen, x < 4611686018427387904
  loaded : o.loaded ≤ o.es.length
  stage : o.stage ≤ 5
  err : o.err ≤ 20
  tgt : ∀ j, o.tgt = some j → j < N
  inn : o.inn ≤ 5
  prog : ∀ x ∈ o.prog, x.Ok
  next : o.next ≤ 1000

/-- A pool with N operations, in the state m. -/
structure MW (w : World) (A : DAd) (B : MAd) (Lr N : Nat) (m : MS) (F G : Nat → Option Role) : Prop where
  dev : Dev w A m.dev F
  pool : Row w B.p 95 6 (pfun A B Lr (64 * m.dev.L) m.cur)
  busy : Row w B.busy 4 B.nb (fun k => .bool (m.busy k))
  op : ∀ i, i < N → ∃ pv, Row w (B.o i) 156 16 (ofun A B (m.op i) i pv) ∧ PV w G i pv (m.op i).prog
  en : ∀ i, i < N → Seen w (B.en i) 0 (encells (m.op i).es)
  ord : ∀ i, i < N → Seen w (B.ord i) 0 ((m.op i).ord.map i64)
  se : ∀ i, i < N → Row w (B.se i) 48 (m.op i).es.length (fun x => u64 ((m.op i).seen.getD x 0))
  gp : G B.p = some (0, 0)
  gb : G B.busy = some (1, 0)
  go : ∀ i, i < N → G (B.o i) = some (2, i)
  ge : ∀ i, i < N → G (B.en i) = some (3, i)
  gr : ∀ i, i < N → G (B.ord i) = some (4, i)
  gs : ∀ i, i < N → G (B.se i) = some (5, i)
  gf : ∀ b, G b ≠ none → F b = none ∧ b < w.heap.size
  ok : ∀ i, i < N → (m.op i).Ok Lr (64 * m.dev.L) B.nb N
  cur : ∀ c, m.cur = some c → c < N
  small : N ≤ 20 ∧ B.nb ≤ 1000 ∧ 4 ≤ Lr ∧ Lr ≤ m.dev.L

/-- From w to w' only blocks of the device and of the pool have changed, and no elder block has got another role. -/
structure MMoved (F G F' G' : Nat → Option Role) (w w' : World) : Prop where
  only : Only (fun k => F k ≠ none ∨ G k ≠ none) w w'
  same : ∀ k, k < w.heap.size → F' k = F k ∧ G' k = G k
theorem MMoved.refl (F G : Nat → Option Role) (w : World) : MMoved F G F G w w := ⟨Only.refl _ _, fun _ _ => ⟨rfl, rfl⟩⟩
theorem MMoved.trans {F G F' G' F'' G'' : Nat → Option Role} {a b c : World} (h : MMoved F G F' G' a b) (k : MMoved F' G' F'' G'' b c) : MMoved F G F'' G'' a c :=
  ⟨h.only.trans k.only (fun i hi hf => by rw [(h.same i hi).1, (h.same i hi).2] at hf; exact hf), fun i hi => by
    have h1 := k.same i (Nat.lt_of_lt_of_le hi h.only.size)
    have h2 := h.same i hi
    exact ⟨h1.1.trans h2.1, h1.2.trans h2.2⟩⟩

theorem PV.of_agree {w w' : World} {G : Nat → Option Role} {i : Nat} {pv : Value} {l : List Ins} (h : PV w G i pv l) (hag : ∀ b, G b = some (6, i) → w'.heap[b]? = w.heap[b]?) : PV w' G i pv l := by
  rcases h with h | ⟨pb, c, h1, h2, h3⟩
  · exact .inl h
  · exact .inr ⟨pb, c, h1, h2, h3.of_block (hag pb h2)⟩

/-- The device moves on, the pool's blocks stay. -/
theorem MW.moved {w w' : World} {A : DAd} {B : MAd} {Lr N : Nat} {m : MS} {F F' G : Nat → Option Role} {s : DSt} (h : MW w A B Lr N m F G) (hd : Dev w' A s F') (hm : Moved F F' w w') (hL : s.L = m.dev.L) :
    MW w' A B Lr N { m with dev := s } F' G ∧ MMoved F G F' G w w' := by
  have keep : ∀ b, G b ≠ none → w'.heap[b]? = w.heap[b]? := fun b hb => hm.only.block b (h.gf b hb).2 (by rw [(h.gf b hb).1]; simp)
  have kq : ∀ b q, G b = some q → w'.heap[b]? = w.heap[b]? := fun b q hq => keep b (by rw [hq]; simp)
  refine ⟨{ dev := hd, pool := ?_, busy := ?_, op := ?_, en := ?_, ord := ?_, se := ?_, gp := h.gp, gb := h.gb, go := h.go, ge := h.ge, gr := h.gr, gs := h.gs, gf := ?_, ok := ?_, cur := h.cur, small := ?_ }, hm.only.mono (fun k hk => .inl hk), fun k hk => ⟨hm.same k hk, rfl⟩⟩
  · dsimp only; rw [hL]; exact h.pool.of_block (kq _ _ h.gp)
  · exact h.busy.of_block (kq _ _ h.gb)
  · intro i hi
    obtain ⟨pv, h1, h2⟩ := h.op i hi
    exact ⟨pv, h1.of_block (kq _ _ (h.go i hi)), h2.of_agree (fun b hb => kq b _ hb)⟩
  · exact fun i hi => (h.en i hi).of_block (kq _ _ (h.ge i hi))
  · exact fun i hi => (h.ord i hi).of_block (kq _ _ (h.gr i hi))
  · exact fun i hi => (h.se i hi).of_block (kq _ _ (h.gs i hi))
  · intro b hb
    have h1 := h.gf b hb
    exact ⟨by rw [hm.same b h1.2]; exact h1.1, Nat.lt_of_lt_of_le h1.2 hm.only.size⟩
  · dsimp only; rw [hL]; exact h.ok
  · dsimp only; rw [hL]; exact h.small
end Go.Proofs.YtejlgnebofdijaaGreatDoor.Dv

namespace Go.Proofs.YtejlgnebofdijaaGreatDoor.Dv
open Go.RowKit
set_option linter.unusedVariables false

theorem seen_set_ne {w : World} {b b' o i : Nat} {xs : List Value} {v : Value} (h : Seen w b o xs) (hne : b ≠ b') : Seen (w.setCell ⟨b', i, none⟩ v) b o xs := h.of_block (heap_set_ne hne)

/-- A store into a block of the pool that is none of the device's. -/
theorem MW.devSet {w : World} {A : DAd} {B : MAd} {Lr N : Nat} {m : MS} {F G : Nat → Option Role} (h : MW w A B Lr N m F G) {b i : Nat} {v : Value} {q : Role} (hb : G b = some q) : Dev (w.setCell ⟨b, i, none⟩ v) A m.dev F :=
  h.dev.setCell (h.gf b (by rw [hb]; simp)).1
theorem MMoved.set {F G : Nat → Option Role} {w : World} {b i : Nat} {v : Value} {q : Role} (hb : G b = some q) : MMoved F G F G w (w.setCell ⟨b, i, none⟩ v) :=
  ⟨(Only.refl _ _).set (.inr (by rw [hb]; simp)) _, fun _ _ => ⟨rfl, rfl⟩⟩

theorem MW.setO {w : World} {A : DAd} {B : MAd} {Lr N : Nat} {m : MS} {F G : Nat → Option Role} (h : MW w A B Lr N m F G) {i j : Nat} {v : Value} {o' : OpS} (hi : i < N) (hes : o'.es = (m.op i).es) (hor : o'.ord = (m.op i).ord) (hse : o'.seen = (m.op i).seen) (hpr : o'.prog = (m.op i).prog)
    (hc : ∀ y pv, y < 16 → ofun A B o' i pv y = if y = j then v else ofun A B (m.op i) i pv y) (hok : o'.Ok Lr (64 * m.dev.L) B.nb N) :
    MW (w.setCell ⟨B.o i, j, none⟩ v) A B Lr N (m.set i o') F G ∧ MMoved F G F G w (w.setCell ⟨B.o i, j, none⟩ v) := by
  have hg := h.go i hi
  have pc : pfun A B Lr (64 * m.dev.L) m.cur = pfun A B Lr (64 * m.dev.L) m.cur := rfl
  refine ⟨{ h with dev := h.devSet hg, pool := h.pool.set_other (role_ne h.gp hg (by simp)), busy := h.busy.set_other (role_ne h.gb hg (by simp)), op := ?_, en := ?_, ord := ?_, se := ?_, gf := ?_, ok := ?_ }, MMoved.set hg⟩
  · intro k hk
    by_cases e : k = i
    · subst e
      obtain ⟨pv, h1, h2⟩ := h.op k hk
      unfold MS.set
      dsimp only
      rw [upd_same]
      refine ⟨pv, (h1.set j v).congr (fun y hy => hc y pv hy), ?_⟩
      rw [hpr]
      exact h2.of_agree (fun b hb => heap_set_ne (role_ne hb hg (by simp)))
    · obtain ⟨pv, h1, h2⟩ := h.op k hk
      unfold MS.set
      dsimp only
      rw [upd_ne _ _ e]
      exact ⟨pv, h1.set_other (role_ne (h.go k hk) hg (by simp [e])), h2.of_agree (fun b hb => heap_set_ne (role_ne hb hg (by simp)))⟩
  · intro k hk
    have : ((m.set i o').op k).es = (m.op k).es := by unfold MS.set upd; dsimp only; split; rename_i e; rw [e, hes]; rfl
    rw [this]
    exact seen_set_ne (h.en k hk) (role_ne (h.ge k hk) hg (by simp))
  · intro k hk
    have : ((m.set i o').op k).ord = (m.op k).ord := by unfold MS.set upd; dsimp only; split; rename_i e; rw [e, hor]; rfl
    rw [this]
    exact seen_set_ne (h.ord k hk) (role_ne (h.gr k hk) hg (by simp))
  · intro k hk
    have e1 : ((m.set i o').op k).es = (m.op k).es := by unfold MS.set upd; dsimp only; split; rename_i e; rw [e, hes]; rfl
    have e2 : ((m.set i o').op k).seen = (m.op k).seen := by unfold MS.set upd; dsimp only; split; rename_i e; rw [e, hse]; rfl
    rw [e1, e2]
    exact (h.se k hk).set_other (role_ne (h.gs k hk) hg (by simp))
  · intro b hb
    have := h.gf b hb
    exact ⟨this.1, by simpa [World.setCell] using this.2⟩
  · intro k hk
    unfold MS.set upd
    dsimp only
    split
    · exact hok
    · exact h.ok k hk

theorem MW.setP {w : World} {A : DAd} {B : MAd} {Lr N : Nat} {m : MS} {F G : Nat → Option Role} (h : MW w A B Lr N m F G) {c : Option Nat} (hcl : ∀ x, c = some x → x < N) :
    MW (w.setCell ⟨B.p, 5, none⟩ (optr B c)) A B Lr N { m with cur := c } F G ∧ MMoved F G F G w (w.setCell ⟨B.p, 5, none⟩ (optr B c)) := by
  have hg := h.gp
  refine ⟨{ h with dev := h.devSet hg, pool := ?_, busy := h.busy.set_other (role_ne h.gb hg (by simp)), op := ?_, en := ?_, ord := ?_, se := ?_, gf := ?_, cur := hcl }, MMoved.set hg⟩
  · refine (h.pool.set 5 (optr B c)).congr (fun y hy => ?_)
    have : y = 0 ∨ y = 1 ∨ y = 2 ∨ y = 3 ∨ y = 4 ∨ y = 5 := by omega
    rcases this with rfl | rfl | rfl | rfl | rfl | rfl <;> simp [pfun]
  · intro k hk
    obtain ⟨pv, h1, h2⟩ := h.op k hk
    exact ⟨pv, h1.set_other (role_ne (h.go k hk) hg (by simp)), h2.of_agree (fun b hb => heap_set_ne (role_ne hb hg (by simp)))⟩
  · exact fun k hk => seen_set_ne (h.en k hk) (role_ne (h.ge k hk) hg (by simp))
  · exact fun k hk => seen_set_ne (h.ord k hk) (role_ne (h.gr k hk) hg (by simp))
  · exact fun k hk => (h.se k hk).set_other (role_ne (h.gs k hk) hg (by simp))
  · intro b hb
    have := h.gf b hb
    exact ⟨this.1, by simpa [World.setCell] using this.2⟩

theorem MW.setB {w : World} {A : DAd} {B : MAd} {Lr N : Nat} {m : MS} {F G : Nat → Option Role} (h : MW w A B Lr N m F G) {k : Nat} {b : Bool} :
    MW (w.setCell ⟨B.busy, k, none⟩ (.bool b)) A B Lr N { m with busy := upd m.busy k b } F G ∧ MMoved F G F G w (w.setCell ⟨B.busy, k, none⟩ (.bool b)) := by
  have hg := h.gb
  refine ⟨{ h with dev := h.devSet hg, pool := h.pool.set_other (role_ne h.gp hg (by simp)), busy := ?_, op := ?_, en := ?_, ord := ?_, se := ?_, gf := ?_ }, MMoved.set hg⟩
  · refine (h.busy.set k (.bool b)).congr (fun y hy => ?_)
    unfold upd
    dsimp only
    split <;> rfl
  · intro k hk
    obtain ⟨pv, h1, h2⟩ := h.op k hk
    exact ⟨pv, h1.set_other (role_ne (h.go k hk) hg (by simp)), h2.of_agree (fun b hb => heap_set_ne (role_ne hb hg (by simp)))⟩
  · exact fun k hk => seen_set_ne (h.en k hk) (role_ne (h.ge k hk) hg (by simp))
  · exact fun k hk => seen_set_ne (h.ord k hk) (role_ne (h.gr k hk) hg (by simp))
  · exact fun k hk => (h.se k hk).set_other (role_ne (h.gs k hk) hg (by simp))
  · intro b hb
    have := h.gf b hb
    exact ⟨this.1, by simpa [World.setCell] using this.2⟩

theorem MW.setS {w : World} {A : DAd} {B : MAd} {Lr N : Nat} {m : MS} {F G : Nat → Option Role} (h : MW w A B Lr N m F G) {i x v : Nat} (hi : i < N) (hx : x < (m.op i).es.length) (hv : v < 4611686018427387904) :
    MW (w.setCell ⟨B.se i, x, none⟩ (u64 v)) A B Lr N (m.set i { m.op i with seen := (m.op i).seen.set x v }) F G ∧ MMoved F G F G w (w.setCell ⟨B.se i, x, none⟩ (u64 v)) := by
  have hg := h.gs i hi
  have hok := h.ok i hi
  refine ⟨{ h with dev := h.devSet hg, pool := h.pool.set_other (role_ne h.gp hg (by simp)), busy := h.busy.set_other (role_ne h.gb hg (by simp)), op := ?_, en := ?_, ord := ?_, se := ?_, gf := ?_, ok := ?_ }, MMoved.set hg⟩
  · intro k hk
    obtain ⟨pv, h1, h2⟩ := h.op k hk
    have h1' := h1.set_other (b' := B.se i) (i := x) (v := u64 v) (role_ne (h.go k hk) hg (by simp))
    have h2' := h2.of_agree (w' := w.setCell ⟨B.se i, x, none⟩ (u64 v)) (fun b hb => heap_set_ne (role_ne hb hg (by simp)))
    unfold MS.set upd
    dsimp only
    split
    · rename_i e
      subst e
      exact ⟨pv, h1'.congr (fun y hy => by rfl), h2'⟩
    · exact ⟨pv, h1', h2'⟩
  · intro k hk
    have : ((m.set i { m.op i with seen := (m.op i).seen.set x v }).op k).es = (m.op k).es := by unfold MS.set upd; dsimp only; split; rename_i e; rw [e]; rfl
    rw [this]
    exact seen_set_ne (h.en k hk) (role_ne (h.ge k hk) hg (by simp))
  · intro k hk
    have : ((m.set i { m.op i with seen := (m.op i).seen.set x v }).op k).ord = (m.op k).ord := by unfold MS.set upd; dsimp only; split; rename_i e; rw [e]; rfl
    rw [this]
    exact seen_set_ne (h.ord k hk) (role_ne (h.gr k hk) hg (by simp))
  · intro k hk
    by_cases e : k = i
    · subst e
      unfold MS.set
      dsimp only
      rw [upd_same]
      refine ((h.se k hk).set x (u64 v)).congr (fun y hy => ?_)
      dsimp only
      have hl := hok.seen.1
      by_cases e2 : y = x
      · subst e2
        rw [if_pos rfl]
        simp [List.getD, hl, hy]
      · rw [if_neg e2]
        have e3 : ¬ x = y := fun h => e2 h.symm
        simp [List.getD, e3]
    · unfold MS.set
      dsimp only
      rw [upd_ne _ _ e]
      exact (h.se k hk).set_other (role_ne (h.gs k hk) hg (by simp [e]))
  · intro b hb
    have := h.gf b hb
    exact ⟨this.1, by simpa [World.setCell] using this.2⟩
  · intro k hk
    unfold MS.set upd
    dsimp only
    split
    · refine { hok with seen := ⟨by simpa using hok.seen.1, fun y hy => ?_⟩ }
      rcases List.mem_or_eq_of_mem_set hy with hy | hy
      · exact hok.seen.2 y hy
      · rw [hy]; exact hv
    · exact h.ok k hk
end Go.Proofs.YtejlgnebofdijaaGreatDoor.Dv
