/-
  Blocks of the heap under stores, new blocks and draws; a world that has changed only in some blocks. No program in sight.
  The device of the package device as blocks of the heap: what its blocks hold when it is in the plain state s.
-/
import Derived.Below
import Derived.WalkKit
import Derived.WalkSmall
import Derived.Deep.Draws
import Derived.Lib.Hide
import Derived.Maps.Own
import Derived.Maps.RangeWalk
import Derived.Test.YtegfafebbnlicaaGreatDoorProg
import Derived.Handy
import Derived.BigQuiet
import Derived.BigGuard
import Derived.OwnWalk
namespace Go.Proofs.YtegfafebbnlicaaGreatDoor.Dv
open Go.RowKit

theorem heap_set {w : World} {b i : Nat} {v : Value} {c : Array Value} {e : TypeId} {fz : Nat × Nat} (h : w.heap[b]? = some (.cells c e fz)) :
    (w.setCell ⟨b, i, none⟩ v).heap[b]? = some (.cells (c.setIfInBounds i v) e fz) := by
  simp [World.setCell, Array.getElem?_modify, h]
theorem heap_set_ne {w : World} {b i k : Nat} {v : Value} (h : k ≠ b) : (w.setCell ⟨b, i, none⟩ v).heap[k]? = w.heap[k]? := by
  simp only [World.setCell, Array.getElem?_modify]
  rw [if_neg (fun e => h e.symm)]
theorem heap_alloc_lt {w : World} {o : Obj} {k : Nat} (h : k < w.heap.size) : (w.alloc o).heap[k]? = w.heap[k]? := Below.heap_alloc w o k h
theorem heap_alloc_new (w : World) (o : Obj) : (w.alloc o).heap[w.heap.size]? = some o := by
  show (w.heap.push o)[w.heap.size]? = _
  simp
theorem heap_lt {w : World} {b : Nat} {o : Obj} (h : w.heap[b]? = some o) : b < w.heap.size := by
  rcases Nat.lt_or_ge b w.heap.size with h' | h'
  · exact h'
  · rw [Array.getElem?_eq_none h'] at h; cases h
theorem cell_block {w : World} {b i : Nat} {c : Array Value} {e : TypeId} {fz : Nat × Nat} (h : w.heap[b]? = some (.cells c e fz)) : w.cell? ⟨b, i, none⟩ = c[i]? := by
  simp [World.cell?, h]
theorem free_block {w : World} {b i : Nat} {c : Array Value} {e : TypeId} (h : w.heap[b]? = some (.cells c e (0, 0))) : w.frozen? ⟨b, i, none⟩ = false := by
  simp [World.frozen?, h]

/-- w' is w but for the blocks of F, and has perhaps more blocks. -/
structure Only (F : Nat → Prop) (w w' : World) : Prop where
  os : w'.os = w.os
  tape : w'.tape = w.tape
  output : w'.output = w.output
  size : w.heap.size ≤ w'.heap.size
  block : ∀ k, k < w.heap.size → ¬ F k → w'.heap[k]? = w.heap[k]?

theorem Only.refl (F : Nat → Prop) (w : World) : Only F w w := ⟨rfl, rfl, rfl, Nat.le_refl _, fun _ _ _ => rfl⟩
theorem Only.trans {F G : Nat → Prop} {a b c : World} (h : Only F a b) (k : Only G b c) (hG : ∀ i, i < a.heap.size → G i → F i) : Only F a c :=
  ⟨k.os.trans h.os, k.tape.trans h.tape, k.output.trans h.output, Nat.le_trans h.size k.size, fun i hi hf => (k.block i (Nat.lt_of_lt_of_le hi h.size) (fun g => hf (hG i hi g))).trans (h.block i hi hf)⟩
theorem Only.mono {F G : Nat → Prop} {a b : World} (h : Only F a b) (hG : ∀ i, F i → G i) : Only G a b := ⟨h.os, h.tape, h.output, h.size, fun i hi hg => h.block i hi (fun f => hg (hG i f))⟩
theorem Only.set {F : Nat → Prop} {a w : World} (h : Only F a w) {b i : Nat} (hb : F b) (v : Value) : Only F a (w.setCell ⟨b, i, none⟩ v) :=
  ⟨h.os, h.tape, h.output, by simpa [World.setCell] using h.size, fun k hk hf => (heap_set_ne (k := k) (b := b) (fun e => hf (by rw [e]; exact hb))).trans (h.block k hk hf)⟩
theorem Only.alloc {F : Nat → Prop} {a w : World} (h : Only F a w) (o : Obj) : Only F a (w.alloc o) :=
  ⟨h.os, h.tape, h.output, Nat.le_trans h.size (by simp), fun k hk hf => (heap_alloc_lt (Nat.lt_of_lt_of_le hk h.size)).trans (h.block k hk hf)⟩
theorem Only.drewN {F : Nat → Prop} {a w : World} (h : Only F a w) (n : Nat) : Only F a (w.drewN n) := ⟨h.os, h.tape, h.output, h.size, h.block⟩
theorem Only.drew {F : Nat → Prop} {a w : World} (h : Only F a w) : Only F a w.drew := ⟨h.os, h.tape, h.output, h.size, h.block⟩
theorem Only.below {a b : World} (h : Only (fun _ => False) a b) : Below a.heap.size a b := ⟨h.os, h.tape, h.output, h.size, fun k hk => h.block k hk (fun f => f)⟩
theorem Only.of_below {F : Nat → Prop} {a b : World} (h : Below a.heap.size a b) : Only F a b := ⟨h.os, h.tape, h.output, h.size, fun k hk _ => h.block k hk⟩
theorem Only.cell {F : Nat → Prop} {a b : World} (h : Only F a b) {p : Addr} {v : Value} (hc : a.cell? p = some v) (hF : ¬ F p.block) : b.cell? p = some v :=
  (World.cell?_of_block (h.block p.block (World.block_lt_of_cell? _ _ hc) hF)).trans hc

/-! ### the device, as plain data -/
structure DSt where
  L : Nat
  base : Nat → Nat
  H : Nat → List (Nat × Nat)
  dn : Nat → Nat
  off : Bool
  armed : Bool
  left : Nat
  ex : Nat
  err : Nat → Nat
  notes : Nat → Nat → Option Nat
  nb : Nat

/-- The value of word x after these stores. -/
def after (v : Nat) (x : Nat) : List (Nat × Nat) → Nat
  | [] => v
  | s :: l => after (if s.1 / 8 = x then s.2 else v) x l
theorem after_snoc (v x : Nat) (l : List (Nat × Nat)) (s : Nat × Nat) : after v x (l ++ [s]) = if s.1 / 8 = x then s.2 else after v x l := by
  induction l generalizing v with
  | nil => rfl
  | cons a l ih => exact ih _
theorem after_append (v x : Nat) (l m : List (Nat × Nat)) : after v x (l ++ m) = after (after v x l) x m := by
  induction l generalizing v with
  | nil => rfl
  | cons a l ih => exact ih _

def DSt.per (s : DSt) (x : Nat) : Nat := after (s.base x) x ((s.H (x / 8)).take (s.dn (x / 8)))
def DSt.cur (s : DSt) (x : Nat) : Nat := after (s.base x) x (s.H (x / 8))
def DSt.hist (s : DSt) (n : Nat) : List (Nat × Nat) := (s.H n).drop (s.dn n)

/-- What every device that the program makes satisfies. -/
structure DSt.Ok (s : DSt) : Prop where
  lines : 1 ≤ s.L ∧ s.L ≤ 4096
  base : ∀ x, s.base x < 18446744073709551616
  dn : ∀ n, s.dn n ≤ (s.H n).length
  word : ∀ n, ∀ p ∈ s.H n, p.1 % 8 = 0 ∧ p.1 / 64 = n ∧ p.2 < 18446744073709551616
  len : ∀ n, (s.H n).length ≤ s.ex
  ex : s.ex ≤ 1000000
  left : s.left ≤ 1000000
  note : ∀ t n p, s.notes t n = some p → p ≤ (s.H n).length ∧ n < s.L
  err : ∀ t, s.err t ≤ 20
  nb : s.nb ≤ s.ex

/-- What a block of the device is: (0, 0) the device, (1, 0) the persisted words, (2, 0) the current ones, (3, 0) the lines, (4, i) thread i, (5, i) its notes, (6, n) the history of line n. -/
abbrev Role := Nat × Nat
end Go.Proofs.YtegfafebbnlicaaGreatDoor.Dv

namespace Go.Proofs.YtegfafebbnlicaaGreatDoor.Dv
open Go.RowKit

/-- Block b holds f 0, .., f (n - 1), and perhaps more. -/
def Row (w : World) (b : Nat) (e : TypeId) (n : Nat) (f : Nat → Value) : Prop :=
  ∃ c, w.heap[b]? = some (.cells c e (0, 0)) ∧ n ≤ c.size ∧ ∀ x, x < n → c[x]? = some (f x)

theorem Row.lt {w : World} {b : Nat} {e : TypeId} {n : Nat} {f : Nat → Value} (h : Row w b e n f) : b < w.heap.size := by
  obtain ⟨c, hc, _⟩ := h; exact heap_lt hc
theorem Row.cell {w : World} {b : Nat} {e : TypeId} {n : Nat} {f : Nat → Value} (h : Row w b e n f) (x : Nat) (hx : x < n) : w.cell? ⟨b, x, none⟩ = some (f x) := by
  obtain ⟨c, hc, _, hf⟩ := h
  rw [cell_block hc]; exact hf x hx
theorem Row.free {w : World} {b : Nat} {e : TypeId} {n : Nat} {f : Nat → Value} (h : Row w b e n f) (x : Nat) : w.frozen? ⟨b, x, none⟩ = false := by
  obtain ⟨c, hc, _⟩ := h
  exact free_block hc
theorem Row.of_block {w w' : World} {b : Nat} {e : TypeId} {n : Nat} {f : Nat → Value} (h : Row w b e n f) (hb : w'.heap[b]? = w.heap[b]?) : Row w' b e n f := by
  obtain ⟨c, hc, h2⟩ := h
  exact ⟨c, hb.trans hc, h2⟩
theorem Row.congr {w : World} {b : Nat} {e : TypeId} {n : Nat} {f g : Nat → Value} (h : Row w b e n f) (hg : ∀ x, x < n → g x = f x) : Row w b e n g := by
  obtain ⟨c, hc, h1, h2⟩ := h
  exact ⟨c, hc, h1, fun x hx => by rw [h2 x hx, hg x hx]⟩
theorem Row.set {w : World} {b : Nat} {e : TypeId} {n : Nat} {f : Nat → Value} (h : Row w b e n f) (i : Nat) (v : Value) :
    Row (w.setCell ⟨b, i, none⟩ v) b e n (fun x => if x = i then v else f x) := by
  obtain ⟨c, hc, h1, h2⟩ := h
  refine ⟨_, heap_set hc, by simpa using h1, fun x hx => ?_⟩
  have hxs : x < c.size := by omega
  by_cases e : x = i
  · subst e; simp [hxs]
  · have e' : ¬ i = x := fun h => e h.symm
    simp [e, e', h2 x hx]
theorem Row.set_other {w : World} {b b' i : Nat} {e : TypeId} {n : Nat} {f : Nat → Value} {v : Value} (h : Row w b e n f) (hb : b ≠ b') : Row (w.setCell ⟨b', i, none⟩ v) b e n f :=
  h.of_block (heap_set_ne hb)
theorem Row.alloc {w : World} {b : Nat} {e : TypeId} {n : Nat} {f : Nat → Value} (h : Row w b e n f) (o : Obj) : Row (w.alloc o) b e n f := h.of_block (heap_alloc_lt h.lt)

/-- The addresses of a device that stay. -/
structure DAd where
  d : Nat
  per : Nat
  cur : Nat
  cap : Nat
  lin : Nat
  t : Nat → Nat
  m : Nat → Nat

def ptr (b : Nat) : Value := .pointer (some ⟨b, 0, none⟩)
def u64 (n : Nat) : Value := .int .u64 n
def i64 (n : Nat) : Value := .int .i64 n

def dfun (A : DAd) (s : DSt) : Nat → Value
  | 0 => .slice (some ⟨A.per, 0, none⟩) (8 * s.L) (8 * s.L)
  | 1 => .slice (some ⟨A.cur, 0, none⟩) (8 * s.L) A.cap
  | 2 => .slice (some ⟨A.lin, 0, none⟩) s.L s.L
  | 11 => .bool s.off
  | 12 => .bool s.armed
  | 13 => i64 s.left
  | 14 => u64 s.ex
  | i => ptr (A.t (i - 3))
def tfun (A : DAd) (s : DSt) (i : Nat) : Nat → Value
  | 0 => ptr A.d
  | 1 => i64 i
  | 2 => i64 (s.err i)
  | _ => .map (some (A.m i))
def lfun (s : DSt) (hv : Nat → Value) (i : Nat) : Value := if i % 2 = 0 then u64 (s.dn (i / 2)) else hv (i / 2)

/-- The slice v is the list l of stores, in a block whose role is the history of line n. -/
def Hist (w : World) (F : Nat → Option Role) (n : Nat) (v : Value) (l : List (Nat × Nat)) : Prop :=
  (l = [] ∧ v = .slice none 0 0) ∨
  ∃ b o cap c, v = .slice (some ⟨b, o, none⟩) l.length cap ∧ F b = some (6, n) ∧ w.heap[b]? = some (.cells c 128 (0, 0)) ∧ l.length ≤ cap ∧ cap ≤ maxLen ∧ o + cap * 2 ≤ c.size ∧
    ∀ i p, l[i]? = some p → c[o + 2 * i]? = some (u64 p.1) ∧ c[o + 2 * i + 1]? = some (u64 p.2)

/-- The notes of a thread. -/
def Notes (w : World) (b : Nat) (ex : Nat) (f : Nat → Option Nat) : Prop :=
  ∃ D : DataW Unit, w.ownsMap Tryz.prog 3 (plainElem Tryz.prog 29) b ex D ∧
    (∀ k : Int, Maps.has D (.int .i64 k) = true → 0 ≤ k) ∧
    ∀ n : Nat, (Maps.has D (.int .i64 n) = (f n).isSome) ∧ ∀ p zd, f n = some p → D.atKey (.int .i64 n) zd = .lit (.int .u64 p)

structure Dev (w : World) (A : DAd) (s : DSt) (F : Nat → Option Role) : Prop where
  ok : s.Ok
  dev : Row w A.d 218 15 (dfun A s)
  per : Row w A.per 29 (8 * s.L) (fun x => u64 (s.per x))
  cur : Row w A.cur 29 (8 * s.L) (fun x => u64 (s.cur x))
  cap : 8 * s.L ≤ A.cap ∧ A.cap ≤ maxLen
  lin : ∃ hv, Row w A.lin 394 (2 * s.L) (lfun s hv) ∧ ∀ n, n < s.L → Hist w F n (hv n) (s.hist n)
  thr : ∀ i, i < 8 → Row w (A.t i) 241 4 (tfun A s i)
  note : ∀ i, i < 8 → Notes w (A.m i) s.nb (s.notes i)
  fd : F A.d = some (0, 0)
  fper : F A.per = some (1, 0)
  fcur : F A.cur = some (2, 0)
  flin : F A.lin = some (3, 0)
  ft : ∀ i, i < 8 → F (A.t i) = some (4, i)
  fm : ∀ i, i < 8 → F (A.m i) = some (5, i)
  lt : ∀ k, F k ≠ none → k < w.heap.size

/-- From w to w' only the device's blocks have changed, and F' knows the same of the elder blocks as F. -/
structure Moved (F F' : Nat → Option Role) (w w' : World) : Prop where
  only : Only (fun k => F k ≠ none) w w'
  same : ∀ k, k < w.heap.size → F' k = F k
theorem Moved.refl (F : Nat → Option Role) (w : World) : Moved F F w w := ⟨Only.refl _ _, fun _ _ => rfl⟩
theorem Moved.trans {F F' F'' : Nat → Option Role} {a b c : World} (h : Moved F F' a b) (k : Moved F' F'' b c) : Moved F F'' a c :=
  ⟨h.only.trans k.only (fun i hi hf => by rw [h.same i hi] at hf; exact hf), fun i hi => (k.same i (Nat.lt_of_lt_of_le hi h.only.size)).trans (h.same i hi)⟩

theorem Hist.of_agree {w w' : World} {F : Nat → Option Role} {n : Nat} {v : Value} {l : List (Nat × Nat)} (h : Hist w F n v l) (hag : ∀ k, F k = some (6, n) → w'.heap[k]? = w.heap[k]?) : Hist w' F n v l := by
  rcases h with h | ⟨b, o, cap, c, h1, h2, h3, h4⟩
  · exact .inl h
  · exact .inr ⟨b, o, cap, c, h1, h2, (hag b h2).trans h3, h4⟩
theorem Notes.of_agree {w w' : World} {b ex : Nat} {f : Nat → Option Nat} (h : Notes w b ex f) (hb : w'.heap[b]? = w.heap[b]?) : Notes w' b ex f := by
  obtain ⟨D, ⟨es, clock, h1, h2⟩, h3⟩ := h
  exact ⟨D, ⟨es, clock, hb.trans h1, h2⟩, h3⟩
theorem Notes.mono {w : World} {b ex ex' : Nat} {f : Nat → Option Nat} (h : Notes w b ex f) (he : ex ≤ ex') : Notes w b ex' f := by
  obtain ⟨D, h1, h3⟩ := h
  exact ⟨D, h1.mono he, h3⟩

/-- A device stays what it is while its blocks stay. -/
theorem Dev.of_agree {w w' : World} {A : DAd} {s : DSt} {F : Nat → Option Role} (h : Dev w A s F) (hag : ∀ k, F k ≠ none → w'.heap[k]? = w.heap[k]?) (hs : w.heap.size ≤ w'.heap.size) : Dev w' A s F where
  ok := h.ok
  dev := h.dev.of_block (hag _ (by rw [h.fd]; simp))
  per := h.per.of_block (hag _ (by rw [h.fper]; simp))
  cur := h.cur.of_block (hag _ (by rw [h.fcur]; simp))
  cap := h.cap
  lin := by
    obtain ⟨hv, h1, h2⟩ := h.lin
    exact ⟨hv, h1.of_block (hag _ (by rw [h.flin]; simp)), fun n hn => (h2 n hn).of_agree (fun k hk => hag k (by rw [hk]; simp))⟩
  thr := fun i hi => (h.thr i hi).of_block (hag _ (by rw [h.ft i hi]; simp))
  note := fun i hi => (h.note i hi).of_agree (hag _ (by rw [h.fm i hi]; simp))
  fd := h.fd
  fper := h.fper
  fcur := h.fcur
  flin := h.flin
  ft := h.ft
  fm := h.fm
  lt := fun k hk => Nat.lt_of_lt_of_le (h.lt k hk) hs
theorem Dev.alloc {w : World} {A : DAd} {s : DSt} {F : Nat → Option Role} (h : Dev w A s F) (o : Obj) : Dev (w.alloc o) A s F := h.of_agree (fun k hk => heap_alloc_lt (h.lt k hk)) (by simp)
theorem Dev.drew {w : World} {A : DAd} {s : DSt} {F : Nat → Option Role} (h : Dev w A s F) : Dev w.drew A s F := h.of_agree (fun _ _ => rfl) (Nat.le_refl _)
theorem Dev.drewN {w : World} {A : DAd} {s : DSt} {F : Nat → Option Role} (h : Dev w A s F) (n : Nat) : Dev (w.drewN n) A s F := h.of_agree (fun _ _ => rfl) (Nat.le_refl _)
theorem Dev.setCell {w : World} {A : DAd} {s : DSt} {F : Nat → Option Role} (h : Dev w A s F) {b i : Nat} {v : Value} (hb : F b = none) : Dev (w.setCell ⟨b, i, none⟩ v) A s F :=
  h.of_agree (fun k hk => heap_set_ne (fun e => hk (by rw [e]; exact hb))) (by simp [World.setCell])
theorem Dev.only {w w' : World} {A : DAd} {s : DSt} {F : Nat → Option Role} {G : Nat → Prop} (h : Dev w A s F) (ho : Only G w w') (hG : ∀ k, G k → k < w.heap.size → F k = none) : Dev w' A s F :=
  h.of_agree (fun k hk => ho.block k (h.lt k hk) (fun hg => hk (hG k hg (h.lt k hk)))) ho.size
theorem Dev.below {w w' : World} {A : DAd} {s : DSt} {F : Nat → Option Role} (h : Dev w A s F) (ho : Below w.heap.size w w') : Dev w' A s F :=
  h.of_agree (fun k hk => ho.block k (h.lt k hk)) ho.size
/-- Blocks of different roles differ. -/
theorem role_ne {F : Nat → Option Role} {a b : Nat} {r q : Role} (ha : F a = some r) (hb : F b = some q) (h : r ≠ q) : a ≠ b := by
  intro e; rw [e, hb] at ha; exact h (Option.some.inj ha).symm
theorem none_ne {F : Nat → Option Role} {a b : Nat} {q : Role} (ha : F a = none) (hb : F b = some q) : a ≠ b := by
  intro e; rw [e, hb] at ha; cases ha
end Go.Proofs.YtegfafebbnlicaaGreatDoor.Dv
