/-
  Numbers of this program that the evaluator needs.
  Tables with natural keys, by recursors, so that the kernel reckons with them: a short list of what was laid last ahead of a trie.
  The evaluator's values, heap and states; how they stand for a world.
  The evaluator's memory: loads, stores, new blocks; each holds in the world.
-/
import Derived.Calls
import Derived.Laws.Cells
namespace Go.Proofs.YtegfafebbnlicaaGreatDoor.Ev
open Go
/-- The number of package-level variables. -/
def Gn : Nat := 4
/-- The structs and arrays of integers that are compared, with their lengths. -/
def aggTs : List (TypeId × Nat) := [(355, 8), (178, 3)]
end Go.Proofs.YtegfafebbnlicaaGreatDoor.Ev

namespace Go.Proofs.YtegfafebbnlicaaGreatDoor.Ev
set_option linter.unusedVariables false

inductive Bt (α : Type) where
  | nil
  | node (v : Option α) (l r : Bt α)

namespace Bt
variable {α : Type}

noncomputable def get (t : Bt α) : Nat → Option α :=
  Bt.rec (motive := fun _ => Nat → Option α) (fun _ => none)
    (fun v _ _ gl gr n => Nat.rec (motive := fun _ => Option α) v
      (fun k _ => Bool.rec (motive := fun _ => Option α) (gr (Nat.div k 2)) (gl (Nat.div k 2)) (Nat.beq (Nat.mod k 2) 0)) n) t

/-- A trie of one entry. -/
noncomputable def one (f : Nat) : Nat → α → Bt α :=
  Nat.rec (motive := fun _ => Nat → α → Bt α) (fun _ _ => .nil)
    (fun _ ih n x => Nat.rec (motive := fun _ => Bt α) (.node (some x) .nil .nil)
      (fun k _ => Bool.rec (motive := fun _ => Bt α) (.node none .nil (ih (Nat.div k 2) x)) (.node none (ih (Nat.div k 2) x) .nil) (Nat.beq (Nat.mod k 2) 0)) n) f

noncomputable def set (t : Bt α) : Nat → α → Bt α :=
  Bt.rec (motive := fun _ => Nat → α → Bt α) (fun n x => one (Nat.succ n) n x)
    (fun v l r sl sr n x => Nat.rec (motive := fun _ => Bt α) (.node (some x) l r)
      (fun k _ => Bool.rec (motive := fun _ => Bt α) (.node v l (sr (Nat.div k 2) x)) (.node v (sl (Nat.div k 2) x) r) (Nat.beq (Nat.mod k 2) 0)) n) t

noncomputable def del (t : Bt α) : Nat → Bt α :=
  Bt.rec (motive := fun _ => Nat → Bt α) (fun _ => .nil)
    (fun v l r sl sr n => Nat.rec (motive := fun _ => Bt α) (.node none l r)
      (fun k _ => Bool.rec (motive := fun _ => Bt α) (.node v l (sr (Nat.div k 2))) (.node v (sl (Nat.div k 2)) r) (Nat.beq (Nat.mod k 2) 0)) n) t

theorem get_nil (n : Nat) : (nil : Bt α).get n = none := rfl
theorem get_zero (v : Option α) (l r : Bt α) : (node v l r).get 0 = v := rfl
theorem get_succ (v : Option α) (l r : Bt α) (k : Nat) : (node v l r).get (k + 1) = if k % 2 = 0 then l.get (k / 2) else r.get (k / 2) := by
  show (Bool.rec (motive := fun _ => Option α) (r.get (k / 2)) (l.get (k / 2)) (Nat.beq (k % 2) 0)) = _
  by_cases h : k % 2 = 0
  · rw [if_pos h, h]; rfl
  · rw [if_neg h]
    have : Nat.beq (k % 2) 0 = false := by
      cases hb : Nat.beq (k % 2) 0
      · rfl
      · exact absurd (Nat.eq_of_beq_eq_true hb) h
    rw [this]
theorem one_succ_zero (f : Nat) (x : α) : one (f + 1) 0 x = node (some x) nil nil := rfl
theorem one_succ_succ (f k : Nat) (x : α) : one (f + 1) (k + 1) x = if k % 2 = 0 then node none (one f (k / 2) x) nil else node none nil (one f (k / 2) x) := by
  show (Bool.rec (motive := fun _ => Bt α) (node none nil (one f (k / 2) x)) (node none (one f (k / 2) x) nil) (Nat.beq (k % 2) 0)) = _
  by_cases h : k % 2 = 0
  · rw [if_pos h, h]; rfl
  · rw [if_neg h]
    have : Nat.beq (k % 2) 0 = false := by
      cases hb : Nat.beq (k % 2) 0
      · rfl
      · exact absurd (Nat.eq_of_beq_eq_true hb) h
    rw [this]
theorem set_nil (n : Nat) (x : α) : (nil : Bt α).set n x = one (n + 1) n x := rfl
theorem set_zero (v : Option α) (l r : Bt α) (x : α) : (node v l r).set 0 x = node (some x) l r := rfl
theorem set_succ (v : Option α) (l r : Bt α) (k : Nat) (x : α) : (node v l r).set (k + 1) x = if k % 2 = 0 then node v (l.set (k / 2) x) r else node v l (r.set (k / 2) x) := by
  show (Bool.rec (motive := fun _ => Bt α) (node v l (r.set (k / 2) x)) (node v (l.set (k / 2) x) r) (Nat.beq (k % 2) 0)) = _
  by_cases h : k % 2 = 0
  · rw [if_pos h, h]; rfl
  · rw [if_neg h]
    have : Nat.beq (k % 2) 0 = false := by
      cases hb : Nat.beq (k % 2) 0
      · rfl
      · exact absurd (Nat.eq_of_beq_eq_true hb) h
    rw [this]
theorem del_nil (n : Nat) : (nil : Bt α).del n = nil := rfl
theorem del_zero (v : Option α) (l r : Bt α) : (node v l r).del 0 = node none l r := rfl
theorem del_succ (v : Option α) (l r : Bt α) (k : Nat) : (node v l r).del (k + 1) = if k % 2 = 0 then node v (l.del (k / 2)) r else node v l (r.del (k / 2)) := by
  show (Bool.rec (motive := fun _ => Bt α) (node v l (r.del (k / 2))) (node v (l.del (k / 2)) r) (Nat.beq (k % 2) 0)) = _
  by_cases h : k % 2 = 0
  · rw [if_pos h, h]; rfl
  · rw [if_neg h]
    have : Nat.beq (k % 2) 0 = false := by
      cases hb : Nat.beq (k % 2) 0
      · rfl
      · exact absurd (Nat.eq_of_beq_eq_true hb) h
    rw [this]

theorem get_one (x : α) : ∀ (f n m : Nat), n < f → (one f n x).get m = if m = n then some x else none
  | 0, n, m, h => absurd h (Nat.not_lt_zero n)
  | f + 1, 0, m, h => by
    rw [one_succ_zero]
    cases m with
    | zero => rfl
    | succ m => rw [get_succ]; simp [get_nil]
  | f + 1, k + 1, m, h => by
    rw [one_succ_succ]
    have hk : k / 2 < f := by omega
    by_cases hp : k % 2 = 0
    · rw [if_pos hp]
      cases m with
      | zero => rw [get_zero, if_neg (by omega)]
      | succ m =>
        rw [get_succ]
        by_cases hm : m % 2 = 0
        · rw [if_pos hm, get_one x f (k / 2) (m / 2) hk]
          by_cases he : m / 2 = k / 2
          · rw [if_pos he, if_pos (by omega)]
          · rw [if_neg he, if_neg (by omega)]
        · rw [if_neg hm, get_nil, if_neg (by omega)]
    · rw [if_neg hp]
      cases m with
      | zero => rw [get_zero, if_neg (by omega)]
      | succ m =>
        rw [get_succ]
        by_cases hm : m % 2 = 0
        · rw [if_pos hm, get_nil, if_neg (by omega)]
        · rw [if_neg hm, get_one x f (k / 2) (m / 2) hk]
          by_cases he : m / 2 = k / 2
          · rw [if_pos he, if_pos (by omega)]
          · rw [if_neg he, if_neg (by omega)]

theorem get_set (t : Bt α) : ∀ (n m : Nat) (x : α), (t.set n x).get m = if m = n then some x else t.get m := by
  induction t with
  | nil => intro n m x; rw [set_nil, get_one x _ _ _ (Nat.lt_succ_self n)]; rfl
  | node v l r ihl ihr =>
    intro n m x
    cases n with
    | zero =>
      rw [set_zero]
      cases m with
      | zero => rfl
      | succ m => rw [get_succ, get_succ, if_neg (c := m + 1 = 0) (by omega)]
    | succ k =>
      rw [set_succ]
      by_cases hp : k % 2 = 0
      · rw [if_pos hp]
        cases m with
        | zero => rw [get_zero, get_zero, if_neg (by omega)]
        | succ m =>
          rw [get_succ, get_succ]
          by_cases hm : m % 2 = 0
          · rw [if_pos hm, if_pos hm, ihl]
            by_cases he : m / 2 = k / 2
            · rw [if_pos he, if_pos (by omega)]
            · rw [if_neg he, if_neg (by omega)]
          · rw [if_neg hm, if_neg hm, if_neg (by omega)]
      · rw [if_neg hp]
        cases m with
        | zero => rw [get_zero, get_zero, if_neg (by omega)]
        | succ m =>
          rw [get_succ, get_succ]
          by_cases hm : m % 2 = 0
          · rw [if_pos hm, if_pos hm, if_neg (by omega)]
          · rw [if_neg hm, if_neg hm, ihr]
            by_cases he : m / 2 = k / 2
            · rw [if_pos he, if_pos (by omega)]
            · rw [if_neg he, if_neg (by omega)]

theorem get_del (t : Bt α) : ∀ (n m : Nat), (t.del n).get m = if m = n then none else t.get m := by
  induction t with
  | nil => intro n m; rw [del_nil, get_nil, ite_self]
  | node v l r ihl ihr =>
    intro n m
    cases n with
    | zero =>
      rw [del_zero]
      cases m with
      | zero => rfl
      | succ m => rw [get_succ, get_succ, if_neg (c := m + 1 = 0) (by omega)]
    | succ k =>
      rw [del_succ]
      by_cases hp : k % 2 = 0
      · rw [if_pos hp]
        cases m with
        | zero => rw [get_zero, get_zero, if_neg (by omega)]
        | succ m =>
          rw [get_succ, get_succ]
          by_cases hm : m % 2 = 0
          · rw [if_pos hm, if_pos hm, ihl]
            by_cases he : m / 2 = k / 2
            · rw [if_pos he, if_pos (by omega)]
            · rw [if_neg he, if_neg (by omega)]
          · rw [if_neg hm, if_neg hm, if_neg (by omega)]
      · rw [if_neg hp]
        cases m with
        | zero => rw [get_zero, get_zero, if_neg (by omega)]
        | succ m =>
          rw [get_succ, get_succ]
          by_cases hm : m % 2 = 0
          · rw [if_pos hm, if_pos hm, if_neg (by omega)]
          · rw [if_neg hm, if_neg hm, ihr]
            by_cases he : m / 2 = k / 2
            · rw [if_pos he, if_pos (by omega)]
            · rw [if_neg he, if_neg (by omega)]
end Bt

/-! ### What was laid last -/
inductive RL (α : Type) where
  | nil
  | cons (k : Nat) (x : α) (l : RL α)
namespace RL
variable {α : Type}
noncomputable def get (l : RL α) (k : Nat) (d : Option α) : Option α :=
  @RL.rec α (fun _ => Nat → Option α → Option α) (fun _ d => d)
    (fun j x _ ih k d => @Bool.rec (fun _ => (Nat → Option α → Option α) → α → Nat → Option α → Option α) (fun ih _ k d => ih k d) (fun _ x _ _ => some x) (Nat.beq j k) ih x k d) l k d
noncomputable def mem (l : RL α) (k : Nat) : Bool :=
  @RL.rec α (fun _ => Nat → Bool) (fun _ => false) (fun j _ _ ih k => @Bool.rec (fun _ => (Nat → Bool) → Nat → Bool) (fun ih k => ih k) (fun _ _ => true) (Nat.beq j k) ih k) l k
noncomputable def upd (l : RL α) (k : Nat) (x : α) : RL α :=
  @RL.rec α (fun _ => Nat → α → RL α) (fun _ _ => nil)
    (fun j y l ih k x => @Bool.rec (fun _ => Nat → α → RL α → (Nat → α → RL α) → Nat → α → RL α) (fun j y _ ih k x => cons j y (ih k x)) (fun _ _ l _ k x => cons k x l) (Nat.beq j k) j y l ih k x) l k x
noncomputable def flush (l : RL α) (t : Bt α) : Bt α := @RL.rec α (fun _ => Bt α → Bt α) (fun t => t) (fun j x _ ih t => (ih t).set j x) l t
theorem get_cons (j : Nat) (x : α) (l : RL α) (k : Nat) (d : Option α) : (cons j x l).get k d = if k = j then some x else l.get k d := by
  show @Bool.rec (fun _ => (Nat → Option α → Option α) → α → Nat → Option α → Option α) (fun ih _ k d => ih k d) (fun _ x _ _ => some x) (Nat.beq j k) l.get x k d = _
  cases h : Nat.beq j k with
  | true => have := Nat.eq_of_beq_eq_true h; subst this; rw [if_pos rfl]
  | false => rw [if_neg (fun e => by subst e; rw [Nat.beq_refl] at h; cases h)]
theorem mem_cons (j : Nat) (x : α) (l : RL α) (k : Nat) : (cons j x l).mem k = if k = j then true else l.mem k := by
  show @Bool.rec (fun _ => (Nat → Bool) → Nat → Bool) (fun ih k => ih k) (fun _ _ => true) (Nat.beq j k) l.mem k = _
  cases h : Nat.beq j k with
  | true => have := Nat.eq_of_beq_eq_true h; subst this; rw [if_pos rfl]
  | false => rw [if_neg (fun e => by subst e; rw [Nat.beq_refl] at h; cases h)]
theorem upd_cons (j : Nat) (y : α) (l : RL α) (k : Nat) (x : α) : (cons j y l).upd k x = if k = j then cons k x l else cons j y (l.upd k x) := by
  show @Bool.rec (fun _ => Nat → α → RL α → (Nat → α → RL α) → Nat → α → RL α) (fun j y _ ih k x => cons j y (ih k x)) (fun _ _ l _ k x => cons k x l) (Nat.beq j k) j y l l.upd k x = _
  cases h : Nat.beq j k with
  | true => have := Nat.eq_of_beq_eq_true h; subst this; rw [if_pos rfl]
  | false => rw [if_neg (fun e => by subst e; rw [Nat.beq_refl] at h; cases h)]
theorem get_upd (l : RL α) (k m : Nat) (x : α) (d : Option α) (h : l.mem k = true) : (l.upd k x).get m d = if m = k then some x else l.get m d := by
  induction l with
  | nil => cases h
  | cons j y l ih =>
    rw [mem_cons] at h
    rw [upd_cons]
    by_cases hk : k = j
    · subst hk
      rw [if_pos rfl, get_cons, get_cons]
      by_cases hm : m = k
      · rw [if_pos hm, if_pos hm]
      · rw [if_neg hm, if_neg hm, if_neg hm]
    · rw [if_neg hk] at h
      rw [if_neg hk, get_cons, get_cons, ih h]
      by_cases hm : m = k
      · subst hm; rw [if_neg hk, if_pos rfl, if_pos rfl]
      · rw [if_neg hm, if_neg hm]
theorem get_flush (l : RL α) (t : Bt α) (m : Nat) : (l.flush t).get m = l.get m (t.get m) := by
  induction l with
  | nil => rfl
  | cons j x l ih =>
    show ((l.flush t).set j x).get m = _
    rw [Bt.get_set, get_cons, ih]
end RL

/-! ### Tables -/
inductive Tr (α : Type) where
  | mk (n : Nat) (r : RL α) (t : Bt α)
namespace Tr
variable {α : Type}
def nil : Tr α := .mk 0 .nil .nil
noncomputable def get (t : Tr α) (k : Nat) : Option α := @Tr.rec α (fun _ => Nat → Option α) (fun _ r t k => r.get k (t.get k)) t k
noncomputable def push (n : Nat) (r : RL α) (t : Bt α) (k : Nat) (x : α) : Tr α :=
  @Bool.rec (fun _ => Nat → RL α → Bt α → Nat → α → Tr α) (fun n r t k x => .mk (Nat.succ n) (.cons k x r) t) (fun _ r t k x => .mk 1 (.cons k x .nil) (r.flush t)) (Nat.beq n 8) n r t k x
noncomputable def set (t : Tr α) (k : Nat) (x : α) : Tr α :=
  @Tr.rec α (fun _ => Nat → α → Tr α)
    (fun n r t k x => @Bool.rec (fun _ => Nat → RL α → Bt α → Nat → α → Tr α) (fun n r t k x => push n r t k x) (fun n r t k x => .mk n (r.upd k x) t) (r.mem k) n r t k x) t k x
noncomputable def del (t : Tr α) (k : Nat) : Tr α := @Tr.rec α (fun _ => Nat → Tr α) (fun _ r t k => .mk 0 .nil ((r.flush t).del k)) t k
theorem get_nil (k : Nat) : (nil : Tr α).get k = none := rfl
theorem get_mk (t : Bt α) (k : Nat) : (Tr.mk 0 .nil t).get k = t.get k := rfl
theorem get_set (t : Tr α) (k m : Nat) (x : α) : (t.set k x).get m = if m = k then some x else t.get m := by
  obtain ⟨n, r, t⟩ := t
  show (@Bool.rec (fun _ => Nat → RL α → Bt α → Nat → α → Tr α) (fun n r t k x => push n r t k x) (fun n r t k x => .mk n (r.upd k x) t) (r.mem k) n r t k x).get m = if m = k then some x else r.get m (t.get m)
  cases h : r.mem k with
  | true => exact RL.get_upd r k m x _ h
  | false =>
    show (push n r t k x).get m = _
    unfold push
    cases Nat.beq n 8 with
    | false => exact RL.get_cons k x r m _
    | true =>
      show (RL.cons k x .nil).get m ((r.flush t).get m) = _
      rw [RL.get_cons, RL.get_flush]; rfl
theorem get_del (t : Tr α) (k m : Nat) : (t.del k).get m = if m = k then none else t.get m := by
  obtain ⟨n, r, t⟩ := t
  show ((r.flush t).del k).get m = if m = k then none else r.get m (t.get m)
  rw [Bt.get_del, RL.get_flush]
end Tr
end Go.Proofs.YtegfafebbnlicaaGreatDoor.Ev

namespace Go.Proofs.YtegfafebbnlicaaGreatDoor.Ev
open Go
set_option linter.unusedVariables false

/-- Which block of the world an own block number stands for, and how many cells that block has. -/
structure Ren where
  f : Nat → Option Nat
  sz : Nat → Nat
instance : CoeFun Ren (fun _ => Nat → Option Nat) := ⟨Ren.f⟩

/-- The function values that the evaluator takes. -/
def fnOk (f : Fn) : Bool :=
  match f with
  | .func _ => true
  | .method _ => true
  | _ => false

/-- An own value and a value of the world. A slice whose capacity is not known bears the spot 0. -/
inductive VR (ρ : Ren) : Value → Value → Prop
  | bool (b : Bool) : VR ρ (.bool b) (.bool b)
  | int (k : IntKind) (n : Int) : VR ρ (.int k n) (.int k n)
  | str (s : ByteArray) : VR ρ (.string s) (.string s)
  | nilp : VR ρ (.pointer none) (.pointer none)
  | ptr (b c o : Nat) (h : ρ b = some c) : VR ρ (.pointer (some ⟨b, o, none⟩)) (.pointer (some ⟨c, o, none⟩))
  | nils : VR ρ (.slice none 0 0) (.slice none 0 0)
  | slc (b c o len cap : Nat) (h : ρ b = some c) : VR ρ (.slice (some ⟨b, o, none⟩) len cap) (.slice (some ⟨c, o, none⟩) len cap)
  | slu (b c o o' len cap z : Nat) (h : ρ b = some c) (hl : len ≤ cap) (ho : o' = o ∨ cap = 0) (hz : cap ≠ 0 → o + cap * z ≤ ρ.sz c) :
      VR ρ (.slice (some ⟨b, o, some z⟩) len len) (.slice (some ⟨c, o', none⟩) len cap)
  | nilm : VR ρ (.map none) (.map none)
  | map (b c : Nat) (h : ρ b = some c) : VR ρ (.map (some b)) (.map (some c))
  | nilf : VR ρ .nilFunc .nilFunc
  | fn (f : Fn) (hf : fnOk f = true) (xs ys cs ds : Array Value) (hx : xs.size = ys.size) (h : ∀ (i : Nat) x y, xs[i]? = some x → ys[i]? = some y → VR ρ x y)
      (hc : cs.size = ds.size) (h' : ∀ (i : Nat) x y, cs[i]? = some x → ds[i]? = some y → VR ρ x y) : VR ρ (.func f xs cs) (.func f ys ds)
  | yld (b c : Nat) (h : ρ b = some c) : VR ρ (.func (.yield b) #[] #[]) (.func (.yield c) #[] #[])
  | nili : VR ρ .nilIface .nilIface
  | iface (t : TypeId) (v v' : Value) (h : VR ρ v v') : VR ρ (.iface t v) (.iface t v')
  | agg (cs ds : Array Value) (hc : cs.size = ds.size) (h : ∀ (i : Nat) x y, cs[i]? = some x → ds[i]? = some y → VR ρ x y) : VR ρ (.agg cs) (.agg ds)
  | tup (cs ds : Array Value) (hc : cs.size = ds.size) (h : ∀ (i : Nat) x y, cs[i]? = some x → ds[i]? = some y → VR ρ x y) : VR ρ (.tuple cs) (.tuple ds)

def Ren.le (ρ ρ' : Ren) : Prop := ∀ b c, ρ b = some c → ρ' b = some c ∧ ρ'.sz c = ρ.sz c
theorem Ren.le_refl (ρ : Ren) : ρ.le ρ := fun _ _ h => ⟨h, rfl⟩
theorem Ren.le_trans {a b c : Ren} (h : a.le b) (h' : b.le c) : a.le c := fun x y hx => ⟨(h' x y (h x y hx).1).1, ((h' x y (h x y hx).1).2).trans (h x y hx).2⟩
/-- One number more. -/
def Ren.add (ρ : Ren) (b c n : Nat) : Ren := ⟨fun k => if k = b then some c else ρ k, fun k => if k = c then n else ρ.sz k⟩
theorem Ren.add_at (ρ : Ren) (b c n : Nat) : ρ.add b c n b = some c := by simp [Ren.add]
theorem Ren.add_ne (ρ : Ren) {b c n k : Nat} (h : k ≠ b) : ρ.add b c n k = ρ k := by simp [Ren.add, h]
theorem Ren.add_sz (ρ : Ren) (b c n : Nat) : (ρ.add b c n).sz c = n := by simp [Ren.add]
theorem Ren.le_add {ρ : Ren} {b c n : Nat} (hb : ρ b = none) (h : ∀ k, ρ k = some c → n = ρ.sz c) : ρ.le (ρ.add b c n) := by
  intro k d hk
  have hkb : k ≠ b := fun he => by subst he; rw [hb] at hk; cases hk
  refine ⟨by rw [Ren.add_ne ρ hkb]; exact hk, ?_⟩
  by_cases hd : d = c
  · subst hd; rw [Ren.add_sz]; exact h k hk
  · simp [Ren.add, hd]

theorem VR.mono {ρ ρ' : Ren} (hle : ρ.le ρ') {v v' : Value} (h : VR ρ v v') : VR ρ' v v' := by
  induction h with
  | bool b => exact .bool b
  | int k n => exact .int k n
  | str s => exact .str s
  | nilp => exact .nilp
  | ptr b c o h => exact .ptr b c o (hle _ _ h).1
  | nils => exact .nils
  | slc b c o len cap h => exact .slc b c o len cap (hle _ _ h).1
  | slu b c o o' len cap z h hl ho hz => exact .slu b c o o' len cap z (hle _ _ h).1 hl ho (by rw [(hle _ _ h).2]; exact hz)
  | nilm => exact .nilm
  | map b c h => exact .map b c (hle _ _ h).1
  | nilf => exact .nilf
  | fn f hf xs ys cs ds hx _ hc _ ih ih' => exact .fn f hf xs ys cs ds hx ih hc ih'
  | yld b c h => exact .yld b c (hle _ _ h).1
  | nili => exact .nili
  | iface t v v' _ ih => exact .iface t v v' ih
  | agg cs ds hc _ ih => exact .agg cs ds hc ih
  | tup cs ds hc _ ih => exact .tup cs ds hc ih

/-- Arrays of related values. -/
def AR (ρ : Ren) (cs ds : Array Value) : Prop := cs.size = ds.size ∧ ∀ (i : Nat) x y, cs[i]? = some x → ds[i]? = some y → VR ρ x y
theorem AR.mono {ρ ρ' : Ren} (hle : ρ.le ρ') {cs ds : Array Value} (h : AR ρ cs ds) : AR ρ' cs ds := ⟨h.1, fun i x y hx hy => (h.2 i x y hx hy).mono hle⟩
theorem AR.nil (ρ : Ren) : AR ρ #[] #[] := ⟨rfl, fun i x y hx => by simp at hx⟩
theorem AR.get {ρ : Ren} {cs ds : Array Value} (h : AR ρ cs ds) {i : Nat} {x : Value} (hx : cs[i]? = some x) : ∃ y, ds[i]? = some y ∧ VR ρ x y := by
  have hi : i < cs.size := by
    rcases Nat.lt_or_ge i cs.size with h' | h'
    · exact h'
    · rw [Array.getElem?_eq_none h'] at hx; cases hx
  have hi' : i < ds.size := h.1 ▸ hi
  exact ⟨ds[i], Array.getElem?_eq_getElem hi', h.2 i x _ hx (Array.getElem?_eq_getElem hi')⟩
theorem AR.push {ρ : Ren} {cs ds : Array Value} (h : AR ρ cs ds) {x y : Value} (hv : VR ρ x y) : AR ρ (cs.push x) (ds.push y) := by
  refine ⟨by simp [h.1], fun i a b ha hb => ?_⟩
  rw [Array.getElem?_push] at ha hb
  rw [h.1] at ha
  by_cases hi : i = ds.size
  · rw [if_pos hi] at ha hb; cases ha; cases hb; exact hv
  · rw [if_neg hi] at ha hb; exact h.2 i a b ha hb
theorem AR.append {ρ : Ren} {cs ds xs ys : Array Value} (h : AR ρ cs ds) (h' : AR ρ xs ys) : AR ρ (cs ++ xs) (ds ++ ys) := by
  refine ⟨by simp [h.1, h'.1], fun i a b ha hb => ?_⟩
  rw [Array.getElem?_append] at ha hb
  rw [h.1] at ha
  by_cases hi : i < ds.size
  · rw [if_pos hi] at ha hb; exact h.2 i a b ha hb
  · rw [if_neg hi] at ha hb; exact h'.2 _ a b ha hb
theorem AR.one {ρ : Ren} {x y : Value} (h : VR ρ x y) : AR ρ #[x] #[y] := (AR.nil ρ).push h

/-- A value of one cell that names no block. -/
def plain1 : Value → Bool
  | .bool _ | .int _ _ | .string _ | .pointer none | .slice none 0 0 | .map none | .nilFunc | .nilIface => true
  | _ => false
/-- A value that names no block. -/
def plainV : Value → Bool
  | .agg cs => cs.toList.all plain1
  | .tuple cs => cs.toList.all plain1
  | v => plain1 v
theorem VR.plain1 (ρ : Ren) {v : Value} (h : plain1 v = true) : VR ρ v v := by
  cases v with
  | bool b => exact .bool b
  | int k n => exact .int k n
  | string s => exact .str s
  | pointer a =>
    cases a with
    | none => exact .nilp
    | some a => simp [Ev.plain1] at h
  | slice a l c =>
    cases a with
    | some a => simp [Ev.plain1] at h
    | none => cases l <;> cases c <;> first | exact .nils | simp [Ev.plain1] at h
  | map r =>
    cases r with
    | none => exact .nilm
    | some r => simp [Ev.plain1] at h
  | nilFunc => exact .nilf
  | nilIface => exact .nili
  | _ => simp [Ev.plain1] at h
theorem AR.plain (ρ : Ren) {cs : Array Value} (h : cs.toList.all Ev.plain1 = true) : AR ρ cs cs := by
  refine ⟨rfl, fun i x y hx hy => ?_⟩
  rw [hx] at hy; cases hy
  refine VR.plain1 ρ (List.all_eq_true.1 h x ?_)
  rw [← Array.getElem?_toList] at hx
  exact List.mem_of_getElem? hx
theorem VR.plain (ρ : Ren) {v : Value} (h : plainV v = true) : VR ρ v v := by
  cases v with
  | agg cs => exact .agg _ _ rfl (AR.plain ρ (by simpa [plainV] using h)).2
  | tuple cs => exact .tup _ _ rfl (AR.plain ρ (by simpa [plainV] using h)).2
  | _ => exact VR.plain1 ρ (by simpa [plainV] using h)

/-- The younger temporaries. -/
inductive EL where
  | nil
  | cons (k : Nat) (v : Value) (l : EL)
noncomputable def EL.get (l : EL) : Nat → Option Value :=
  @EL.rec (fun _ => Nat → Option Value) (fun _ => none)
    (fun j v _ ih k => @Bool.rec (fun _ => (Nat → Option Value) → Value → Nat → Option Value) (fun ih _ k => ih k) (fun _ v _ => some v) (Nat.beq j k) ih v k) l
theorem EL.get_nil (k : Nat) : EL.nil.get k = none := rfl
theorem EL.get_cons (j : Nat) (v : Value) (l : EL) (k : Nat) : (EL.cons j v l).get k = if k = j then some v else l.get k := by
  show (@Bool.rec (fun _ => (Nat → Option Value) → Value → Nat → Option Value) (fun ih _ k => ih k) (fun _ v _ => some v) (Nat.beq j k) l.get v k) = _
  cases h : Nat.beq j k with
  | true => have := Nat.eq_of_beq_eq_true h; subst this; rw [if_pos rfl]
  | false => rw [if_neg (fun e => by subst e; rw [Nat.beq_refl] at h; cases h)]
/-- Temporaries: those of the mask m in a trie, the others in a list that lasts to a region's end. -/
inductive Env where
  | mk (m : Nat) (l : EL) (t : Tr Value)
/-- Is the temporary kept? -/
noncomputable def keepB (m k : Nat) : Bool := Nat.beq (Nat.land (Nat.shiftRight m k) 1) 1
noncomputable def Env.get (e : Env) (k : Nat) : Option Value :=
  @Env.rec (fun _ => Nat → Option Value) (fun m l t k => @Bool.rec (fun _ => EL → Tr Value → Nat → Option Value) (fun l _ k => l.get k) (fun _ t k => t.get k) (keepB m k) l t k) e k
noncomputable def Env.set (e : Env) (k : Nat) (v : Value) : Env :=
  @Env.rec (fun _ => Nat → Value → Env)
    (fun m l t k v => @Bool.rec (fun _ => Nat → EL → Tr Value → Nat → Value → Env) (fun m l t k v => .mk m (.cons k v l) t) (fun m l t k v => .mk m l (t.set k v)) (keepB m k) m l t k v) e k v
/-- The kept ones. -/
noncomputable def Env.flush (e : Env) : Env := @Env.rec (fun _ => Env) (fun m _ t => .mk m .nil t) e
noncomputable def Env.none (m : Nat) : Env := .mk m .nil .nil
theorem Env.get_none (m k : Nat) : (Env.none m).get k = Option.none := by
  show (@Bool.rec (fun _ => EL → Tr Value → Nat → Option Value) (fun l _ k => l.get k) (fun _ t k => t.get k) (keepB m k) .nil .nil k) = _
  cases keepB m k <;> rfl
theorem Env.get_set (e : Env) (n k : Nat) (x : Value) : (e.set n x).get k = if k = n then some x else e.get k := by
  obtain ⟨m, l, t⟩ := e
  cases hn : keepB m n with
  | false =>
    have e1 : (Env.mk m l t).set n x = .mk m (.cons n x l) t := by
      show (@Bool.rec (fun _ => Nat → EL → Tr Value → Nat → Value → Env) (fun m l t k v => .mk m (.cons k v l) t) (fun m l t k v => .mk m l (t.set k v)) (keepB m n) m l t n x) = _
      rw [hn]
    rw [e1]
    show (@Bool.rec (fun _ => EL → Tr Value → Nat → Option Value) (fun l _ k => l.get k) (fun _ t k => t.get k) (keepB m k) (.cons n x l) t k) = if k = n then some x else (@Bool.rec (fun _ => EL → Tr Value → Nat → Option Value) (fun l _ k => l.get k) (fun _ t k => t.get k) (keepB m k) l t k)
    by_cases hk : k = n
    · subst hk; rw [hn, if_pos rfl]; show EL.get _ _ = _; rw [EL.get_cons, if_pos rfl]
    · rw [if_neg hk]
      cases keepB m k with
      | false => show EL.get _ _ = EL.get _ _; rw [EL.get_cons, if_neg hk]
      | true => rfl
  | true =>
    have e1 : (Env.mk m l t).set n x = .mk m l (t.set n x) := by
      show (@Bool.rec (fun _ => Nat → EL → Tr Value → Nat → Value → Env) (fun m l t k v => .mk m (.cons k v l) t) (fun m l t k v => .mk m l (t.set k v)) (keepB m n) m l t n x) = _
      rw [hn]
    rw [e1]
    show (@Bool.rec (fun _ => EL → Tr Value → Nat → Option Value) (fun l _ k => l.get k) (fun _ t k => t.get k) (keepB m k) l (t.set n x) k) = if k = n then some x else (@Bool.rec (fun _ => EL → Tr Value → Nat → Option Value) (fun l _ k => l.get k) (fun _ t k => t.get k) (keepB m k) l t k)
    by_cases hk : k = n
    · subst hk; rw [hn, if_pos rfl]; show Tr.get _ _ = _; rw [Tr.get_set, if_pos rfl]
    · rw [if_neg hk]
      cases keepB m k with
      | false => rfl
      | true => show Tr.get _ _ = Tr.get _ _; rw [Tr.get_set, if_neg hk]
theorem Env.get_flush {e : Env} {k : Nat} {v : Value} (h : e.flush.get k = some v) : e.get k = some v := by
  obtain ⟨m, l, t⟩ := e
  have h : (@Bool.rec (fun _ => EL → Tr Value → Nat → Option Value) (fun l _ k => l.get k) (fun _ t k => t.get k) (keepB m k) .nil t k) = some v := h
  show (@Bool.rec (fun _ => EL → Tr Value → Nat → Option Value) (fun l _ k => l.get k) (fun _ t k => t.get k) (keepB m k) l t k) = some v
  cases hk : keepB m k with
  | false => rw [hk] at h; cases h
  | true => rw [hk] at h; exact h

/-- A block: cells (u: the world's block may be longer), a map, the bytes of words, .. -/
inductive EObj where
  | cells (t : TypeId) (n : Nat) (u : Bool) (c : Tr Value)
  | map (es : List MapEntry) (clock : Nat)
  | bytes (n : Nat) (c : Tr Value)
  | iter (m : Option Nat) (since : Nat) (seen : List Nat) (last : Nat)
  | loop (m : Nat) (env : Env) (ps : List Tmp) (assign body : Code) (s : LoopState) (jump : Option Code)

structure St where
  h : Tr EObj
  nx : Nat

/-- The temporaries of an activation. -/
def EnvR (ρ : Ren) (env : Env) (tmps : Array Value) : Prop := ∀ t v, env.get t = some v → ∃ v', tmps[t]? = some v' ∧ VR ρ v v'
theorem EnvR.flush {ρ : Ren} {env : Env} {tmps : Array Value} (h : EnvR ρ env tmps) : EnvR ρ env.flush tmps := fun t v hv => h t v (Env.get_flush hv)
theorem EnvR.mono {ρ ρ' : Ren} (hle : ρ.le ρ') {env : Env} {tmps : Array Value} (h : EnvR ρ env tmps) : EnvR ρ' env tmps :=
  fun t v hv => let ⟨v', h1, h2⟩ := h t v hv; ⟨v', h1, h2.mono hle⟩
/-- The cells of a block. -/
def CR (ρ : Ren) (n : Nat) (c : Tr Value) (arr : Array Value) : Prop := ∀ i, i < n → ∃ v v', c.get i = some v ∧ arr[i]? = some v' ∧ VR ρ v v'
/-- The entries of a map. -/
inductive ER (ρ : Ren) : List MapEntry → List MapEntry → Prop
  | nil : ER ρ [] []
  | cons (k v v' : Value) (n : Nat) (l m : List MapEntry) (hk : plain1 k = true) (hv : VR ρ v v') (h : ER ρ l m) : ER ρ (⟨k, v, n⟩ :: l) (⟨k, v', n⟩ :: m)

def ObjR (ρ : Ren) : EObj → Obj → Prop
  | .cells t n u c, .cells arr t' fr => t' = t ∧ (∀ i, i < arr.size → ¬ (fr.1 ≤ i ∧ i < fr.2)) ∧ n ≤ arr.size ∧ (u = false → arr.size = n ∧ fr = (0, 0)) ∧ CR ρ n c arr
  | .map es cl, .map ents clock => ER ρ es ents.toList ∧ clock = cl
  | .bytes n c, .cells arr t fr => arr.size = n ∧ fr = (0, 0) ∧ ∀ i, i < n → ∃ k, c.get (i / 8) = some (.int .u64 (.ofNat k)) ∧ k < 18446744073709551616 ∧ arr[i]? = some (.int .u8 (.ofNat (k / 2 ^ (8 * (i % 8)) % 256)))
  | .iter none s l n, .mapIter none s' l' n' => s' = s ∧ l'.toList = l ∧ n' = n
  | .iter (some m) s l n, .mapIter (some m') s' l' n' => ρ m = some m' ∧ s' = s ∧ l'.toList = l ∧ n' = n
  | .loop m env ps asg body s j, .loop l => m ≤ l.tmps.size ∧ l.params.toList = ps ∧ l.assign = asg ∧ l.body = body ∧ l.state = s ∧ l.pending = j ∧ EnvR ρ env l.tmps
  | _, _ => False
theorem CR.mono {ρ ρ' : Ren} (hle : ρ.le ρ') {n : Nat} {c : Tr Value} {arr : Array Value} (h : CR ρ n c arr) : CR ρ' n c arr :=
  fun i hi => let ⟨v, v', a, b, r⟩ := h i hi; ⟨v, v', a, b, r.mono hle⟩
theorem ER.mono {ρ ρ' : Ren} (hle : ρ.le ρ') {l m : List MapEntry} (h : ER ρ l m) : ER ρ' l m := by
  induction h with
  | nil => exact .nil
  | cons k v v' n l m hk hv _ ih => exact .cons k v v' n l m hk (hv.mono hle) ih
theorem ObjR.mono {ρ ρ' : Ren} (hle : ρ.le ρ') {o : EObj} {x : Obj} (h : ObjR ρ o x) : ObjR ρ' o x := by
  cases o with
  | cells t n u c =>
    cases x <;> simp only [ObjR] at h ⊢
    exact ⟨h.1, h.2.1, h.2.2.1, h.2.2.2.1, h.2.2.2.2.mono hle⟩
  | map es cl =>
    cases x <;> simp only [ObjR] at h ⊢
    exact ⟨h.1.mono hle, h.2⟩
  | bytes n c =>
    cases x <;> simp only [ObjR] at h ⊢
    exact h
  | iter m s l n =>
    cases m with
    | none =>
      cases x <;> simp only [ObjR] at h ⊢
      rename_i m' s' l' n'
      cases m' with
      | none => exact h
      | some m' => exact h.elim
    | some m =>
      cases x <;> simp only [ObjR] at h ⊢
      rename_i m' s' l' n'
      cases m' with
      | none => exact h.elim
      | some m' => exact ⟨(hle _ _ h.1).1, h.2⟩
  | loop m env ps asg body s j =>
    cases x <;> simp only [ObjR] at h ⊢
    exact ⟨h.1, h.2.1, h.2.2.1, h.2.2.2.1, h.2.2.2.2.1, h.2.2.2.2.2.1, h.2.2.2.2.2.2.mono hle⟩

/-- The number of a block's cells. -/
def objN : Obj → Nat
  | .cells arr _ _ => arr.size
  | _ => 0
/-- The state stands for the world; G: the number of the program's variables. -/
structure R (G : Nat) (ρ : Ren) (st : St) (w : World) : Prop where
  live : ∀ b o, st.h.get b = some o → ∃ c x, ρ b = some c ∧ w.heap[c]? = some x ∧ ObjR ρ o x ∧ objN x = ρ.sz c
  inj : ∀ b b' o o' c, st.h.get b = some o → st.h.get b' = some o' → ρ b = some c → ρ b' = some c → b = b'
  dom : ∀ b c, ρ b = some c → b < st.nx ∧ c < w.heap.size
  glob : ∀ g, g < G → ρ g = some g

/-- What a run does: blocks that no live own block stands for stay. -/
structure Went (ρ : Ren) (st : St) (w : World) (ρ' : Ren) (st' : St) (w' : World) : Prop where
  le : ρ.le ρ'
  nx : st.nx ≤ st'.nx
  size : w.heap.size ≤ w'.heap.size
  frame : ∀ c x, w.heap[c]? = some x → (∀ b o, st.h.get b = some o → ρ b ≠ some c) → w'.heap[c]? = some x
  fresh : ∀ b o c, st'.h.get b = some o → ρ' b = some c → (∃ b0 o0, st.h.get b0 = some o0 ∧ ρ b0 = some c) ∨ w.heap.size ≤ c
  new : ∀ b c, ρ b = none → ρ' b = some c → st.nx ≤ b
  os : w'.os = w.os
  tape : w'.tape = w.tape
  output : w'.output = w.output

theorem Went.refl (ρ : Ren) (st : St) (w : World) : Went ρ st w ρ st w where
  le := Ren.le_refl ρ
  nx := Nat.le_refl _
  size := Nat.le_refl _
  frame := fun _ _ h _ => h
  fresh := fun b o c h hc => .inl ⟨b, o, h, hc⟩
  new := fun b c h h' => by rw [h] at h'; cases h'
  os := rfl
  tape := rfl
  output := rfl
theorem heap_lt {w : World} {c : Nat} {x : Obj} (h : w.heap[c]? = some x) : c < w.heap.size := by
  rcases Nat.lt_or_ge c w.heap.size with h' | h'
  · exact h'
  · rw [Array.getElem?_eq_none h'] at h; cases h
theorem Went.trans {ρ ρ' ρ'' : Ren} {st st' st'' : St} {w w' w'' : World} (h : Went ρ st w ρ' st' w') (h' : Went ρ' st' w' ρ'' st'' w'') : Went ρ st w ρ'' st'' w'' where
  le := Ren.le_trans h.le h'.le
  nx := Nat.le_trans h.nx h'.nx
  size := Nat.le_trans h.size h'.size
  frame := by
    intro c x hx hn
    refine h'.frame c x (h.frame c x hx hn) fun b o hb hc => ?_
    rcases h.fresh b o c hb hc with ⟨b0, o0, h0, hc0⟩ | hge
    · exact hn b0 o0 h0 hc0
    · exact absurd (heap_lt hx) (by omega)
  fresh := by
    intro b o c hb hc
    rcases h'.fresh b o c hb hc with ⟨b0, o0, h0, hc0⟩ | hge
    · exact h.fresh b0 o0 c h0 hc0
    · exact .inr (Nat.le_trans h.size hge)
  new := by
    intro b c hb hc
    cases hb' : ρ' b with
    | none => exact Nat.le_trans h.nx (h'.new b c hb' hc)
    | some c' => exact h.new b c' hb hb'
  os := h'.os.trans h.os
  tape := h'.tape.trans h.tape
  output := h'.output.trans h.output
end Go.Proofs.YtegfafebbnlicaaGreatDoor.Ev

namespace Go.Proofs.YtegfafebbnlicaaGreatDoor.Ev
open Go
set_option linter.unusedVariables false

theorem ble_iff {a b : Nat} : Nat.ble a b = true ↔ a ≤ b := ⟨Nat.le_of_ble_eq_true, Nat.ble_eq_true_of_le⟩

/-- Cells from a place on. -/
noncomputable def loadL (c : Tr Value) (n : Nat) : Nat → Option (List Value) :=
  Nat.rec (motive := fun _ => Nat → Option (List Value)) (fun _ => some [])
    (fun _ ih o => match c.get o with
      | some v => match ih (Nat.succ o) with
        | some l => some (v :: l)
        | none => none
      | none => none) n
theorem loadL_zero (c : Tr Value) (o : Nat) : loadL c 0 o = some [] := rfl
theorem loadL_succ (c : Tr Value) (n o : Nat) : loadL c (n + 1) o = match c.get o with
    | some v => match loadL c n (o + 1) with
      | some l => some (v :: l)
      | none => none
    | none => none := rfl
/-- Cells stored from a place on. -/
noncomputable def storeL (vs : List Value) : Tr Value → Nat → Tr Value :=
  List.rec (motive := fun _ => Tr Value → Nat → Tr Value) (fun c _ => c) (fun v _ ih c o => ih (c.set o v) (Nat.succ o)) vs
theorem storeL_nil (c : Tr Value) (o : Nat) : storeL [] c o = c := rfl
theorem storeL_cons (v : Value) (vs : List Value) (c : Tr Value) (o : Nat) : storeL (v :: vs) c o = storeL vs (c.set o v) (o + 1) := rfl

/-- Bytes of words from a place on. -/
noncomputable def loadB (c : Tr Value) (n : Nat) : Nat → Option (List Value) :=
  Nat.rec (motive := fun _ => Nat → Option (List Value)) (fun _ => some [])
    (fun _ ih o => match c.get (Nat.div o 8) with
      | some (.int .u64 (.ofNat k)) => match ih (Nat.succ o) with
        | some l => some (.int .u8 (.ofNat (Nat.mod (Nat.div k (Nat.pow 2 (Nat.mul 8 (Nat.mod o 8)))) 256)) :: l)
        | none => none
      | _ => none) n
theorem loadB_zero (c : Tr Value) (o : Nat) : loadB c 0 o = some [] := rfl
theorem loadB_succ (c : Tr Value) (n o : Nat) : loadB c (n + 1) o = match c.get (o / 8) with
      | some (.int .u64 (.ofNat k)) => match loadB c n (o + 1) with
        | some l => some (.int .u8 (.ofNat (k / 2 ^ (8 * (o % 8)) % 256)) :: l)
        | none => none
      | _ => none := rfl
noncomputable def St.load (st : St) (b o n : Nat) : Option (List Value) :=
  match st.h.get b with
  | some (.cells _ m _ c) => match Nat.ble (Nat.add o n) m with
    | true => loadL c n o
    | false => none
  | some (.bytes m c) => match Nat.ble (Nat.add o n) m with
    | true => loadB c n o
    | false => none
  | _ => none
noncomputable def St.store (st : St) (b o : Nat) (vs : List Value) : Option St :=
  match st.h.get b with
  | some (.cells t m u c) => match Nat.ble (Nat.add o vs.length) m with
    | true => some ⟨st.h.set b (.cells t m u (storeL vs c o)), st.nx⟩
    | false => none
  | _ => none
/-- A new block. -/
noncomputable def St.new (st : St) (o : EObj) : St := ⟨st.h.set st.nx o, Nat.succ st.nx⟩

variable {G : Nat} {ρ : Ren} {st : St} {w : World}

theorem R.cells {b : Nat} {t : TypeId} {n : Nat} {u : Bool} {c : Tr Value} (hR : R G ρ st w) (h : st.h.get b = some (.cells t n u c)) :
    ∃ g arr fr, ρ b = some g ∧ w.heap[g]? = some (.cells arr t fr) ∧ (∀ i, i < arr.size → ¬ (fr.1 ≤ i ∧ i < fr.2)) ∧ n ≤ arr.size ∧ (u = false → arr.size = n ∧ fr = (0, 0)) ∧ CR ρ n c arr ∧ arr.size = ρ.sz g := by
  obtain ⟨g, x, hg, hx, ho, hn⟩ := hR.live b _ h
  cases x <;> simp only [ObjR] at ho
  obtain ⟨rfl, h0, h1, h2, h3⟩ := ho
  exact ⟨g, _, _, hg, hx, h0, h1, h2, h3, hn⟩
theorem R.map {b : Nat} {es : List MapEntry} {clock : Nat} (hR : R G ρ st w) (h : st.h.get b = some (.map es clock)) :
    ∃ g ents, ρ b = some g ∧ w.heap[g]? = some (.map ents clock) ∧ ER ρ es ents.toList ∧ ρ.sz g = 0 := by
  obtain ⟨g, x, hg, hx, ho, hn⟩ := hR.live b _ h
  cases x <;> simp only [ObjR] at ho
  exact ⟨g, _, hg, ho.2 ▸ hx, ho.1, hn.symm⟩

theorem cell_of {w : World} {g o : Nat} {t : TypeId} {arr : Array Value} {fr : Nat × Nat} (h : w.heap[g]? = some (.cells arr t fr)) : w.cell? ⟨g, o, none⟩ = arr[o]? := by
  simp [World.cell?, h]
theorem frozen_of {w : World} {g o : Nat} {t : TypeId} {arr : Array Value} {fr : Nat × Nat} (h : w.heap[g]? = some (.cells arr t fr)) (hf : ∀ i, i < arr.size → ¬ (fr.1 ≤ i ∧ i < fr.2)) (ho : o < arr.size) :
    w.frozen? ⟨g, o, none⟩ = false := by
  have := hf o ho
  simp only [World.frozen?, h, Bool.and_eq_false_iff, decide_eq_false_iff_not]
  by_cases h1 : fr.1 ≤ o
  · exact .inr (fun h2 => this ⟨h1, h2⟩)
  · exact .inl h1
theorem add_none (g o i : Nat) : Addr.add ⟨g, o, none⟩ i = ⟨g, o + i, none⟩ := by
  unfold Addr.add; split
  · rename_i h; subst h; rfl
  · rfl

theorem loadL_sound {ρ : Ren} {c : Tr Value} {arr : Array Value} {m : Nat} (hc : CR ρ m c arr) : ∀ (n o : Nat) (l : List Value), loadL c n o = some l → o + n ≤ m →
    l.length = n ∧ ∀ i v, l[i]? = some v → ∃ v', arr[o + i]? = some v' ∧ VR ρ v v'
  | 0, o, l, h, hm => by
    rw [loadL_zero] at h; cases h; exact ⟨rfl, fun i v hv => by simp at hv⟩
  | n + 1, o, l, h, hm => by
    rw [loadL_succ] at h
    cases hg : c.get o with
    | none => rw [hg] at h; cases h
    | some v =>
      rw [hg] at h
      cases hl : loadL c n (o + 1) with
      | none => rw [hl] at h; cases h
      | some l' =>
        rw [hl] at h; cases h
        obtain ⟨h1, h2⟩ := loadL_sound hc n (o + 1) l' hl (by omega)
        refine ⟨by simp [h1], fun i x hx => ?_⟩
        cases i with
        | zero =>
          simp at hx; subst hx
          obtain ⟨a, a', ha, ha', hr⟩ := hc o (by omega)
          rw [hg] at ha; cases ha
          exact ⟨a', ha', hr⟩
        | succ i =>
          obtain ⟨v', hv', hr⟩ := h2 i x (by simpa using hx)
          exact ⟨v', by rw [show o + (i + 1) = o + 1 + i by omega]; exact hv', hr⟩

theorem loadB_sound {c : Tr Value} {arr : Array Value} {m : Nat} (hc : ∀ i, i < m → ∃ k, c.get (i / 8) = some (.int .u64 (.ofNat k)) ∧ k < 18446744073709551616 ∧ arr[i]? = some (.int .u8 (.ofNat (k / 2 ^ (8 * (i % 8)) % 256)))) : ∀ (n o : Nat) (l : List Value), loadB c n o = some l → o + n ≤ m →
    l.length = n ∧ ∀ i v, l[i]? = some v → arr[o + i]? = some v ∧ ∃ q, v = .int .u8 q
  | 0, o, l, h, hm => by
    rw [loadB_zero] at h; cases h; exact ⟨rfl, fun i v hv => by simp at hv⟩
  | n + 1, o, l, h, hm => by
    rw [loadB_succ] at h
    obtain ⟨k, h1, h2, h3⟩ := hc o (by omega)
    rw [h1] at h
    simp only at h
    cases hl : loadB c n (o + 1) with
    | none => rw [hl] at h; cases h
    | some l' =>
      rw [hl] at h; cases h
      obtain ⟨g1, g2⟩ := loadB_sound hc n (o + 1) l' hl (by omega)
      refine ⟨by simp [g1], fun i x hx => ?_⟩
      cases i with
      | zero =>
        simp at hx; subst hx
        exact ⟨h3, _, rfl⟩
      | succ i =>
        have := g2 i x (by simpa using hx)
        rw [show o + (i + 1) = o + 1 + i by omega]; exact this
/-- The cells that a load hands over are there in the world. -/
theorem R.load_cells {G : Nat} {ρ : Ren} {st : St} {w : World} (hR : R G ρ st w) {b o n : Nat} {l : List Value} (h : st.load b o n = some l) :
    l.length = n ∧ ∃ g arr t fr, ρ b = some g ∧ w.heap[g]? = some (.cells arr t fr) ∧ o + n ≤ arr.size ∧ ∀ i v, l[i]? = some v → ∃ v', arr[o + i]? = some v' ∧ VR ρ v v' := by
  unfold St.load at h
  cases hg : st.h.get b with
  | none => rw [hg] at h; cases h
  | some x =>
    rw [hg] at h
    cases x with
    | map es cl => cases h
    | iter m s q n => cases h
    | loop m0 e p a b2 s j => cases h
    | cells t m u c =>
      simp only at h
      cases hb : Nat.ble (Nat.add o n) m with
      | false => rw [hb] at h; cases h
      | true =>
        rw [hb] at h
        obtain ⟨g, arr, fr, hρ, hw, _, hs, _, hc, _⟩ := hR.cells hg
        have hm : o + n ≤ m := ble_iff.1 hb
        obtain ⟨h1, h2⟩ := loadL_sound hc n o l h hm
        exact ⟨h1, g, arr, t, fr, hρ, hw, by omega, h2⟩
    | bytes m c =>
      simp only at h
      cases hb : Nat.ble (Nat.add o n) m with
      | false => rw [hb] at h; cases h
      | true =>
        rw [hb] at h
        obtain ⟨g, x, hρ, hw, ho, hn⟩ := hR.live b _ hg
        cases x <;> simp only [ObjR] at ho
        obtain ⟨hs, rfl, hc⟩ := ho
        have hm : o + n ≤ m := ble_iff.1 hb
        obtain ⟨h1, h2⟩ := loadB_sound hc n o l h hm
        refine ⟨h1, g, _, _, _, hρ, hw, by omega, fun i v hv => ?_⟩
        obtain ⟨h3, q, rfl⟩ := h2 i v hv
        exact ⟨_, h3, .int _ _⟩

/-- A load of cells holds in the world. -/
theorem R.load (P : Program) (hR : R G ρ st w) {b o n : Nat} {l : List Value} (h : st.load b o n = some l) :
    l.length = n ∧ ∃ g ds, ρ b = some g ∧ (loadCells ⟨g, o, none⟩ n).run P w = .ok ds w ∧ AR ρ l.toArray ds ∧ (∀ i, i < n → w.cell? ⟨g, o + i, none⟩ = ds[i]?) := by
  obtain ⟨h1, g, arr, t, fr, hρ, hw, hs, h2⟩ := hR.load_cells h
  refine ⟨h1, g, ((List.range n).map fun i => (arr[o + i]?).getD undef).toArray, hρ, ?_, ?_, ?_⟩
  · refine run_loadCells (P := P) (w := w) ⟨g, o, none⟩ n (fun i => (arr[o + i]?).getD undef) ?_
    intro j hj
    rw [add_none, cell_of hw]
    have : o + j < arr.size := by omega
    simp [Array.getElem?_eq_getElem this]
  · refine ⟨by simp [h1], fun i x y hx hy => ?_⟩
    have hi : i < n := by
      rcases Nat.lt_or_ge i n with h' | h'
      · exact h'
      · rw [Array.getElem?_eq_none (by simp; omega)] at hx; cases hx
    obtain ⟨v', hv', hr⟩ := h2 i x (by simpa using hx)
    rw [Array.getElem?_eq_getElem (by simp; omega)] at hy
    simp [hv'] at hy
    exact hy ▸ hr
  · intro i hi
    have hlt : o + i < arr.size := by omega
    rw [cell_of hw, Array.getElem?_eq_getElem hlt, Array.getElem?_eq_getElem (by simp; omega)]
    simp [Array.getElem?_eq_getElem hlt]

theorem heap_set_cell {w : World} {g o : Nat} {v : Value} {t : TypeId} {arr : Array Value} {fr : Nat × Nat} (h : w.heap[g]? = some (.cells arr t fr)) :
    (w.setCell ⟨g, o, none⟩ v).heap[g]? = some (.cells (arr.setIfInBounds o v) t fr) := by
  simp [World.setCell, Array.getElem?_modify, h]
theorem heap_set_other {w : World} {a : Addr} {v : Value} {k : Nat} (h : k ≠ a.block) : (w.setCell a v).heap[k]? = w.heap[k]? := by
  simp [World.setCell, Array.getElem?_modify, Ne.symm h]

/-- One live block is turned, in the state and in the world. -/
theorem R.turn (hR : R G ρ st w) {b g : Nat} {o o' : EObj} {x : Obj} {w' : World} (hb : st.h.get b = some o) (hρ : ρ b = some g) (ho : ObjR ρ o' x) (hN0 : objN x = ρ.sz g)
    (hx : w'.heap[g]? = some x) (hk : ∀ k, k ≠ g → w'.heap[k]? = w.heap[k]?) (hsz : w'.heap.size = w.heap.size) (hos : w'.os = w.os) (htp : w'.tape = w.tape) (hout : w'.output = w.output) :
    R G ρ ⟨st.h.set b o', st.nx⟩ w' ∧ Went ρ st w ρ ⟨st.h.set b o', st.nx⟩ w' := by
  have hlive : ∀ b1 o1, (st.h.set b o').get b1 = some o1 → ∃ o2, st.h.get b1 = some o2 := by
    intro b1 o1 h1
    rw [Tr.get_set] at h1
    by_cases hb1 : b1 = b
    · subst hb1; exact ⟨o, hb⟩
    · rw [if_neg hb1] at h1; exact ⟨o1, h1⟩
  refine ⟨⟨?_, ?_, ?_, hR.glob⟩, ⟨Ren.le_refl _, Nat.le_refl _, Nat.le_of_eq hsz.symm, ?_, ?_, ?_, hos, htp, hout⟩⟩
  · intro b1 o1 h1
    simp only [Tr.get_set] at h1
    by_cases hb1 : b1 = b
    · rw [if_pos hb1] at h1; cases h1; subst hb1; exact ⟨g, x, hρ, hx, ho, hN0⟩
    · rw [if_neg hb1] at h1
      obtain ⟨c, y, hc, hy, hr⟩ := hR.live b1 o1 h1
      refine ⟨c, y, hc, ?_, hr⟩
      rw [hk c, hy]
      intro he; subst he
      exact hb1 (hR.inj b1 b o1 o c h1 hb hc hρ)
  · intro b1 b2 o1 o2 c h1 h2 hc1 hc2
    obtain ⟨q1, h1'⟩ := hlive b1 o1 h1
    obtain ⟨q2, h2'⟩ := hlive b2 o2 h2
    exact hR.inj b1 b2 q1 q2 c h1' h2' hc1 hc2
  · intro b1 c hc
    exact ⟨(hR.dom b1 c hc).1, by rw [hsz]; exact (hR.dom b1 c hc).2⟩
  · intro c y hy hn
    rw [hk c, hy]
    intro he; subst he
    exact hn b o hb hρ
  · intro b1 o1 c h1 hc
    obtain ⟨q1, h1'⟩ := hlive b1 o1 h1
    exact .inl ⟨b1, q1, h1', hc⟩
  · intro b1 c h1 h2; rw [h1] at h2; cases h2

theorem AR.of_list {ρ : Ren} {v v' : Value} {vs vs' : List Value} (h : AR ρ (v :: vs).toArray (v' :: vs').toArray) : VR ρ v v' ∧ AR ρ vs.toArray vs'.toArray := by
  refine ⟨h.2 0 v v' (by simp) (by simp), ?_, fun i x y hx hy => h.2 (i + 1) x y (by simpa using hx) (by simpa using hy)⟩
  have := h.1; simpa using this
theorem VR.oneCell {ρ : Ren} {v v' : Value} (h : VR ρ v v') : v'.oneCell' = v.oneCell' := by cases h <;> rfl

theorem CR.set {ρ : Ren} {n : Nat} {c : Tr Value} {arr : Array Value} (h : CR ρ n c arr) {o : Nat} {v v' : Value} (hv : VR ρ v v') (hn : n ≤ arr.size) : CR ρ n (c.set o v) (arr.setIfInBounds o v') := by
  intro i hi
  obtain ⟨x, x', hx, hx', hr⟩ := h i hi
  by_cases he : i = o
  · subst he
    exact ⟨v, v', by rw [Tr.get_set, if_pos rfl], by rw [Array.getElem?_setIfInBounds]; simp; omega, hv⟩
  · exact ⟨x, x', by rw [Tr.get_set, if_neg he]; exact hx, by rw [Array.getElem?_setIfInBounds, if_neg (Ne.symm he)]; exact hx', hr⟩

/-- Stores of cells, one after another. -/
theorem storeL_sound (P : Program) {b g : Nat} {t : TypeId} {m : Nat} {u : Bool} (a o : Nat) : ∀ (vs vs' : List Value) (i : Nat) (c : Tr Value) (st : St) (w : World),
    R G ρ st w → st.h.get b = some (.cells t m u c) → ρ b = some g → o + i + vs.length ≤ m → AR ρ vs.toArray vs'.toArray → (∀ v ∈ vs, v.oneCell' = true) →
    ∃ w', (storeCells ⟨g, o, none⟩ vs' i).run P w = .ok () w' ∧ R G ρ ⟨st.h.set b (.cells t m u (storeL vs c (o + i))), st.nx⟩ w' ∧ Went ρ st w ρ ⟨st.h.set b (.cells t m u (storeL vs c (o + i))), st.nx⟩ w'
  | [], vs', i, c, st, w, hR, hg, hρ, hm, ha, h1 => by
    have : vs' = [] := List.length_eq_zero_iff.1 (by have := ha.1; simpa using this.symm)
    subst this
    obtain ⟨g', arr, fr, hρ', hw, hf, hs, hu, hc, hN⟩ := hR.cells hg
    rw [hρ] at hρ'; cases hρ'
    obtain ⟨r1, r2⟩ := hR.turn (o' := .cells t m u c) (x := .cells arr t fr) (w' := w) hg hρ ⟨rfl, hf, hs, hu, hc⟩ hN hw (fun _ _ => rfl) rfl rfl rfl rfl
    exact ⟨w, rfl, r1, r2⟩
  | v :: vs, [], i, c, st, w, hR, hg, hρ, hm, ha, h1 => by have := ha.1; simp at this
  | v :: vs, v' :: vs', i, c, st, w, hR, hg, hρ, hm, ha, h1 => by
    obtain ⟨hv, ha'⟩ := ha.of_list
    obtain ⟨g', arr, fr, hρ', hw, hf, hs, hu, hc, hN⟩ := hR.cells hg
    rw [hρ] at hρ'; cases hρ'
    simp only [List.length_cons] at hm
    have hlt : o + i < arr.size := by omega
    have hone : v'.oneCell' = true := by rw [hv.oneCell]; exact h1 v (by simp)
    obtain ⟨r1, r2⟩ := hR.turn (o' := .cells t m u (c.set (o + i) v)) (x := .cells (arr.setIfInBounds (o + i) v') t fr) (w' := w.setCell ⟨g, o + i, none⟩ v') hg hρ
      ⟨rfl, by simpa using hf, by simpa using hs, by simpa using hu, hc.set hv hs⟩ (by simpa [objN] using hN) (heap_set_cell hw) (fun k hk => heap_set_other hk) (by simp [World.setCell]) rfl rfl rfl
    obtain ⟨w', e1, e2, e3⟩ := storeL_sound P (t := t) (m := m) (u := u) a o vs vs' (i + 1) (c.set (o + i) v) ⟨st.h.set b (.cells t m u (c.set (o + i) v)), st.nx⟩ (w.setCell ⟨g, o + i, none⟩ v') r1
      (by simp [Tr.get_set]) hρ (by omega) ha' (fun x hx => h1 x (by simp [hx]))
    refine ⟨w', ?_, ?_, ?_⟩
    · rw [storeCells]
      simp only [Sem.run_bind, add_none, run_store P w _ v' _ hone, cell_of hw, Array.getElem?_eq_getElem hlt, frozen_of hw hf hlt, Bool.false_eq_true, if_false, Result.andThen_ok]
      exact e1
    · refine ⟨?_, ?_, e2.dom, e2.glob⟩
      · intro b1 o1 hb1
        refine e2.live b1 o1 ?_
        rw [storeL_cons, show o + i + 1 = o + (i + 1) by omega] at hb1
        simp only [Tr.get_set] at hb1 ⊢
        by_cases hq : b1 = b
        · simpa [hq] using hb1
        · simpa [hq] using hb1
      · intro b1 b2 o1 o2 c1 hb1 hb2
        rw [storeL_cons, show o + i + 1 = o + (i + 1) by omega] at hb1 hb2
        refine e2.inj b1 b2 o1 o2 c1 ?_ ?_
        · simp only [Tr.get_set] at hb1 ⊢
          by_cases hq : b1 = b
          · simpa [hq] using hb1
          · simpa [hq] using hb1
        · simp only [Tr.get_set] at hb2 ⊢
          by_cases hq : b2 = b
          · simpa [hq] using hb2
          · simpa [hq] using hb2
    · have ht := r2.trans e3
      refine ⟨ht.le, ht.nx, ht.size, ht.frame, ?_, ht.new, ht.os, ht.tape, ht.output⟩
      intro b1 o1 c1 hb1 hc1
      rw [storeL_cons, show o + i + 1 = o + (i + 1) by omega] at hb1
      refine ht.fresh b1 o1 c1 ?_ hc1
      simp only [Tr.get_set] at hb1 ⊢
      by_cases hq : b1 = b
      · simpa [hq] using hb1
      · simpa [hq] using hb1

theorem R.store (P : Program) (hR : R G ρ st w) {b o : Nat} {vs vs' : List Value} {st' : St} (h : st.store b o vs = some st') (ha : AR ρ vs.toArray vs'.toArray) (h1 : ∀ v ∈ vs, v.oneCell' = true) :
    ∃ g w', ρ b = some g ∧ (storeCells ⟨g, o, none⟩ vs').run P w = .ok () w' ∧ R G ρ st' w' ∧ Went ρ st w ρ st' w' := by
  unfold St.store at h
  cases hg : st.h.get b with
  | none => rw [hg] at h; cases h
  | some x =>
    rw [hg] at h
    cases x with
    | map es cl => cases h
    | iter m s q n => cases h
    | loop m0 e p a b2 s j => cases h
    | bytes m c => cases h
    | cells t m u c =>
      simp only at h
      cases hb : Nat.ble (Nat.add o vs.length) m with
      | false => rw [hb] at h; cases h
      | true =>
        rw [hb] at h; cases h
        obtain ⟨g, arr, fr, hρ, hw, hf, hs, hu, hc, hN⟩ := hR.cells hg
        obtain ⟨w', e1, e2, e3⟩ := storeL_sound P 0 o vs vs' 0 c st w hR hg hρ (ble_iff.1 hb) ha h1
        exact ⟨g, w', hρ, e1, e2, e3⟩

/-- A new block under a number that is not used yet. -/
theorem R.new (hR : R G ρ st w) {b nx : Nat} {o : EObj} {x : Obj} {w' : World} (hb : ρ b = none) (hnx : st.nx ≤ nx) (hlt : b < nx)
    (ho : ObjR (ρ.add b w.heap.size (objN x)) o x) (hw : w'.heap = w.heap.push x) (hos : w'.os = w.os) (htp : w'.tape = w.tape) (hout : w'.output = w.output) :
    R G (ρ.add b w.heap.size (objN x)) ⟨st.h.set b o, nx⟩ w' ∧ Ren.le ρ (ρ.add b w.heap.size (objN x)) ∧
      (st.nx ≤ b → Went ρ st w (ρ.add b w.heap.size (objN x)) ⟨st.h.set b o, nx⟩ w') := by
  have hle : Ren.le ρ (ρ.add b w.heap.size (objN x)) := by
    exact Ren.le_add hb (fun k hk => absurd (hR.dom k _ hk).2 (Nat.lt_irrefl _))
  have hold : ∀ (c : Nat) (y : Obj), w.heap[c]? = some y → w'.heap[c]? = some y := by
    intro c y hy
    have := heap_lt hy
    rw [hw, Array.getElem?_push_lt this]
    rw [Array.getElem?_eq_getElem this] at hy; exact hy
  refine ⟨⟨?_, ?_, ?_, ?_⟩, hle, ?_⟩
  · intro b1 o1 h1
    simp only [Tr.get_set] at h1
    by_cases hb1 : b1 = b
    · rw [if_pos hb1] at h1; cases h1
      exact ⟨w.heap.size, x, by rw [hb1, Ren.add_at], by rw [hw]; simp, ho, (Ren.add_sz ρ _ _ _).symm⟩
    · rw [if_neg hb1] at h1
      obtain ⟨c, y, hc, hy, hr, hN⟩ := hR.live b1 o1 h1
      exact ⟨c, y, (hle _ _ hc).1, hold c y hy, hr.mono hle, by rw [(hle _ _ hc).2]; exact hN⟩
  · intro b1 b2 o1 o2 c h1 h2 hc1 hc2
    simp only [Tr.get_set] at h1 h2
    by_cases e1 : b1 = b <;> by_cases e2 : b2 = b
    · rw [e1, e2]
    · rw [e1, Ren.add_at] at hc1; rw [Ren.add_ne ρ e2] at hc2; cases hc1
      have := (hR.dom b2 _ hc2).2; omega
    · rw [e2, Ren.add_at] at hc2; rw [Ren.add_ne ρ e1] at hc1; cases hc2
      have := (hR.dom b1 _ hc1).2; omega
    · rw [Ren.add_ne ρ e1] at hc1; rw [Ren.add_ne ρ e2] at hc2
      simp only [e1, e2, if_false] at h1 h2
      exact hR.inj b1 b2 o1 o2 c h1 h2 hc1 hc2
  · intro b1 c hc
    rw [hw, Array.size_push]
    by_cases e1 : b1 = b
    · rw [e1, Ren.add_at] at hc; cases hc
      exact ⟨by rw [e1]; exact hlt, by omega⟩
    · rw [Ren.add_ne ρ e1] at hc
      have := hR.dom b1 c hc
      exact ⟨Nat.lt_of_lt_of_le this.1 hnx, by omega⟩
  · intro g hg
    exact (hle g g (hR.glob g hg)).1
  · intro hge
    refine ⟨hle, hnx, by rw [hw, Array.size_push]; omega, fun c y (hy : w.heap[c]? = some y) _ => hold c y hy, ?_, ?_, hos, htp, hout⟩
    · intro b1 o1 c h1 hc
      simp only [Tr.get_set] at h1
      by_cases e1 : b1 = b
      · rw [e1, Ren.add_at] at hc; cases hc
        exact .inr (Nat.le_refl _)
      · rw [Ren.add_ne ρ e1] at hc
        simp only [e1, if_false] at h1
        exact .inl ⟨b1, o1, h1, hc⟩
    · intro b1 c h1 h2
      by_cases e1 : b1 = b
      · omega
      · rw [Ren.add_ne ρ e1] at h2; rw [h1] at h2; cases h2
end Go.Proofs.YtegfafebbnlicaaGreatDoor.Ev
