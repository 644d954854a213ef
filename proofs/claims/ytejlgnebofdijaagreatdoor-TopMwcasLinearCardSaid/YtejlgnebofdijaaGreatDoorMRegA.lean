/-
  A region that draws its order: a reading operation may be taken first if what it reads stays until an operation that waits for it comes up.
  append in a region that draws its order; what one's own rows keep.
-/
import Derived.Test.YtejlgnebofdijaaGreatDoorMMwA
import Derived.OrdersHeld
import Derived.Deep.RegionLaw
namespace Go.Proofs.YtejlgnebofdijaaGreatDoor.Dv
open Go.RowKit
set_option linter.unusedVariables false

section
variable {P : Program} {md : Region.Mode} {ops : Array Oper} {Q : Exit → Act → World → Prop} {S : Array Bool → World → Prop}

/-- Whatever order is picked from here on; S holds behind every operation. -/
def AnyL (P : Program) (md : Region.Mode) (ops : Array Oper) (Q : Exit → Act → World → Prop) (S : Array Bool → World → Prop) : Nat → Array Bool → Act → World → Prop
  | 0, L, a, w => Region.ready md ops L = [] ∧ Q .normal a w
  | n + 1, L, a, w => (Region.ready md ops L = [] → Q .normal a w) ∧
    ∀ i ∈ Region.ready md ops L, wpOp P ops Q i (fun a' w' => S (L.setIfInBounds i true) w' ∧ AnyL P md ops Q S n (L.setIfInBounds i true) a' w') a w

theorem AnyL.any : ∀ {n : Nat} {L : Array Bool} {a : Act} {w : World}, AnyL P md ops Q S n L a w → wpAny P md ops Q n L a w
  | 0, _, _, _, h => h
  | _ + 1, _, _, _, h => ⟨h.1, fun i hi => wpOp_mono (fun _ _ h' => AnyL.any h'.2) (h.2 i hi)⟩

/-- Operation d waits for operation i. -/
def waits (md : Region.Mode) (ops : Array Oper) (d i : Nat) : Bool :=
  match ops[d]? with
  | some od => od.after.any (fun e => Region.binds md e && e.on == i)
  | none => false

theorem waits_not_ready {d i : Nat} {L : Array Bool} (h : waits md ops d i = true) (hi : L.getD i false = false) : d ∉ Region.ready md ops L := by
  intro hd
  obtain ⟨_, od, hod, hall⟩ := mem_ready.1 hd
  unfold waits at h
  rw [hod] at h
  obtain ⟨e, he, hb⟩ := Array.any_eq_true'.1 h
  simp only [Bool.and_eq_true, beq_iff_eq] at hb
  have := hall e he hb.1
  rw [hb.2, hi] at this
  cases this

theorem AnyL.first {i d : Nat} {oi : Oper} {v : Value} {S0 : World → Prop} (hi : ops[i]? = some oi) (hw : waits md ops d i = true) (hsel : ∀ (j : Nat) (o : Oper) cs b, ops[j]? = some o → o.op ≠ .select cs b)
    (hQ : ∀ c a w, Q (.panic c) (a.put oi.dst v) w → Q (.panic c) a w) (hSi : ∀ L w, S (L.setIfInBounds i true) w → S L w) (hS0 : ∀ L w, S L w → L.getD d true = false → S0 w) :
    ∀ (n : Nat) (L : Array Bool) (a : Act) (w : World),
      (∀ j oj, ops[j]? = some oj → j ≠ i → L.getD j true = false → (∀ e ∈ oj.after, Region.binds md e = true → e.on ≠ i) → oi.apart ops oj = true) →
      i ∈ Region.ready md ops L → L.getD d true = false → YieldsIf P ops S0 oi v a → S L w →
      AnyL P md ops Q S n (L.setIfInBounds i true) (a.put oi.dst v) w → S (L.setIfInBounds i true) w → AnyL P md ops Q S (n + 1) L a w := by
  intro n
  induction n with
  | zero =>
    intro L a w _ hr hd hy hS H hS'
    refine ⟨fun h => (by rw [h] at hr; cases hr), fun j hj => ?_⟩
    by_cases hji : j = i
    · subst hji; exact hy.wpOp hi (hS0 L w hS hd) ⟨hS', H⟩
    · have := ready_mono hj hji
      rw [H.1] at this
      cases this
  | succ n ih =>
    intro L a w hfree hr hd hy hS H hS'
    refine ⟨fun h => (by rw [h] at hr; cases hr), fun j hj => ?_⟩
    by_cases hji : j = i
    · subst hji; exact hy.wpOp hi (hS0 L w hS hd) ⟨hS', H⟩
    · have h1 := H.2 j (ready_mono hj hji)
      obtain ⟨hjun, oj, hoj, hall⟩ := mem_ready.1 hj
      have hiun : L.getD i false = false := by
        have h0 := (mem_ready.1 hr).1
        rcases Nat.lt_or_ge i L.size with h' | h'
        · simp [h'] at h0 ⊢; exact h0
        · simp [Array.getElem?_eq_none h']
      have hnot : ∀ e ∈ oj.after, Region.binds md e = true → e.on ≠ i := fun e he hb heq => by
        have h1 := hall e he hb
        rw [heq, hiun] at h1
        cases h1
      have hjd : j ≠ d := fun e => waits_not_ready hw hiun (e ▸ hj)
      have h2 := wpOp_putIf hoj (hfree j oj hoj hji hjun hnot) (fun cs b => hsel i oi cs b hi) (fun cs b => hsel j oj cs b hoj) hQ hy h1
      refine wpOp_mono (fun a' w' h3 => ?_) h2
      have e1 : (L.setIfInBounds i true).setIfInBounds j true = (L.setIfInBounds j true).setIfInBounds i true := Array.setIfInBounds_comm _ _ (Ne.symm hji)
      have hSj : S ((L.setIfInBounds j true).setIfInBounds i true) w' := e1 ▸ h3.2.1
      refine ⟨hSi _ _ hSj, ih (L.setIfInBounds j true) a' w' (fun k ok hk hki hun hno => ?_) (ready_mono hr (Ne.symm hji)) ?_ h3.1 (hSi _ _ hSj) (e1 ▸ h3.2.2) hSj⟩
      · refine hfree k ok hk hki ?_ hno
        by_cases hjk : j = k
        · subst hjk; exact hjun
        · rw [getD_set_ne true hjk] at hun; exact hun
      · rw [getD_set_ne true hjd]; exact hd

theorem AnyL.take {i : Nat} (d : Nat) {oi : Oper} {v : Value} {S0 : World → Prop} {n : Nat} {L : Array Bool} {a : Act} {w : World} (hi : ops[i]? = some oi) (hw : waits md ops d i = true)
    (hs : Region.noSelect ops = true) (hf : Region.free md ops L i = true) (hr : (Region.ready md ops L).contains i = true) (hd : L.getD d true = false)
    (hQ : ∀ c a w, Q (.panic c) (a.put oi.dst v) w → Q (.panic c) a w) (hSi : ∀ L w, S (L.setIfInBounds i true) w → S L w) (hS0 : ∀ L w, S L w → L.getD d true = false → S0 w)
    (hy : YieldsIf P ops S0 oi v a) (hS : S (L.setIfInBounds i true) w) (h : AnyL P md ops Q S n (L.setIfInBounds i true) (a.put oi.dst v) w) : AnyL P md ops Q S (n + 1) L a w :=
  AnyL.first hi hw (Region.noSelect_spec hs) hQ hSi hS0 n L a w (Region.free_spec hi hf) (by simpa using hr) hd hy (hSi _ _ hS) h hS

/-- One operation alone may come up. -/
theorem AnyL.one {j : Nat} {n : Nat} {L : Array Bool} {a : Act} {w : World} (hr : Region.ready md ops L = [j])
    (h : wpOp P ops Q j (fun a' w' => S (L.setIfInBounds j true) w' ∧ AnyL P md ops Q S n (L.setIfInBounds j true) a' w') a w) : AnyL P md ops Q S (n + 1) L a w :=
  ⟨fun h0 => (by rw [hr] at h0; cases h0), fun i hi => (by rw [hr] at hi; simp at hi; rw [hi]; exact h)⟩
theorem AnyL.step {j : Nat} {o : Oper} {n : Nat} {L : Array Bool} {a : Act} {w : World} (hr : Region.ready md ops L = [j]) (ho : ops[j]? = some o)
    (h : ∀ K : Act → World → Prop, (∀ a' w', S (L.setIfInBounds j true) w' → AnyL P md ops Q S n (L.setIfInBounds j true) a' w' → K a' w') → if Region.wanted o (yielded ops a.tmps) = true then Oper.wp P o a w K Q else K (a.put o.dst undef) w) :
    AnyL P md ops Q S (n + 1) L a w := by
  refine AnyL.one hr ?_
  have h1 := h (fun a' w' => S (L.setIfInBounds j true) w' ∧ AnyL P md ops Q S n (L.setIfInBounds j true) a' w') (fun _ _ h2 h3 => ⟨h2, h3⟩)
  unfold wpOp
  rw [ho]
  dsimp only
  split
  · rename_i hw; rw [if_pos hw] at h1; exact .inl h1
  · rename_i hw; rw [if_neg hw] at h1; exact h1
theorem AnyL.done {n : Nat} {L : Array Bool} {a : Act} {w : World} (hr : Region.ready md ops L = []) (h : Q .normal a w) : AnyL P md ops Q S n L a w := by
  cases n with
  | zero => exact ⟨hr, h⟩
  | succ n => exact ⟨fun _ => h, by rw [hr]; simp⟩
theorem wp_region_L {id : Nat} {a : Act} {w : World} (S : Array Bool → World → Prop) (hm : P.follows .mixedOrders = true) (h : AnyL P .any ops Q S ops.size (Array.replicate ops.size false) a w.drew) : (Code.region id ops true).wp P Q a w :=
  wp_region_any hm h.any
end
end Go.Proofs.YtejlgnebofdijaaGreatDoor.Dv

namespace Go.Proofs.YtejlgnebofdijaaGreatDoor.Dv
open Go.RowKit
set_option linter.unusedVariables false

/-- append in a region that draws its order, by its run equation. -/
theorem step_append_run {P : Program} {ops : Array Oper} {o : Oper} {a : Act} {w : World} {K : Act → World → Prop} {Q : Exit → Act → World → Prop} {E : Prop} (hg : o.guard = none) (s x : Operand) (t : TypeId)
    (ho : o.op = .call { callee := .builtin .append, args := #[s, x], argTypes := #[t, t] }) (v xv v' : Value) (w' : World) (hs : a.eval s = v) (hx : a.eval x = xv)
    (hrun : ∀ ty, (Builtin.append_ #[t, t] ty #[v, xv]).run P w = .ok v' w') (h : K (a.put o.dst v') w') : if Region.wanted o (yielded ops a.tmps) = true then Oper.wp P o a w K Q else E := by
  have hw : Region.wanted o (yielded ops a.tmps) = true := by simp [Region.wanted, hg]
  rw [if_pos hw]
  unfold Oper.wp
  simp [execOp, ho, resolve, invoke, builtin, hs, hx, hrun, Result.andThen]
  exact h
theorem own_cells_ne {w : World} {B b : Nat} {e e' : TypeId} {z n : Nat} {v : Value} {xs : List Value} {c : Array Value} (h : w.ownsRow B e z v n xs) (h' : w.heap[b]? = some (.cells c e' (0, 0))) (hne : e ≠ e') : some b ≠ v.ownBlock :=
  own_row_ne (n := n) (m := 0) (f := fun _ => .bool false) h (row_of_cells h' (fun x hx => by omega)) hne
theorem own_below {w w' : World} {B : Nat} {e : TypeId} {z n : Nat} {v : Value} {xs : List Value} (h : w.ownsRow B e z v n xs) (hb : Below w.heap.size w w') : w'.ownsRow B e z v n xs :=
  h.kept (row := none) ⟨hb.os, hb.tape, hb.output, hb.size, fun k hk _ => hb.block k hk⟩ (by cases v.ownBlock <;> simp)

theorem grownBy_set (w : World) (b i : Nat) (v : Value) : w.grownBy (w.setCell ⟨b, i, none⟩ v) (some b) :=
  ⟨rfl, rfl, rfl, by simp [World.setCell], fun k hk hne => heap_set_ne (fun e => hne (by rw [e]))⟩
theorem below_grown {a w w' : World} {B : Nat} {row : Option Nat} (h : Below B a w) (hg : w.grownBy w' row) (hB : B ≤ w.heap.size) (hr : ∀ k, row = some k → B ≤ k) : Below B a w' := h.grown hg hB hr

end Go.Proofs.YtejlgnebofdijaaGreatDoor.Dv
