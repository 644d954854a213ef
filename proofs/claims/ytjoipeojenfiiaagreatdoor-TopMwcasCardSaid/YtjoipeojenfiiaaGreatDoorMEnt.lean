/-
  The entries, the record and the stores of an operation; the table of the checksum beside a pool.
-/
import Derived.Test.YtjoipeojenfiiaaGreatDoorMMop5
import Derived.Test.YtjoipeojenfiiaaGreatDoorMPlA
namespace Go.Proofs.YtjoipeojenfiiaaGreatDoor.Dv
open Go.RowKit
set_option linter.unusedVariables false

theorem MWent.from {w w1 w' : World} {A : DAd} {B : MAd} {Lr N : Nat} {F G F1 G1 : Nat → Option Role} {m' : MS} (mv : MMoved F G F1 G1 w w1) (h : MWent w1 A B Lr N F1 G1 m' w') : MWent w A B Lr N F G m' w' := by
  obtain ⟨F', G', h1, h2⟩ := h
  exact ⟨F', G', h1, mv.trans h2⟩

/-- The table of the checksum is none of the blocks of the device and the pool. -/
structure Tb (w : World) (T : Nat → Nat) (F G : Nat → Option Role) : Prop where
  tab : NTab w T
  f : F 0 = none
  g : G 0 = none
theorem Tb.moved {w w' : World} {T : Nat → Nat} {F G F' G' : Nat → Option Role} (h : Tb w T F G) (mv : MMoved F G F' G' w w') : Tb w' T F' G' where
  tab := h.tab.of_block (mv.only.block _ h.tab.lt (by rw [h.f, h.g]; simp))
  f := by rw [(mv.same _ h.tab.lt).1]; exact h.f
  g := by rw [(mv.same _ h.tab.lt).2]; exact h.g

theorem ents_lt {o : OpS} {Lr S nb N : Nat} (h : o.Ok Lr S nb N) (hS : S ≤ 1000000) {x : En} (hx : x ∈ o.ents) : x.1 < 1000000 ∧ x.2.1 < 1099511627776 ∧ x.2.2 < 4611686018427387904 := by
  obtain ⟨e, he, r, z, _, hz, hx⟩ := ents_mem hx
  have h1 := h.off e he
  have h2 := h.val e he
  have h3 := aft_lt (raw := r) h2.2
  rw [← hz] at h3
  clear hz
  rw [hx]
  dsimp only
  exact ⟨by omega, h2.1, h3⟩
theorem ents_words {o : OpS} {Lr S nb N : Nat} (h : o.Ok Lr S nb N) (hS : S ≤ 1000000) : ∀ x ∈ ewords o.ents, x < 18446744073709551616 := by
  intro x hx
  obtain ⟨e, he, hx⟩ := List.mem_flatMap.1 hx
  have h1 := ents_lt h hS he
  simp at hx
  rcases hx with rfl | rfl | rfl <;> omega
theorem recw_lt {o : OpS} {Lr S nb N : Nat} (h : o.Ok Lr S nb N) (hS : S ≤ 1000000) (hk : o.k ≤ 1000) : ∀ p ∈ o.recw, p.1 < 18446744073709551616 ∧ p.2 < 18446744073709551616 := by
  intro p hp
  unfold OpS.recw at hp
  obtain ⟨i, hi, rfl⟩ := List.mem_map.1 hp
  have hi' : i < (ewords o.ents).length := by simpa using hi
  have hl : (ewords o.ents).length ≤ 18 := by
    rw [ewords_length]
    have : o.ents.length = o.es.length := by simp [OpS.ents]
    have := h.n
    omega
  refine ⟨by dsimp only; omega, ?_⟩
  dsimp only
  rw [List.getD_eq_getElem?_getD, List.getElem?_eq_getElem hi']
  exact ents_words h hS _ (List.getElem_mem hi')
theorem ewr_lt {o : OpS} {Lr S nb N : Nat} (h : o.Ok Lr S nb N) (hS : S ≤ 1000000) : ∀ p ∈ ewr o.ents, p.1 < 18446744073709551616 ∧ p.2 < 18446744073709551616 := by
  intro p hp
  unfold ewr at hp
  obtain ⟨e, he, rfl⟩ := List.mem_map.1 hp
  have h1 := ents_lt h hS he
  exact ⟨by dsimp only; omega, by dsimp only; omega⟩
theorem up_one (x : Nat × Nat) : Up ([x].map (fun p => line p.1)) := by
  intro i j hij hj
  simp at hj
  have : i = 0 := by omega
  subst hj; subst this
  exact Nat.le_refl _
theorem line_mono {a b : Nat} (h : a ≤ b) : line a ≤ line b := by unfold line; omega
theorem recw_up (o : OpS) : Up (o.recw.map (fun p => line p.1)) := by
  intro i j hij hj
  have hl : o.recw.length = (ewords o.ents).length := by simp [OpS.recw]
  rw [List.length_map, hl] at hj
  have hg : ∀ i, i < (ewords o.ents).length → (o.recw.map (fun p => line p.1)).getD i 0 = line (256 * o.k + 64 + 8 * i) := by
    intro i hi
    rw [List.getD_eq_getElem?_getD, List.getElem?_map]
    unfold OpS.recw
    rw [List.getElem?_map, List.getElem?_range hi]
    rfl
  rw [hg i (by omega), hg j hj]
  exact line_mono (by omega)
theorem ewr_up {o : OpS} (h : Up (o.es.map (fun e => line e.1))) : Up ((ewr o.ents).map (fun p => line p.1)) := by
  have : (ewr o.ents).map (fun p => line p.1) = o.es.map (fun e => line e.1) := by
    apply List.ext_getElem?
    intro i
    unfold ewr
    rw [List.map_map, List.getElem?_map, List.getElem?_map]
    cases he : o.es[i]? with
    | none =>
      have hl : o.ents.length = o.es.length := by simp [OpS.ents]
      rw [List.getElem?_eq_none (by rw [hl]; exact List.getElem?_eq_none_iff.1 he)]
      rfl
    | some x =>
      rw [ents_get he]
      simp only [Option.map_some, Function.comp]
  rw [this]
  exact h
theorem seen_new1 (w : World) (a b : Nat) : Seen (w.alloc (.cells #[.int .u64 a, .int .u64 b] 110)) w.heap.size 0 (wcells [(a, b)]) := by
  intro j u hj
  rw [cell_block (heap_alloc_new _ _)]
  rw [Nat.zero_add]
  simpa [wcells, u64] using hj
end Go.Proofs.YtjoipeojenfiiaaGreatDoor.Dv
