/-
  append onto a slice of one's own, with the block of the result known.
-/
import Derived.Test.YtjoipeojenfiiaaGreatDoorMCompact
import Derived.Deep.Onto
namespace Go.Proofs.YtjoipeojenfiiaaGreatDoor.Dv
open Go.RowKit
set_option linter.unusedVariables false

/-- The slice type t has elements of type e, of that many cells and bytes. -/
structure El (P : Program) (t e : TypeId) (size bytes : Nat) : Prop where
  ht : P.underlying t = some (.slice e)
  ex : ∃ i z, P.info? e = some i ∧ i.zero = some z ∧ i.size = size ∧ i.bytes = bytes ∧ z.cells.size = size
  pos : 0 < size

theorem append_own2 {P : Program} {w : World} {t e : TypeId} {size bytes : Nat} (E : El P t e size bytes) {base : Nat} {v : Value} {n : Nat} {xs : List Value} (hown : w.ownsRow base e size v n xs)
    (a : Addr) (m c : Nat) (news : List Value) (hl : news.length = m * size) (hnews : ∀ j u, news[j]? = some u → w.cell? (a.add j) = some u) (h1 : ∀ u ∈ news, u.oneCell' = true)
    (hm : 0 < m) (h63 : n + m ≤ maxLen) (hbytes : (n + m) * bytes ≤ 140737488355328) (hbase : base ≤ w.heap.size) :
    ∃ g cap w', (∀ ty, (Builtin.append_ #[t, t] ty #[v, .slice (some a) m c]).run P w = .ok (.slice (some ⟨g, 0, none⟩) (n + m) cap) w') ∧ w'.ownsRow base e size (.slice (some ⟨g, 0, none⟩) (n + m) cap) (n + m) (xs ++ news) ∧ w.grownBy w' v.ownBlock ∧
      (v.ownBlock = some g ∨ w.heap.size ≤ g) := by
  obtain ⟨i, z, hi, hz, hsz, hby, hzs⟩ := E.ex
  have hsrc : Src P i.size t (.slice (some a) m c) m news w := Src.ofSlice w E.ht a m c news (by rw [hsz]; exact hl) hnews h1
  have grow : ∀ (b : Option Addr) (sCap : Nat), v = .slice b n sCap → (Builtin.firstCells i.size n (.slice b n sCap)).run P w.drew = .ok xs.toArray w.drew → sCap < n + m →
      ∃ g cap w', (∀ ty, (Builtin.append_ #[t, t] ty #[v, .slice (some a) m c]).run P w = .ok (.slice (some ⟨g, 0, none⟩) (n + m) cap) w') ∧ w'.ownsRow base e size (.slice (some ⟨g, 0, none⟩) (n + m) cap) (n + m) (xs ++ news) ∧ w.grownBy w' v.ownBlock ∧
      (v.ownBlock = some g ∨ w.heap.size ≤ g) := by
    intro b sCap hv hold hcap
    subst hv
    have hrun := fun ty => run_append_grow_src (P := P) w t t ty e i z E.ht hi hz b n sCap xs hold _ m _ hsrc hcap (by unfold maxLen at h63; omega) (growslice_fits hcap (by rw [hby]; exact hbytes))
    have hge := grownCap_ge w (n + m) sCap e
    have hcm := grownCap_le_maxLen w (n + m) sCap e h63
    have hx := hown.1
    refine ⟨w.heap.size, _, _, hrun, ⟨by rw [List.length_append, hx, hl, Nat.add_mul], .inr ⟨w.heap.size, _, _, rfl, hbase, heap_alloc_new _ _, hge, hcm, ?_, ?_⟩⟩, ?_, .inr (Nat.le_refl _)⟩
    · rw [Array.size_append, size_zeroCells, hzs, List.size_toArray, List.length_append, hx, hl, ← Nat.add_mul, ← Nat.add_mul]
      congr 1
      omega
    · rw [Array.toList_append, List.toList_toArray, List.take_append_of_le_length (by rw [List.length_append, hx, hl, Nat.add_mul]; exact Nat.le_refl _), List.take_of_length_le (by rw [List.length_append, hx, hl, Nat.add_mul]; exact Nat.le_refl _)]
    · exact ⟨rfl, rfl, rfl, by simp, fun k hk _ => heap_alloc_lt (w := w.drew) hk⟩
  rcases hown.2 with ⟨hv, hn⟩ | ⟨g, cap, cur, hv, hb, hg, hnc, hcm, hcs, htake⟩
  · subst hn
    have hx : xs = [] := List.length_eq_zero_iff.1 (by rw [hown.1]; simp)
    exact grow none 0 hv (by rw [hx]; exact run_firstCells_none _ _ _ _ _) (by omega)
  · by_cases hroom : n + m ≤ cap
    · obtain ⟨w', hrun, how, hgr⟩ : ∃ w', (∀ ty, (Builtin.append_ #[t, t] ty #[.slice (some ⟨g, 0, none⟩) n cap, .slice (some a) m c]).run P w = .ok (.slice (some ⟨g, 0, none⟩) (n + m) cap) w') ∧
          w'.ownsRow base e size (.slice (some ⟨g, 0, none⟩) (n + m) cap) (n + m) (xs ++ news) ∧ w.grownBy w' (some g) := by
        obtain ⟨w', h1', h2', h3'⟩ := run_append_fits (P := P) w base t 0 e i size E.ht hi hsz g n cap xs (by rw [hv] at hown; exact hown) a m c news hl hnews h1 hroom
        exact ⟨w', fun ty => by simpa [Builtin.append_] using h1', h2', h3'⟩
      subst hv
      exact ⟨g, cap, w', hrun, how, hgr, .inl rfl⟩
    · have hx := hown.1
      refine grow (some ⟨g, 0, none⟩) cap hv ?_ (by omega)
      refine run_firstCells_some _ _ _ _ _ _ xs (by rw [hx, hsz]) ?_
      intro j u hj
      exact hown.cells (by rw [hv]; rfl) j u hj

theorem wpList_own1 {P : Program} {ops : Array Oper} {rest : List Oper} {o : Oper} {a : Act} {Q : Exit → Act → World → Prop} {W : World} {t e T' : TypeId} {size bytes : Nat} (E : El P t e size bytes) (hgd : o.guard = none) (s x : Operand)
    (ho : o.op = .call { callee := .builtin .append, args := #[s, x], argTypes := #[t, t] }) {base : Nat} {v : Value} {n : Nat} {xs : List Value} {cs : Array Value} (hown : W.ownsRow base e size v n xs)
    {N : Nat} (hs : a.eval s = v) (hx : a.eval x = .slice (some ⟨N, 0, none⟩) 1 1) (hN : N = W.heap.size) (hcs : cs.size = size) (h1 : ∀ u ∈ cs.toList, u.oneCell' = true) (h63 : n + 1 ≤ maxLen) (hbytes : (n + 1) * bytes ≤ 140737488355328) (hbase : base ≤ W.heap.size)
    (h : ∀ g cap w', w'.ownsRow base e size (.slice (some ⟨g, 0, none⟩) (n + 1) cap) (n + 1) (xs ++ cs.toList) → W.grownBy w' v.ownBlock → (v.ownBlock = some g ∨ W.heap.size ≤ g) →
      wpList P ops Q rest (a.put o.dst (.slice (some ⟨g, 0, none⟩) (n + 1) cap)) w') : wpList P ops Q (o :: rest) a (W.alloc (.cells cs T')) := by
  subst hN
  obtain ⟨g, cap, w', hrun, how, hgr, hg⟩ := append_own2 (w := W.alloc (.cells cs T')) E (hown.alloc _) ⟨W.heap.size, 0, none⟩ 1 1 cs.toList (by simpa using hcs) (fun j u hj => by
    rw [Addr.add_lit, Nat.zero_add, cell_block (heap_alloc_new _ _)]; simpa using hj) h1 (by omega) h63 hbytes (by simp; omega)
  refine wpList_append_run hgd s x t ho v _ _ w' hs hx hrun ?_
  refine h g cap w' how ?_ ?_
  · exact (World.grownBy_alloc W (.cells cs T') v.ownBlock).andThen hgr (fun j hj => .inr hj)
  · rcases hg with hg | hg
    · exact .inl hg
    · exact .inr (by simp at hg; omega)

theorem El.of {P : Program} {t e : TypeId} {z : Value} {size bytes : Nat} (ht : P.underlying t = some (.slice e)) (h : (P.info? e).map (fun i => (i.zero, i.size, i.bytes)) = some (some z, size, bytes)) (hz : z.cells.size = size) (hp : 0 < size) :
    El P t e size bytes := by
  obtain ⟨i, h1, h2, h3, h4⟩ := info_parts h
  exact ⟨ht, ⟨i, z, h1, h2, h3, h4, hz⟩, hp⟩

theorem infoInstr : (Tryz.prog.info? 139).map (fun i => (i.zero, i.size, i.bytes)) = some (some (.agg #[.int .u8 0, .int .u64 0, .int .u64 0]), 3, 24) := by kernel_rfl
theorem elWords : El Tryz.prog 32 31 1 8 := El.of Tryz.underlying32 infoU64 rfl (by omega)
theorem elWrites : El Tryz.prog 104 110 2 16 := El.of Tryz.underlying104 infoWrite rfl (by omega)
theorem elProg : El Tryz.prog 79 139 3 24 := El.of Tryz.underlying79 infoInstr rfl (by omega)
theorem elInts : El Tryz.prog 23 3 1 8 := El.of Tryz.underlying23 infoInt rfl (by omega)

/-- Rows of different element types lie in different blocks. -/
theorem own_ne {w : World} {B B' : Nat} {e e' : TypeId} {z z' : Nat} {v v' : Value} {n n' : Nat} {xs xs' : List Value} (h : w.ownsRow B e z v n xs) (h' : w.ownsRow B' e' z' v' n' xs') (hne : e ≠ e') :
    v.ownBlock = none ∨ v.ownBlock ≠ v'.ownBlock := by
  rcases h.2 with ⟨rfl, _⟩ | ⟨g, cap, cur, rfl, _, hg, _⟩
  · exact .inl rfl
  · rcases h'.2 with ⟨rfl, _⟩ | ⟨g', cap', cur', rfl, _, hg', _⟩
    · exact .inr (by simp [Value.ownBlock])
    · refine .inr ?_
      simp only [Value.ownBlock]
      intro e1
      have e2 := Option.some.inj e1
      rw [e2, hg'] at hg
      simp only [Option.some.injEq, Obj.cells.injEq] at hg
      exact hne hg.2.1.symm

/-! ### the function Stores of the package mem -/
structure Ins where
  op : Nat
  off : Nat
  val : Nat
def Ins.cells (i : Ins) : List Value := [.int .u8 i.op, u64 i.off, u64 i.val]
def icells (l : List Ins) : List Value := l.flatMap Ins.cells
def wcells (l : List (Nat × Nat)) : List Value := l.flatMap (fun p => [u64 p.1, u64 p.2])
def line (off : Nat) : Nat := off - off % 64
def sins (l : List (Nat × Nat)) : List Ins := l.map (fun p => ⟨1, p.1, p.2⟩)
def fins (l : List Nat) : List Ins := l.map (fun x => ⟨2, x, 0⟩)
/-- The program that Stores makes. -/
def prog (l : List (Nat × Nat)) : List Ins := sins l ++ fins (dd (l.map (fun p => line p.1)) l.length) ++ [⟨3, 0, 0⟩]

theorem start_any (w : World) (off : Nat) (h : off < 18446744073709551616) : Calls Tryz.prog 68 #[u64 off] w fun e w' => e = .returned (u64 (line off)) ∧ w = w' := by
  have e : ((line off : Nat) : Int) = (off : Int) - (off : Int) % 64 := by unfold line; omega
  unfold u64
  rw [e]
  have b1 : (off : Int) < 18446744073709551616 := by omega
  have b2 : (off : Int) % 64 ≤ off := by omega
  clear e
  go_enter Tryz.func68, Tryz.ntmps68
  go_wp2_with fail

  go_returns
  exact ⟨rfl, rfl⟩
end Go.Proofs.YtjoipeojenfiiaaGreatDoor.Dv
