/-
  append onto a slice of one's own, with the block of the result known.
  The function Stores of the package mem.
  execute, valid, Run of the package mem over a thread of the device.
  Grow, Concat, Then of programs.
-/
import Derived.Test.YtejlgnebofdijaaGreatDoorMCompact
import Derived.Deep.Onto
namespace Go.Proofs.YtejlgnebofdijaaGreatDoor.Dv
open Go.RowKit
set_option linter.unusedVariables false

/-- The slice type t has elements of type e, of that many cells and bytes. -/
structure El (P : Program) (t e : TypeId) (size bytes : Nat) : Prop where
  ht : P.underlying t = some (.slice e)
  ex : ∃ i z, P.info? e = some i ∧ i.zero = some z ∧ i.size = size ∧ i.bytes = bytes ∧ z.cells.size = size
  pos : 0 < size

theorem append_own2 {P : Program} {w : World} {t e : TypeId} {size bytes : Nat} (E : El P t e size bytes) {base : Nat} {v : Value} {n : Nat} {xs : List Value} (hown : w.ownsRow base e size v n xs)
    (a : Addr) (m c : Nat) (news : List Value) (hl : news.length = m * size) (hnews : ∀ j u, news[j]? = some u → w.cell? (a.add j) = some u) (h1 : ∀ u ∈ news, u.oneCell' = true)
    (hm : 0 < m) (h63 : n + m ≤ maxLen) (hbytes : (n + m) * bytes ≤ 140737488355328) (hbase : base ≤ w.heap.size) :
    ∃ g cap w', (∀ ty, (Builtin.append_ #[t, t] ty #[v, .slice (some a) m c]).run P w = .ok (.slice (some ⟨g, 0, none⟩) (n + m) cap) w') ∧ w'.ownsRow base e size (.slice (some ⟨g, 0, none⟩) (n + m) cap) (n + m) (xs ++ news) ∧ w.grownBy w' v.ownBlock ∧
      (v.ownBlock = some g ∨ w.heap.size ≤ g) := by
  obtain ⟨i, z, hi, hz, hsz, hby, hzs⟩ := E.ex
  have hsrc : Src P i.size t (.slice (some a) m c) m news w := Src.ofSlice w E.ht a m c news (by rw [hsz]; exact hl) hnews h1
  have grow : ∀ (b : Option Addr) (sCap : Nat), v = .slice b n sCap → (Builtin.firstCells i.size n (.slice b n sCap)).run P w.drew = .ok xs.toArray w.drew → sCap < n + m →
      ∃ g cap w', (∀ ty, (Builtin.append_ #[t, t] ty #[v, .slice (some a) m c]).run P w = .ok (.slice (some ⟨g, 0, none⟩) (n + m) cap) w') ∧ w'.ownsRow base e size (.slice (some ⟨g, 0, none⟩) (n + m) cap) (n + m) (xs ++ news) ∧ w.grownBy w' v.ownBlock ∧
      (v.ownBlock = some g ∨ w.heap.size ≤ g) := by
    intro b sCap hv hold hcap
    subst hv
    have hrun := fun ty => run_append_grow_src (P := P) w t t ty e i z E.ht hi hz b n sCap xs hold _ m _ hsrc hcap (by unfold maxLen at h63; omega) (growslice_fits hcap (by rw [hby]; exact hbytes))
    have hge := grownCap_ge w (n + m) sCap e
    have hcm := grownCap_le_maxLen w (n + m) sCap e h63
    have hx := hown.1
    refine ⟨w.heap.size, _, _, hrun, ⟨by rw [List.length_append, hx, hl, Nat.add_mul], .inr ⟨w.heap.size, _, _, rfl, hbase, heap_alloc_new _ _, hge, hcm, ?_, ?_⟩⟩, ?_, .inr (Nat.le_refl _)⟩
    · rw [Array.size_append, size_zeroCells, hzs, List.size_toArray, List.length_append, hx, hl, ← Nat.add_mul, ← Nat.add_mul]
      congr 1
      omega
    · rw [Array.toList_append, List.toList_toArray, List.take_append_of_le_length (by rw [List.length_append, hx, hl, Nat.add_mul]; exact Nat.le_refl _), List.take_of_length_le (by rw [List.length_append, hx, hl, Nat.add_mul]; exact Nat.le_refl _)]
    · exact ⟨rfl, rfl, rfl, by simp, fun k hk _ => heap_alloc_lt (w := w.drew) hk⟩
  rcases hown.2 with ⟨hv, hn⟩ | ⟨g, cap, cur, hv, hb, hg, hnc, hcm, hcs, htake⟩
  · subst hn
    have hx : xs = [] := List.length_eq_zero_iff.1 (by rw [hown.1]; simp)
    exact grow none 0 hv (by rw [hx]; exact run_firstCells_none _ _ _ _ _) (by omega)
  · by_cases hroom : n + m ≤ cap
    · obtain ⟨w', hrun, how, hgr⟩ : ∃ w', (∀ ty, (Builtin.append_ #[t, t] ty #[.slice (some ⟨g, 0, none⟩) n cap, .slice (some a) m c]).run P w = .ok (.slice (some ⟨g, 0, none⟩) (n + m) cap) w') ∧
          w'.ownsRow base e size (.slice (some ⟨g, 0, none⟩) (n + m) cap) (n + m) (xs ++ news) ∧ w.grownBy w' (some g) := by
        obtain ⟨w', h1', h2', h3'⟩ := run_append_fits (P := P) w base t 0 e i size E.ht hi hsz g n cap xs (by rw [hv] at hown; exact hown) a m c news hl hnews h1 hroom
        exact ⟨w', fun ty => by simpa [Builtin.append_] using h1', h2', h3'⟩
      subst hv
      exact ⟨g, cap, w', hrun, how, hgr, .inl rfl⟩
    · have hx := hown.1
      refine grow (some ⟨g, 0, none⟩) cap hv ?_ (by omega)
      refine run_firstCells_some _ _ _ _ _ _ xs (by rw [hx, hsz]) ?_
      intro j u hj
      exact hown.cells (by rw [hv]; rfl) j u hj

theorem wpList_own1 {P : Program} {ops : Array Oper} {rest : List Oper} {o : Oper} {a : Act} {Q : Exit → Act → World → Prop} {W : World} {t e T' : TypeId} {size bytes : Nat} (E : El P t e size bytes) (hgd : o.guard = none) (s x : Operand)
    (ho : o.op = .call { callee := .builtin .append, args := #[s, x], argTypes := #[t, t] }) {base : Nat} {v : Value} {n : Nat} {xs : List Value} {cs : Array Value} (hown : W.ownsRow base e size v n xs)
    {N : Nat} (hs : a.eval s = v) (hx : a.eval x = .slice (some ⟨N, 0, none⟩) 1 1) (hN : N = W.heap.size) (hcs : cs.size = size) (h1 : ∀ u ∈ cs.toList, u.oneCell' = true) (h63 : n + 1 ≤ maxLen) (hbytes : (n + 1) * bytes ≤ 140737488355328) (hbase : base ≤ W.heap.size)
    (h : ∀ g cap w', w'.ownsRow base e size (.slice (some ⟨g, 0, none⟩) (n + 1) cap) (n + 1) (xs ++ cs.toList) → W.grownBy w' v.ownBlock → (v.ownBlock = some g ∨ W.heap.size ≤ g) →
      wpList P ops Q rest (a.put o.dst (.slice (some ⟨g, 0, none⟩) (n + 1) cap)) w') : wpList P ops Q (o :: rest) a (W.alloc (.cells cs T')) := by
  subst hN
  obtain ⟨g, cap, w', hrun, how, hgr, hg⟩ := append_own2 (w := W.alloc (.cells cs T')) E (hown.alloc _) ⟨W.heap.size, 0, none⟩ 1 1 cs.toList (by simpa using hcs) (fun j u hj => by
    rw [Addr.add_lit, Nat.zero_add, cell_block (heap_alloc_new _ _)]; simpa using hj) h1 (by omega) h63 hbytes (by simp; omega)
  refine wpList_append_run hgd s x t ho v _ _ w' hs hx hrun ?_
  refine h g cap w' how ?_ ?_
  · exact (World.grownBy_alloc W (.cells cs T') v.ownBlock).andThen hgr (fun j hj => .inr hj)
  · rcases hg with hg | hg
    · exact .inl hg
    · exact .inr (by simp at hg; omega)

theorem El.of {P : Program} {t e : TypeId} {z : Value} {size bytes : Nat} (ht : P.underlying t = some (.slice e)) (h : (P.info? e).map (fun i => (i.zero, i.size, i.bytes)) = some (some z, size, bytes)) (hz : z.cells.size = size) (hp : 0 < size) :
    El P t e size bytes := by
  obtain ⟨i, h1, h2, h3, h4⟩ := info_parts h
  exact ⟨ht, ⟨i, z, h1, h2, h3, h4, hz⟩, hp⟩

theorem infoInstr : (Tryz.prog.info? 141).map (fun i => (i.zero, i.size, i.bytes)) = some (some (.agg #[.int .u8 0, .int .u64 0, .int .u64 0]), 3, 24) := by kernel_rfl
theorem elWords : El Tryz.prog 70 48 1 8 := El.of Tryz.underlying70 infoU64 rfl (by omega)
theorem elWrites : El Tryz.prog 67 66 2 16 := El.of Tryz.underlying67 infoWrite rfl (by omega)
theorem elProg : El Tryz.prog 81 141 3 24 := El.of Tryz.underlying81 infoInstr rfl (by omega)
theorem elInts : El Tryz.prog 59 3 1 8 := El.of Tryz.underlying59 infoInt rfl (by omega)

/-- Rows of different element types lie in different blocks. -/
theorem own_ne {w : World} {B B' : Nat} {e e' : TypeId} {z z' : Nat} {v v' : Value} {n n' : Nat} {xs xs' : List Value} (h : w.ownsRow B e z v n xs) (h' : w.ownsRow B' e' z' v' n' xs') (hne : e ≠ e') :
    v.ownBlock = none ∨ v.ownBlock ≠ v'.ownBlock := by
  rcases h.2 with ⟨rfl, _⟩ | ⟨g, cap, cur, rfl, _, hg, _⟩
  · exact .inl rfl
  · rcases h'.2 with ⟨rfl, _⟩ | ⟨g', cap', cur', rfl, _, hg', _⟩
    · exact .inr (by simp [Value.ownBlock])
    · refine .inr ?_
      simp only [Value.ownBlock]
      intro e1
      have e2 := Option.some.inj e1
      rw [e2, hg'] at hg
      simp only [Option.some.injEq, Obj.cells.injEq] at hg
      exact hne hg.2.1.symm

/-! ### the function Stores of the package mem -/
structure Ins where
  op : Nat
  off : Nat
  val : Nat
def Ins.cells (i : Ins) : List Value := [.int .u8 i.op, u64 i.off, u64 i.val]
def icells (l : List Ins) : List Value := l.flatMap Ins.cells
def wcells (l : List (Nat × Nat)) : List Value := l.flatMap (fun p => [u64 p.1, u64 p.2])
def line (off : Nat) : Nat := off - off % 64
def sins (l : List (Nat × Nat)) : List Ins := l.map (fun p => ⟨1, p.1, p.2⟩)
def fins (l : List Nat) : List Ins := l.map (fun x => ⟨2, x, 0⟩)
/-- The program that Stores makes. -/
def prog (l : List (Nat × Nat)) : List Ins := sins l ++ fins (dd (l.map (fun p => line p.1)) l.length) ++ [⟨3, 0, 0⟩]

theorem start_any (w : World) (off : Nat) (h : off < 18446744073709551616) : Calls Tryz.prog 48 #[u64 off] w fun e w' => e = .returned (u64 (line off)) ∧ w = w' := by
  have e : ((line off : Nat) : Int) = (off : Int) - (off : Int) % 64 := by unfold line; omega
  unfold u64
  rw [e]
  have b1 : (off : Int) < 18446744073709551616 := by omega
  have b2 : (off : Int) % 64 ≤ off := by omega
  clear e
  go_enter Tryz.func48, Tryz.ntmps48
  go_wp2_with fail

  go_returns
  exact ⟨rfl, rfl⟩
end Go.Proofs.YtejlgnebofdijaaGreatDoor.Dv

namespace Go.Proofs.YtejlgnebofdijaaGreatDoor.Dv
open Go.RowKit
set_option linter.unusedVariables false

def lcells (l : List (Nat × Nat)) : List Value := l.map (fun p => u64 (line p.1))
theorem lcells_snoc (l : List (Nat × Nat)) (p : Nat × Nat) : lcells (l ++ [p]) = lcells l ++ [u64 (line p.1)] := by simp [lcells]
theorem lcells_eq (l : List (Nat × Nat)) : lcells l = (l.map (fun p => line p.1)).map u64 := by simp [lcells]

def StRel (w : World) (l : List (Nat × Nat)) (vp vl i : Value) (wr : World) : Prop :=
  ∃ k : Nat, k ≤ l.length ∧ i = .int .i64 (k : Nat) ∧ wr.ownsRow w.heap.size 141 3 vp k (icells (sins (l.take k))) ∧
    wr.ownsRow w.heap.size 48 1 vl k (lcells (l.take k)) ∧ Below w.heap.size w wr

theorem lines_own {w : World} {B g cap k : Nat} {l : List Nat} (h : w.ownsRow B 48 1 (.slice (some ⟨g, 0, none⟩) k cap) k (l.map u64)) : k = l.length ∧ l.length ≤ cap ∧ cap ≤ maxLen ∧ Row w g 48 l.length (fun x => u64 (l.getD x 0)) := by
  have h1 := h.1
  rw [List.length_map, Nat.mul_one] at h1
  rcases h.2 with ⟨e, _⟩ | ⟨g', cap', cur, e, hb, hg, hnc, hcm, hcs, htake⟩
  · simp at e
  · simp only [Value.slice.injEq, Option.some.injEq, Addr.mk.injEq, and_true, true_and] at e
    obtain ⟨rfl, rfl⟩ := e
    refine ⟨h1.symm, by omega, hcm, row_of_cells hg (fun x hx => ?_)⟩
    have := h.cellAt x (by omega)
    rw [cell_block hg] at this
    rw [this, List.getElem?_map, List.getElem?_eq_getElem hx]
    simp [List.getD, hx]

theorem wcells_get : ∀ {l : List (Nat × Nat)} {k : Nat} {p : Nat × Nat}, l[k]? = some p → (wcells l)[2 * k]? = some (u64 p.1) ∧ (wcells l)[2 * k + 1]? = some (u64 p.2)
  | [], k, p, h => by simp at h
  | a :: l, 0, p, h => by
    simp at h; subst h; simp [wcells]
  | a :: l, k + 1, p, h => by
    have h' : l[k]? = some p := by simpa using h
    have := wcells_get h'
    rw [show 2 * (k + 1) = 2 * k + 2 by omega]
    simpa [wcells] using this
theorem wcells_length (l : List (Nat × Nat)) : (wcells l).length = 2 * l.length := by
  induction l with
  | nil => rfl
  | cons a l ih => simp [wcells] at *; omega

theorem own_row_ne {w : World} {B b : Nat} {e e' : TypeId} {z n m : Nat} {v : Value} {xs : List Value} {f : Nat → Value} (h : w.ownsRow B e z v n xs) (h' : Row w b e' m f) (hne : e ≠ e') : some b ≠ v.ownBlock := by
  rcases h.2 with ⟨rfl, _⟩ | ⟨g, cap, cur, rfl, _, hg, _⟩
  · simp [Value.ownBlock]
  · obtain ⟨c, hc, _⟩ := h'
    simp only [Value.ownBlock]
    intro e1
    have e2 := Option.some.inj e1
    rw [e2, hg] at hc
    simp only [Option.some.injEq, Obj.cells.injEq] at hc
    exact hne hc.2.1
def S2Rel (w : World) (l : List (Nat × Nat)) (R : List Nat) (gl : Nat) (vp i : Value) (wr : World) : Prop :=
  ∃ j : Nat, j ≤ R.length ∧ i = .int .i64 (j : Nat) ∧ wr.ownsRow w.heap.size 141 3 vp (l.length + j) (icells (sins l ++ fins (R.take j))) ∧ Row wr gl 48 R.length (fun x => u64 (R.getD x 0)) ∧ Below w.heap.size w wr
theorem fins_snoc (l : List Nat) (x : Nat) : fins (l ++ [x]) = fins l ++ [⟨2, x, 0⟩] := by simp [fins]

theorem icells_snoc (l : List Ins) (i : Ins) : icells (l ++ [i]) = icells l ++ i.cells := by simp [icells]
theorem sins_snoc (l : List (Nat × Nat)) (p : Nat × Nat) : sins (l ++ [p]) = sins l ++ [⟨1, p.1, p.2⟩] := by simp [sins]

set_option maxRecDepth 8000 in
theorem stores_any {w : World} {b o c : Nat} {l : List (Nat × Nat)} (hs : Seen w b o (wcells l)) (hn : 1 ≤ l.length) (hn2 : l.length ≤ 24) (hl : ∀ p ∈ l, p.1 < 18446744073709551616) (hu : Up (l.map (fun p => line p.1))) :
    Calls Tryz.prog 20 #[.slice (some ⟨b, o, none⟩) l.length c] w fun e w' => ∃ g cap, e = .returned (.slice (some ⟨g, 0, none⟩) (prog l).length cap) ∧
      w'.ownsRow w.heap.size 141 3 (.slice (some ⟨g, 0, none⟩) (prog l).length cap) (prog l).length (icells (prog l)) ∧ Below w.heap.size w w' := by
  obtain ⟨i, hi, hz, hsz, hby⟩ := info_parts infoU64
  obtain ⟨W, hmk, hown0, hgr0⟩ := run_make_own (P := Tryz.prog) w w.heap.size 70 48 i _ 1 Tryz.underlying70 hi hz hsz .i64 .i64 l.length (by rw [hby]; omega) (by unfold maxLen; omega) (Nat.le_refl _)
  have hst : StRel w l (.slice none 0 0) (.slice (some ⟨w.heap.size, 0, none⟩) 0 l.length) (.int .i64 (0 : Nat)) W :=
    ⟨0, by omega, rfl, World.ownsRow_nil _ _ _ _, hown0, (Below.refl _ _).grown hgr0 (Nat.le_refl _) (fun k h => by cases h)⟩
  have HS := Lib.hid hs; have HL := Lib.hid hl; have HU := Lib.hid hu; have HST := Lib.hid hst
  have b1 : (1 : Int) ≤ l.length := by omega
  have b2 : (l.length : Int) ≤ 24 := by omega
  have d1 : ((l.length : Int) == 0) = false := beq_eq_false_iff_ne.2 (by omega)
  clear hs hl hu hst hown0 hgr0 hi hz hsz hby
  go_enter Tryz.func20, Tryz.ntmps20
  go_wp2_with fail
  go_loopw [3, 4, 6, 17] (fun vp vl _ i wr => StRel w l vp vl i wr) (fun _ _ _ i _ => l.length - (intOf i).toNat)
  case atStart => exact HST.out
  case round =>
    obtain ⟨k, hk, rfl, hop, hol, hbel⟩ := hrel
    by_cases hlt : k < l.length
    · have hlt2 : (k : Int) < l.length := by omega
      obtain ⟨p, hp⟩ : ∃ p, p = l[k] := ⟨_, rfl⟩
      have hg : l[k]? = some p := by rw [hp]; exact List.getElem?_eq_getElem hlt
      have hp64 := HL.out p (by rw [hp]; exact List.getElem_mem hlt)
      have htk : l.take (k + 1) = l.take k ++ [p] := by rw [hp]; exact take_snoc hlt
      have hw0 : (wcells l)[2 * k]? = some (u64 p.1) ∧ (wcells l)[2 * k + 1]? = some (u64 p.2) := wcells_get hg
      have hs := HS.out.below hbel (Nat.le_refl _)
      have c1 : wr.cell? ⟨b, o + k * 2, none⟩ = some (.int .u64 p.1) := by rw [Nat.mul_comm]; exact hs _ _ hw0.1
      have c2 : wr.cell? ⟨b, o + k * 2 + 1, none⟩ = some (.int .u64 p.2) := by rw [Nat.mul_comm]; exact hs _ _ hw0.2
      have HP := Lib.hid htk; have HOP := Lib.hid hop; have HOL := Lib.hid hol; have HB := Lib.hid hbel
      have hsz := hbel.size
      have HSZ := Lib.hid hsz
      have HST2 := Lib.hid (fun w => start_any w p.1 hp64)
      clear htk hop hol hbel hsz hs hw0 hg hp
      go_wp2_with (at_builtin; refine wpList_own1 elProg rfl _ _ rfl (HOP.out.alloc _) rfl rfl ?c1 rfl ?c2 ?c3 ?c4 ?c5 ?_)
      case c1 => simp
      case c2 => first | rfl | exact ⟨rfl, rfl⟩ | exact ⟨rfl, rfl, rfl⟩
      case c3 => unfold maxLen; omega
      case c4 => omega
      case c5 => have := HSZ.out; simp; omega
      intro g1 cap1 w2 hop2 hgr2 hg2
      have hol2 := (HOL.out.alloc (.cells #[.int .u64 p.1, .int .u64 p.2] 66)).kept hgr2 (own_ne HOL.out HOP.out (by decide))
      have hne : some wr.heap.size ≠ u3.ownBlock := fun e => by have := (HOP.out.lt _ e.symm).2; omega
      have c3 : w2.cell? ⟨wr.heap.size, 0, none⟩ = some (.int .u64 p.1) := by
        rw [World.cell?_of_block (hgr2.block wr.heap.size (by simp) hne)]; exact (cell_block (heap_alloc_new _ _)).trans rfl
      have hs2 : w.heap.size ≤ w2.heap.size := Nat.le_trans HSZ.out (Nat.le_trans (by simp) hgr2.size)
      have hb2 : Below w.heap.size w w2 := (below_alloc HB.out).grown hgr2 (by have := HSZ.out; simp; omega) (fun b hb => (HOP.out.lt b hb).1)
      have HOP2 := Lib.hid hop2; have HOL2 := Lib.hid hol2; have HB2 := Lib.hid hb2; have HS2 := Lib.hid hs2
      clear hop2 hol2 hb2 hs2 hgr2 hg2 hne c1 c2
      unfold u64 at HST2
      go_wp2_with fail
      refine (HST2.out _).mono ?_
      rintro e w' ⟨rfl, rfl⟩
      go_wp2_with (at_builtin; refine wpList_own1 elWords rfl _ _ rfl HOL2.out rfl rfl ?c1 rfl ?c2 ?c3 ?c4 ?c5 ?_)
      case c1 => rfl
      case c2 => rfl
      case c3 => unfold maxLen; omega
      case c4 => omega
      case c5 => exact HS2.out
      intro g3 cap3 w3 hol3 hgr3 hg3
      have hop3 := HOP2.out.kept hgr3 (own_ne HOP2.out HOL2.out (by decide))
      have hb3 : Below w.heap.size w w3 := HB2.out.grown hgr3 HS2.out (fun b hb => (HOL2.out.lt b hb).1)
      have G := Lib.hid (show StRel w l (.slice (some ⟨g1, 0, none⟩) (k + 1) cap1) (.slice (some ⟨g3, 0, none⟩) (k + 1) cap3) (.int .i64 ((k + 1 : Nat) : Int)) w3 from ⟨k + 1, by omega, rfl, by
        rw [HP.out, sins_snoc, icells_snoc]; exact hop3, by rw [HP.out, lcells_snoc]; exact hol3, hb3⟩)
      clear hol3 hgr3 hg3 hop3 hb3
      go_wp2_with fail
      go_roundw
      case rel => simpa using G.out
      case measure => simp [intOf]; omega
    · obtain rfl : k = l.length := by omega
      rw [List.take_length] at hop hol
      obtain ⟨gl, lc, rfl⟩ : ∃ gl lc, u4 = .slice (some ⟨gl, 0, none⟩) l.length lc := by
        rcases hol.2 with ⟨_, e⟩ | ⟨g, cap, cur, e, _⟩
        · omega
        · exact ⟨g, cap, e⟩
      obtain ⟨gp, pc, rfl⟩ : ∃ gp pc, u3 = .slice (some ⟨gp, 0, none⟩) l.length pc := by
        rcases hop.2 with ⟨_, e⟩ | ⟨g, cap, cur, e, _⟩
        · omega
        · exact ⟨g, cap, e⟩
      rw [lcells_eq] at hol
      obtain ⟨e1, e2, e3, hrow⟩ := lines_own hol
      obtain ⟨L, hL⟩ : ∃ L, L = l.map (fun p => line p.1) := ⟨_, rfl⟩
      rw [← hL] at e1 e2 hrow hol
      have hu := HU.out
      rw [← hL] at hu
      have hseen : Seen wr gl 0 (L.map u64) := fun j u hj => by
        rw [Nat.zero_add]
        have hj' : j < L.length := by have := (List.getElem?_eq_some_iff.1 hj).1; simpa using this
        rw [hrow.cell j hj']
        rw [List.getElem?_map, List.getElem?_eq_getElem hj'] at hj
        simp [List.getD, hj'] at hj ⊢
        exact hj
      have hsort := sort_up (c := lc) hseen hu (by omega) (by omega)
      rw [← e1] at hsort
      have HSO := Lib.hid hsort
      have HOP := Lib.hid hop; have HOL := Lib.hid hol; have HB := Lib.hid hbel; have HR := Lib.hid hrow; have HLL := Lib.hid hL
      have HE := Lib.hid (And.intro e1 (And.intro e2 e3))
      clear hop hol hbel hrow hL hseen hsort hu e1 e2 e3 hlt hk
      go_wp2_with fail
      refine HSO.out.mono ?_
      rintro e w2 ⟨rfl, hb2⟩
      obtain ⟨e1, e2, e3⟩ := HE.out
      have hcp := compact_any (c := lc) (HR.out.of_block (hb2.block _ HR.out.lt)) (by omega) (by omega) e2
      have hop2 : w2.ownsRow w.heap.size 141 3 (.slice (some ⟨gp, 0, none⟩) l.length pc) l.length (icells (sins l)) := HOP.out.kept (row := none) ⟨hb2.os, hb2.tape, hb2.output, hb2.size, fun k hk _ => hb2.block k hk⟩ (.inr (by simp [Value.ownBlock]))
      have hbw2 : Below w.heap.size w w2 := HB.out.trans (hb2.mono HB.out.size)
      rw [← e1] at hcp
      have hgl := (HOL.out.lt gl rfl).1
      have hgne : gp ≠ gl := by
        have := own_ne HOP.out HOL.out (by decide)
        simpa [Value.ownBlock] using this
      have HCP := Lib.hid hcp; have HOP2 := Lib.hid hop2; have HB2 := Lib.hid hbw2
      clear hcp hop2 hbw2 hb2 e1 e2 e3
      go_wp2_with fail
      refine HCP.out.mono ?_
      rintro e w3 ⟨rfl, hrow3, ho3⟩
      obtain ⟨R, hR⟩ : ∃ R, R = dd L l.length := ⟨_, rfl⟩
      rw [← hR] at hrow3 ⊢
      have hRl : R.length ≤ 24 := by rw [hR]; have := dd_le L l.length; omega
      have hRl2 : (R.length : Int) ≤ 24 := by omega
      have hop3 : w3.ownsRow w.heap.size 141 3 (.slice (some ⟨gp, 0, none⟩) l.length pc) (l.length + 0) (icells (sins l ++ fins (R.take 0))) := by
        simp only [List.take_zero, fins, List.map_nil, List.append_nil, Nat.add_zero]
        exact HOP2.out.kept (row := some gl) ⟨ho3.os, ho3.tape, ho3.output, ho3.size, fun k hk hne => ho3.block k hk (fun e => hne (by rw [e]))⟩ (.inr (by simp [Value.ownBlock, hgne]))
      have hb3 : Below w.heap.size w w3 := ⟨ho3.os.trans HB2.out.os, ho3.tape.trans HB2.out.tape, ho3.output.trans HB2.out.output, Nat.le_trans HB2.out.size ho3.size, fun k hk => (ho3.block k (Nat.lt_of_lt_of_le hk HB2.out.size) (by omega)).trans (HB2.out.block k hk)⟩
      have HST2 := Lib.hid (show S2Rel w l R gl (.slice (some ⟨gp, 0, none⟩) l.length pc) (.int .i64 (0 : Nat)) w3 from ⟨0, by omega, rfl, hop3, hrow3, hb3⟩)
      have HRR := Lib.hid hR
      clear hop3 hb3 hrow3 ho3 hR
      go_wp2_with fail
      go_loopw [3, 8, 41] (fun vp _ i wr => S2Rel w l R gl vp i wr) (fun _ _ i _ => R.length - (intOf i).toNat)
      case atStart => exact HST2.out
      case round =>
        obtain ⟨j, hj, rfl, hop, hrow, hbel⟩ := hrel
        by_cases hlt : j < R.length
        · have hlt2 : (j : Int) < R.length := by omega
          have c1 : wr.cell? ⟨gl, j, none⟩ = some (.int .u64 (R.getD j 0)) := hrow.cell j hlt
          obtain ⟨x, hx⟩ : ∃ x, x = R.getD j 0 := ⟨_, rfl⟩
          have htk : R.take (j + 1) = R.take j ++ [x] := by rw [List.take_add_one, List.getElem?_eq_getElem hlt, hx]; simp [List.getD, hlt]
          rw [← hx] at c1
          have HP := Lib.hid htk; have HO := Lib.hid hop; have HR3 := Lib.hid hrow; have HB3 := Lib.hid hbel
          clear hop hrow hbel hx htk
          go_wp2_with (at_builtin; refine wpList_own1 elProg rfl _ _ rfl HO.out rfl rfl ?c1 rfl ?c2 ?c3 ?c4 ?c5 ?_)
          case c1 => rfl
          case c2 => first | rfl | exact ⟨rfl, rfl⟩ | exact ⟨rfl, rfl, rfl⟩
          case c3 => unfold maxLen; omega
          case c4 => omega
          case c5 => exact HB3.out.size
          intro g4 cap4 w4 hop4 hgr4 hg4
          have hrow4 := HR3.out.of_block (hgr4.block gl HR3.out.lt (own_row_ne HO.out HR3.out (by decide)))
          have hb4 : Below w.heap.size w w4 := HB3.out.grown hgr4 HB3.out.size (fun b hb => (HO.out.lt b hb).1)
          have G := Lib.hid (show S2Rel w l R gl (.slice (some ⟨g4, 0, none⟩) (l.length + j + 1) cap4) (.int .i64 ((j + 1 : Nat) : Int)) w4 from ⟨j + 1, by omega, rfl, by
            rw [HP.out, fins_snoc, ← List.append_assoc, icells_snoc]; exact hop4, hrow4, hb4⟩)
          clear hop4 hgr4 hg4 hrow4 hb4
          go_wp2_with fail
          go_roundw
          case rel => simpa using G.out
          case measure => simp [intOf]; omega
        · obtain rfl : j = R.length := by omega
          rw [List.take_length] at hop
          have HO := Lib.hid hop; have HB3 := Lib.hid hbel
          clear hop hrow hbel hlt hj
          go_wp2_with (at_builtin; refine wpList_own1 elProg rfl _ _ rfl HO.out rfl rfl ?c1 rfl ?c2 ?c3 ?c4 ?c5 ?_)
          case c1 => rfl
          case c2 => first | rfl | exact ⟨rfl, rfl⟩ | exact ⟨rfl, rfl, rfl⟩
          case c3 => unfold maxLen; omega
          case c4 => omega
          case c5 => exact HB3.out.size
          intro g4 cap4 w4 hop4 hgr4 hg4
          have hb4 : Below w.heap.size w w4 := HB3.out.grown hgr4 HB3.out.size (fun b hb => (HO.out.lt b hb).1)
          have hpl : prog l = sins l ++ fins R ++ [⟨3, 0, 0⟩] := by rw [HRR.out, HLL.out]; rfl
          have hpn : (prog l).length = l.length + R.length + 1 := by rw [hpl, List.length_append, List.length_append, sins, fins, List.length_map, List.length_map]; rfl
          have G := Lib.hid (show w4.ownsRow w.heap.size 141 3 (.slice (some ⟨g4, 0, none⟩) (prog l).length cap4) (prog l).length (icells (prog l)) by
            rw [hpn, hpl, icells_snoc]; exact hop4)
          have HPN := Lib.hid hpn; have HB4 := Lib.hid hb4
          clear hop4 hgr4 hg4 hb4 hpl hpn
          go_wp2_with fail
          go_returns
          exact ⟨g4, cap4, by rw [HPN.out]; rfl, G.out, HB4.out⟩
end Go.Proofs.YtejlgnebofdijaaGreatDoor.Dv

namespace Go.Proofs.YtejlgnebofdijaaGreatDoor.Dv
open Go.RowKit
set_option linter.unusedVariables false

def mthr (b : Nat) : Value := .iface 31 (ptr b)
def DSt.exec (s : DSt) (i : Nat) (x : Ins) : DSt := if x.op = 1 then s.store i x.off x.val else if x.op = 2 then s.flush i x.off else s.fence i
def DSt.runs (s : DSt) (i : Nat) (l : List Ins) : DSt := l.foldl (fun s x => s.exec i x) s
def Ins.Ok (x : Ins) : Prop := 1 ≤ x.op ∧ x.op ≤ 3 ∧ x.off < 18446744073709551616 ∧ x.val < 18446744073709551616

/-- The device has come to the state s, and nothing else has changed. -/
def Went (w : World) (A : DAd) (F : Nat → Option Role) (s : DSt) (w' : World) : Prop := ∃ F', Dev w' A s F' ∧ Moved F F' w w'

theorem Moved.alloc {F : Nat → Option Role} (w : World) (o : Obj) : Moved F F w (w.alloc o) := ⟨(Only.refl _ _).alloc _, fun _ _ => rfl⟩

theorem execute_dev {w : World} {A : DAd} {s : DSt} {F : Nat → Option Role} (h : Dev w A s F) {i : Nat} (hi : i < 8) {x : Ins} (hx : x.Ok) (hex : s.ex < 1000000) :
    Calls Tryz.prog 52 #[.agg #[.int .u8 x.op, u64 x.off, u64 x.val], mthr (A.t i)] w fun r w' => r = .returned (.tuple #[]) ∧ Went w A F (s.exec i x) w' := by
  obtain ⟨op, off, v⟩ := x
  obtain ⟨h1, h2, ho, hv⟩ := hx
  dsimp only at h1 h2 ho hv
  have hop : op = 1 ∨ op = 2 ∨ op = 3 := by omega
  rcases hop with rfl | rfl | rfl
  · have HS := Lib.hid (store_dev (h.alloc (.cells #[.int .u8 1, u64 off, u64 v] 141)) hi ho hv hex)
    clear h
    unfold mthr ptr u64 at *
    go_enter Tryz.func52, Tryz.ntmps52
    go_wp2_with fail
    refine HS.out.mono ?_
    rintro e w' ⟨rfl, F', g1, g2⟩
    have G := Lib.hid (show Went w A F (s.exec i ⟨1, off, v⟩) w' from ⟨F', g1, (Moved.alloc w _).trans g2⟩)
    clear g1 g2
    go_wp2_with fail
    go_returns
    exact ⟨rfl, G.out⟩
  · have HS := Lib.hid (flush_dev (h.alloc (.cells #[.int .u8 2, u64 off, u64 v] 141)) hi ho hex)
    clear h
    unfold mthr ptr u64 at *
    go_enter Tryz.func52, Tryz.ntmps52
    go_wp2_with fail
    refine HS.out.mono ?_
    rintro e w' ⟨rfl, g1, g2⟩
    have G := Lib.hid (show Went w A F (s.exec i ⟨2, off, v⟩) w' from ⟨F, g1, (Moved.alloc w _).trans g2⟩)
    clear g1 g2
    go_wp2_with fail
    go_returns
    exact ⟨rfl, G.out⟩
  · have HS := Lib.hid (fence_dev (h.alloc (.cells #[.int .u8 3, u64 off, u64 v] 141)) hi hex)
    clear h
    unfold mthr ptr u64 at *
    go_enter Tryz.func52, Tryz.ntmps52
    go_wp2_with fail
    refine HS.out.mono ?_
    rintro e w' ⟨rfl, g1, g2⟩
    have G := Lib.hid (show Went w A F (s.exec i ⟨3, off, v⟩) w' from ⟨F, g1, (Moved.alloc w _).trans g2⟩)
    clear g1 g2
    go_wp2_with fail
    go_returns
    exact ⟨rfl, G.out⟩

theorem icells_get : ∀ {l : List Ins} {k : Nat} {x : Ins}, l[k]? = some x → (icells l)[3 * k]? = some (.int .u8 x.op) ∧ (icells l)[3 * k + 1]? = some (u64 x.off) ∧ (icells l)[3 * k + 2]? = some (u64 x.val)
  | [], k, p, h => by simp at h
  | a :: l, 0, p, h => by
    simp at h; subst h; simp [icells, Ins.cells]
  | a :: l, k + 1, p, h => by
    have h' : l[k]? = some p := by simpa using h
    have := icells_get h'
    rw [show 3 * (k + 1) = 3 * k + 3 by omega]
    simpa [icells, Ins.cells] using this
theorem icells_length (l : List Ins) : (icells l).length = 3 * l.length := by
  induction l with
  | nil => rfl
  | cons a l ih => simp [icells, Ins.cells] at *; omega

def VaRel (w : World) (n : Nat) (i : Value) (wr : World) : Prop := ∃ k : Nat, k ≤ n ∧ i = .int .i64 (k : Nat) ∧ Below w.heap.size w wr

set_option maxRecDepth 8000 in
theorem valid_any {w : World} {b o c : Nat} {l : List Ins} (hs : Seen w b o (icells l)) (hl : ∀ x ∈ l, x.Ok) (hn : l.length ≤ 1000000) :
    Calls Tryz.prog 51 #[.slice (some ⟨b, o, none⟩) l.length c] w fun e w' => e = .returned (.bool true) ∧ Below w.heap.size w w' := by
  have HS := Lib.hid hs; have HL := Lib.hid hl
  have hn2 : (l.length : Int) ≤ 1000000 := by omega
  clear hs hl
  go_enter Tryz.func51, Tryz.ntmps51
  go_wp2_with fail
  go_loopw [4, 7] (fun _ i wr => VaRel w l.length i wr) (fun _ i _ => l.length - (intOf i).toNat)
  case atStart => exact ⟨0, by omega, rfl, Below.refl _ _⟩
  case round =>
    obtain ⟨k, hk, rfl, hbel⟩ := hrel
    by_cases hlt : k < l.length
    · have hlt2 : (k : Int) < l.length := by omega
      obtain ⟨x, hx⟩ : ∃ x, x = l[k] := ⟨_, rfl⟩
      have hg := icells_get (l := l) (k := k) (x := x) (by rw [hx]; exact List.getElem?_eq_getElem hlt)
      obtain ⟨q1, q2, q3, q4⟩ := HL.out x (by rw [hx]; exact List.getElem_mem hlt)
      have hs := HS.out.below hbel (Nat.le_refl _)
      have c1 : wr.cell? ⟨b, o + k * 3, none⟩ = some (.int .u8 x.op) := by rw [Nat.mul_comm]; exact hs _ _ hg.1
      have c2 : wr.cell? ⟨b, o + k * 3 + 1, none⟩ = some (.int .u64 x.off) := by rw [Nat.mul_comm]; exact hs _ _ hg.2.1
      have c3 : wr.cell? ⟨b, o + k * 3 + 2, none⟩ = some (.int .u64 x.val) := by rw [Nat.mul_comm]; exact hs _ _ hg.2.2
      have G := Lib.hid (show VaRel w l.length (.int .i64 ((k + 1 : Nat) : Int)) (wr.alloc (.cells #[.int .u8 x.op, .int .u64 x.off, .int .u64 x.val] 141)) from ⟨k + 1, by omega, rfl, below_alloc hbel⟩)
      have d1 : decide ((x.op : Int) < 1) = false := decide_eq_false (by omega)
      have d2 : decide ((3 : Int) < x.op) = false := decide_eq_false (by omega)
      have d3 : ¬ (x.op : Int) < 1 := by omega
      have d4 : ¬ (3 : Int) < x.op := by omega
      clear hs hg hbel hx
      go_wp2_with fail
      go_roundw
      case rel => simpa using G.out
      case measure => simp [intOf]; omega
    · obtain rfl : k = l.length := by omega
      have HB := Lib.hid hbel
      clear hbel hlt
      go_wp2_with fail
      go_returns
      exact ⟨rfl, HB.out⟩

theorem cnt_ex (s : DSt) (i : Nat) (b : Bool) : (s.cnt i b).1.ex ≤ s.ex + 1 := by
  unfold DSt.cnt DSt.fail DSt.setErr DSt.ctl
  split
  · split <;> simp
  · split
    · split <;> simp
    · split
      · split <;> simp
      · simp
theorem exec_ex (s : DSt) (i : Nat) (x : Ins) : (s.exec i x).ex ≤ s.ex + 1 := by
  unfold DSt.exec
  split
  · unfold DSt.store
    split
    · exact cnt_ex _ _ _
    · exact cnt_ex _ _ _
  · split
    · unfold DSt.flush
      split
      · exact cnt_ex _ _ _
      · exact cnt_ex _ _ _
    · unfold DSt.fence
      split
      · exact cnt_ex _ _ _
      · exact cnt_ex _ _ _
theorem runs_ex (l : List Ins) : ∀ (s : DSt) (i : Nat), (s.runs i l).ex ≤ s.ex + l.length := by
  induction l with
  | nil => intro s i; exact Nat.le_refl _
  | cons x l ih =>
    intro s i
    have h1 := ih (s.exec i x) i
    have h2 := exec_ex s i x
    simp only [DSt.runs, List.foldl_cons, List.length_cons] at *
    omega
theorem runs_snoc (s : DSt) (i : Nat) (l : List Ins) (x : Ins) : s.runs i (l ++ [x]) = (s.runs i l).exec i x := by simp [DSt.runs]

def RuRel (w : World) (A : DAd) (F : Nat → Option Role) (s : DSt) (t : Nat) (l : List Ins) (i : Value) (wr : World) : Prop :=
  ∃ k : Nat, k ≤ l.length ∧ i = .int .i64 (k : Nat) ∧ Went w A F (s.runs t (l.take k)) wr

set_option maxRecDepth 8000 in
theorem run_dev {w : World} {A : DAd} {s : DSt} {F : Nat → Option Role} (h : Dev w A s F) {t : Nat} (ht : t < 8) {b o c : Nat} {l : List Ins} (hs : Seen w b o (icells l)) (hF : F b = none) (hl : ∀ x ∈ l, x.Ok) (hn : s.ex + l.length ≤ 1000000) :
    Calls Tryz.prog 21 #[.slice (some ⟨b, o, none⟩) l.length c, mthr (A.t t)] w fun e w' => e = .returned (i64 ((s.runs t l).err t)) ∧ Went w A F (s.runs t l) w' := by
  have HV := Lib.hid (valid_any (c := c) hs hl (by omega))
  have HS := Lib.hid hs; have HL := Lib.hid hl; have HH := Lib.hid h
  have hn2 : (l.length : Int) ≤ 1000000 := by omega
  have HF := Lib.hid hF
  clear hs hl h hF
  unfold mthr ptr at *
  go_enter Tryz.func21, Tryz.ntmps21
  go_wp2_with fail
  refine HV.out.mono ?_
  rintro e w1 ⟨rfl, hb1⟩
  have HST := Lib.hid (show RuRel w A F s t l (.int .i64 (0 : Nat)) w1 from ⟨0, by omega, rfl, F, HH.out.below hb1, ⟨Only.of_below hb1, fun _ _ => rfl⟩⟩)
  clear hb1
  go_wp2_with fail
  go_loopw [6, 16] (fun _ i wr => RuRel w A F s t l i wr) (fun _ i _ => l.length - (intOf i).toNat)
  case atStart => exact HST.out
  case round =>
    obtain ⟨k, hk, rfl, F1, hd, hm⟩ := hrel
    by_cases hlt : k < l.length
    · have hlt2 : (k : Int) < l.length := by omega
      obtain ⟨x, hx⟩ : ∃ x, x = l[k] := ⟨_, rfl⟩
      have hg0 : l[k]? = some x := by rw [hx]; exact List.getElem?_eq_getElem hlt
      have hg := icells_get hg0
      have hxo := HL.out x (by rw [hx]; exact List.getElem_mem hlt)
      have htk : l.take (k + 1) = l.take k ++ [x] := by rw [List.take_add_one, hg0]; rfl
      have hbl : b < w.heap.size := World.block_lt_of_cell? _ _ (HS.out _ _ hg.1)
      have hs := HS.out.of_block (hm.only.block b hbl (by rw [HF.out]; simp))
      have c1 : wr.cell? ⟨b, o + k * 3, none⟩ = some (.int .u8 x.op) := by rw [Nat.mul_comm]; exact hs _ _ hg.1
      have c2 : wr.cell? ⟨b, o + k * 3 + 1, none⟩ = some (.int .u64 x.off) := by rw [Nat.mul_comm]; exact hs _ _ hg.2.1
      have c3 : wr.cell? ⟨b, o + k * 3 + 2, none⟩ = some (.int .u64 x.val) := by rw [Nat.mul_comm]; exact hs _ _ hg.2.2
      have hex := runs_ex (l.take k) s t
      rw [List.length_take] at hex
      have he := execute_dev (hd.alloc (.cells #[.int .u8 x.op, .int .u64 x.off, .int .u64 x.val] 141)) ht hxo (by omega)
      rw [← runs_snoc, ← htk] at he
      have HE := Lib.hid he; have HM := Lib.hid (hm.trans (Moved.alloc wr (.cells #[.int .u8 x.op, .int .u64 x.off, .int .u64 x.val] 141)))
      clear he hex hs hg hg0 htk hxo hd hm hx
      unfold mthr ptr u64 at HE
      go_wp2_with fail
      refine HE.out.mono ?_
      rintro e w2 ⟨rfl, F2, g1, g2⟩
      have G := Lib.hid (show RuRel w A F s t l (.int .i64 ((k + 1 : Nat) : Int)) w2 from ⟨k + 1, by omega, rfl, F2, g1, HM.out.trans g2⟩)
      clear g1 g2
      go_wp2_with fail
      go_roundw
      case rel => simpa using G.out
      case measure => simp [intOf]; omega
    · obtain rfl : k = l.length := by omega
      rw [List.take_length] at hd
      have HE := Lib.hid (err_dev hd ht); have HD := Lib.hid hd; have HM := Lib.hid hm
      clear hd hm hlt hk
      unfold ptr at HE
      go_wp2_with fail
      refine HE.out.mono ?_
      rintro e w2 ⟨rfl, rfl⟩
      go_wp2_with fail
      go_returns
      exact ⟨rfl, F1, HD.out, HM.out⟩
end Go.Proofs.YtejlgnebofdijaaGreatDoor.Dv

namespace Go.Proofs.YtejlgnebofdijaaGreatDoor.Dv
open Go.RowKit
set_option linter.unusedVariables false

theorem run_append_zeros {P : Program} (w : World) (t tx ty e : TypeId) (i : TypeInfo) (z : Value) (ht : P.underlying t = some (.slice e)) (hk : P.underlying tx = some (.int .i64)) (hi : P.info? e = some i) (hz : i.zero = some z)
    (n : Nat) (hn : 0 < n) (hn2 : n ≤ 1000) (hsz : 0 < i.size) (hb : i.bytes ≤ 1000) :
    (Builtin.append_ #[t, tx] ty #[.slice none 0 0, .int .i64 n]).run P w =
      .ok (.slice (some ⟨w.heap.size, 0, none⟩) n (grownCap w n 0 e)) (w.drew.alloc (.cells (Builtin.zeroCells z.cells n ++ Builtin.zeroCells z.cells (grownCap w n 0 e - n)) e)) := by
  have h0 : ¬ ((n : Int) < 0) := by omega
  have hn' : ¬ (n ≤ 0) := by omega
  have hw : IntKind.i64.wrap (n : Int) = n := IntWalk.i64_in _ (by omega)
  have hmul : (n : Int) * (i.bytes : Int) ≤ 281474976710656 := by
    have : n * i.bytes ≤ 1000 * 1000 := Nat.mul_le_mul hn2 hb
    have e : (n : Int) * (i.bytes : Int) = ((n * i.bytes : Nat) : Int) := by simp
    omega
  have h48 : ¬ (281474976710656 < (n : Int) * (i.bytes : Int)) := by omega
  have h63' : ¬ (9223372036854775807 < (n : Int)) := by omega
  have h48' : ¬ (281474976710656 < Builtin.nextslicecap n 0 * i.bytes) := by
    have := growslice_fits (need := n) (old := 0) (bytes := i.bytes) (by omega) (by
      have : n * i.bytes ≤ 1000 * 1000 := Nat.mul_le_mul hn2 hb
      omega)
    omega
  have hns : ¬ (n = 0 ∨ i.size = 0) := by omega
  have hai : ∀ w : World, (asIntOf (.int .i64 (n : Int))).run P w = .ok (.i64, (n : Int)) w := fun _ => rfl
  have hmx : max (n : Int) 0 = n := by omega
  have hle : ¬ ((n : Int) ≤ 0) := by omega
  have hz2 : ¬ (n * i.size = 0) := by
    intro h
    rcases Nat.mul_eq_zero.1 h with h | h <;> omega
  simp [Builtin.append_, hai, hmx, hz2, run_underlying ht, run_underlying hk, sizeOf, typeInfo, zeroValue, hi, hz, asInt, hw, h0, h48, h63', h48', Question.forced, newRow, grownCap, Builtin.firstCells]
  omega

theorem wpList_append_run2 {P : Program} {ops : Array Oper} {rest : List Oper} {o : Oper} {a : Act} {w : World} {Q : Exit → Act → World → Prop} (hg : o.guard = none) (s x : Operand) (t tx : TypeId)
    (ho : o.op = .call { callee := .builtin .append, args := #[s, x], argTypes := #[t, tx] }) (v xv v' : Value) (w' : World) (hs : a.eval s = v) (hx : a.eval x = xv)
    (hrun : ∀ ty, (Builtin.append_ #[t, tx] ty #[v, xv]).run P w = .ok v' w') (h : wpList P ops Q rest (a.put o.dst v') w') : wpList P ops Q (o :: rest) a w := by
  refine wpList_plain hg fun _ hK => ?_
  unfold Oper.wp
  simp [execOp, ho, resolve, invoke, builtin, hs, hx, hrun, Result.andThen]
  exact hK _ _ h

theorem grow_any {w : World} {n : Nat} (hn : 0 < n) (hn2 : n ≤ 1000) :
    Calls Tryz.prog 80 #[.slice none 0 0, i64 n] w fun e w' => ∃ cap, e = .returned (.slice (some ⟨w.heap.size, 0, none⟩) 0 cap) ∧
      w'.ownsRow w.heap.size 141 3 (.slice (some ⟨w.heap.size, 0, none⟩) 0 cap) 0 [] ∧ Below w.heap.size w w' ∧ n ≤ cap := by
  obtain ⟨i, hi, hz, hsz, hby⟩ := info_parts infoInstr
  have hrun := fun ty => run_append_zeros (P := Tryz.prog) w 81 3 ty 141 i _ Tryz.underlying81 Tryz.underlying3 hi hz n hn hn2 (by omega) (by omega)
  have hge := grownCap_ge w n 0 141
  have hcm := grownCap_le_maxLen w n 0 141 (by unfold maxLen; omega)
  obtain ⟨C, hC⟩ : ∃ C, C = grownCap w n 0 141 := ⟨_, rfl⟩
  rw [← hC] at hge hcm
  simp only [← hC] at hrun
  obtain ⟨W, hW⟩ : ∃ W, W = w.drew.alloc (.cells (Builtin.zeroCells (Value.agg #[.int .u8 0, .int .u64 0, .int .u64 0]).cells n ++ Builtin.zeroCells (Value.agg #[.int .u8 0, .int .u64 0, .int .u64 0]).cells (C - n)) 141) := ⟨_, rfl⟩
  simp only [← hW] at hrun
  have hown : W.ownsRow w.heap.size 141 3 (.slice (some ⟨w.heap.size, 0, none⟩) 0 C) 0 [] := by
    rw [hW]
    refine World.ownsRow_made w.drew _ C (Nat.le_refl _) hcm ?_
    rw [Array.size_append, size_zeroCells, size_zeroCells]
    show n * 3 + (C - n) * 3 = C * 3
    omega
  have hbel : Below w.heap.size w W := by rw [hW]; exact below_alloc (below_drew (Below.refl _ _))
  have HO := Lib.hid hown; have HB := Lib.hid hbel
  have b1 : (0 : Int) < n := by omega
  have d1 : decide ((n : Int) < 0) = false := decide_eq_false (by omega)
  have d2 : decide ((0 : Int) < n) = true := decide_eq_true b1
  have d3 : decide (0 < n) = true := decide_eq_true hn
  have b2 : (0 : Int) ≤ C := by omega
  clear hown hbel hW hC hi hz hsz hby hcm
  unfold i64
  go_enter Tryz.func80, Tryz.ntmps80
  go_wp2_with (at_builtin; refine wpList_append_run2 rfl _ _ _ _ rfl _ _ _ _ rfl rfl hrun ?_)
  go_returns
  exact ⟨C, rfl, HO.out, HB.out, hge⟩

/-- A slice that can be read: elements of 3 cells. -/
def PSl (w : World) (v : Value) (l : List Ins) : Prop := ∃ b o c, v = .slice (some ⟨b, o, none⟩) l.length c ∧ Seen w b o (icells l)

theorem then_any {w : World} {b1 o1 c1 b2 o2 c2 : Nat} {l1 l2 : List Ins} (h1 : Seen w b1 o1 (icells l1)) (h2 : Seen w b2 o2 (icells l2)) (n1 : 1 ≤ l1.length) (n2 : 1 ≤ l2.length) (n3 : l1.length + l2.length ≤ 1000) :
    Calls Tryz.prog 58 #[.slice (some ⟨w.heap.size, 0, none⟩) 2 2] (w.alloc (.cells #[.slice (some ⟨b1, o1, none⟩) l1.length c1, .slice (some ⟨b2, o2, none⟩) l2.length c2] 81)) fun e w' => ∃ g cap, e = .returned (.slice (some ⟨g, 0, none⟩) (l1.length + l2.length) cap) ∧
      w'.ownsRow w.heap.size 141 3 (.slice (some ⟨g, 0, none⟩) (l1.length + l2.length) cap) (l1.length + l2.length) (icells (l1 ++ l2)) ∧ Below w.heap.size w w' := by
  have HG := Lib.hid (grow_any (w := w.alloc (.cells #[.slice (some ⟨b1, o1, none⟩) l1.length c1, .slice (some ⟨b2, o2, none⟩) l2.length c2] 81)) (n := l1.length + l2.length) (by omega) n3)
  have H1 := Lib.hid (h1.below (below_alloc (o := .cells #[.slice (some ⟨b1, o1, none⟩) l1.length c1, .slice (some ⟨b2, o2, none⟩) l2.length c2] 81) (Below.refl _ w)) (Nat.le_refl _))
  have H2 := Lib.hid (h2.below (below_alloc (o := .cells #[.slice (some ⟨b1, o1, none⟩) l1.length c1, .slice (some ⟨b2, o2, none⟩) l2.length c2] 81) (Below.refl _ w)) (Nat.le_refl _))
  have hc : (w.alloc (.cells #[.slice (some ⟨b1, o1, none⟩) l1.length c1, .slice (some ⟨b2, o2, none⟩) l2.length c2] 81)).cell? ⟨w.heap.size, 0, none⟩ = some (.slice (some ⟨b1, o1, none⟩) l1.length c1) ∧
      (w.alloc (.cells #[.slice (some ⟨b1, o1, none⟩) l1.length c1, .slice (some ⟨b2, o2, none⟩) l2.length c2] 81)).cell? ⟨w.heap.size, 1, none⟩ = some (.slice (some ⟨b2, o2, none⟩) l2.length c2) :=
    ⟨(cell_block (heap_alloc_new _ _)).trans rfl, (cell_block (heap_alloc_new _ _)).trans rfl⟩
  have HB0 := Lib.hid (below_alloc (o := .cells #[.slice (some ⟨b1, o1, none⟩) l1.length c1, .slice (some ⟨b2, o2, none⟩) l2.length c2] 81) (Below.refl _ w))
  obtain ⟨W, hW⟩ : ∃ W, W = w.alloc (.cells #[.slice (some ⟨b1, o1, none⟩) l1.length c1, .slice (some ⟨b2, o2, none⟩) l2.length c2] 81) := ⟨_, rfl⟩
  have hz : w.heap.size < W.heap.size := by rw [hW]; simp
  rw [← hW] at HG H1 H2 hc HB0 ⊢
  have HC := Lib.hid hc
  clear hW
  obtain ⟨hc1, hc2⟩ := hc
  have q1 : (l1.length : Int) + l2.length ≤ 1000 := by omega
  have q2 : (1 : Int) ≤ l1.length := by omega
  have q3 : (1 : Int) ≤ l2.length := by omega
  have d1 : decide ((l1.length : Int) < 0) = false := decide_eq_false (by omega)
  have d2 : decide ((l1.length : Int) + l2.length < 0) = false := decide_eq_false (by omega)
  clear h1 h2
  unfold i64 at HG
  go_enter Tryz.func58, Tryz.ntmps58
  go_wp2_with fail
  refine wp_loop_rounds 3 ?_
  rw [rounds_succ]
  go_wp2_with fail
  rw [rounds_succ]
  go_wp2_with fail
  rw [rounds_succ]
  go_wp2_with fail
  rw [show ((l1.length : Int) + l2.length) = ((l1.length + l2.length : Nat) : Int) by omega]
  refine HG.out.mono ?_
  rintro e w1 ⟨cap, rfl, ho, hb, hcp⟩
  have k1 : w1.cell? ⟨w.heap.size, 0, none⟩ = some (.slice (some ⟨b1, o1, none⟩) l1.length c1) := by rw [hb.cell hz]; exact HC.out.1
  obtain ⟨g1, cap1, w2, hrun1, how1, hgr1, hg1⟩ := append_own2 elProg ho ⟨b1, o1, none⟩ l1.length c1 (icells l1) (by rw [icells_length]; omega) (fun j u hj => by rw [Addr.add_lit]; exact H1.out.below hb (Nat.le_refl _) j u hj)
    (fun u hu => by
      obtain ⟨x, _, hx⟩ := List.mem_flatMap.1 hu
      simp [Ins.cells] at hx
      rcases hx with rfl | rfl | rfl <;> rfl) (by omega) (by unfold maxLen; omega) (by omega) hb.size
  have hb2 : Below W.heap.size W w2 := hb.grown hgr1 hb.size (fun b hb' => (ho.lt b hb').1)
  have k2 : w2.cell? ⟨w.heap.size, 1, none⟩ = some (.slice (some ⟨b2, o2, none⟩) l2.length c2) := by rw [hb2.cell hz]; exact HC.out.2
  rw [List.nil_append, Nat.zero_add] at how1
  simp only [Nat.zero_add] at hrun1
  obtain ⟨g2, cap2, w3, hrun2, how2, hgr2, hg2⟩ := append_own2 elProg how1 ⟨b2, o2, none⟩ l2.length c2 (icells l2) (by rw [icells_length]; omega) (fun j u hj => by rw [Addr.add_lit]; exact H2.out.below hb2 (Nat.le_refl _) j u hj)
    (fun u hu => by
      obtain ⟨x, _, hx⟩ := List.mem_flatMap.1 hu
      simp [Ins.cells] at hx
      rcases hx with rfl | rfl | rfl <;> rfl) (by omega) (by unfold maxLen; omega) (by omega) hb2.size
  have hb3 : Below W.heap.size W w3 := hb2.grown hgr2 hb2.size (fun b hb' => (how1.lt b hb').1)
  have G := Lib.hid (show w3.ownsRow w.heap.size 141 3 (.slice (some ⟨g2, 0, none⟩) (l1.length + l2.length) cap2) (l1.length + l2.length) (icells (l1 ++ l2)) from by
    have e : icells (l1 ++ l2) = icells l1 ++ icells l2 := by simp [icells]
    rw [e]; exact how2.mono (by omega))
  have G2 := Lib.hid (HB0.out.trans (hb3.mono (by omega)))
  clear how2 hgr2 hg2 hb3 how1 hgr1 hg1 hb2 ho hb hcp hc1 hc2
  go_wp2_with fail
  refine wp_loop_rounds 3 ?_
  rw [rounds_succ]
  go_wp2_with (at_builtin; refine wpList_append_run rfl _ _ _ rfl _ _ _ _ rfl rfl hrun1 ?_)
  rw [rounds_succ]
  go_wp2_with (at_builtin; refine wpList_append_run rfl _ _ _ rfl _ _ _ _ rfl rfl hrun2 ?_)
  rw [rounds_succ]
  go_wp2_with fail
  go_returns
  exact ⟨g2, cap2, rfl, G.out, G2.out⟩

theorem thenp_any {w : World} {b1 o1 c1 b2 o2 c2 : Nat} {l1 l2 : List Ins} (h1 : Seen w b1 o1 (icells l1)) (h2 : Seen w b2 o2 (icells l2)) (n1 : 1 ≤ l1.length) (n2 : 1 ≤ l2.length) (n3 : l1.length + l2.length ≤ 1000) :
    Calls Tryz.prog 30 #[.slice (some ⟨b1, o1, none⟩) l1.length c1, .slice (some ⟨b2, o2, none⟩) l2.length c2] w fun e w' => ∃ g cap, e = .returned (.slice (some ⟨g, 0, none⟩) (l1.length + l2.length) cap) ∧
      w'.ownsRow w.heap.size 141 3 (.slice (some ⟨g, 0, none⟩) (l1.length + l2.length) cap) (l1.length + l2.length) (icells (l1 ++ l2)) ∧ Below w.heap.size w w' := by
  have HT := Lib.hid (then_any (c1 := c1) (c2 := c2) h1 h2 n1 n2 n3)
  clear h1 h2
  go_enter Tryz.func30, Tryz.ntmps30
  go_wp2_with fail
  refine HT.out.mono ?_
  rintro e w1 ⟨g, cap, rfl, g1, g2⟩
  have G1 := Lib.hid g1; have G2 := Lib.hid g2
  clear g1 g2
  go_wp2_with fail
  go_returns
  exact ⟨g, cap, rfl, G1.out, G2.out⟩
end Go.Proofs.YtejlgnebofdijaaGreatDoor.Dv
