/-
  write, Store of the package device.
-/
import Derived.Test.YtjoipeojenfiiaaGreatDoorMDevW1
import Derived.Deep.AppendSrc
import Derived.Deep.Upon
import Derived.Great.BuildSlice
namespace Go.Proofs.YtjoipeojenfiiaaGreatDoor.Dv
open Go.RowKit

theorem infoWrite : (Tryz.prog.info? 110).map (fun i => (i.zero, i.size, i.bytes)) = some (some (.agg #[.int .u64 0, .int .u64 0]), 2, 16) := by kernel_rfl

theorem wpList_append_run {P : Program} {ops : Array Oper} {rest : List Oper} {o : Oper} {a : Act} {w : World} {Q : Exit → Act → World → Prop} (hg : o.guard = none) (s x : Operand) (t : TypeId)
    (ho : o.op = .call { callee := .builtin .append, args := #[s, x], argTypes := #[t, t] }) (v xv v' : Value) (w' : World) (hs : a.eval s = v) (hx : a.eval x = xv)
    (hrun : ∀ ty, (Builtin.append_ #[t, t] ty #[v, xv]).run P w = .ok v' w') (h : wpList P ops Q rest (a.put o.dst v') w') : wpList P ops Q (o :: rest) a w := by
  refine wpList_plain hg fun _ hK => ?_
  unfold Oper.wp
  simp [execOp, ho, resolve, invoke, builtin, hs, hx, hrun, Result.andThen]
  exact hK _ _ h

/-- append of one store to a history. -/
theorem Hist.append {w : World} {F : Nat → Option Role} {n : Nat} {v : Value} {l : List (Nat × Nat)} (h : Hist w F n v l) (hF : ∀ k, F k ≠ none → k < w.heap.size) (hl : l.length ≤ 1000000)
    (gb a b : Nat) (ha : w.cell? ⟨gb, 0, none⟩ = some (u64 a)) (hb : w.cell? ⟨gb, 1, none⟩ = some (u64 b)) :
    ∃ v' w' F', (∀ ty, (Builtin.append_ #[104, 104] ty #[v, .slice (some ⟨gb, 0, none⟩) 1 1]).run Tryz.prog w = .ok v' w') ∧ Hist w' F' n v' (l ++ [(a, b)]) ∧
      Only (fun k => F k = some (6, n)) w w' ∧ (∀ k, k < w.heap.size → F' k = F k) ∧ (∀ k, F' k ≠ none → k < w'.heap.size) ∧ (∀ k, F k ≠ none → F' k = F k) := by
  obtain ⟨i, hi, hz, hsz, hby⟩ := info_parts infoWrite
  have hsrc : Src Tryz.prog i.size 104 (.slice (some ⟨gb, 0, none⟩) 1 1) 1 [u64 a, u64 b] w := by
    refine Src.ofSlice w Tryz.underlying104 ⟨gb, 0, none⟩ 1 1 [u64 a, u64 b] (by rw [hsz]; rfl) ?_ ?_
    · intro j u hj
      match j with
      | 0 => simp only [List.getElem?_cons_zero, Option.some.injEq] at hj; rw [← hj]; exact ha
      | 1 => simp only [List.getElem?_cons_succ, List.getElem?_cons_zero, Option.some.injEq] at hj; rw [← hj]; exact hb
      | j + 2 => simp at hj
    · intro u hu
      simp only [List.mem_cons, List.not_mem_nil, or_false] at hu
      rcases hu with rfl | rfl <;> rfl
  have hgrow : ∀ (base : Option Addr) (sCap : Nat) (olds : List Value), v = .slice base l.length sCap → (Builtin.firstCells i.size l.length (.slice base l.length sCap)).run Tryz.prog w.drew = .ok olds.toArray w.drew →
      olds.length = 2 * l.length → (∀ j p, l[j]? = some p → olds[2 * j]? = some (u64 p.1) ∧ olds[2 * j + 1]? = some (u64 p.2)) → sCap < l.length + 1 → sCap ≤ 1000001 →
      ∃ v' w' F', (∀ ty, (Builtin.append_ #[104, 104] ty #[v, .slice (some ⟨gb, 0, none⟩) 1 1]).run Tryz.prog w = .ok v' w') ∧ Hist w' F' n v' (l ++ [(a, b)]) ∧
      Only (fun k => F k = some (6, n)) w w' ∧ (∀ k, k < w.heap.size → F' k = F k) ∧ (∀ k, F' k ≠ none → k < w'.heap.size) ∧ (∀ k, F k ≠ none → F' k = F k) := by
    intro base sCap olds hv hold hlen hcells hcap hc2
    subst hv
    have hrun := fun ty => run_append_grow_src (P := Tryz.prog) w 104 104 ty 110 i _ Tryz.underlying104 hi hz base l.length sCap olds hold _ 1 _ hsrc hcap (by omega)
      (growslice_fits hcap (by rw [hby]; omega))
    have hge := grownCap_ge w (l.length + 1) sCap 110
    have hcm := grownCap_le_maxLen w (l.length + 1) sCap 110 (by unfold maxLen; omega)
    obtain ⟨C, hC⟩ : ∃ C, C = grownCap w (l.length + 1) sCap 110 := ⟨_, rfl⟩
    rw [← hC] at hge hcm
    simp only [← hC] at hrun
    refine ⟨_, _, fun k => if k = w.heap.size then some (6, n) else F k, hrun, .inr ⟨w.heap.size, 0, C, _, by rw [List.length_append]; rfl, by simp, heap_alloc_new _ _, by rw [List.length_append]; exact hge, hcm, ?_, ?_⟩, ?_, ?_, ?_, ?_⟩
    · simp [Array.size_append, size_zeroCells, Value.cells, hlen]
      omega
    · intro j p hj
      have hsz : olds.length = 2 * l.length := hlen
      rcases Nat.lt_or_ge j l.length with hlt | hge'
      · rw [List.getElem?_append_left hlt] at hj
        obtain ⟨h1, h2⟩ := hcells j p hj
        have e1 : 2 * j < (olds ++ [u64 a, u64 b]).length := by simp; omega
        have e2 : 2 * j + 1 < (olds ++ [u64 a, u64 b]).length := by simp; omega
        rw [Nat.zero_add]
        rw [Array.getElem?_append_left (by simpa using e1), Array.getElem?_append_left (by simpa using e2)]
        rw [List.getElem?_toArray, List.getElem?_toArray, List.getElem?_append_left (by omega), List.getElem?_append_left (by omega)]
        exact ⟨h1, h2⟩
      · have : j = l.length := by
          have := (List.getElem?_eq_some_iff.1 hj).1
          simp at this; omega
        subst this
        simp at hj
        subst hj
        rw [Nat.zero_add]
        rw [Array.getElem?_append_left (by simp; omega), Array.getElem?_append_left (by simp; omega)]
        rw [List.getElem?_toArray, List.getElem?_toArray, List.getElem?_append_right (by omega), List.getElem?_append_right (by omega), hsz]
        simp
    · exact ((Only.refl _ _).drew).alloc _
    · intro k hk
      exact if_neg (by omega)
    · intro k hk
      by_cases e : k = w.heap.size
      · rw [e]; simp
      · dsimp only at hk; rw [if_neg e] at hk
        have := hF k hk
        simp; omega
    · intro k hk
      exact if_neg (by have := hF k hk; omega)
  rcases h with ⟨hl0, hv⟩ | ⟨bb, o, cap, c, hv, hFb, hbl, hlc, hcm, hcs, hcells⟩
  · subst hl0
    exact hgrow none 0 [] hv (run_firstCells_none _ _ _ _ _) rfl (fun j p hj => by simp at hj) (by omega) (by omega)
  · by_cases hroom : l.length + 1 ≤ cap
    · subst hv
      have hin : ∀ j, j < 2 → o + l.length * i.size + j < c.size := by intro j hj; rw [hsz]; omega
      have hrun := fun ty => run_append_room_src (P := Tryz.prog) w 104 104 ty 110 i Tryz.underlying104 hi bb o l.length cap _ 1 _ hsrc hroom
        (fun j hj => by rw [cell_block hbl, Array.getElem?_eq_getElem (hin j hj)]; rfl) (fun j hj => free_block hbl)
      rw [hsz] at hrun hin
      refine ⟨_, _, F, hrun, .inr ⟨bb, o, cap, _, by rw [List.length_append]; rfl, hFb, heap_set (heap_set hbl), by rw [List.length_append]; exact hroom, hcm, by simpa using hcs, ?_⟩, ?_, fun _ _ => rfl, ?_, fun _ _ => rfl⟩
      · have h0 := hin 0 (by omega)
        have h1 := hin 1 (by omega)
        intro j p hj
        rcases Nat.lt_or_ge j l.length with hlt | hge'
        · rw [List.getElem?_append_left hlt] at hj
          obtain ⟨e1, e2⟩ := hcells j p hj
          rw [Array.getElem?_setIfInBounds, Array.getElem?_setIfInBounds, Array.getElem?_setIfInBounds, Array.getElem?_setIfInBounds]
          rw [if_neg (by omega), if_neg (by omega), if_neg (by omega), if_neg (by omega)]
          exact ⟨e1, e2⟩
        · have : j = l.length := by
            have := (List.getElem?_eq_some_iff.1 hj).1
            simp at this; omega
          subst this
          simp at hj
          subst hj
          constructor
          · rw [Array.getElem?_setIfInBounds, if_neg (by omega), Array.getElem?_setIfInBounds, if_pos (by omega), if_pos (by omega)]
          · rw [Array.getElem?_setIfInBounds, if_pos (by omega), if_pos (by simp; omega)]
      · exact ((Only.refl _ _).set (F := fun k => F k = some (6, n)) hFb _).set hFb _
      · intro k hk; simpa [World.setCells, World.setCell] using hF k hk
    · have hcap : cap = l.length := by omega
      have htake : ∀ j, j < 2 * l.length → (((c.toList.drop o).take (2 * l.length))[j]?) = c[o + j]? := by
        intro j hj
        rw [List.getElem?_take, if_pos hj, List.getElem?_drop, Array.getElem?_toList]
      have hlen2 : ((c.toList.drop o).take (2 * l.length)).length = 2 * l.length := by simp; omega
      refine hgrow (some ⟨bb, o, none⟩) cap ((c.toList.drop o).take (2 * l.length)) hv ?_ hlen2 ?_ (by omega) (by omega)
      · refine run_firstCells_some _ _ _ _ _ _ _ (by rw [hlen2, hsz]; omega) ?_
        intro j u hj
        have hj' : j < 2 * l.length := by have := (List.getElem?_eq_some_iff.1 hj).1; rw [hlen2] at this; exact this
        rw [htake j hj'] at hj
        rw [Addr.add_lit]
        exact (cell_block (w := w) (i := o + j) hbl).trans hj
      · intro j p hj
        have hj' : j < l.length := (List.getElem?_eq_some_iff.1 hj).1
        rw [htake _ (by omega), htake _ (by omega)]
        exact hcells j p hj
def DSt.write (s : DSt) (off v : Nat) : DSt := { s with H := upd s.H (off / 64) (s.H (off / 64) ++ [(off, v)]) }

theorem DSt.write_per {s : DSt} (h : s.Ok) (off v x : Nat) : (s.write off v).per x = s.per x := by
  unfold DSt.per DSt.write upd
  dsimp only
  split
  · rename_i e
    rw [e, List.take_append_of_le_length (h.dn _)]
  · rfl
theorem DSt.write_cur {s : DSt} (off v x : Nat) (ho : off % 8 = 0) : (s.write off v).cur x = if x = off / 8 then v else s.cur x := by
  unfold DSt.cur DSt.write upd
  dsimp only
  by_cases e : x / 8 = off / 64
  · rw [if_pos e, after_snoc]
    dsimp only
    by_cases e2 : off / 8 = x
    · rw [if_pos e2, if_pos e2.symm]
    · rw [if_neg e2, if_neg (fun h => e2 h.symm), e]
  · rw [if_neg e, if_neg (by omega)]
theorem DSt.write_hist {s : DSt} (h : s.Ok) (off v n : Nat) : (s.write off v).hist n = if n = off / 64 then s.hist n ++ [(off, v)] else s.hist n := by
  unfold DSt.hist DSt.write upd
  dsimp only
  split
  · rename_i e
    rw [e, List.drop_append_of_le_length (h.dn _)]
  · rfl
theorem DSt.Ok.write {s : DSt} (h : s.Ok) {off v : Nat} (ho : s.word off = true) (hv : v < 18446744073709551616) (hlen : (s.H (off / 64)).length < s.ex) : (s.write off v).Ok := by
  simp only [DSt.word, Bool.and_eq_true, decide_eq_true_eq] at ho
  refine { h with dn := ?_, word := ?_, len := ?_, note := ?_ }
  · intro n
    have := h.dn n
    unfold DSt.write upd
    dsimp only
    split
    · rename_i e; rw [← e, List.length_append]; omega
    · exact this
  · intro n p hp
    unfold DSt.write upd at hp
    dsimp only at hp
    split at hp
    · rename_i e
      rw [List.mem_append] at hp
      rcases hp with hp | hp
      · rw [← e] at hp; exact h.word n p hp
      · simp only [List.mem_singleton] at hp
        subst hp
        exact ⟨ho.1, e.symm, hv⟩
    · exact h.word n p hp
  · intro n
    have := h.len n
    unfold DSt.write upd
    dsimp only
    split
    · rename_i e; rw [List.length_append]; simp only [List.length_singleton]; omega
    · exact this
  · intro t n p hp
    have := h.note t n p hp
    refine ⟨?_, this.2⟩
    unfold DSt.write upd
    dsimp only
    split
    · rename_i e; rw [← e, List.length_append]; omega
    · exact this.1

/-- The stores that write makes, on the blocks. -/
theorem Dev.write {w w1 : World} {A : DAd} {s : DSt} {F F1 : Nat → Option Role} {v' : Value} {hv : Nat → Value} {off v : Nat} (h : Dev w A s F) (ho : s.word off = true) (hvv : v < 18446744073709551616) (hlen : (s.H (off / 64)).length < s.ex)
    (hlin : Row w A.lin 122 (2 * s.L) (lfun s hv)) (hhist : ∀ n, n < s.L → Hist w F n (hv n) (s.hist n))
    (h1 : Hist w1 F1 (off / 64) v' (s.hist (off / 64) ++ [(off, v)])) (honly : Only (fun k => F k = some (6, off / 64)) w w1) (hs : ∀ k, k < w.heap.size → F1 k = F k) (hlt : ∀ k, F1 k ≠ none → k < w1.heap.size)
    (hF : ∀ k, F k ≠ none → F1 k = F k) :
    Dev ((w1.setCell ⟨A.lin, off / 64 * 2 + 1, none⟩ v').setCell ⟨A.cur, off / 8, none⟩ (u64 v)) A (s.write off v) F1 ∧
      Moved F F1 w ((w1.setCell ⟨A.lin, off / 64 * 2 + 1, none⟩ v').setCell ⟨A.cur, off / 8, none⟩ (u64 v)) := by
  have hw := ho
  simp only [DSt.word, Bool.and_eq_true, decide_eq_true_eq] at hw
  have keep : ∀ k q, F k = some q → q ≠ (6, off / 64) → w1.heap[k]? = w.heap[k]? := fun k q hk hq => honly.block k (h.lt k (by rw [hk]; simp)) (fun e => hq (by rw [hk] at e; exact Option.some.inj e))
  have F1of : ∀ k q, F k = some q → F1 k = some q := fun k q hk => (hF k (by rw [hk]; simp)).trans hk
  have fd := F1of _ _ h.fd
  have fper := F1of _ _ h.fper
  have fcur := F1of _ _ h.fcur
  have flin := F1of _ _ h.flin
  have ft := fun i hi => F1of _ _ (h.ft i hi)
  have fm := fun i hi => F1of _ _ (h.fm i hi)
  refine ⟨{ ok := h.ok.write ho hvv hlen, dev := ?_, per := ?_, cur := ?_, cap := h.cap, lin := ?_, thr := ?_, note := ?_, fd := fd, fper := fper, fcur := fcur, flin := flin, ft := ft, fm := fm, lt := ?_ }, ?_, hs⟩
  · exact (((h.dev.of_block (keep _ _ h.fd (by simp))).set_other (role_ne fd flin (by simp))).set_other (role_ne fd fcur (by simp))).congr (fun x _ => by
      unfold dfun; rfl)
  · exact (((h.per.of_block (keep _ _ h.fper (by simp))).set_other (role_ne fper flin (by simp))).set_other (role_ne fper fcur (by simp))).congr (fun x _ => by rw [DSt.write_per h.ok])
  · refine ((((h.cur.of_block (keep _ _ h.fcur (by simp))).set_other (role_ne fcur flin (by simp))).set (off / 8) (u64 v))).congr (fun x _ => ?_)
    rw [DSt.write_cur _ _ _ hw.1]
    split <;> rfl
  · refine ⟨upd hv (off / 64) v', ?_, ?_⟩
    · refine (((hlin.of_block (keep _ _ h.flin (by simp))).set (off / 64 * 2 + 1) v').set_other (role_ne flin fcur (by simp))).congr (fun x _ => ?_)
      unfold lfun upd
      by_cases e : x = off / 64 * 2 + 1
      · rw [if_pos e, if_neg (by omega), if_pos (by omega)]
      · rw [if_neg e]
        by_cases e2 : x % 2 = 0
        · rw [if_pos e2, if_pos e2]; rfl
        · rw [if_neg e2, if_neg e2, if_neg (by omega)]
    · intro n hn
      rw [DSt.write_hist h.ok]
      unfold upd
      by_cases e : n = off / 64
      · subst e
        rw [if_pos rfl, if_pos rfl]
        exact h1.of_agree (fun k hk => (heap_set_ne (role_ne hk fcur (by simp))).trans (heap_set_ne (role_ne hk flin (by simp))))
      · rw [if_neg e, if_neg e]
        have hh := hhist n hn
        rcases hh with hh | ⟨b, o, cap, c, g1, g2, g3, g4⟩
        · exact .inl hh
        · refine .inr ⟨b, o, cap, c, g1, F1of _ _ g2, ?_, g4⟩
          rw [heap_set_ne (role_ne (F1of _ _ g2) fcur (by simp)), heap_set_ne (role_ne (F1of _ _ g2) flin (by simp)), keep _ _ g2 (by simp [e])]
          exact g3
  · intro i hi
    exact (((h.thr i hi).of_block (keep _ _ (h.ft i hi) (by simp))).set_other (role_ne (ft i hi) flin (by simp))).set_other (role_ne (ft i hi) fcur (by simp))
  · intro i hi
    exact (h.note i hi).of_agree (((heap_set_ne (role_ne (fm i hi) fcur (by simp))).trans (heap_set_ne (role_ne (fm i hi) flin (by simp)))).trans (keep _ _ (h.fm i hi) (by simp)))
  · intro k hk; simpa [World.setCell] using hlt k hk
  · exact ((honly.mono (G := fun k => F k ≠ none) (fun k hk => by rw [hk]; simp)).set (by rw [h.flin]; simp) _).set (by rw [h.fcur]; simp) _
theorem write_dev {w : World} {A : DAd} {s : DSt} {F : Nat → Option Role} (h : Dev w A s F) {i : Nat} (hi : i < 8) {off v : Nat} (ho : s.word off = true) (hvv : v < 18446744073709551616) (hlen : (s.H (off / 64)).length < s.ex) :
    Calls Tryz.prog 55 #[ptr (A.t i), u64 off, u64 v] w fun r w' => r = .returned (.tuple #[]) ∧ ∃ F', Dev w' A (s.write off v) F' ∧ Moved F F' w w' := by
  have hw := ho
  simp only [DSt.word, Bool.and_eq_true, decide_eq_true_eq] at hw
  have hex := h.ok.ex
  have hLL := h.ok.lines
  have c0 : w.cell? ⟨A.t i, 0, none⟩ = some (.pointer (some ⟨A.d, 0, none⟩)) := (h.thr i hi).cell 0 (by omega)
  have c1 : w.cell? ⟨A.d, 2, none⟩ = some (.slice (some ⟨A.lin, 0, none⟩) s.L s.L) := h.dev.cell 2 (by omega)
  obtain ⟨hv, hlin, hhist⟩ := h.lin
  have c2 : w.cell? ⟨A.lin, off / 64 * 2 + 1, none⟩ = some (hv (off / 64)) := by
    rw [hlin.cell (off / 64 * 2 + 1) (by omega)]
    unfold lfun
    rw [if_neg (by omega)]
    congr 2; omega
  obtain ⟨g, hg⟩ : ∃ g, g = w.alloc (.cells #[u64 off, u64 v] 110) := ⟨_, rfl⟩
  have hgd : Dev g A s F := by rw [hg]; exact h.alloc _
  have hgm : Moved F F w g := by rw [hg]; exact ⟨(Only.refl _ _).alloc _, fun _ _ => rfl⟩
  have hga : g.cell? ⟨w.heap.size, 0, none⟩ = some (u64 off) ∧ g.cell? ⟨w.heap.size, 1, none⟩ = some (u64 v) := by
    rw [hg, cell_block (heap_alloc_new _ _), cell_block (heap_alloc_new _ _)]; exact ⟨rfl, rfl⟩
  have hgl : Row g A.lin 122 (2 * s.L) (lfun s hv) := by rw [hg]; exact hlin.alloc _
  have hgh : ∀ n, n < s.L → Hist g F n (hv n) (s.hist n) := fun n hn => (hhist n hn).of_agree (fun k hk => by rw [hg]; exact heap_alloc_lt (h.lt k (by rw [hk]; simp)))
  have hL : off / 64 < s.L := by omega
  have hll : (s.hist (off / 64)).length ≤ 1000000 := by unfold DSt.hist; rw [List.length_drop]; omega
  obtain ⟨v', w1, F1, hrun, h1, honly, hs, hlt, hF⟩ := (hgh _ hL).append hgd.lt hll w.heap.size off v hga.1 hga.2
  obtain ⟨r1, r2⟩ := hgd.write ho hvv hlen hgl hgh h1 honly hs hlt hF
  obtain ⟨ha, hln, hcp, hv'⟩ : ∃ ha hln hcp, v' = .slice ha hln hcp := by
    rcases h1 with ⟨_, e⟩ | ⟨b, o, cap, c, e, _⟩
    · exact ⟨_, _, _, e⟩
    · exact ⟨_, _, _, e⟩
  subst hv'
  have fcur1 : F1 A.cur = some (2, 0) := (hF _ (by rw [h.fcur]; simp)).trans h.fcur
  have keep : ∀ k q, F k = some q → q ≠ (6, off / 64) → w1.heap[k]? = g.heap[k]? := fun k q hk hq => honly.block k (hgd.lt k (by rw [hk]; simp)) (fun e => hq (by rw [hk] at e; exact Option.some.inj e))
  have hgd2 : Row w1 A.d 89 15 (dfun A s) := hgd.dev.of_block (keep _ _ h.fd (by simp))
  have hgt2 : Row w1 (A.t i) 118 4 (tfun A s i) := (hgd.thr i hi).of_block (keep _ _ (h.ft i hi) (by simp))
  have hgl2 := hgl.of_block (keep _ _ h.flin (by simp))
  have hgc2 := hgd.cur.of_block (keep _ _ h.fcur (by simp))
  have f1 : w1.frozen? ⟨A.lin, off / 64 * 2 + 1, none⟩ = false := hgl2.free _
  have k1 : (w1.cell? ⟨A.lin, off / 64 * 2 + 1, none⟩) = some (lfun s hv (off / 64 * 2 + 1)) := hgl2.cell _ (by omega)
  have k2 : (w1.setCell ⟨A.lin, off / 64 * 2 + 1, none⟩ (.slice ha hln hcp)).cell? ⟨A.t i, 0, none⟩ = some (.pointer (some ⟨A.d, 0, none⟩)) := (hgt2.set_other (role_ne (h.ft i hi) h.flin (by simp))).cell 0 (by omega)
  have k3 : (w1.setCell ⟨A.lin, off / 64 * 2 + 1, none⟩ (.slice ha hln hcp)).cell? ⟨A.d, 1, none⟩ = some (.slice (some ⟨A.cur, 0, none⟩) (8 * s.L) A.cap) := (hgd2.set_other (role_ne h.fd h.flin (by simp))).cell 1 (by omega)
  have k4 : (w1.setCell ⟨A.lin, off / 64 * 2 + 1, none⟩ (.slice ha hln hcp)).cell? ⟨A.cur, off / 8, none⟩ = some (u64 (s.cur (off / 8))) := (hgc2.set_other (role_ne h.fcur h.flin (by simp))).cell _ (by omega)
  have k5 : (w1.setCell ⟨A.lin, off / 64 * 2 + 1, none⟩ (.slice ha hln hcp)).frozen? ⟨A.cur, off / 8, none⟩ = false := (hgc2.set_other (role_ne h.fcur h.flin (by simp))).free _
  have b0 : (off : Int) < 18446744073709551616 := by omega
  have b1 : (off : Int) / 64 < s.L := by omega
  have b2 : (off : Int) / 8 < ((8 * s.L : Nat) : Int) := by omega
  have H1 := Lib.hid r1; have H2 := Lib.hid (hgm.trans r2)
  rw [hg] at hrun
  clear r1 r2 hgc2 hgl2 hgt2 hgd2 keep fcur1 hF hlt hs honly h1 hgh hgl hga hgm hgd hg h hlin hhist hw ho hL hll hlen hex hLL hvv hi g
  simp only [ptr, u64] at *
  go_enter Tryz.func55, Tryz.ntmps55
  go_wp2_with (at_builtin; refine wpList_append_run rfl _ _ _ rfl _ _ _ _ rfl rfl hrun ?_)
  go_returns
  exact ⟨rfl, F1, H1.out, H2.out⟩
end Go.Proofs.YtjoipeojenfiiaaGreatDoor.Dv
