/-
  write, Store of the package device.
  Store, Flush, Arm of the package device.
  apply, persist, Fence of the package device.
-/
import Derived.Test.YtejlgnebofdijaaGreatDoorMDevW1
import Derived.Deep.AppendSrc
import Derived.Deep.Upon
import Derived.Great.BuildSlice
namespace Go.Proofs.YtejlgnebofdijaaGreatDoor.Dv
open Go.RowKit

theorem infoWrite : (Tryz.prog.info? 66).map (fun i => (i.zero, i.size, i.bytes)) = some (some (.agg #[.int .u64 0, .int .u64 0]), 2, 16) := by kernel_rfl

theorem wpList_append_run {P : Program} {ops : Array Oper} {rest : List Oper} {o : Oper} {a : Act} {w : World} {Q : Exit → Act → World → Prop} (hg : o.guard = none) (s x : Operand) (t : TypeId)
    (ho : o.op = .call { callee := .builtin .append, args := #[s, x], argTypes := #[t, t] }) (v xv v' : Value) (w' : World) (hs : a.eval s = v) (hx : a.eval x = xv)
    (hrun : ∀ ty, (Builtin.append_ #[t, t] ty #[v, xv]).run P w = .ok v' w') (h : wpList P ops Q rest (a.put o.dst v') w') : wpList P ops Q (o :: rest) a w := by
  refine wpList_plain hg fun _ hK => ?_
  unfold Oper.wp
  simp [execOp, ho, resolve, invoke, builtin, hs, hx, hrun, Result.andThen]
  exact hK _ _ h

/-- append of one store to a history. -/
theorem Hist.append {w : World} {F : Nat → Option Role} {n : Nat} {v : Value} {l : List (Nat × Nat)} (h : Hist w F n v l) (hF : ∀ k, F k ≠ none → k < w.heap.size) (hl : l.length ≤ 1000000)
    (gb a b : Nat) (ha : w.cell? ⟨gb, 0, none⟩ = some (u64 a)) (hb : w.cell? ⟨gb, 1, none⟩ = some (u64 b)) :
    ∃ v' w' F', (∀ ty, (Builtin.append_ #[67, 67] ty #[v, .slice (some ⟨gb, 0, none⟩) 1 1]).run Tryz.prog w = .ok v' w') ∧ Hist w' F' n v' (l ++ [(a, b)]) ∧
      Only (fun k => F k = some (6, n)) w w' ∧ (∀ k, k < w.heap.size → F' k = F k) ∧ (∀ k, F' k ≠ none → k < w'.heap.size) ∧ (∀ k, F k ≠ none → F' k = F k) := by
  obtain ⟨i, hi, hz, hsz, hby⟩ := info_parts infoWrite
  have hsrc : Src Tryz.prog i.size 67 (.slice (some ⟨gb, 0, none⟩) 1 1) 1 [u64 a, u64 b] w := by
    refine Src.ofSlice w Tryz.underlying67 ⟨gb, 0, none⟩ 1 1 [u64 a, u64 b] (by rw [hsz]; rfl) ?_ ?_
    · intro j u hj
      match j with
      | 0 => simp only [List.getElem?_cons_zero, Option.some.injEq] at hj; rw [← hj]; exact ha
      | 1 => simp only [List.getElem?_cons_succ, List.getElem?_cons_zero, Option.some.injEq] at hj; rw [← hj]; exact hb
      | j + 2 => simp at hj
    · intro u hu
      simp only [List.mem_cons, List.not_mem_nil, or_false] at hu
      rcases hu with rfl | rfl <;> rfl
  have hgrow : ∀ (base : Option Addr) (sCap : Nat) (olds : List Value), v = .slice base l.length sCap → (Builtin.firstCells i.size l.length (.slice base l.length sCap)).run Tryz.prog w.drew = .ok olds.toArray w.drew →
      olds.length = 2 * l.length → (∀ j p, l[j]? = some p → olds[2 * j]? = some (u64 p.1) ∧ olds[2 * j + 1]? = some (u64 p.2)) → sCap < l.length + 1 → sCap ≤ 1000001 →
      ∃ v' w' F', (∀ ty, (Builtin.append_ #[67, 67] ty #[v, .slice (some ⟨gb, 0, none⟩) 1 1]).run Tryz.prog w = .ok v' w') ∧ Hist w' F' n v' (l ++ [(a, b)]) ∧
      Only (fun k => F k = some (6, n)) w w' ∧ (∀ k, k < w.heap.size → F' k = F k) ∧ (∀ k, F' k ≠ none → k < w'.heap.size) ∧ (∀ k, F k ≠ none → F' k = F k) := by
    intro base sCap olds hv hold hlen hcells hcap hc2
    subst hv
    have hrun := fun ty => run_append_grow_src (P := Tryz.prog) w 67 67 ty 66 i _ Tryz.underlying67 hi hz base l.length sCap olds hold _ 1 _ hsrc hcap (by omega)
      (growslice_fits hcap (by rw [hby]; omega))
    have hge := grownCap_ge w (l.length + 1) sCap 66
    have hcm := grownCap_le_maxLen w (l.length + 1) sCap 66 (by unfold maxLen; omega)
    obtain ⟨C, hC⟩ : ∃ C, C = grownCap w (l.length + 1) sCap 66 := ⟨_, rfl⟩
    rw [← hC] at hge hcm
    simp only [← hC] at hrun
    refine ⟨_, _, fun k => if k = w.heap.size then some (6, n) else F k, hrun, .inr ⟨w.heap.size, 0, C, _, by rw [List.length_append]; rfl, by simp, heap_alloc_new _ _, by rw [List.length_append]; exact hge, hcm, ?_, ?_⟩, ?_, ?_, ?_, ?_⟩
    · simp [Array.size_append, size_zeroCells, Value.cells, hlen]
      omega
    · intro j p hj
      have hsz : olds.length = 2 * l.length := hlen
      rcases Nat.lt_or_ge j l.length with hlt | hge'
      · rw [List.getElem?_append_left hlt] at hj
        obtain ⟨h1, h2⟩ := hcells j p hj
        have e1 : 2 * j < (olds ++ [u64 a, u64 b]).length := by simp; omega
        have e2 : 2 * j + 1 < (olds ++ [u64 a, u64 b]).length := by simp; omega
        rw [Nat.zero_add]
        rw [Array.getElem?_append_left (by simpa using e1), Array.getElem?_append_left (by simpa using e2)]
        rw [List.getElem?_toArray, List.getElem?_toArray, List.getElem?_append_left (by omega), List.getElem?_append_left (by omega)]
        exact ⟨h1, h2⟩
      · have : j = l.length := by
          have := (List.getElem?_eq_some_iff.1 hj).1
          simp at this; omega
        subst this
        simp at hj
        subst hj
        rw [Nat.zero_add]
        rw [Array.getElem?_append_left (by simp; omega), Array.getElem?_append_left (by simp; omega)]
        rw [List.getElem?_toArray, List.getElem?_toArray, List.getElem?_append_right (by omega), List.getElem?_append_right (by omega), hsz]
        simp
    · exact ((Only.refl _ _).drew).alloc _
    · intro k hk
      exact if_neg (by omega)
    · intro k hk
      by_cases e : k = w.heap.size
      · rw [e]; simp
      · dsimp only at hk; rw [if_neg e] at hk
        have := hF k hk
        simp; omega
    · intro k hk
      exact if_neg (by have := hF k hk; omega)
  rcases h with ⟨hl0, hv⟩ | ⟨bb, o, cap, c, hv, hFb, hbl, hlc, hcm, hcs, hcells⟩
  · subst hl0
    exact hgrow none 0 [] hv (run_firstCells_none _ _ _ _ _) rfl (fun j p hj => by simp at hj) (by omega) (by omega)
  · by_cases hroom : l.length + 1 ≤ cap
    · subst hv
      have hin : ∀ j, j < 2 → o + l.length * i.size + j < c.size := by intro j hj; rw [hsz]; omega
      have hrun := fun ty => run_append_room_src (P := Tryz.prog) w 67 67 ty 66 i Tryz.underlying67 hi bb o l.length cap _ 1 _ hsrc hroom
        (fun j hj => by rw [cell_block hbl, Array.getElem?_eq_getElem (hin j hj)]; rfl) (fun j hj => free_block hbl)
      rw [hsz] at hrun hin
      refine ⟨_, _, F, hrun, .inr ⟨bb, o, cap, _, by rw [List.length_append]; rfl, hFb, heap_set (heap_set hbl), by rw [List.length_append]; exact hroom, hcm, by simpa using hcs, ?_⟩, ?_, fun _ _ => rfl, ?_, fun _ _ => rfl⟩
      · have h0 := hin 0 (by omega)
        have h1 := hin 1 (by omega)
        intro j p hj
        rcases Nat.lt_or_ge j l.length with hlt | hge'
        · rw [List.getElem?_append_left hlt] at hj
          obtain ⟨e1, e2⟩ := hcells j p hj
          rw [Array.getElem?_setIfInBounds, Array.getElem?_setIfInBounds, Array.getElem?_setIfInBounds, Array.getElem?_setIfInBounds]
          rw [if_neg (by omega), if_neg (by omega), if_neg (by omega), if_neg (by omega)]
          exact ⟨e1, e2⟩
        · have : j = l.length := by
            have := (List.getElem?_eq_some_iff.1 hj).1
            simp at this; omega
          subst this
          simp at hj
          subst hj
          constructor
          · rw [Array.getElem?_setIfInBounds, if_neg (by omega), Array.getElem?_setIfInBounds, if_pos (by omega), if_pos (by omega)]
          · rw [Array.getElem?_setIfInBounds, if_pos (by omega), if_pos (by simp; omega)]
      · exact ((Only.refl _ _).set (F := fun k => F k = some (6, n)) hFb _).set hFb _
      · intro k hk; simpa [World.setCells, World.setCell] using hF k hk
    · have hcap : cap = l.length := by omega
      have htake : ∀ j, j < 2 * l.length → (((c.toList.drop o).take (2 * l.length))[j]?) = c[o + j]? := by
        intro j hj
        rw [List.getElem?_take, if_pos hj, List.getElem?_drop, Array.getElem?_toList]
      have hlen2 : ((c.toList.drop o).take (2 * l.length)).length = 2 * l.length := by simp; omega
      refine hgrow (some ⟨bb, o, none⟩) cap ((c.toList.drop o).take (2 * l.length)) hv ?_ hlen2 ?_ (by omega) (by omega)
      · refine run_firstCells_some _ _ _ _ _ _ _ (by rw [hlen2, hsz]; omega) ?_
        intro j u hj
        have hj' : j < 2 * l.length := by have := (List.getElem?_eq_some_iff.1 hj).1; rw [hlen2] at this; exact this
        rw [htake j hj'] at hj
        rw [Addr.add_lit]
        exact (cell_block (w := w) (i := o + j) hbl).trans hj
      · intro j p hj
        have hj' : j < l.length := (List.getElem?_eq_some_iff.1 hj).1
        rw [htake _ (by omega), htake _ (by omega)]
        exact hcells j p hj
def DSt.write (s : DSt) (off v : Nat) : DSt := { s with H := upd s.H (off / 64) (s.H (off / 64) ++ [(off, v)]) }

theorem DSt.write_per {s : DSt} (h : s.Ok) (off v x : Nat) : (s.write off v).per x = s.per x := by
  unfold DSt.per DSt.write upd
  dsimp only
  split
  · rename_i e
    rw [e, List.take_append_of_le_length (h.dn _)]
  · rfl
theorem DSt.write_cur {s : DSt} (off v x : Nat) (ho : off % 8 = 0) : (s.write off v).cur x = if x = off / 8 then v else s.cur x := by
  unfold DSt.cur DSt.write upd
  dsimp only
  by_cases e : x / 8 = off / 64
  · rw [if_pos e, after_snoc]
    dsimp only
    by_cases e2 : off / 8 = x
    · rw [if_pos e2, if_pos e2.symm]
    · rw [if_neg e2, if_neg (fun h => e2 h.symm), e]
  · rw [if_neg e, if_neg (by omega)]
theorem DSt.write_hist {s : DSt} (h : s.Ok) (off v n : Nat) : (s.write off v).hist n = if n = off / 64 then s.hist n ++ [(off, v)] else s.hist n := by
  unfold DSt.hist DSt.write upd
  dsimp only
  split
  · rename_i e
    rw [e, List.drop_append_of_le_length (h.dn _)]
  · rfl
theorem DSt.Ok.write {s : DSt} (h : s.Ok) {off v : Nat} (ho : s.word off = true) (hv : v < 18446744073709551616) (hlen : (s.H (off / 64)).length < s.ex) : (s.write off v).Ok := by
  simp only [DSt.word, Bool.and_eq_true, decide_eq_true_eq] at ho
  refine { h with dn := ?_, word := ?_, len := ?_, note := ?_ }
  · intro n
    have := h.dn n
    unfold DSt.write upd
    dsimp only
    split
    · rename_i e; rw [← e, List.length_append]; omega
    · exact this
  · intro n p hp
    unfold DSt.write upd at hp
    dsimp only at hp
    split at hp
    · rename_i e
      rw [List.mem_append] at hp
      rcases hp with hp | hp
      · rw [← e] at hp; exact h.word n p hp
      · simp only [List.mem_singleton] at hp
        subst hp
        exact ⟨ho.1, e.symm, hv⟩
    · exact h.word n p hp
  · intro n
    have := h.len n
    unfold DSt.write upd
    dsimp only
    split
    · rename_i e; rw [List.length_append]; simp only [List.length_singleton]; omega
    · exact this
  · intro t n p hp
    have := h.note t n p hp
    refine ⟨?_, this.2⟩
    unfold DSt.write upd
    dsimp only
    split
    · rename_i e; rw [← e, List.length_append]; omega
    · exact this.1

/-- The stores that write makes, on the blocks. -/
theorem Dev.write {w w1 : World} {A : DAd} {s : DSt} {F F1 : Nat → Option Role} {v' : Value} {hv : Nat → Value} {off v : Nat} (h : Dev w A s F) (ho : s.word off = true) (hvv : v < 18446744073709551616) (hlen : (s.H (off / 64)).length < s.ex)
    (hlin : Row w A.lin 149 (2 * s.L) (lfun s hv)) (hhist : ∀ n, n < s.L → Hist w F n (hv n) (s.hist n))
    (h1 : Hist w1 F1 (off / 64) v' (s.hist (off / 64) ++ [(off, v)])) (honly : Only (fun k => F k = some (6, off / 64)) w w1) (hs : ∀ k, k < w.heap.size → F1 k = F k) (hlt : ∀ k, F1 k ≠ none → k < w1.heap.size)
    (hF : ∀ k, F k ≠ none → F1 k = F k) :
    Dev ((w1.setCell ⟨A.lin, off / 64 * 2 + 1, none⟩ v').setCell ⟨A.cur, off / 8, none⟩ (u64 v)) A (s.write off v) F1 ∧
      Moved F F1 w ((w1.setCell ⟨A.lin, off / 64 * 2 + 1, none⟩ v').setCell ⟨A.cur, off / 8, none⟩ (u64 v)) := by
  have hw := ho
  simp only [DSt.word, Bool.and_eq_true, decide_eq_true_eq] at hw
  have keep : ∀ k q, F k = some q → q ≠ (6, off / 64) → w1.heap[k]? = w.heap[k]? := fun k q hk hq => honly.block k (h.lt k (by rw [hk]; simp)) (fun e => hq (by rw [hk] at e; exact Option.some.inj e))
  have F1of : ∀ k q, F k = some q → F1 k = some q := fun k q hk => (hF k (by rw [hk]; simp)).trans hk
  have fd := F1of _ _ h.fd
  have fper := F1of _ _ h.fper
  have fcur := F1of _ _ h.fcur
  have flin := F1of _ _ h.flin
  have ft := fun i hi => F1of _ _ (h.ft i hi)
  have fm := fun i hi => F1of _ _ (h.fm i hi)
  refine ⟨{ ok := h.ok.write ho hvv hlen, dev := ?_, per := ?_, cur := ?_, cap := h.cap, lin := ?_, thr := ?_, note := ?_, fd := fd, fper := fper, fcur := fcur, flin := flin, ft := ft, fm := fm, lt := ?_ }, ?_, hs⟩
  · exact (((h.dev.of_block (keep _ _ h.fd (by simp))).set_other (role_ne fd flin (by simp))).set_other (role_ne fd fcur (by simp))).congr (fun x _ => by
      unfold dfun; rfl)
  · exact (((h.per.of_block (keep _ _ h.fper (by simp))).set_other (role_ne fper flin (by simp))).set_other (role_ne fper fcur (by simp))).congr (fun x _ => by rw [DSt.write_per h.ok])
  · refine ((((h.cur.of_block (keep _ _ h.fcur (by simp))).set_other (role_ne fcur flin (by simp))).set (off / 8) (u64 v))).congr (fun x _ => ?_)
    rw [DSt.write_cur _ _ _ hw.1]
    split <;> rfl
  · refine ⟨upd hv (off / 64) v', ?_, ?_⟩
    · refine (((hlin.of_block (keep _ _ h.flin (by simp))).set (off / 64 * 2 + 1) v').set_other (role_ne flin fcur (by simp))).congr (fun x _ => ?_)
      unfold lfun upd
      by_cases e : x = off / 64 * 2 + 1
      · rw [if_pos e, if_neg (by omega), if_pos (by omega)]
      · rw [if_neg e]
        by_cases e2 : x % 2 = 0
        · rw [if_pos e2, if_pos e2]; rfl
        · rw [if_neg e2, if_neg e2, if_neg (by omega)]
    · intro n hn
      rw [DSt.write_hist h.ok]
      unfold upd
      by_cases e : n = off / 64
      · subst e
        rw [if_pos rfl, if_pos rfl]
        exact h1.of_agree (fun k hk => (heap_set_ne (role_ne hk fcur (by simp))).trans (heap_set_ne (role_ne hk flin (by simp))))
      · rw [if_neg e, if_neg e]
        have hh := hhist n hn
        rcases hh with hh | ⟨b, o, cap, c, g1, g2, g3, g4⟩
        · exact .inl hh
        · refine .inr ⟨b, o, cap, c, g1, F1of _ _ g2, ?_, g4⟩
          rw [heap_set_ne (role_ne (F1of _ _ g2) fcur (by simp)), heap_set_ne (role_ne (F1of _ _ g2) flin (by simp)), keep _ _ g2 (by simp [e])]
          exact g3
  · intro i hi
    exact (((h.thr i hi).of_block (keep _ _ (h.ft i hi) (by simp))).set_other (role_ne (ft i hi) flin (by simp))).set_other (role_ne (ft i hi) fcur (by simp))
  · intro i hi
    exact (h.note i hi).of_agree (((heap_set_ne (role_ne (fm i hi) fcur (by simp))).trans (heap_set_ne (role_ne (fm i hi) flin (by simp)))).trans (keep _ _ (h.fm i hi) (by simp)))
  · intro k hk; simpa [World.setCell] using hlt k hk
  · exact ((honly.mono (G := fun k => F k ≠ none) (fun k hk => by rw [hk]; simp)).set (by rw [h.flin]; simp) _).set (by rw [h.fcur]; simp) _
theorem write_dev {w : World} {A : DAd} {s : DSt} {F : Nat → Option Role} (h : Dev w A s F) {i : Nat} (hi : i < 8) {off v : Nat} (ho : s.word off = true) (hvv : v < 18446744073709551616) (hlen : (s.H (off / 64)).length < s.ex) :
    Calls Tryz.prog 170 #[ptr (A.t i), u64 off, u64 v] w fun r w' => r = .returned (.tuple #[]) ∧ ∃ F', Dev w' A (s.write off v) F' ∧ Moved F F' w w' := by
  have hw := ho
  simp only [DSt.word, Bool.and_eq_true, decide_eq_true_eq] at hw
  have hex := h.ok.ex
  have hLL := h.ok.lines
  have c0 : w.cell? ⟨A.t i, 0, none⟩ = some (.pointer (some ⟨A.d, 0, none⟩)) := (h.thr i hi).cell 0 (by omega)
  have c1 : w.cell? ⟨A.d, 2, none⟩ = some (.slice (some ⟨A.lin, 0, none⟩) s.L s.L) := h.dev.cell 2 (by omega)
  obtain ⟨hv, hlin, hhist⟩ := h.lin
  have c2 : w.cell? ⟨A.lin, off / 64 * 2 + 1, none⟩ = some (hv (off / 64)) := by
    rw [hlin.cell (off / 64 * 2 + 1) (by omega)]
    unfold lfun
    rw [if_neg (by omega)]
    congr 2; omega
  obtain ⟨g, hg⟩ : ∃ g, g = w.alloc (.cells #[u64 off, u64 v] 66) := ⟨_, rfl⟩
  have hgd : Dev g A s F := by rw [hg]; exact h.alloc _
  have hgm : Moved F F w g := by rw [hg]; exact ⟨(Only.refl _ _).alloc _, fun _ _ => rfl⟩
  have hga : g.cell? ⟨w.heap.size, 0, none⟩ = some (u64 off) ∧ g.cell? ⟨w.heap.size, 1, none⟩ = some (u64 v) := by
    rw [hg, cell_block (heap_alloc_new _ _), cell_block (heap_alloc_new _ _)]; exact ⟨rfl, rfl⟩
  have hgl : Row g A.lin 149 (2 * s.L) (lfun s hv) := by rw [hg]; exact hlin.alloc _
  have hgh : ∀ n, n < s.L → Hist g F n (hv n) (s.hist n) := fun n hn => (hhist n hn).of_agree (fun k hk => by rw [hg]; exact heap_alloc_lt (h.lt k (by rw [hk]; simp)))
  have hL : off / 64 < s.L := by omega
  have hll : (s.hist (off / 64)).length ≤ 1000000 := by unfold DSt.hist; rw [List.length_drop]; omega
  obtain ⟨v', w1, F1, hrun, h1, honly, hs, hlt, hF⟩ := (hgh _ hL).append hgd.lt hll w.heap.size off v hga.1 hga.2
  obtain ⟨r1, r2⟩ := hgd.write ho hvv hlen hgl hgh h1 honly hs hlt hF
  obtain ⟨ha, hln, hcp, hv'⟩ : ∃ ha hln hcp, v' = .slice ha hln hcp := by
    rcases h1 with ⟨_, e⟩ | ⟨b, o, cap, c, e, _⟩
    · exact ⟨_, _, _, e⟩
    · exact ⟨_, _, _, e⟩
  subst hv'
  have fcur1 : F1 A.cur = some (2, 0) := (hF _ (by rw [h.fcur]; simp)).trans h.fcur
  have keep : ∀ k q, F k = some q → q ≠ (6, off / 64) → w1.heap[k]? = g.heap[k]? := fun k q hk hq => honly.block k (hgd.lt k (by rw [hk]; simp)) (fun e => hq (by rw [hk] at e; exact Option.some.inj e))
  have hgd2 : Row w1 A.d 87 15 (dfun A s) := hgd.dev.of_block (keep _ _ h.fd (by simp))
  have hgt2 : Row w1 (A.t i) 113 4 (tfun A s i) := (hgd.thr i hi).of_block (keep _ _ (h.ft i hi) (by simp))
  have hgl2 := hgl.of_block (keep _ _ h.flin (by simp))
  have hgc2 := hgd.cur.of_block (keep _ _ h.fcur (by simp))
  have f1 : w1.frozen? ⟨A.lin, off / 64 * 2 + 1, none⟩ = false := hgl2.free _
  have k1 : (w1.cell? ⟨A.lin, off / 64 * 2 + 1, none⟩) = some (lfun s hv (off / 64 * 2 + 1)) := hgl2.cell _ (by omega)
  have k2 : (w1.setCell ⟨A.lin, off / 64 * 2 + 1, none⟩ (.slice ha hln hcp)).cell? ⟨A.t i, 0, none⟩ = some (.pointer (some ⟨A.d, 0, none⟩)) := (hgt2.set_other (role_ne (h.ft i hi) h.flin (by simp))).cell 0 (by omega)
  have k3 : (w1.setCell ⟨A.lin, off / 64 * 2 + 1, none⟩ (.slice ha hln hcp)).cell? ⟨A.d, 1, none⟩ = some (.slice (some ⟨A.cur, 0, none⟩) (8 * s.L) A.cap) := (hgd2.set_other (role_ne h.fd h.flin (by simp))).cell 1 (by omega)
  have k4 : (w1.setCell ⟨A.lin, off / 64 * 2 + 1, none⟩ (.slice ha hln hcp)).cell? ⟨A.cur, off / 8, none⟩ = some (u64 (s.cur (off / 8))) := (hgc2.set_other (role_ne h.fcur h.flin (by simp))).cell _ (by omega)
  have k5 : (w1.setCell ⟨A.lin, off / 64 * 2 + 1, none⟩ (.slice ha hln hcp)).frozen? ⟨A.cur, off / 8, none⟩ = false := (hgc2.set_other (role_ne h.fcur h.flin (by simp))).free _
  have b0 : (off : Int) < 18446744073709551616 := by omega
  have b1 : (off : Int) / 64 < s.L := by omega
  have b2 : (off : Int) / 8 < ((8 * s.L : Nat) : Int) := by omega
  have H1 := Lib.hid r1; have H2 := Lib.hid (hgm.trans r2)
  rw [hg] at hrun
  clear r1 r2 hgc2 hgl2 hgt2 hgd2 keep fcur1 hF hlt hs honly h1 hgh hgl hga hgm hgd hg h hlin hhist hw ho hL hll hlen hex hLL hvv hi g
  simp only [ptr, u64] at *
  go_enter Tryz.func170, Tryz.ntmps170
  go_wp2_with (at_builtin; refine wpList_append_run rfl _ _ _ rfl _ _ _ _ rfl rfl hrun ?_)
  go_returns
  exact ⟨rfl, F1, H1.out, H2.out⟩
end Go.Proofs.YtejlgnebofdijaaGreatDoor.Dv

namespace Go.Proofs.YtejlgnebofdijaaGreatDoor.Dv
open Go.RowKit

def DSt.store (s : DSt) (i off v : Nat) : DSt := if (s.cnt i (s.word off)).2 then (s.cnt i (s.word off)).1.write off v else (s.cnt i (s.word off)).1

theorem cnt_true {s : DSt} {i : Nat} {b : Bool} (h : (s.cnt i b).2 = true) : s.off = false ∧ b = true ∧ (s.cnt i b).1 = s.ctl false s.armed (if s.armed then s.left - 1 else s.left) (s.ex + 1) := by
  unfold DSt.cnt at *
  cases ho : s.off
  · rw [ho] at h
    cases b
    · simp at h
    · simp only [Bool.false_eq_true, if_false] at *
      by_cases hh : (s.armed && decide (s.left = 0)) = true
      · rw [if_pos hh] at h; simp at h
      · refine ⟨trivial, trivial, ?_⟩
        rw [if_neg (by simp), if_neg hh]
  · rw [ho] at h; simp at h

theorem store_dev {w : World} {A : DAd} {s : DSt} {F : Nat → Option Role} (h : Dev w A s F) {i : Nat} (hi : i < 8) {off v : Nat} (ho : off < 18446744073709551616) (hvv : v < 18446744073709551616) (hx : s.ex < 1000000) :
    Calls Tryz.prog 167 #[ptr (A.t i), u64 off, u64 v] w fun r w' => r = .returned (.tuple #[]) ∧ ∃ F', Dev w' A (s.store i off v) F' ∧ Moved F F' w w' := by
  have c0 : w.cell? ⟨A.t i, 0, none⟩ = some (.pointer (some ⟨A.d, 0, none⟩)) := (h.thr i hi).cell 0 (by omega)
  have HH := Lib.hid h.ok
  have HW := Lib.hid (word_dev h hi off ho)
  have HC := Lib.hid (counted_dev h hi (s.word off) hx)
  clear h
  unfold DSt.store
  cases hok : (s.cnt i (s.word off)).2
  · rw [hok] at HC
    simp only [ptr, u64]
    go_enter Tryz.func167, Tryz.ntmps167
    go_wp2_with fail
    refine HW.out.mono ?_
    rintro e w' ⟨rfl, rfl⟩
    go_wp2_with fail
    refine HC.out.mono ?_
    rintro e w' ⟨rfl, h1, h2⟩
    have H2 := Lib.hid h1; have H3 := Lib.hid h2; clear h1 h2
    go_wp2_with fail
    go_returns
    exact ⟨rfl, F, H2.out, H3.out⟩
  · rw [hok] at HC
    obtain ⟨q1, q2, q3⟩ := cnt_true hok
    have HQ := Lib.hid q2; have HQ3 := Lib.hid q3
    clear q1 q2 q3
    simp only [ptr, u64]
    go_enter Tryz.func167, Tryz.ntmps167
    go_wp2_with fail
    refine HW.out.mono ?_
    rintro e w' ⟨rfl, rfl⟩
    go_wp2_with fail
    refine HC.out.mono ?_
    rintro e w' ⟨rfl, h1, h2⟩
    have hs := write_dev h1 hi (off := off) (v := v) (by rw [HQ3.out]; exact HQ.out) hvv (by rw [HQ3.out]; have := HH.out.len (off / 64); unfold DSt.ctl; dsimp only; omega)
    have H2 := Lib.hid hs; have H3 := Lib.hid h2; clear h1 h2 hs
    go_wp2_with fail
    refine H2.out.mono ?_
    rintro e w'' ⟨rfl, F', h3, h4⟩
    have H4 := Lib.hid h3; have H5 := Lib.hid (H3.out.trans h4); clear h3 h4
    go_wp2_with fail
    go_returns
    exact ⟨rfl, F', H4.out, H5.out⟩
def DSt.setNote (s : DSt) (i : Nat) (f : Nat → Option Nat) (nb : Nat) : DSt := { s with notes := upd s.notes i f, nb := nb }
theorem Dev.setNote {w w' : World} {A : DAd} {s : DSt} {F : Nat → Option Role} (h : Dev w A s F) {i nb : Nat} {f : Nat → Option Nat} (hi : i < 8) (hg : w.grownBy w' (some (A.m i))) (hn : Notes w' (A.m i) nb f)
    (hf : ∀ n p, f n = some p → p ≤ (s.H n).length ∧ n < s.L) (hb : s.nb ≤ nb) (hb' : nb ≤ s.ex) : Dev w' A (s.setNote i f nb) F ∧ Moved F F w w' := by
  have hfm := h.fm i hi
  have keep : ∀ k q, F k = some q → q ≠ (5, i) → w'.heap[k]? = w.heap[k]? := fun k q hk hq => hg.block k (h.lt k (by rw [hk]; simp)) (fun e => hq (by rw [Option.some.inj e, hfm] at hk; exact (Option.some.inj hk).symm))
  have hnn : ∀ t n p, (s.setNote i f nb).notes t n = some p → p ≤ (s.H n).length ∧ n < s.L := by
    intro t n p hp
    unfold DSt.setNote upd at hp
    dsimp only at hp
    split at hp
    · exact hf n p hp
    · exact h.ok.note t n p hp
  have hok : (s.setNote i f nb).Ok := { h.ok with nb := hb', note := hnn }
  refine ⟨{ h with ok := hok, dev := ?_, per := ?_, cur := ?_, lin := ?_, thr := ?_, note := ?_, lt := ?_ }, ⟨hg.os, hg.tape, hg.output, hg.size, ?_⟩, fun _ _ => rfl⟩
  · exact h.dev.of_block (keep _ _ h.fd (by simp))
  · exact h.per.of_block (keep _ _ h.fper (by simp))
  · exact h.cur.of_block (keep _ _ h.fcur (by simp))
  · obtain ⟨hv, h1, h2⟩ := h.lin
    exact ⟨hv, h1.of_block (keep _ _ h.flin (by simp)), fun n hn => (h2 n hn).of_agree (fun k hk => keep _ _ hk (by simp))⟩
  · intro j hj
    exact (h.thr j hj).of_block (keep _ _ (h.ft j hj) (by simp))
  · intro j hj
    unfold DSt.setNote upd
    dsimp only
    by_cases e : j = i
    · subst e; rw [if_pos rfl]; exact hn
    · rw [if_neg e]
      exact ((h.note j hj).of_agree (keep _ _ (h.fm j hj) (by simp [e]))).mono hb
  · intro k hk; exact Nat.lt_of_lt_of_le (h.lt k hk) hg.size
  · intro k hk hf
    exact hg.block k hk (fun e => hf (by rw [Option.some.inj e, hfm]; simp))

theorem Notes.put {w' : World} {b ex : Nat} {f : Nat → Option Nat} {D : DataW Unit} {n p : Nat} (hD : (∀ k : Int, Maps.has D (.int .i64 k) = true → 0 ≤ k) ∧
    ∀ n : Nat, (Maps.has D (.int .i64 n) = (f n).isSome) ∧ ∀ p zd, f n = some p → D.atKey (.int .i64 n) zd = .lit (.int .u64 p)) (hm : Maps.IsMap D)
    (h : w'.ownsMap Tryz.prog 3 (plainElem Tryz.prog 48) b ex (D.put (.int .i64 n) (.lit (.int .u64 p)))) : Notes w' b ex (upd f n (some p)) := by
  refine ⟨_, h, ?_, ?_⟩
  · intro k hk
    by_cases e : k = (n : Int)
    · omega
    · rw [Maps.has_put_other (by simp [e])] at hk
      exact hD.1 k hk
  · intro m
    unfold upd
    by_cases e : m = n
    · subst e
      rw [if_pos rfl]
      refine ⟨by rw [Maps.has_put_same hm (show WideAt.IsKeyLit (Lit.int .i64 (m : Int)) from trivial)]; rfl, fun q zd hq => ?_⟩
      rw [Maps.atKey_put_same hm (show WideAt.IsKeyLit (Lit.int .i64 (m : Int)) from trivial), Option.some.inj hq]
    · rw [if_neg e]
      have hne : (Lit.int .i64 (m : Int)) ≠ Lit.int .i64 (n : Int) := by simp; omega
      refine ⟨by rw [Maps.has_put_other hne]; exact (hD.2 m).1, fun q zd hq => ?_⟩
      rw [Maps.atKey_put_other hne]
      exact (hD.2 m).2 q zd hq

theorem wf_i64 {z : Int} (h1 : -9223372036854775808 ≤ z) (h2 : z ≤ 9223372036854775807) : (Lit.int .i64 z).wf = true := by
  have e1 : IntKind.i64.min = -9223372036854775808 := by decide
  have e2 : IntKind.i64.max = 9223372036854775807 := by decide
  simp only [Lit.wf, e1, e2, Bool.and_eq_true, decide_eq_true_eq]
  exact ⟨h1, h2⟩
theorem wf_u64 {z : Int} (h1 : 0 ≤ z) (h2 : z ≤ 18446744073709551615) : (Lit.int .u64 z).wf = true := by
  have e1 : IntKind.u64.min = 0 := by decide
  have e2 : IntKind.u64.max = 18446744073709551615 := by decide
  simp only [Lit.wf, e1, e2, Bool.and_eq_true, decide_eq_true_eq]
  exact ⟨h1, h2⟩
theorem keyed_int : Maps.Keyed Tryz.prog 3 := Maps.int_keyed Tryz.underlying3
theorem ownsMap_isMap {w : World} {P : Program} {k : TypeId} {R : Value → Option (DataW Unit × List MemPlace)} {b n : Nat} {D : DataW Unit} (h : w.ownsMap P k R b n D) : Maps.IsMap D := by
  obtain ⟨es, clock, _, _, _, hD⟩ := h
  exact ⟨_, hD⟩

def DSt.flushed (s : DSt) (i off : Nat) : DSt := s.setNote i (upd (s.notes i) (off / 64) (some (s.H (off / 64)).length)) (s.nb + 1)
def DSt.flush (s : DSt) (i off : Nat) : DSt :=
  if (s.cnt i (decide (off < s.L * 64))).2 then (s.cnt i (decide (off < s.L * 64))).1.flushed i off else (s.cnt i (decide (off < s.L * 64))).1

set_option maxRecDepth 4000 in
theorem flush_dev {w : World} {A : DAd} {s : DSt} {F : Nat → Option Role} (h : Dev w A s F) {i : Nat} (hi : i < 8) {off : Nat} (ho : off < 18446744073709551616) (hx : s.ex < 1000000) :
    Calls Tryz.prog 165 #[ptr (A.t i), u64 off] w fun r w' => r = .returned (.tuple #[]) ∧ Dev w' A (s.flush i off) F ∧ Moved F F w w' := by
  have c0 : w.cell? ⟨A.t i, 0, none⟩ = some (.pointer (some ⟨A.d, 0, none⟩)) := (h.thr i hi).cell 0 (by omega)
  have HH := Lib.hid h.ok
  have hsz := size_dev h
  have d3 : decide ((off : Int) < ((s.L * 64 : Nat) : Int)) = decide (off < s.L * 64) := by apply decide_eq_decide.2; omega
  obtain ⟨M, hM⟩ : ∃ M : Int, M = ((s.L * 64 : Nat) : Int) := ⟨_, rfl⟩
  rw [← hM] at hsz d3
  have HS := Lib.hid hsz
  have HC := Lib.hid (counted_dev h hi (decide (off < s.L * 64)) hx)
  clear h hsz hM
  unfold DSt.flush
  obtain ⟨val, hval⟩ : ∃ val, val = decide (off < s.L * 64) := ⟨_, rfl⟩
  rw [← hval] at HC d3 ⊢
  have HV := Lib.hid hval; clear hval
  have ho2 : (off : Int) < 18446744073709551616 := by omega
  cases hok : (s.cnt i val).2
  · rw [hok] at HC
    simp only [ptr, u64]
    go_enter Tryz.func165, Tryz.ntmps165
    go_wp2_with fail
    refine HS.out.mono ?_
    rintro e w' ⟨rfl, rfl⟩
    go_wp2_with fail
    refine HC.out.mono ?_
    rintro e w' ⟨rfl, h1, h2⟩
    have H2 := Lib.hid h1; have H3 := Lib.hid h2; clear h1 h2 d3 hok
    go_wp2_with (refine bodyPost_ret (results_none rfl _ _ _) rfl ?_)
    exact ⟨H2.out, H3.out⟩
  · rw [hok] at HC
    obtain ⟨q1, q2, q3⟩ := cnt_true hok
    have hlt : off < s.L * 64 := by rw [q2] at HV; simpa using HV.out.symm
    obtain ⟨s1, hs1⟩ : ∃ s1, s1 = (s.cnt i val).1 := ⟨_, rfl⟩
    rw [← hs1] at HC q3 ⊢
    have e1 : s1.L = s.L := by rw [q3]; rfl
    have e2 : s1.nb < s1.ex := by rw [q3]; have := HH.out.nb; unfold DSt.ctl; dsimp only; omega
    have e3 : s1.H = s.H := by rw [q3]; rfl
    clear hs1 q1 q2 q3 hok
    have E2 := Lib.hid e2; clear e2
    have E3 := Lib.hid e3; clear e3
    have hoff2 : (off : Int) / 64 < s1.L := by rw [e1]; omega
    have hoff3 : (off : Int) / 64 ≤ 9223372036854775807 := by omega
    have HL := Lib.hid hlt; clear hlt
    have HE := Lib.hid e1; clear e1
    simp only [ptr, u64]
    go_enter Tryz.func165, Tryz.ntmps165
    go_wp2_with fail
    refine HS.out.mono ?_
    rintro e w' ⟨rfl, rfl⟩
    go_wp2_with fail
    refine HC.out.mono ?_
    rintro e w' ⟨rfl, h1, h2⟩
    have hL : off / 64 < s1.L := by omega
    have k0 : w'.cell? ⟨A.t i, 0, none⟩ = some (.pointer (some ⟨A.d, 0, none⟩)) := (h1.thr i hi).cell 0 (by omega)
    have k1 : w'.cell? ⟨A.d, 2, none⟩ = some (.slice (some ⟨A.lin, 0, none⟩) s1.L s1.L) := h1.dev.cell 2 (by omega)
    have k3 : w'.cell? ⟨A.t i, 3, none⟩ = some (.map (some (A.m i))) := (h1.thr i hi).cell 3 (by omega)
    obtain ⟨hv, hlin, hhist⟩ := h1.lin
    have k4 : w'.cell? ⟨A.lin, off / 64 * 2, none⟩ = some (.int .u64 (s1.dn (off / 64))) := by
      rw [hlin.cell _ (by omega)]
      unfold lfun
      rw [if_pos (by omega)]
      unfold u64; congr 4; omega
    obtain ⟨ha, hcp, hv'⟩ : ∃ ha hcp, hv (off / 64) = .slice ha (s1.hist (off / 64)).length hcp := by
      rcases hhist (off / 64) hL with ⟨e0, e⟩ | ⟨b, o, cap, c, e, _⟩
      · rw [e0]; exact ⟨_, _, e⟩
      · exact ⟨_, _, e⟩
    have k5 : w'.cell? ⟨A.lin, off / 64 * 2 + 1, none⟩ = some (.slice ha (s1.hist (off / 64)).length hcp) := by
      rw [hlin.cell _ (by omega), ← hv']
      unfold lfun
      rw [if_neg (by omega)]
      congr 2; omega
    have hdn := h1.ok.dn (off / 64)
    have hlen := h1.ok.len (off / 64)
    have hex := h1.ok.ex
    have hh : (s1.hist (off / 64)).length = (s1.H (off / 64)).length - s1.dn (off / 64) := by unfold DSt.hist; rw [List.length_drop]
    obtain ⟨D, hown, hD⟩ := h1.note i hi
    have hL4 := h1.ok.lines
    have wf1 : (Lit.int .i64 ((off / 64 : Nat) : Int)).wf = true := wf_i64 (by omega) (by omega)
    have wf2 : (Lit.int .u64 ((s1.H (off / 64)).length : Int)).wf = true := wf_u64 (by omega) (by omega)
    have e2' := E2.out
    obtain ⟨w2, hrun, hown2, hgr⟩ := hown.drew.update keyed_int Tryz.underlying111 (by unfold maxLen; omega) (Maps.keyOf_int_mk Tryz.underlying3 wf1) (plainElem_int (H := Unit) Tryz.underlying48 wf2)
    have hn2 := Notes.put hD (ownsMap_isMap hown) hown2
    obtain ⟨g1, g2⟩ := h1.drew.setNote hi hgr hn2 (fun n p hp => by
      unfold upd at hp
      split at hp
      · rename_i e; rw [e]; exact ⟨by have := Option.some.inj hp; omega, hL⟩
      · exact h1.ok.note i n p hp) (Nat.le_succ _) E2.out
    have G1 := Lib.hid g1; have G2 := Lib.hid (h2.trans ⟨((Only.refl _ _).drew).trans g2.only (fun _ _ h => h), fun _ _ => rfl⟩)
    have ek : ((off / 64 : Nat) : Int) = (off : Int) / 64 := by omega
    have el : ((s1.H (off / 64)).length : Int) = (s1.dn (off / 64) : Int) + ((s1.hist (off / 64)).length : Int) := by rw [hh]; omega
    rw [ek, el] at hrun
    have bb : (s1.dn (off / 64) : Int) + ((s1.hist (off / 64)).length : Int) ≤ 1000000 := by rw [← el]; omega
    have bc : ((s1.hist (off / 64)).length : Int) ≤ 1000000 := by rw [hh]; omega
    clear wf1 wf2 hn2 g1 g2 ek el hgr hown2 hown hD hh hex hlen hdn hv' hlin hhist h1 h2 hL hL4 d3
    go_wp2_with fail
    go_region
    go_returns
    exact ⟨rfl, G1.out, G2.out⟩
end Go.Proofs.YtejlgnebofdijaaGreatDoor.Dv

namespace Go.Proofs.YtejlgnebofdijaaGreatDoor.Dv
open Go.RowKit

def ApRel (l : List (Nat × Nat)) (w : World) (B N : Nat) (g : Nat → Nat) (i : Value) (wr : World) : Prop :=
  ∃ k : Nat, k ≤ l.length ∧ i = .int .i64 k ∧ Row wr B 48 N (fun x => u64 (after (g x) x (l.take k))) ∧ Only (fun b => b = B) w wr

theorem take_snoc {l : List (Nat × Nat)} {k : Nat} (h : k < l.length) : l.take (k + 1) = l.take k ++ [l[k]] := by
  rw [List.take_add_one, List.getElem?_eq_getElem h]; rfl

theorem apply_any {w : World} {B N : Nat} {g : Nat → Nat} {l : List (Nat × Nat)} {bs o wc sc : Nat} (hrow : Row w B 48 N (fun x => u64 (g x))) (hne : bs ≠ B)
    (hc : ∀ i p, l[i]? = some p → w.cell? ⟨bs, o + 2 * i, none⟩ = some (u64 p.1) ∧ w.cell? ⟨bs, o + 2 * i + 1, none⟩ = some (u64 p.2)) (hl : ∀ p ∈ l, p.1 / 8 < N ∧ p.1 < 18446744073709551616 ∧ p.2 < 18446744073709551616) (hlen : l.length ≤ 1000000) :
    Calls Tryz.prog 57 #[.slice (some ⟨B, 0, none⟩) N wc, .slice (some ⟨bs, o, none⟩) l.length sc] w fun r w' =>
      r = .returned (.tuple #[]) ∧ Row w' B 48 N (fun x => u64 (after (g x) x l)) ∧ Only (fun b => b = B) w w' := by
  have HR := Lib.hid hrow; have HC := Lib.hid hc; have HL := Lib.hid hl; have HN := Lib.hid hne
  clear hrow hc hl hne
  have hlen2 : (l.length : Int) ≤ 1000000 := by omega
  go_enter Tryz.func57, Tryz.ntmps57
  go_wp2_with fail
  go_loopw [8] (fun i wr => ApRel l w B N g i wr) (fun i _ => l.length - (intOf i).toNat)
  case atStart => exact ⟨0, by omega, rfl, HR.out, Only.refl _ _⟩
  case round =>
    obtain ⟨k, hk, rfl, hrow, honly⟩ := hrel
    by_cases hlt : k < l.length
    · have hlt2 : (k : Int) < l.length := by omega
      have hg : l[k]? = some l[k] := List.getElem?_eq_getElem hlt
      obtain ⟨p, hp⟩ : ∃ p, p = l[k] := ⟨_, rfl⟩
      rw [← hp] at hg
      obtain ⟨h1, h2⟩ := HC.out k p hg
      obtain ⟨b1, b2, b3⟩ := HL.out p (by rw [hp]; exact List.getElem_mem hlt)
      have c1 := honly.cell h1 HN.out
      have c2 := honly.cell h2 HN.out
      have hrow2 := hrow.alloc (.cells #[u64 p.1, u64 p.2] 66)
      have c3 := hrow2.cell (p.1 / 8) b1
      have f3 := hrow2.free (p.1 / 8)
      have HR2 := Lib.hid (hrow2.set (p.1 / 8) (u64 p.2))
      have HO2 := Lib.hid ((honly.alloc (.cells #[u64 p.1, u64 p.2] 66)).set (b := B) (i := p.1 / 8) rfl (u64 p.2))
      have HP := Lib.hid hp; clear hp
      have e1 : o + k * 2 = o + 2 * k := by omega
      have bi1 : (p.1 : Int) / 8 < N := by omega
      have bi2 : (p.1 : Int) < 18446744073709551616 := by omega
      rw [← e1] at c1 c2
      clear h1 h2 hrow2 hrow honly e1 hg b1 b2 b3
      unfold u64 at *
      go_wp2_with fail
      go_roundw
      case rel =>
        refine ⟨k + 1, by omega, by go_num, ?_, HO2.out⟩
        refine HR2.out.congr (fun x hx => ?_)
        rw [take_snoc (by omega), after_snoc, ← HP.out]
        by_cases e : p.1 / 8 = x
        · rw [if_pos e, if_pos e.symm]; rfl
        · rw [if_neg e, if_neg (fun h => e h.symm)]; rfl
      case measure => simp [intOf]; omega
    · obtain rfl : k = l.length := by omega
      rw [List.take_length] at hrow
      have H1 := Lib.hid hrow; have H2 := Lib.hid honly; clear hrow honly
      go_wp2_with fail
      go_returns
      exact ⟨rfl, H1.out, H2.out⟩
theorem after_other {v x : Nat} {l : List (Nat × Nat)} (h : ∀ p ∈ l, p.1 / 8 ≠ x) : after v x l = v := by
  induction l generalizing v with
  | nil => rfl
  | cons a l ih =>
    unfold after
    rw [if_neg (h a (by simp))]
    exact ih (fun p hp => h p (by simp [hp]))

def DSt.persist (s : DSt) (n k : Nat) : DSt := { s with dn := upd s.dn n (s.dn n + k) }
theorem DSt.persist_cur (s : DSt) (n k x : Nat) : (s.persist n k).cur x = s.cur x := rfl
theorem DSt.persist_hist (s : DSt) (n k m : Nat) : (s.persist n k).hist m = if m = n then (s.hist n).drop k else s.hist m := by
  unfold DSt.hist DSt.persist upd
  dsimp only
  split
  · rename_i e; rw [e, List.drop_drop]
  · rfl
theorem DSt.persist_per {s : DSt} (h : s.Ok) (n k x : Nat) : (s.persist n k).per x = after (s.per x) x ((s.hist n).take k) := by
  unfold DSt.per DSt.persist upd DSt.hist
  dsimp only
  by_cases e : x / 8 = n
  · rw [if_pos e, e, List.take_add, after_append]
  · rw [if_neg e]
    refine (after_other (fun p hp => ?_)).symm
    have h1 := h.word n p (List.mem_of_mem_drop (List.mem_of_mem_take hp))
    omega
theorem DSt.Ok.persist {s : DSt} (h : s.Ok) {n k : Nat} (hk : k ≤ (s.hist n).length) : (s.persist n k).Ok := by
  refine { h with dn := ?_ }
  intro m
  unfold DSt.persist upd
  dsimp only
  have h1 := h.dn n
  unfold DSt.hist at hk
  rw [List.length_drop] at hk
  split
  · rename_i e; rw [e]; omega
  · exact h.dn m
theorem Dev.persist {w w2 : World} {A : DAd} {s : DSt} {F : Nat → Option Role} {n k : Nat} {hv : Nat → Value} {v' : Value} (h : Dev w A s F) (hk : k ≤ (s.hist n).length)
    (hhist : ∀ m, m < s.L → Hist w F m (hv m) (s.hist m))
    (hper : Row w2 A.per 48 (8 * s.L) (fun x => u64 (after (s.per x) x ((s.hist n).take k)))) (hlin : Row w2 A.lin 149 (2 * s.L) (lfun (s.persist n k) (upd hv n v')))
    (hh : Hist w2 F n v' ((s.hist n).drop k)) (honly : Only (fun b => b = A.per ∨ b = A.lin) w w2) : Dev w2 A (s.persist n k) F ∧ Moved F F w w2 := by
  have keep : ∀ b q, F b = some q → q ≠ (1, 0) → q ≠ (3, 0) → w2.heap[b]? = w.heap[b]? := fun b q hb h1 h3 => honly.block b (h.lt b (by rw [hb]; simp)) (fun e => by
    rcases e with e | e
    · rw [e, h.fper] at hb; exact h1 (Option.some.inj hb).symm
    · rw [e, h.flin] at hb; exact h3 (Option.some.inj hb).symm)
  refine ⟨{ h with ok := h.ok.persist hk, dev := ?_, per := ?_, cur := ?_, lin := ?_, thr := ?_, note := ?_, lt := ?_ }, ?_, fun _ _ => rfl⟩
  · exact h.dev.of_block (keep _ _ h.fd (by simp) (by simp))
  · exact hper.congr (fun x _ => by rw [DSt.persist_per h.ok])
  · exact h.cur.of_block (keep _ _ h.fcur (by simp) (by simp))
  · refine ⟨_, hlin, fun m hm => ?_⟩
    rw [DSt.persist_hist]
    unfold upd
    by_cases e : m = n
    · subst e; rw [if_pos rfl, if_pos rfl]; exact hh
    · rw [if_neg e, if_neg e]
      exact (hhist m hm).of_agree (fun b hb => keep _ _ hb (by simp) (by simp))
  · intro j hj
    exact (h.thr j hj).of_block (keep _ _ (h.ft j hj) (by simp) (by simp))
  · intro j hj
    exact (h.note j hj).of_agree (keep _ _ (h.fm j hj) (by simp) (by simp))
  · intro b hb; exact Nat.lt_of_lt_of_le (h.lt b hb) honly.size
  · refine honly.mono (fun b hb => ?_)
    rcases hb with rfl | rfl
    · rw [h.fper]; simp
    · rw [h.flin]; simp
end Go.Proofs.YtejlgnebofdijaaGreatDoor.Dv
