/-
  persist, Fence of the package device.
  Fence of the package device.
-/
import Derived.Test.YtejlgnebofdijaaGreatDoorMDevB
import Derived.StillTailTactics
namespace Go.Proofs.YtejlgnebofdijaaGreatDoor.Dv
open Go.RowKit

/-- What persist leaves of the blocks, once apply has run. -/
theorem persist_left {w w1 : World} {A : DAd} {s : DSt} {F : Nat → Option Role} {n k : Nat} {hv : Nat → Value} {v' : Value} (h : Dev w A s F) (hk : k ≤ (s.hist n).length)
    (hlin : Row w A.lin 149 (2 * s.L) (lfun s hv)) (hhist : ∀ m, m < s.L → Hist w F m (hv m) (s.hist m))
    (hr1 : Row w1 A.per 48 (8 * s.L) fun x => u64 (after (s.per x) x (List.take k (s.hist n)))) (ho1 : Only (fun b => b = A.per) w.drew w1)
    (hv' : Hist w F n v' ((s.hist n).drop k)) :
    Dev ((w1.setCell ⟨A.lin, n * 2, none⟩ (u64 (s.dn n + k))).setCell ⟨A.lin, n * 2 + 1, none⟩ v') A (s.persist n k) F ∧
      Moved F F w ((w1.setCell ⟨A.lin, n * 2, none⟩ (u64 (s.dn n + k))).setCell ⟨A.lin, n * 2 + 1, none⟩ v') ∧
      Only (fun b => b = A.per ∨ b = A.lin) w ((w1.setCell ⟨A.lin, n * 2, none⟩ (u64 (s.dn n + k))).setCell ⟨A.lin, n * 2 + 1, none⟩ v') := by
  have keep : ∀ b, F b ≠ none → b ≠ A.per → w1.heap[b]? = w.heap[b]? := fun b hb hne => ho1.block b (h.lt b hb) hne
  have hne : A.lin ≠ A.per := role_ne h.flin h.fper (by simp)
  have hlin1 : Row w1 A.lin 149 (2 * s.L) (lfun s hv) := hlin.of_block (keep _ (by rw [h.flin]; simp) hne)
  have ho : Only (fun b => b = A.per ∨ b = A.lin) w ((w1.setCell ⟨A.lin, n * 2, none⟩ (u64 (s.dn n + k))).setCell ⟨A.lin, n * 2 + 1, none⟩ v') :=
    ((((Only.refl _ w).drew).trans (ho1.mono (G := fun b => b = A.per ∨ b = A.lin) (fun b hb => .inl hb)) (fun _ _ e => e)).set (.inr rfl) _).set (.inr rfl) _
  refine (fun (q : _ ∧ _) => ⟨q.1, q.2, ho⟩) (h.persist hk hhist ?_ ?_ (hv'.of_agree (fun b hb => ?_)) ho)
  · exact (hr1.set_other (role_ne h.fper h.flin (by simp))).set_other (role_ne h.fper h.flin (by simp))
  · refine ((hlin1.set (n * 2) (u64 (s.dn n + k))).set (n * 2 + 1) v').congr (fun x hx => ?_)
    unfold lfun DSt.persist upd
    dsimp only
    by_cases e1 : x = n * 2 + 1
    · rw [if_pos e1, if_neg (by omega), if_pos (by omega)]
    · rw [if_neg e1]
      by_cases e2 : x = n * 2
      · rw [if_pos e2, if_pos (by omega), if_pos (by omega)]
      · rw [if_neg e2]
        by_cases e3 : x % 2 = 0
        · rw [if_pos e3, if_pos e3, if_neg (by omega)]
        · rw [if_neg e3, if_neg e3, if_neg (by omega)]
  · rw [heap_set_ne (role_ne hb h.flin (by simp)), heap_set_ne (role_ne hb h.flin (by simp)), keep b (by rw [hb]; simp) (role_ne hb h.fper (by simp))]

theorem setCell_twice (w : World) (p : Addr) (a b : Value) : (w.setCell p a).setCell p b = w.setCell p b := by
  have hh : ((w.setCell p a).setCell p b).heap = (w.setCell p b).heap := by
    apply Array.ext_getElem?
    intro i
    simp only [World.setCell, Array.getElem?_modify]
    by_cases e : p.block = i
    · rw [if_pos e, if_pos e, if_pos e, Option.map_map]
      congr 1
      funext o
      cases o <;> simp only [Function.comp]
      split <;> simp
    · rw [if_neg e, if_neg e, if_neg e]
  show ({ w with heap := ((w.setCell p a).setCell p b).heap } : World) = { w with heap := (w.setCell p b).heap }
  rw [hh]

set_option maxRecDepth 4000 in
theorem persist_dev {w : World} {A : DAd} {s : DSt} {F : Nat → Option Role} (h : Dev w A s F) {n k : Nat} (hn : n < s.L) (hk1 : 1 ≤ k) (hk : k ≤ (s.hist n).length) :
    Calls Tryz.prog 169 #[ptr A.d, i64 n, i64 k] w fun r w' => r = .returned (.tuple #[]) ∧ Dev w' A (s.persist n k) F ∧ Moved F F w w' ∧ Only (fun b => b = A.per ∨ b = A.lin) w w' := by
  obtain ⟨hv, hlin, hhist⟩ := h.lin
  have hh := hhist n hn
  have hlh : (s.hist n).length + s.dn n ≤ 1000000 := by unfold DSt.hist; rw [List.length_drop]; have := h.ok.len n; have := h.ok.ex; have := h.ok.dn n; omega
  have hdn := h.ok.dn n
  have hLL := h.ok.lines
  rcases hh with ⟨e0, _⟩ | ⟨b, o, cap, c, e1, e2, e3, e4, e5, e6, e7⟩
  · rw [e0] at hk; simp at hk; omega
  · have c0 : w.cell? ⟨A.d, 2, none⟩ = some (.slice (some ⟨A.lin, 0, none⟩) s.L s.L) := h.dev.cell 2 (by omega)
    have c1 : w.cell? ⟨A.d, 0, none⟩ = some (.slice (some ⟨A.per, 0, none⟩) (8 * s.L) (8 * s.L)) := h.dev.cell 0 (by omega)
    have c2 : w.cell? ⟨A.lin, n * 2 + 1, none⟩ = some (.slice (some ⟨b, o, none⟩) (s.hist n).length cap) := by
      rw [hlin.cell _ (by omega), ← e1]; unfold lfun; rw [if_neg (by omega)]; congr 2; omega
    have hcell : ∀ i p, ((s.hist n).take k)[i]? = some p → w.cell? ⟨b, o + 2 * i, none⟩ = some (u64 p.1) ∧ w.cell? ⟨b, o + 2 * i + 1, none⟩ = some (u64 p.2) := by
      intro i p hi
      rw [List.getElem?_take] at hi
      split at hi
      · rw [cell_block e3, cell_block e3]; exact e7 i p hi
      · cases hi
    have hap := fun w1 (ho : Only (fun _ => False) w w1) => apply_any (wc := 8 * s.L) (sc := cap) (h.per.of_block (ho.block _ h.per.lt (fun f => f))) (role_ne e2 h.fper (by simp)) (l := (s.hist n).take k)
      (fun i p hi => ⟨ho.cell (hcell i p hi).1 (fun f => f), ho.cell (hcell i p hi).2 (fun f => f)⟩)
      (fun p hp => by
        have h1 := h.ok.word n p (List.mem_of_mem_drop (List.mem_of_mem_take hp))
        omega) (by rw [List.length_take]; omega)
    have ek : ((s.hist n).take k).length = k := by rw [List.length_take]; omega
    rw [ek] at hap
    have HA := Lib.hid hap; clear hap ek
    have b1 : (n : Int) < s.L := by omega
    have b2 : (k : Int) ≤ cap := by omega
    have b3 : (k : Int) ≤ ((s.hist n).length : Int) := by omega
    have HH := Lib.hid h
    have HP := fun w1 v' => Lib.hid (@persist_left w w1 A s F n k hv v' h hk hlin hhist)
    have HE := Lib.hid (And.intro e1 (And.intro e2 (And.intro e3 (And.intro e4 (And.intro e5 (And.intro e6 e7))))))
    have HX := Lib.hid hlin
    have l1 : (s.dn n : Int) + k ≤ 1000000 := by omega
    simp only [ptr, i64]
    go_enter Tryz.func169, Tryz.ntmps169
    clear h hhist hlin hcell e7 e6 e5 e4 e3 e2 e1 hLL hdn hlh
    go_wp2_with fail
    go_still_tail 10, (by kernel_rfl)
    go_wp2_with fail
    refine (HA.out _ ?_).mono ?_
    · exact (Only.refl _ _).drew
    rintro e w1 ⟨rfl, hr1, ho1⟩
    have h := HH.out
    have hlin1 : Row w1 A.lin 149 (2 * s.L) (lfun s hv) := HX.out.of_block (ho1.block _ HX.out.lt (role_ne h.flin h.fper (by simp)))
    have k1 : w1.cell? ⟨A.lin, n * 2, none⟩ = some (.int .u64 (s.dn n)) := by
      rw [hlin1.cell _ (by omega)]; unfold lfun u64; rw [if_pos (by omega)]; congr 4; omega
    have k2 : w1.cell? ⟨A.lin, n * 2 + 1, none⟩ = some (.slice (some ⟨b, o, none⟩) (s.hist n).length cap) := by
      rw [hlin1.cell _ (by omega), ← HE.out.1]; unfold lfun; rw [if_neg (by omega)]; congr 2; omega
    have f1 : w1.frozen? ⟨A.lin, n * 2, none⟩ = false := hlin1.free _
    have f2 : w1.frozen? ⟨A.lin, n * 2 + 1, none⟩ = false := hlin1.free _
    have HQ := fun v' => Lib.hid ((HP w1 v').out hr1 ho1)
    clear hr1 ho1 h hlin1 HA HP c0 c1 c2
    obtain ⟨N, hN⟩ : ∃ N, N = (s.hist n).length := ⟨_, rfl⟩
    rw [← hN] at k2 b3
    by_cases hlast : k = N
    · subst hlast
      have d0 : (((k - k : Nat) : Int) == 0) = true := by simp
      have HR := Lib.hid ((HQ (.slice none 0 0)).out (.inl ⟨by rw [hN, List.drop_length], rfl⟩))
      have HN := Lib.hid hN; clear hN HQ
      simp only [u64, Int.natCast_add] at HR
      by_cases hc : cap = k
      · go_wp2_with fail
        go_returns
        rw [setCell_twice]
        exact ⟨rfl, HR.out⟩
      · go_wp2_with fail
        go_returns
        rw [setCell_twice]
        exact ⟨rfl, HR.out⟩
    · have hkN : (k : Int) < N := by rw [hN] at hlast ⊢; omega
      have HN := Lib.hid hN; clear hN hlast
      have d0 : (((N - k : Nat) : Int) == 0) = false := by simp; omega
      have d1 : ¬ cap = k := by intro e; have := HE.out.2.2.2.1; rw [← HN.out] at this; omega
      have HR := Lib.hid ((HQ (.slice (some ⟨b, o + k * 2, none⟩) (N - k) (cap - k))).out (.inr (by
        obtain ⟨e1, e2, e3, e4, e5, e6, e7⟩ := HE.out
        refine ⟨b, o + k * 2, cap - k, c, by rw [List.length_drop, HN.out], e2, e3, by rw [List.length_drop]; omega, by omega, by omega, ?_⟩
        intro i p hi
        rw [List.getElem?_drop] at hi
        have := e7 _ _ hi
        rw [show o + k * 2 + 2 * i = o + 2 * (k + i) by omega]
        exact this)))
      clear HQ
      go_wp2_with fail
      go_returns
      simp only [u64, Int.natCast_add] at HR
      exact ⟨rfl, HR.out⟩
end Go.Proofs.YtejlgnebofdijaaGreatDoor.Dv

namespace Go.Proofs.YtejlgnebofdijaaGreatDoor.Dv
open Go.RowKit

theorem ranges_of_blocks {H : Type} {w w' : World} {P : Program} {k : TypeId} {R : Value → Option (DataW H × List MemPlace)} {b r n : Nat} {D : DataW H} {left : Lit → Bool} {cnt : Nat}
    (h : w.ranges P k R b r n D left cnt) (hb : w'.heap[b]? = w.heap[b]?) (hr : w'.heap[r]? = w.heap[r]?) : w'.ranges P k R b r n D left cnt := by
  obtain ⟨es, clock, since, seen, c0, hb0, F, hs, hD, hr0, rest⟩ := h
  exact ⟨es, clock, since, seen, c0, hb.trans hb0, F, hs, hD, hr.trans hr0, rest⟩

/-- clear of a map. -/
theorem clear_map {H : Type} {w : World} {P : Program} {k e t : TypeId} {R : Value → Option (DataW H × List MemPlace)} {b n : Nat} {D : DataW H} (h : w.ownsMap P k R b n D) (ht : P.underlying t = some (.map k e)) :
    ∃ w', (∀ ty, (Builtin.clear_ #[t] ty #[.map (some b)]).run P w = .ok (.tuple #[]) w') ∧ w'.ownsMap P k R b n (.map []) ∧ w.grownBy w' (some b) := by
  obtain ⟨es, clock, hb, F, hs, hD⟩ := h
  have hlt := heap_lt hb
  refine ⟨{ w with heap := w.heap.setIfInBounds b (.map #[] clock) }, fun ty => ?_, ⟨#[], clock, ?_, ⟨by simp, MapKept.stamped_empty clock, by simp⟩, by simp, rfl⟩, rfl, rfl, rfl, by simp, fun i hi hne => ?_⟩
  · simp [Builtin.clear_, run_underlying ht, MapKept.run_getObj_map hb, MapKept.run_setObj_map _ hb, Result.andThen]
  · simp [hlt]
  · have : b ≠ i := fun e => hne (by rw [e])
    simp [this]

/-- The state when the notes of thread i outside of left have been persisted. -/
def DSt.fencing (s : DSt) (i : Nat) (left : Nat → Bool) : DSt :=
  { s with dn := fun n => if left n then s.dn n else match s.notes i n with | some p => max (s.dn n) p | none => s.dn n }
def DSt.fenced (s : DSt) (i : Nat) : DSt := { s with dn := fun n => match s.notes i n with | some p => max (s.dn n) p | none => s.dn n, notes := upd s.notes i (fun _ => none) }
def DSt.fence (s : DSt) (i : Nat) : DSt := if (s.cnt i true).2 then (s.cnt i true).1.fenced i else (s.cnt i true).1

theorem DSt.fencing_start {s : DSt} {i : Nat} {left : Nat → Bool} (h : ∀ n, left n = (s.notes i n).isSome) : s.fencing i left = s := by
  unfold DSt.fencing
  have : (fun n => if left n then s.dn n else match s.notes i n with | some p => max (s.dn n) p | none => s.dn n) = s.dn := by
    funext n
    rw [h n]
    cases s.notes i n <;> simp
  rw [this]
theorem DSt.fencing_step {s : DSt} {i n p : Nat} {left left' : Nat → Bool} (h : left n = true) (hp : s.notes i n = some p) (hl : ∀ m, left' m = (left m && decide (m ≠ n))) :
    s.fencing i left' = if s.dn n < p then (s.fencing i left).persist n (p - s.dn n) else s.fencing i left := by
  have e : (s.fencing i left').dn = (if s.dn n < p then (s.fencing i left).persist n (p - s.dn n) else s.fencing i left).dn := by
    funext m
    unfold DSt.fencing DSt.persist upd
    by_cases hm : m = n
    · subst hm
      have h' : left' m = false := by simp [hl]
      by_cases hlt : s.dn m < p
      · simp [hlt, h, h', hp]; omega
      · simp [hlt, h, h', hp]; omega
    · by_cases hlt : s.dn n < p <;> simp [hl, hm, hlt]
  unfold DSt.fencing DSt.persist at *
  by_cases hlt : s.dn n < p
  · rw [if_pos hlt] at e ⊢
    dsimp only at e ⊢
    rw [e]
  · rw [if_neg hlt] at e ⊢
    dsimp only at e ⊢
    rw [e]

def FnRel (w : World) (A : DAd) (s : DSt) (F : Nat → Option Role) (i r : Nat) (D : DataW Unit) (wr : World) : Prop :=
  ∃ (left : Lit → Bool) (cnt : Nat), wr.ranges Tryz.prog 3 (plainElem Tryz.prog 48) (A.m i) r s.nb D left cnt ∧ Dev wr A (s.fencing i (fun n => left (.int .i64 n))) F ∧ Moved F F w wr ∧
    (∀ kl, left kl = true → Maps.has D kl = true) ∧ w.heap.size ≤ r
def EndPost (w : World) (A : DAd) (s : DSt) (F : Nat → Option Role) (r : Ending) (w' : World) : Prop := r = .returned (.tuple #[]) ∧ Dev w' A s F ∧ Moved F F w w'

set_option maxRecDepth 4000 in
theorem fence_dev {w : World} {A : DAd} {s : DSt} {F : Nat → Option Role} (h : Dev w A s F) {i : Nat} (hi : i < 8) (hx : s.ex < 1000000) :
    Calls Tryz.prog 164 #[ptr (A.t i)] w (EndPost w A (s.fence i) F) := by
  have c0 : w.cell? ⟨A.t i, 0, none⟩ = some (.pointer (some ⟨A.d, 0, none⟩)) := (h.thr i hi).cell 0 (by omega)
  have HC := Lib.hid (counted_dev h hi true hx)
  clear h
  unfold DSt.fence
  cases hok : (s.cnt i true).2
  · rw [hok] at HC
    simp only [ptr]
    go_enter Tryz.func164, Tryz.ntmps164
    go_wp2_with fail
    refine HC.out.mono ?_
    rintro e w' ⟨rfl, h1, h2⟩
    have H2 := Lib.hid h1; have H3 := Lib.hid h2; clear h1 h2 hok
    go_wp2_with fail
    go_returns
    exact ⟨rfl, H2.out, H3.out⟩
  · rw [hok] at HC
    obtain ⟨s1, hs1⟩ : ∃ s1, s1 = (s.cnt i true).1 := ⟨_, rfl⟩
    rw [← hs1] at HC ⊢
    clear hs1 hok
    simp only [ptr]
    go_enter Tryz.func164, Tryz.ntmps164
    go_wp2_with fail
    refine HC.out.mono ?_
    rintro e w1 ⟨rfl, h1, h2⟩
    have k3 : w1.cell? ⟨A.t i, 3, none⟩ = some (.map (some (A.m i))) := (h1.thr i hi).cell 3 (by omega)
    obtain ⟨D, hown, hD⟩ := h1.note i hi
    have HD := Lib.hid hD; have H1 := Lib.hid h1; have H2 := Lib.hid h2
    clear hD h1 h2
    go_wp2_with (at_range; refine wpList_range_own _ rfl _ 111 rfl 3 48 keyed_int Tryz.underlying111 _ (A.m i) s1.nb _ rfl hown ?_; intro w0 hrg0 hg0 hs0)
    have hst : FnRel w1 A s1 F i w1.heap.size D w0 := by
      refine ⟨_, _, hrg0, ?_, ⟨⟨hg0.os, hg0.tape, hg0.output, hg0.size, fun k hk _ => hg0.block k hk (by simp)⟩, fun _ _ => rfl⟩, fun _ h => h, Nat.le_refl _⟩
      rw [DSt.fencing_start (fun n => (HD.out.2 n).1)]
      exact H1.out.of_agree (fun k hk => hg0.block k (H1.out.lt k hk) (by simp)) hg0.size
    have HST := Lib.hid hst; clear hst hg0 hs0 hrg0 hown k3
    go_loopw [2, 3, 4] (fun _ _ _ wr => FnRel w1 A s1 F i w1.heap.size D wr) (fun _ _ _ wr => wr.rangeLeft (A.m i) w1.heap.size)
    case atStart => exact HST.out
    case round =>
      obtain ⟨left, cnt, hrg, hdev, hmv, hlf, hr⟩ := hrel
      go_wp2_with (at_next; refine wpList_next_ranges_ii _ rfl _ rfl 3 48 .i64 .u64 keyed_int Tryz.underlying3 Tryz.underlying48 (A.m i) w1.heap.size s1.nb _ _ _ rfl hrg ?_ ?_)
      · intro _ hl0
        have k3 : wr.cell? ⟨A.t i, 3, none⟩ = some (.map (some (A.m i))) := (hdev.thr i hi).cell 3 (by omega)
        obtain ⟨w3, hrun, hown3, hgr⟩ := clear_map hrg.owns Tryz.underlying111
        have hn : Notes w3 (A.m i) s1.nb (fun _ => none) := ⟨_, hown3, fun k hk => by simp [Maps.has] at hk, fun n => ⟨by simp [Maps.has], fun p zd hp => by cases hp⟩⟩
        obtain ⟨g1, g2⟩ := hdev.setNote hi hgr hn (fun n p hp => by cases hp) (Nat.le_refl _) hdev.ok.nb
        have e : (s1.fencing i (fun n => left (.int .i64 n))).setNote i (fun _ => none) s1.nb = s1.fenced i := by
          unfold DSt.fencing DSt.setNote DSt.fenced
          simp [hl0]
        rw [e] at g1
        have G1 := Lib.hid g1; have G2 := Lib.hid ((H2.out.trans hmv).trans g2)
        clear hrg hdev hmv hlf hr hown3 hgr hn g1 g2 e hl0
        go_wp2_with fail
        go_returns
        exact ⟨rfl, G1.out, G2.out⟩
      · intro x c w2 cnt1 hwx hwc hlx hat hrg1 hlt hg1 hs1 hen
        have hx0 := HD.out.1 x (hlf _ hlx)
        obtain ⟨n, rfl⟩ := Int.eq_ofNat_of_zero_le hx0
        obtain ⟨p, hp⟩ : ∃ p, s1.notes i n = some p := by
          have := (HD.out.2 n).1
          rw [hlf _ hlx] at this
          cases hq : s1.notes i n with
          | none => rw [hq] at this; cases this
          | some p => exact ⟨p, rfl⟩
        obtain rfl : c = (p : Int) := by
          have h1 := (HD.out.2 n).2 p (.lit (.int .u64 0)) hp
          rw [hat] at h1
          injection h1 with h1
          injection h1 with h1
        have hnp := hdev.ok.note i n p hp
        have hex := hdev.ok.ex
        have hlen := hdev.ok.len n
        have hne : ∀ k, F k ≠ none → k ≠ w1.heap.size := fun k hk e => by have := H1.out.lt k hk; omega
        have hdev2 : Dev w2 A (s1.fencing i (fun n => left (.int .i64 n))) F := hdev.of_agree (fun k hk => hg1.block k (hdev.lt k hk) (fun e => hne k hk (Option.some.inj e))) hg1.size
        have hmv2 : Moved F F w1 w2 := ⟨⟨hg1.os.trans hmv.only.os, hg1.tape.trans hmv.only.tape, hg1.output.trans hmv.only.output, Nat.le_trans hmv.only.size hg1.size, fun k hk hf =>
          (hg1.block k (Nat.lt_of_lt_of_le hk hmv.only.size) (fun e => by have := Option.some.inj e; omega)).trans (hmv.only.block k hk hf)⟩, fun _ _ => rfl⟩
        have edn : (s1.fencing i (fun n => left (.int .i64 n))).dn n = s1.dn n := by unfold DSt.fencing; simp [hlx]
        have hdn := hdev.ok.dn n
        rw [edn] at hdn
        have hst := DSt.fencing_step (s := s1) (i := i) (n := n) (p := p) (left := fun n => left (.int .i64 n)) (left' := fun m => left (.int .i64 m) && !(Lit.int .i64 (m : Int)).sameKey (.int .i64 (n : Int))) hlx hp
          (fun m => by simp [Lit.sameKey]; by_cases e : m = n <;> simp [e]; omega)
        have k0 : w2.cell? ⟨A.t i, 0, none⟩ = some (.pointer (some ⟨A.d, 0, none⟩)) := (hdev2.thr i hi).cell 0 (by omega)
        have k1 : w2.cell? ⟨A.d, 2, none⟩ = some (.slice (some ⟨A.lin, 0, none⟩) s1.L s1.L) := hdev2.dev.cell 2 (by omega)
        have k2 : w2.cell? ⟨A.lin, n * 2, none⟩ = some (.int .u64 (s1.dn n)) := by
          obtain ⟨hv, hlin, _⟩ := hdev2.lin
          rw [hlin.cell _ (by have := hnp.2; unfold DSt.fencing at this ⊢; dsimp only at this ⊢; omega), ← edn]; unfold lfun u64; rw [if_pos (by omega)]; congr 4; omega
        have b1 : (n : Int) < s1.L := by have := hnp.2; unfold DSt.fencing at this; dsimp only at this; omega
        by_cases hgt : s1.dn n < p
        · rw [if_pos hgt] at hst
          have hpd := persist_dev hdev2 (n := n) (k := p - s1.dn n) hnp.2 (by omega) (by unfold DSt.hist; rw [List.length_drop, edn]; omega)
          rw [← hst] at hpd
          have d1 : decide ((s1.dn n : Int) < p) = true := by simp; omega
          have d2 : ((p - s1.dn n : Nat) : Int) = (p : Int) - s1.dn n := by omega
          have b2 : (p : Int) ≤ 1000000 := by have := hnp.1; unfold DSt.fencing at *; dsimp only at *; omega
          have b3 : (s1.dn n : Int) < p := by omega
          simp only [i64, ptr, d2] at hpd
          have HP := Lib.hid hpd; have HM := Lib.hid hmv2; have HR := Lib.hid hrg1; have HL := Lib.hid hlf; have HN := Lib.hid hne; have HW := Lib.hid hrg; have HT := Lib.hid hlt; have HD2 := Lib.hid hdev2
          clear hpd hmv2 hrg1 hlf hne hst hdev hdev2 hmv hnp hex hlen hdn edn hat hp hwx hwc hlx hg1 hs1 hr hx0 d2 hgt hrg hlt
          go_wp2_with fail
          refine HP.out.mono ?_
          rintro e w3 ⟨rfl, h3, h4, h5⟩
          have H3 := Lib.hid h3; have H4 := Lib.hid h4; have H5 := Lib.hid h5
          clear h3 h4 h5
          go_wp2_with fail
          have hrg3 := ranges_of_blocks HR.out (H5.out.block (A.m i) HR.out.owns.lt (fun e => by rcases e with e | e; exact role_ne (HD2.out.fm i hi) HD2.out.fper (by simp) e; exact role_ne (HD2.out.fm i hi) HD2.out.flin (by simp) e)) (H5.out.block w1.heap.size HR.out.lt (fun e => by
            rcases e with e | e
            · exact HN.out _ (by rw [HD2.out.fper]; simp) e.symm
            · exact HN.out _ (by rw [HD2.out.flin]; simp) e.symm))
          go_roundw
          case rel => exact ⟨_, cnt1, hrg3, H3.out, HM.out.trans H4.out, fun kl hk => HL.out kl (by simp at hk; exact hk.1), Nat.le_refl _⟩
          case measure => rw [hrg3.left_eq, HW.out.left_eq]; exact HT.out
        · rw [if_neg hgt] at hst
          have d1 : decide ((s1.dn n : Int) < p) = false := by simp; omega
          have d2 : ¬ ((s1.dn n : Int) < p) := by omega
          rw [← hst] at hdev2
          have HM := Lib.hid hmv2; have HR := Lib.hid hrg1; have HL := Lib.hid hlf; have HW := Lib.hid hrg; have HT := Lib.hid hlt; have HD2 := Lib.hid hdev2
          clear hmv2 hrg1 hlf hne hst hdev hdev2 hmv hnp hex hlen hdn edn hat hp hwx hwc hlx hg1 hs1 hr hx0 hgt hrg hlt
          go_wp2_with fail
          go_roundw
          case rel => exact ⟨_, cnt1, HR.out, HD2.out, HM.out, fun kl hk => HL.out kl (by simp at hk; exact hk.1), Nat.le_refl _⟩
          case measure => rw [HR.out.left_eq, HW.out.left_eq]; exact HT.out
end Go.Proofs.YtejlgnebofdijaaGreatDoor.Dv
