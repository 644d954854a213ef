/-
  Drawn regions: whatever the order, the world is related to the run in the text's order.
  Drawn regions: the invariant over any order.
  Drawn regions are sound.
  How the tables of types and functions are proved, entry by entry.
-/
import Derived.Test.YtegfafebbnlicaaGreatDoorMEvH
import Derived.KernelRfl
namespace Go.Proofs.YtegfafebbnlicaaGreatDoor.Ev
open Go
set_option linter.unusedVariables false
set_option linter.unusedSimpArgs false

variable {P : Program} {T : Tr TI}

theorem isEff_class {L : List Oper} {i : Nat} {o : Oper} (ho : L[i]? = some o) : isEff T L i = true ↔ 3 ≤ classOf T o.op := by
  unfold isEff
  rw [ho]
  exact ble_iff
theorem isEff_lt {L : List Oper} {i : Nat} (h : isEff T L i = true) : ∃ o, L[i]? = some o ∧ i < L.length := by
  unfold isEff at h
  split at h
  · rename_i o ho; exact ⟨o, ho, lt_of_get ho⟩
  · cases h

section trace
variable {call : Call1} {L : List Oper} {nx : Nat} (tr : Trace T call L nx 0 L.length)
theorem Trace.at {j : Nat} {o : Oper} (ho : L[j]? = some o) : StepD T call L nx j o (tr.E j) (tr.S j) (tr.U j) (tr.V j) (tr.W j) (tr.E (j + 1)) (tr.S (j + 1)) (tr.U (j + 1)) :=
  tr.step j o (Nat.zero_le _) (by have := lt_of_get ho; omega) ho
theorem Trace.class3 {j : Nat} {o : Oper} (n0 : classOf T o.op ≠ 0) (n1 : classOf T o.op ≠ 1) (n2 : classOf T o.op ≠ 2) : 3 ≤ classOf T o.op := by omega

/-- Where a temporary's value comes from. -/
theorem Trace.envAt {env : Env} (h0 : tr.E 0 = env) : ∀ q, q ≤ L.length → ∀ t v, (tr.E q).get t = some v →
    (∃ j o, j < q ∧ L[j]? = some o ∧ o.dst = some t ∧ v = tr.V j) ∨ ((∀ j o, j < q → L[j]? = some o → o.dst ≠ some t) ∧ env.get t = some v)
  | 0, _, t, v, h => .inr ⟨fun j o hj => absurd hj (Nat.not_lt_zero _), by rw [← h0]; exact h⟩
  | q + 1, hq, t, v, h => by
    obtain ⟨o, ho⟩ : ∃ o, L[q]? = some o := ⟨L[q], List.getElem?_eq_getElem (by omega)⟩
    rw [(tr.at ho).env] at h
    by_cases ht : o.dst = some t
    · rw [ht] at h
      simp only [ePut, Env.get_set, if_true] at h
      cases h
      exact .inl ⟨q, o, Nat.lt_succ_self _, ho, ht, rfl⟩
    · have h' : (tr.E q).get t = some v := by
        cases hd : o.dst with
        | none => rw [hd] at h; exact h
        | some u =>
          rw [hd] at h
          simp only [ePut, Env.get_set] at h
          rw [if_neg (fun he => ht (by rw [hd, he]))] at h
          exact h
      rcases Trace.envAt h0 q (by omega) t v h' with ⟨j, o', h1, h2, h3, h4⟩ | ⟨h1, h2⟩
      · exact .inl ⟨j, o', by omega, h2, h3, h4⟩
      · refine .inr ⟨fun j o' hj ho' => ?_, h2⟩
        by_cases hjq : j = q
        · subst hjq; rw [ho] at ho'; cases ho'; exact ht
        · exact h1 j o' (by omega) ho'

/-- What of the memory is new since the last change. -/
theorem Trace.newAt (h0 : tr.U 0 = tr.S 0) : ∀ q, q ≤ L.length → (tr.U q).nx = (tr.S q).nx ∧ ∀ b ob, (tr.U q).h.get b = some ob →
    (∃ j o fr, j < q ∧ L[j]? = some o ∧ classOf T o.op = 2 ∧ tr.W j = true ∧ eFresh T (tr.E j) o.op = some fr ∧ (∀ k, j < k → k < q → isEff T L k = false) ∧ b = nx + j ∧ ob = fr.obj) ∨ (tr.S q).h.get b = some ob
  | 0, _ => by rw [h0]; exact ⟨rfl, fun b ob h => .inr h⟩
  | q + 1, hq => by
    obtain ⟨o, ho⟩ : ∃ o, L[q]? = some o := ⟨L[q], List.getElem?_eq_getElem (by omega)⟩
    have hs := tr.at ho
    obtain ⟨ih1, ih2⟩ := Trace.newAt h0 q (by omega)
    by_cases h3 : 3 ≤ classOf T o.op
    · obtain ⟨e1, _, _⟩ := hs.eff h3
      rw [e1]
      exact ⟨rfl, fun b ob h => .inr h⟩
    · have hne : isEff T L q = false := by
        cases hx : isEff T L q with
        | false => rfl
        | true => exact absurd ((isEff_class ho).1 hx) h3
      have hext : ∀ b ob, (tr.U q).h.get b = some ob → (∃ j o fr, j < q + 1 ∧ L[j]? = some o ∧ classOf T o.op = 2 ∧ tr.W j = true ∧ eFresh T (tr.E j) o.op = some fr ∧ (∀ k, j < k → k < q + 1 → isEff T L k = false) ∧ b = nx + j ∧ ob = fr.obj) ∨ (tr.S q).h.get b = some ob := by
        intro b ob hb
        rcases ih2 b ob hb with ⟨j, o', fr, h1, h2, h4, h5, h6, h7, h8, h9⟩ | h
        · refine .inl ⟨j, o', fr, by omega, h2, h4, h5, h6, fun k hk1 hk2 => ?_, h8, h9⟩
          by_cases hkq : k = q
          · subst hkq; exact hne
          · exact h7 k hk1 (by omega)
        · exact .inr h
      by_cases h2 : classOf T o.op = 2
      · obtain ⟨e1, e2, e3⟩ := hs.fresh h2
        cases hw : tr.W q with
        | false =>
          rw [e1, e2 hw]
          exact ⟨ih1, hext⟩
        | true =>
          obtain ⟨fr, f1, f2, f3⟩ := e3 hw
          rw [e1, f3]
          refine ⟨ih1, fun b ob hb => ?_⟩
          simp only [Tr.get_set] at hb
          by_cases hbq : b = nx + q
          · rw [if_pos hbq] at hb; cases hb
            exact .inl ⟨q, o, fr, Nat.lt_succ_self _, ho, h2, hw, f1, fun k hk1 hk2 => by omega, hbq, rfl⟩
          · rw [if_neg hbq] at hb
            exact hext b ob hb
      · have h01 : classOf T o.op = 0 ∨ classOf T o.op = 1 := by omega
        have : tr.S (q + 1) = tr.S q ∧ tr.U (q + 1) = tr.U q := by
          rcases h01 with h | h
          · exact ⟨(hs.low h).1, (hs.low h).2.1⟩
          · exact ⟨(hs.read h).1, (hs.read h).2.1⟩
        rw [this.1, this.2]
        exact ⟨ih1, hext⟩

/-- Between two changes the memory behind the last one stays. -/
theorem Trace.sConst (q : Nat) : ∀ d, q + d ≤ L.length → (∀ k, q ≤ k → k < q + d → isEff T L k = false) → tr.S (q + d) = tr.S q
  | 0, _, _ => rfl
  | d + 1, hle, h => by
    rw [show q + (d + 1) = q + d + 1 by omega]
    obtain ⟨o, ho⟩ : ∃ o, L[q + d]? = some o := ⟨L[q + d], List.getElem?_eq_getElem (by omega)⟩
    have hs := tr.at ho
    have hn := h (q + d) (by omega) (by omega)
    have h3 : ¬ 3 ≤ classOf T o.op := fun hh => by rw [(isEff_class ho).2 hh] at hn; cases hn
    have : tr.S (q + d + 1) = tr.S (q + d) := by
      have : classOf T o.op = 0 ∨ classOf T o.op = 1 ∨ classOf T o.op = 2 := by omega
      rcases this with h | h | h
      · exact (hs.low h).1
      · exact (hs.read h).1
      · exact (hs.fresh h).1
    rw [this]
    exact Trace.sConst q d (by omega) (fun k h1 h2 => h k h1 (by omega))

/-- The number of changes ahead of a place. -/
noncomputable def cnt (T : Tr TI) (L : List Oper) (q : Nat) : Nat := ((List.range q).filter (isEff T L)).length
theorem cnt_succ (q : Nat) : cnt T L (q + 1) = cnt T L q + if isEff T L q = true then 1 else 0 := by
  unfold cnt
  rw [List.range_succ, List.filter_append, List.length_append]
  congr 1
  cases h : isEff T L q <;> simp [h]
theorem Trace.stateAt {s0 : St} (h0 : tr.S 0 = s0) {ss : List St} (hss : ss = [s0] ++ ((List.range' 0 L.length).filter (isEff T L)).map (fun j => tr.S (j + 1))) : ∀ q, q ≤ L.length → ss[cnt T L q]? = some (tr.S q)
  | 0, _ => by rw [hss]; simp [cnt, h0]
  | q + 1, hq => by
    rw [cnt_succ]
    obtain ⟨o, ho⟩ : ∃ o, L[q]? = some o := ⟨L[q], List.getElem?_eq_getElem (by omega)⟩
    cases hx : isEff T L q with
    | false =>
      have := tr.sConst q 1 (by omega) (fun k h1 h2 => by rw [show k = q by omega]; exact hx)
      simp only [Bool.false_eq_true, if_false, Nat.add_zero]
      rw [this]
      exact Trace.stateAt h0 hss q (by omega)
    | true =>
      simp only [if_true]
      rw [hss, List.singleton_append, List.getElem?_cons_succ, List.getElem?_map]
      have hsplit : List.range' 0 L.length = List.range q ++ q :: List.range' (q + 1) (L.length - (q + 1)) := by
        rw [List.range_eq_range', ← List.range'_succ, show L.length - (q + 1) + 1 = L.length - q by omega]
        have := List.range'_append_1 (s := 0) (m := q) (n := L.length - q)
        rw [Nat.zero_add] at this
        rw [this, show q + (L.length - q) = L.length by omega]
      unfold cnt
      rw [hsplit, List.filter_append, List.getElem?_append_right (Nat.le_refl _), Nat.sub_self, List.filter_cons, if_pos hx]
      rfl
end trace
theorem filter_len_le {α : Type} {p q : α → Bool} : ∀ (l : List α), (∀ x ∈ l, p x = true → q x = true) → (l.filter p).length ≤ (l.filter q).length
  | [], _ => Nat.le_refl _
  | x :: l, h => by
    have ih := filter_len_le (p := p) (q := q) l (fun y hy => h y (List.mem_cons_of_mem _ hy))
    rw [List.filter_cons, List.filter_cons]
    cases hp : p x with
    | false =>
      cases hq : q x <;> simp <;> omega
    | true =>
      have := h x List.mem_cons_self hp
      simp [this]; omega
theorem filter_len_lt {α : Type} {p q : α → Bool} : ∀ (l : List α), (∀ x ∈ l, p x = true → q x = true) → (∃ x ∈ l, p x = false ∧ q x = true) → (l.filter p).length < (l.filter q).length
  | [], _, h => by obtain ⟨x, hx, _⟩ := h; cases hx
  | x :: l, h, hex => by
    obtain ⟨y, hy, h1, h2⟩ := hex
    rw [List.filter_cons, List.filter_cons]
    have hle := filter_len_le (p := p) (q := q) l (fun z hz => h z (List.mem_cons_of_mem _ hz))
    cases hy with
    | head =>
      simp [h1, h2]; omega
    | tail _ hy =>
      have ih := filter_len_lt (p := p) (q := q) l (fun z hz => h z (List.mem_cons_of_mem _ hz)) ⟨y, hy, h1, h2⟩
      cases hp : p x with
      | false => cases hq : q x <;> simp <;> omega
      | true =>
        have := h x List.mem_cons_self hp
        simp [this]; omega

theorem againAt_cons (env : Env) (op : Op) (v : Value) (s : St) (ss : List St) (k lo hi : Nat) : againAt T env op v (s :: ss) k lo hi = match Nat.ble lo k, Nat.ble k hi with
      | true, true => match eRead T env op s with
        | some v' => match eSame v' v with
          | true => againAt T env op v ss (Nat.succ k) lo hi
          | false => false
        | none => false
      | _, _ => againAt T env op v ss (Nat.succ k) lo hi := rfl
theorem againAt_sound (env : Env) (op : Op) (v : Value) (lo hi : Nat) : ∀ (ss : List St) (k : Nat), againAt T env op v ss k lo hi = true → ∀ d s, ss[d]? = some s → lo ≤ k + d → k + d ≤ hi → eRead T env op s = some v
  | [], k, h, d, s, hs, h1, h2 => by cases hs
  | x :: ss, k, h, d, s, hs, h1, h2 => by
    rw [againAt_cons] at h
    cases d with
    | zero =>
      cases hs
      split at h
      · split at h
        case h_2 => cases h
        rename_i v' hv
        split at h
        case h_2 => cases h
        rename_i he
        rw [hv, eSame_eq he]
      · rename_i hn
        exact absurd (ble_iff.2 h2) (hn (ble_iff.2 h1))
    | succ d =>
      have hrest : againAt T env op v ss (Nat.succ k) lo hi = true := by
        split at h
        · split at h
          case h_2 => cases h
          split at h
          case h_2 => cases h
          exact h
        · exact h
      exact againAt_sound env op v lo hi ss (k + 1) hrest d s hs (by omega) (by omega)
theorem againAll_cons (ops : List Oper) (ss : List St) (r : Rd) (rs : List Rd) : againAll T ops ss (r :: rs) = match r with
    | (i, env, op, v) => match rangeOf T ops i with
      | (lo, hi) => match Nat.ble hi lo with
        | true => againAll T ops ss rs
        | false => match againAt T env op v ss 0 lo hi with
          | true => againAll T ops ss rs
          | false => false := rfl
theorem againAll_sound (ops : List Oper) (ss : List St) : ∀ (rs : List Rd), againAll T ops ss rs = true → ∀ i env op v, (i, env, op, v) ∈ rs → ∀ k s, ss[k]? = some s → (rangeOf T ops i).1 ≤ k → k ≤ (rangeOf T ops i).2 →
    (rangeOf T ops i).2 ≤ (rangeOf T ops i).1 ∨ eRead T env op s = some v
  | [], _, i, env, op, v, hm => by cases hm
  | r :: rs, h, i, env, op, v, hm => by
    intro k s hs h1 h2
    rw [againAll_cons] at h
    obtain ⟨i', env', op', v'⟩ := r
    simp only at h
    cases hm with
    | head =>
      split at h
      · rename_i hb; exact .inl (ble_iff.1 hb)
      · split at h
        case h_2 => cases h
        rename_i ha
        exact .inr (againAt_sound env op v _ _ ss 0 ha k s hs (by omega) (by omega))
    | tail _ hm =>
      have hrest : againAll T ops ss rs = true := by
        split at h
        · exact h
        · split at h
          case h_2 => cases h
          exact h
      exact againAll_sound ops ss rs hrest i env op v hm k s hs h1 h2
end Go.Proofs.YtegfafebbnlicaaGreatDoor.Ev

namespace Go.Proofs.YtegfafebbnlicaaGreatDoor.Ev
open Go
set_option linter.unusedVariables false
set_option linter.unusedSimpArgs false

variable {P : Program} {T : Tr TI}

theorem nextEff (L : List Oper) : ∀ n q, q + n = L.length → ∃ p, q ≤ p ∧ p ≤ L.length ∧ (∀ k, q ≤ k → k < p → isEff T L k = false) ∧ (p < L.length → isEff T L p = true)
  | 0, q, h => ⟨q, Nat.le_refl _, by omega, fun k h1 h2 => by omega, fun h' => by omega⟩
  | n + 1, q, h => by
    cases hx : isEff T L q with
    | true => exact ⟨q, Nat.le_refl _, by omega, fun k h1 h2 => by omega, fun _ => hx⟩
    | false =>
      obtain ⟨p, h1, h2, h3, h4⟩ := nextEff L n (q + 1) (by omega)
      refine ⟨p, by omega, h2, fun k hk1 hk2 => ?_, h4⟩
      by_cases hkq : k = q
      · subst hkq; exact hx
      · exact h3 k (by omega) hk2

theorem R.more {G : Nat} {ρ : Ren} {st : St} {w w' : World} (hR : R G ρ st w) {b : Nat} {x : Obj} (hb : ρ b = none) (hlt : b < st.nx) (hw : w'.heap = w.heap.push x) : R G (ρ.add b w.heap.size (objN x)) st w' := by
  have hle : Ren.le ρ (ρ.add b w.heap.size (objN x)) := Ren.le_add hb (fun k hk => absurd (hR.dom k _ hk).2 (Nat.lt_irrefl _))
  have hne : ∀ b1 o1, st.h.get b1 = some o1 → b1 ≠ b := by
    intro b1 o1 h1 he
    subst he
    obtain ⟨c, y, hc, _⟩ := hR.live b1 o1 h1
    rw [hb] at hc; cases hc
  refine ⟨fun b1 o1 h1 => ?_, fun b1 b2 o1 o2 c h1 h2 hc1 hc2 => ?_, fun b1 c hc => ?_, fun g hg => (hle g g (hR.glob g hg)).1⟩
  · obtain ⟨c, y, hc, hy, hr, hN⟩ := hR.live b1 o1 h1
    refine ⟨c, y, (hle _ _ hc).1, ?_, hr.mono hle, by rw [(hle _ _ hc).2]; exact hN⟩
    have hlt' := heap_lt hy
    rw [hw, Array.getElem?_push_lt hlt', ← hy, Array.getElem?_eq_getElem hlt']
  · rw [Ren.add_ne ρ (hne b1 o1 h1)] at hc1
    rw [Ren.add_ne ρ (hne b2 o2 h2)] at hc2
    exact hR.inj b1 b2 o1 o2 c h1 h2 hc1 hc2
  · rw [hw, Array.size_push]
    by_cases e1 : b1 = b
    · rw [e1, Ren.add_at] at hc; cases hc
      exact ⟨by rw [e1]; exact hlt, by omega⟩
    · rw [Ren.add_ne ρ e1] at hc
      exact ⟨(hR.dom b1 c hc).1, by have := (hR.dom b1 c hc).2; omega⟩

section inv
variable {call : Call1} {L : List Oper} {nx : Nat} (tr : Trace T call L nx 0 L.length) (env : Env) (ρ0 : Ren) (st : St) (w0 : World) (a0 : Act)

/-- What holds between two operations of a drawn region: li: what has been carried out; p: the next change. -/
structure Inv (li : Nat → Bool) (p : Nat) (ρ : Ren) (a : Act) (w : World) : Prop where
  r : R Gn ρ (tr.S p) w
  went : Went ρ0 st w0 ρ (tr.S p) w
  nxge : nx + L.length ≤ (tr.S p).nx
  e1 : ∀ (j : Nat) o t, li j = true → L[j]? = some o → o.dst = some t → ∃ v', a.tmps[t]? = some v' ∧ VR ρ (tr.V j) v'
  e2 : ∀ t v, env.get t = some v → (∀ (j : Nat) o, L[j]? = some o → o.dst = some t → li j = false) → ∃ v', a.tmps[t]? = some v' ∧ VR ρ v v'
  fr : ∀ (j : Nat) o f, li j = true → L[j]? = some o → classOf T o.op = 2 → tr.W j = true → eFresh T (tr.E j) o.op = some f → (∀ k, j < k → k < p → isEff T L k = false) →
       ∃ c x, ρ (nx + j) = some c ∧ w.heap[c]? = some x ∧ ObjR ρ f.obj x ∧ objN x = ρ.sz c ∧ w0.heap.size ≤ c ∧ (∀ b ob, (tr.S p).h.get b = some ob → ρ b ≠ some c) ∧ (∀ j', j' < L.length → j' ≠ j → ρ (nx + j') ≠ some c)
  un : ∀ j, j < L.length → li j = false → ρ (nx + j) = none
  size : a.tmps.size = a0.tmps.size
  defers : a.defers = a0.defers
  ple : p ≤ L.length
  done : ∀ j, j < p → isEff T L j = true → li j = true
  left : ∀ j, p ≤ j → isEff T L j = true → li j = false
  front : p < L.length → isEff T L p = true

variable {tr env ρ0 st w0 a0} {li : Nat → Bool} {p : Nat} {ρ : Ren} {a : Act} {w : World}

/-- The new blocks of the text ahead of the next change are there. -/
theorem Inv.absorb (h0 : tr.U 0 = tr.S 0) (hI : Inv tr env ρ0 st w0 a0 li p ρ a w) (hall : ∀ (j : Nat) o, j < p → L[j]? = some o → classOf T o.op = 2 → (∀ k, j < k → k < p → isEff T L k = false) → li j = true) :
    R Gn ρ (tr.U p) w ∧ Went ρ0 st w0 ρ (tr.U p) w := by
  obtain ⟨hnx, hget⟩ := tr.newAt h0 p hI.ple
  have hrec : ∀ (j : Nat) o fr, j < p → L[j]? = some o → classOf T o.op = 2 → tr.W j = true → eFresh T (tr.E j) o.op = some fr → (∀ k, j < k → k < p → isEff T L k = false) → _ := fun j o fr h1 h2 h3 h4 h5 h6 => hI.fr j o fr (hall j o h1 h2 h3 h6) h2 h3 h4 h5 h6
  refine ⟨⟨fun b o hb => ?_, fun b b' o o' c h1 h2 hc1 hc2 => ?_, fun b c hc => by rw [hnx]; exact hI.r.dom b c hc, hI.r.glob⟩, ⟨hI.went.le, by rw [hnx]; exact hI.went.nx, hI.went.size, hI.went.frame, fun b o c hb hc => ?_, hI.went.new, hI.went.os, hI.went.tape, hI.went.output⟩⟩
  · rcases hget b o hb with ⟨j, oj, fr, h1, h2, h3, h4, h5, h6, rfl, rfl⟩ | h
    · obtain ⟨c, x, q1, q2, q3, q4, _⟩ := hrec j oj fr h1 h2 h3 h4 h5 h6
      exact ⟨c, x, q1, q2, q3, q4⟩
    · exact hI.r.live b o h
  · rcases hget b o h1 with ⟨j, oj, fr, a1, a2, a3, a4, a5, a6, rfl, rfl⟩ | h1
    · obtain ⟨c', x, q1, q2, q3, q4, q5, q6, q7⟩ := hrec j oj fr a1 a2 a3 a4 a5 a6
      rw [q1] at hc1; cases hc1
      rcases hget b' o' h2 with ⟨j', oj', fr', b1, b2, b3, b4, b5, b6, rfl, rfl⟩ | h2
      · by_cases hjj : j' = j
        · rw [hjj]
        · exact absurd hc2 (q7 j' (lt_of_get b2) hjj)
      · exact absurd hc2 (q6 b' o' h2)
    · rcases hget b' o' h2 with ⟨j', oj', fr', b1, b2, b3, b4, b5, b6, rfl, rfl⟩ | h2
      · obtain ⟨c', x, q1, q2, q3, q4, q5, q6, q7⟩ := hrec j' oj' fr' b1 b2 b3 b4 b5 b6
        rw [q1] at hc2; cases hc2
        exact absurd hc1 (q6 b o h1)
      · exact hI.r.inj b b' o o' c h1 h2 hc1 hc2
  · rcases hget b o hb with ⟨j, oj, fr, h1, h2, h3, h4, h5, h6, rfl, rfl⟩ | h
    · obtain ⟨c', x, q1, q2, q3, q4, q5, _⟩ := hrec j oj fr h1 h2 h3 h4 h5 h6
      rw [q1] at hc; cases hc
      exact .inr q5
    · exact hI.went.fresh b o c h hc

def liSet (li : Nat → Bool) (i : Nat) : Nat → Bool := fun k => if k = i then true else li k
theorem liSet_at (li : Nat → Bool) (i : Nat) : liSet li i i = true := by simp [liSet]
theorem liSet_ne (li : Nat → Bool) {i k : Nat} (h : k ≠ i) : liSet li i k = li k := by simp [liSet, h]
theorem liSet_false {li : Nat → Bool} {i k : Nat} (h : liSet li i k = false) : k ≠ i ∧ li k = false := by
  unfold liSet at h
  split at h
  · cases h
  · rename_i hk; exact ⟨hk, h⟩

/-- The temporaries behind one more operation. -/
theorem Inv.tmps (hS : Static T L) {ρ' : Ren} (hle : ρ.le ρ') (hI : Inv tr env ρ0 st w0 a0 li p ρ a w) {i : Nat} {o : Oper} (ho : L[i]? = some o) (hd : ∀ t, o.dst = some t → t < a.tmps.size) {v' : Value} (hv : VR ρ' (tr.V i) v') :
    (∀ (j : Nat) oj t, liSet li i j = true → L[j]? = some oj → oj.dst = some t → ∃ u, (a.put o.dst v').tmps[t]? = some u ∧ VR ρ' (tr.V j) u) ∧
    (∀ t v, env.get t = some v → (∀ (j : Nat) oj, L[j]? = some oj → oj.dst = some t → liSet li i j = false) → ∃ u, (a.put o.dst v').tmps[t]? = some u ∧ VR ρ' v u) := by
  have hput : ∀ t u, o.dst ≠ some t → a.tmps[t]? = some u → (a.put o.dst v').tmps[t]? = some u := by
    intro t u hne hu
    cases hq : o.dst with
    | none => exact hu
    | some d =>
      have : d ≠ t := fun he => hne (by rw [hq, he])
      simp [Act.put, Array.getElem?_setIfInBounds_ne this, hu]
  constructor
  · intro j oj t hj hoj ht
    by_cases hji : j = i
    · subst hji
      rw [ho] at hoj; cases hoj
      refine ⟨v', ?_, hv⟩
      rw [ht]
      simp [Act.put, hd t ht]
    · rw [liSet_ne li hji] at hj
      obtain ⟨u, h1, h2⟩ := hI.e1 j oj t hj hoj ht
      refine ⟨u, hput t u ?_ h1, h2.mono hle⟩
      intro he
      rcases Nat.lt_or_gt_of_ne hji with h | h
      · exact hS.dsts j i oj o t h hoj ho ht he
      · exact hS.dsts i j o oj t h ho hoj he ht
  · intro t v hv' hall
    obtain ⟨u, h1, h2⟩ := hI.e2 t v hv' (fun j oj hoj ht => (liSet_false (hall j oj hoj ht)).2)
    refine ⟨u, hput t u ?_ h1, h2.mono hle⟩
    intro he
    have := hall i o ho he
    rw [liSet_at] at this
    cases this

/-- An operation that leaves the memory alone. -/
theorem Inv.val (hS : Static T L) (hI : Inv tr env ρ0 st w0 a0 li p ρ a w) {i : Nat} {o : Oper} (ho : L[i]? = some o) (hne : isEff T L i = false) (hnf : classOf T o.op = 2 → tr.W i = false) (hd : ∀ t, o.dst = some t → t < a.tmps.size) {v' : Value} (hv : VR ρ (tr.V i) v') :
    Inv tr env ρ0 st w0 a0 (liSet li i) p ρ (a.put o.dst v') w := by
  obtain ⟨t1, t2⟩ := hI.tmps hS (Ren.le_refl _) ho hd hv
  refine { r := hI.r, went := hI.went, nxge := hI.nxge, e1 := t1, e2 := t2, fr := ?_, un := ?_, size := by rw [Act.put_size]; exact hI.size, defers := by rw [Act.put_defers']; exact hI.defers, ple := hI.ple, done := ?_, left := ?_, front := hI.front }
  · intro j oj f hj hoj h2 hw hf hk
    by_cases hji : j = i
    · subst hji
      rw [ho] at hoj; cases hoj
      rw [hnf h2] at hw; cases hw
    · rw [liSet_ne li hji] at hj
      exact hI.fr j oj f hj hoj h2 hw hf hk
  · intro j hj hl
    exact hI.un j hj (liSet_false hl).2
  · intro j hj he
    by_cases hji : j = i
    · subst hji; exact liSet_at _ _
    · rw [liSet_ne li hji]; exact hI.done j hj he
  · intro j hj he
    have hji : j ≠ i := fun hh => by subst hh; rw [hne] at he; cases he
    rw [liSet_ne li hji]; exact hI.left j hj he

/-- A new block. -/
theorem Inv.new (hS : Static T L) (hst : st.nx = nx) (hI : Inv tr env ρ0 st w0 a0 li p ρ a w) {i : Nat} {o : Oper} (ho : L[i]? = some o) (hli : li i = false) (h2 : classOf T o.op = 2) (hd : ∀ t, o.dst = some t → t < a.tmps.size)
    {fr : Fresh} (hf : eFresh T (tr.E i) o.op = some fr) (hV : tr.V i = fr.val (nx + i)) {x : Obj} {v' : Value} {d : Nat} (hx : ∀ ρ', ρ.le ρ' → ObjR ρ' fr.obj x) (hv : ∀ ρ' b, ρ.le ρ' → ρ' b = some w.heap.size → ρ'.sz w.heap.size = objN x → VR ρ' (fr.val b) v') :
    Inv tr env ρ0 st w0 a0 (liSet li i) p (ρ.add (nx + i) w.heap.size (objN x)) (a.put o.dst v') { w with heap := w.heap.push x, drawn := d } := by
  have hiN := lt_of_get ho
  have hnone := hI.un i hiN hli
  have hle : ρ.le (ρ.add (nx + i) w.heap.size (objN x)) := Ren.le_add hnone (fun k hk => absurd (hI.r.dom k _ hk).2 (Nat.lt_irrefl _))
  have hne : isEff T L i = false := by
    cases hq : isEff T L i with
    | false => rfl
    | true => have := (isEff_class ho).1 hq; omega
  have hold : ∀ (c : Nat) (y : Obj), w.heap[c]? = some y → (w.heap.push x)[c]? = some y := by
    intro c y hy
    have hlt := heap_lt hy
    rw [Array.getElem?_push_lt hlt, ← hy, Array.getElem?_eq_getElem hlt]
  obtain ⟨t1, t2⟩ := hI.tmps hS hle ho hd (v' := v') (by rw [hV]; exact hv _ _ hle (Ren.add_at ρ _ _ _) (Ren.add_sz ρ _ _ _))
  have hlive : ∀ b ob, (tr.S p).h.get b = some ob → b ≠ nx + i ∧ ∃ c, ρ b = some c ∧ c < w.heap.size := by
    intro b ob hb
    obtain ⟨c, y, hc, hy, _⟩ := hI.r.live b ob hb
    refine ⟨fun he => ?_, c, hc, heap_lt hy⟩
    rw [he, hnone] at hc; cases hc
  refine { r := hI.r.more hnone (by have := hI.nxge; omega) rfl, went := ?_, nxge := hI.nxge, e1 := t1, e2 := t2, fr := ?_, un := ?_, size := by rw [Act.put_size]; exact hI.size, defers := by rw [Act.put_defers']; exact hI.defers, ple := hI.ple, done := ?_, left := ?_, front := hI.front }
  · refine { le := Ren.le_trans hI.went.le hle, nx := hI.went.nx, size := ?_, frame := fun c y hy hn => hold c y (hI.went.frame c y hy hn), fresh := ?_, new := ?_, os := hI.went.os, tape := hI.went.tape, output := hI.went.output }
    · show w0.heap.size ≤ (w.heap.push x).size
      rw [Array.size_push]
      have := hI.went.size
      omega
    · intro b ob c hb hc
      rw [Ren.add_ne ρ (hlive b ob hb).1] at hc
      exact hI.went.fresh b ob c hb hc
    · intro b c h1 h3
      by_cases hb : b = nx + i
      · rw [hst, hb]; omega
      · rw [Ren.add_ne ρ hb] at h3
        exact hI.went.new b c h1 h3
  · intro j oj f hj hoj hc2 hw hfj hk
    by_cases hji : j = i
    · subst hji
      rw [ho] at hoj; cases hoj
      rw [hf] at hfj; cases hfj
      refine ⟨w.heap.size, x, Ren.add_at ρ _ _ _, by show (w.heap.push x)[w.heap.size]? = _; simp, hx _ hle, (Ren.add_sz ρ _ _ _).symm, hI.went.size, fun b ob hb => ?_, fun j' hj' hne' => ?_⟩
      · obtain ⟨h1, c, h2, h3⟩ := hlive b ob hb
        rw [Ren.add_ne ρ h1, h2]
        intro he; cases he; omega
      · rw [Ren.add_ne ρ (by omega)]
        intro he
        exact Nat.lt_irrefl _ (hI.r.dom _ _ he).2
    · rw [liSet_ne li hji] at hj
      obtain ⟨c, y, q1, q2, q3, q4, q5, q6, q7⟩ := hI.fr j oj f hj hoj hc2 hw hfj hk
      have hcl := heap_lt q2
      refine ⟨c, y, (hle _ _ q1).1, hold c y q2, q3.mono hle, by rw [(hle _ _ q1).2]; exact q4, q5, fun b ob hb => ?_, fun j' hj' hne' => ?_⟩
      · rw [Ren.add_ne ρ (hlive b ob hb).1]; exact q6 b ob hb
      · by_cases hb : nx + j' = nx + i
        · rw [hb, Ren.add_at]
          intro he; cases he; omega
        · rw [Ren.add_ne ρ hb]; exact q7 j' hj' hne'
  · intro j hj hl
    obtain ⟨h1, h2⟩ := liSet_false hl
    rw [Ren.add_ne ρ (by omega)]
    exact hI.un j hj h2
  · intro j hj he
    by_cases hji : j = i
    · subst hji; exact liSet_at _ _
    · rw [liSet_ne li hji]; exact hI.done j hj he
  · intro j hj he
    have hji : j ≠ i := fun hh => by subst hh; rw [hne] at he; cases he
    rw [liSet_ne li hji]; exact hI.left j hj he

/-- A change. -/
theorem Inv.act (hS : Static T L) (h0 : tr.U 0 = tr.S 0) (hI : Inv tr env ρ0 st w0 a0 li p ρ a w) (hall : ∀ (j : Nat) o, j < p → L[j]? = some o → classOf T o.op = 2 → (∀ k, j < k → k < p → isEff T L k = false) → li j = true)
    {o : Oper} (ho : L[p]? = some o) (hd : ∀ t, o.dst = some t → t < a.tmps.size) {ρ' : Ren} {w' : World} {v' : Value} (hR : R Gn ρ' (tr.S (p + 1)) w') (hW : Went ρ (tr.U p) w ρ' (tr.S (p + 1)) w') (hv : VR ρ' (tr.V p) v') :
    ∃ p', Inv tr env ρ0 st w0 a0 (liSet li p) p' ρ' (a.put o.dst v') w' := by
  have hpN := lt_of_get ho
  have hep := hI.front hpN
  obtain ⟨hRU, hWU⟩ := hI.absorb h0 hall
  obtain ⟨hnx, hget⟩ := tr.newAt h0 p hI.ple
  obtain ⟨t1, t2⟩ := hI.tmps hS hW.le ho hd hv
  obtain ⟨p', k1, k2, k3, k4⟩ := nextEff (T := T) L (L.length - (p + 1)) (p + 1) (by omega)
  have hSp : tr.S p' = tr.S (p + 1) := by
    have := tr.sConst (p + 1) (p' - (p + 1)) (by omega) (fun k h1 h2 => k3 k h1 (by omega))
    rwa [show p + 1 + (p' - (p + 1)) = p' by omega] at this
  have hun : ∀ j, j < L.length → ρ (nx + j) = none → ρ' (nx + j) = none := by
    intro j hj hn
    cases hq : ρ' (nx + j) with
    | none => rfl
    | some c =>
      have h1 := hW.new _ c hn hq
      have h2 := hI.nxge
      omega
  refine ⟨p', { r := by rw [hSp]; exact hR, went := by rw [hSp]; exact hWU.trans hW, nxge := by rw [hSp]; have h1 := hW.nx; have h2 := hI.nxge; omega, e1 := t1, e2 := t2, fr := ?_, un := fun j hj hl => hun j hj (hI.un j hj (liSet_false hl).2), size := by rw [Act.put_size]; exact hI.size, defers := by rw [Act.put_defers']; exact hI.defers, ple := k2, done := ?_, left := ?_, front := k4 }⟩
  · intro j oj f hj hoj h2 hw hf hk
    have hjp : j ≠ p := by
      rintro rfl
      rw [ho] at hoj; cases hoj
      have := (isEff_class ho).1 hep; omega
    have hgt : p < j := by
      rcases Nat.lt_or_ge j p with h | h
      · have := hk p h (by omega)
        rw [hep] at this; cases this
      · omega
    rw [liSet_ne li hjp] at hj
    obtain ⟨c, y, q1, q2, q3, q4, q5, q6, q7⟩ := hI.fr j oj f hj hoj h2 hw hf (fun k h1 h2 => by omega)
    have hnl : ∀ b ob, (tr.U p).h.get b = some ob → ρ b ≠ some c := by
      intro b ob hb
      rcases hget b ob hb with ⟨j', oj', fr', b1, b2, b3, b4, b5, b6, rfl, rfl⟩ | h
      · exact q7 j' (lt_of_get b2) (by omega)
      · exact q6 b ob h
    have hcl := heap_lt q2
    refine ⟨c, y, (hW.le _ _ q1).1, hW.frame c y q2 hnl, q3.mono hW.le, by rw [(hW.le _ _ q1).2]; exact q4, q5, fun b ob hb hbc => ?_, fun j' hj' hne' hbc => ?_⟩
    · rw [hSp] at hb
      rcases hW.fresh b ob c hb hbc with ⟨b0, o0, g1, g2⟩ | g
      · exact hnl b0 o0 g1 g2
      · omega
    · cases hq : ρ (nx + j') with
      | none =>
        rw [hun j' hj' hq] at hbc; cases hbc
      | some c' =>
        have := (hW.le _ _ hq).1
        rw [this] at hbc; cases hbc
        exact q7 j' hj' hne' hq
  · intro j hj he
    by_cases hjp : j = p
    · subst hjp; exact liSet_at _ _
    · rw [liSet_ne li hjp]
      rcases Nat.lt_or_ge j p with h | h
      · exact hI.done j h he
      · have := k3 j (by omega) hj
        rw [this] at he; cases he
  · intro j hj he
    rw [liSet_ne li (by omega)]
    exact hI.left j (by omega) he
end inv
end Go.Proofs.YtegfafebbnlicaaGreatDoor.Ev

namespace Go.Proofs.YtegfafebbnlicaaGreatDoor.Ev
open Go
set_option linter.unusedVariables false
set_option linter.unusedSimpArgs false

variable {P : Program} {T : Tr TI}

section
variable {call : Call1} {ops : Array Oper} {nx : Nat} {tr : Trace T call ops.toList nx 0 ops.toList.length} {env : Env} {ρ0 : Ren} {st : St} {w0 : World} {a0 : Act}

def liOf (listed : Array Bool) : Nat → Bool := fun k => listed.getD k false
theorem liOf_set {listed : Array Bool} {i : Nat} (h : i < listed.size) : liOf (listed.setIfInBounds i true) = liSet (liOf listed) i := by
  funext k
  unfold liOf liSet
  by_cases hk : k = i
  · subst hk; simp [h]
  · rw [if_neg hk]
    exact getD_set_ne false (Ne.symm hk)

/-- Everything is listed: the end. -/
theorem Inv.fin (h0 : tr.U 0 = tr.S 0) (hE0 : tr.E 0 = env) {li : Nat → Bool} {p : Nat} {ρ : Ren} {a : Act} {w : World} (hI : Inv tr env ρ0 st w0 a0 li p ρ a w) (hall : ∀ j, j < ops.toList.length → li j = true) :
    Cy ρ0 st w0 a0 ρ (tr.U ops.toList.length) w a (tr.E ops.toList.length) := by
  have hp : p = ops.toList.length := by
    rcases Nat.lt_or_ge p ops.toList.length with h | h
    · have h1 := hI.left p (Nat.le_refl _) (hI.front h)
      rw [hall p h] at h1; cases h1
    · have := hI.ple; omega
  subst hp
  obtain ⟨r1, r2⟩ := hI.absorb h0 (fun j o hj ho _ _ => hall j (lt_of_get ho))
  refine ⟨r1, r2, fun t v hv => ?_, hI.size, hI.defers⟩
  rcases tr.envAt hE0 _ (Nat.le_refl _) t v hv with ⟨j, o, h1, h2, h3, rfl⟩ | ⟨h1, h2⟩
  · exact hI.e1 j o t (hall j h1) h2 h3
  · exact hI.e2 t v h2 (fun j o hj ht => absurd ht (h1 j o (lt_of_get hj) hj))

theorem draw_any (hok : Ok P T) (hcall : CallS P call) {r : Option Nat} (hS : Static T ops.toList) (h0 : tr.U 0 = tr.S 0) (hE0 : tr.E 0 = env) (hst : st.nx = nx) {ss : List St} {rs : List Rd}
    (hss : ss = [tr.S 0] ++ ((List.range' 0 ops.toList.length).filter (isEff T ops.toList)).map (fun j => tr.S (j + 1))) (hag : againAll T ops.toList ss rs = true)
    (hrs : ∀ j o, 0 ≤ j → j < 0 + ops.toList.length → ops.toList[j]? = some o → classOf T o.op = 1 → tr.W j = true → (j, tr.E j, o.op, tr.V j) ∈ rs)
    (hdst : ∀ (j : Nat) o t, ops.toList[j]? = some o → o.dst = some t → t < a0.tmps.size) {Q : Exit → Act → World → Prop}
    (hQ : ∀ ρ' w' a', Cy ρ0 st w0 a0 ρ' (tr.U ops.toList.length) w' a' (tr.E ops.toList.length) → Q .normal a' w') :
    ∀ (fuel : Nat) (listed : Array Bool) (p : Nat) (ρ : Ren) (a : Act) (w : World), listed.size = ops.size → Cl ops.toList (liOf listed) → Inv tr env ρ0 st w0 a0 (liOf listed) p ρ a w →
      ((List.range ops.toList.length).filter fun k => !liOf listed k).length ≤ fuel → wpAnyIn (Fw r) 0 P .any ops Q fuel listed a w := by
  intro fuel
  have hlen : ops.toList.length = ops.size := Array.length_toList
  have hready : ∀ (listed : Array Bool), listed.size = ops.size → Cl ops.toList (liOf listed) → Region.ready .any ops listed = [] → ∀ j, j < ops.toList.length → liOf listed j = true := by
    intro listed hsz hcl hr j
    induction j using Nat.strongRecOn with
    | _ j ih =>
      intro hj
      cases hl : liOf listed j with
      | true => rfl
      | false =>
        exfalso
        have hm : j ∈ Region.ready .any ops listed := by
          rw [mem_ready]
          have hjs : j < listed.size := by omega
          refine ⟨?_, ops[j]'(by omega), Array.getElem?_eq_getElem (by omega), fun e he hb => ?_⟩
          · have : listed.getD j false = false := hl
            simpa [hjs] using this
          · have hon : e.on ∈ onsOf (ops[j]'(by omega)) := mem_onsOf (by simpa using he) (by rw [bindsB_eq]; exact hb)
            have hlt := hS.back j _ (by rw [Array.getElem?_toList]; exact Array.getElem?_eq_getElem (by omega)) _ hon
            exact ih e.on hlt (by omega)
        rw [hr] at hm; cases hm
  induction fuel with
  | zero =>
    intro listed p ρ a w hsz hcl hI hcount
    have hall : ∀ j, j < ops.toList.length → liOf listed j = true := by
      intro j hj
      cases hl : liOf listed j with
      | true => rfl
      | false =>
        have hmem : j ∈ ((List.range ops.toList.length).filter fun k => !liOf listed k) := List.mem_filter.2 ⟨List.mem_range.2 hj, by rw [hl]; rfl⟩
        have := List.length_pos_of_mem hmem
        omega
    refine ⟨?_, hQ ρ w a (hI.fin h0 hE0 hall)⟩
    cases hr : Region.ready .any ops listed with
    | nil => rfl
    | cons x xs =>
      exfalso
      have hx : x ∈ Region.ready .any ops listed := by rw [hr]; exact List.mem_cons_self
      obtain ⟨h1, o, h2, _⟩ := mem_ready.1 hx
      have hxl := hall x (by rw [hlen]; exact (Array.getElem?_eq_some_iff.1 h2).1)
      have hxs : x < listed.size := by rw [hsz]; exact (Array.getElem?_eq_some_iff.1 h2).1
      have : listed.getD x false = true := hxl
      simp [hxs] at h1 this
      rw [h1] at this; cases this
  | succ fuel ih =>
    intro listed p ρ a w hsz hcl hI hcount
    refine ⟨fun hr => hQ ρ w a (hI.fin h0 hE0 (hready listed hsz hcl hr)), fun i hi => ?_⟩
    obtain ⟨hil, o, hio, hons⟩ := mem_ready.1 hi
    have hiN : i < ops.size := (Array.getElem?_eq_some_iff.1 hio).1
    have his : i < listed.size := by omega
    have hli : liOf listed i = false := by
      show listed.getD i false = false
      simpa [his] using hil
    have ho : ops.toList[i]? = some o := by rw [Array.getElem?_toList]; exact hio
    have hon : ∀ k ∈ onsOf o, liOf listed k = true := by
      intro k hk
      unfold onsOf at hk
      obtain ⟨e, he, hek⟩ := List.mem_filterMap.1 hk
      split at hek
      · rename_i hb
        cases hek
        exact hons e (by simpa using he) (by rw [← bindsB_eq]; exact hb)
      · cases hek
    have hmask : ∀ k, Nat.testBit (maskAt (masksOf ops.toList []) i) k = true → liOf listed k = true := fun k hk => mask_listed hcl ho hon hk
    have hmaskr : ∀ (j : Nat) oj, ops.toList[j]? = some oj → liOf listed j = true → Nat.testBit (maskAt (masksOf ops.toList []) j) i = false := by
      intro j oj hoj hj
      cases hb : Nat.testBit (maskAt (masksOf ops.toList []) j) i with
      | false => rfl
      | true =>
        have := mask_listed hcl hoj (fun n hn => hcl j oj hj hoj n hn) hb
        rw [hli] at this; cases this
    have hdo : ∀ t, o.dst = some t → t < a.tmps.size := fun t ht => by rw [hI.size]; exact hdst i o t ho ht
    /- the temporaries that the operation looks at -/
    have hER : EnvR ρ (restr (tr.E i) (looksL ops.toList o)) a.tmps := by
      intro t v hv
      rw [restr_get] at hv
      split at hv
      case isFalse => cases hv
      rename_i ht
      rcases tr.envAt hE0 i (by rw [hlen]; omega) t v hv with ⟨j, oj, h1, h2, h3, rfl⟩ | ⟨h1, h2⟩
      · exact hI.e1 j oj t (hmask j (hS.after j i oj o t h1 h2 ho h3 ht)) h2 h3
      · refine hI.e2 t v h2 (fun j oj hoj htj => ?_)
        rcases Nat.lt_trichotomy j i with h | h | h
        · exact absurd htj (h1 j oj h hoj)
        · rw [h]; exact hli
        · cases hlj : liOf listed j with
          | false => rfl
          | true =>
            have h1 := hS.ahead i j o oj t h ho hoj htj ht
            rw [hmaskr j oj hoj hlj] at h1; cases h1
    have hopd : ∀ x ∈ o.op.operands, eOpd (restr (tr.E i) (looksL ops.toList o)) x = eOpd (tr.E i) x := by
      intro x hx
      refine restr_opd (fun t ht => ?_)
      subst ht
      unfold looksL
      exact List.mem_append_left _ (mem_tmpsOf (by simpa using hx))
    have hst' := tr.at ho
    have hO : OpdR ρ (restr (tr.E i) (looksL ops.toList o)) a.eval := opdR hI.r hER
    have hwant : eWanted ops.toList (restr (tr.E i) (looksL ops.toList o)) o = some (tr.W i) := by
      rw [← hst'.wanted]
      unfold eWanted
      split
      · rfl
      · rename_i j want hg
        split
        · rename_i oj hoj
          split
          · rename_i t ht
            rw [restr_get, if_pos]
            unfold looksL
            refine List.mem_append_right _ ?_
            rw [hg]
            simp only [hoj, ht]
            simp
          · rfl
        · rfl
    have hW := eWanted_sound hwant hER
    have hcl' : Cl ops.toList (liOf (listed.setIfInBounds i true)) := by
      rw [liOf_set his]
      intro j oj hj hoj n hn
      by_cases hji : j = i
      · subst hji
        rw [ho] at hoj; cases hoj
        unfold liSet; split
        · rfl
        · exact hon n hn
      · rw [liSet_ne _ hji] at hj
        unfold liSet; split
        · rfl
        · exact hcl j oj hj hoj n hn
    have hcount' : ((List.range ops.toList.length).filter fun k => !liOf (listed.setIfInBounds i true) k).length ≤ fuel := by
      rw [liOf_set his]
      have : ((List.range ops.toList.length).filter fun k => !liSet (liOf listed) i k).length < ((List.range ops.toList.length).filter fun k => !liOf listed k).length := by
        refine filter_len_lt _ (fun x _ hx => ?_) ⟨i, List.mem_range.2 (by omega), by rw [liSet_at]; rfl, by rw [hli]; rfl⟩
        have hx' : liSet (liOf listed) i x = false := by simpa using hx
        rw [(liSet_false hx').2]; rfl
      omega
    have hsz' : (listed.setIfInBounds i true).size = ops.size := by simpa using hsz
    have hnext : ∀ (p' : Nat) (ρ' : Ren) (a' : Act) (w' : World), Inv tr env ρ0 st w0 a0 (liSet (liOf listed) i) p' ρ' a' w' → wpAnyIn (Fw r) 0 P .any ops Q fuel (listed.setIfInBounds i true) a' w' := by
      intro p' ρ' a' w' hI'
      exact ih _ p' ρ' a' w' hsz' hcl' (by rw [liOf_set his]; exact hI') hcount'
    unfold wpOpIn
    simp only [hio, hW]
    by_cases h3 : 3 ≤ classOf T o.op
    · /- a change: it is the next one -/
      have hei := (isEff_class ho).2 h3
      have hip : i = p := by
        rcases Nat.lt_trichotomy i p with h | h | h
        · have := hI.done i h hei
          rw [hli] at this; cases this
        · exact h
        · exfalso
          have hep := hI.front (by omega)
          obtain ⟨op', hop', _⟩ := isEff_lt hep
          have h1 := hS.effs p i op' o h hop' ho h3 (by have := (isEff_class hop').1 hep; omega)
          have h2 := hmask p h1
          rw [hI.left p (Nat.le_refl _) hep] at h2; cases h2
      subst hip
      have hall : ∀ (j : Nat) oj, j < i → ops.toList[j]? = some oj → classOf T oj.op = 2 → (∀ k, j < k → k < i → isEff T ops.toList k = false) → liOf listed j = true := by
        intro j oj hj hoj h2 _
        exact hmask j (hS.effs j i oj o hj hoj ho h3 (by omega))
      obtain ⟨e1, e2, e3⟩ := hst'.eff h3
      cases hb : tr.W i with
      | true =>
        simp only [if_true]
        have hact := e3 hb
        rw [← eAct_congr hopd] at hact
        obtain ⟨hRU, hWU⟩ := hI.absorb h0 hall
        refine eAct_wp hok hcall hRU hO hact (fun v' ρ' w' r1 r2 r3 => ?_)
        rw [← e1] at r1 r2
        obtain ⟨p', hI'⟩ := hI.act hS h0 hall ho hdo r1 r2 r3
        exact hnext p' ρ' _ w' hI'
      | false =>
        simp only [Bool.false_eq_true, if_false]
        refine ⟨fun _ _ => trivial, ?_⟩
        obtain ⟨hRU, hWU⟩ := hI.absorb h0 hall
        have hv : VR ρ (tr.V i) undef := by rw [hst'.skip hb]; exact undefR
        have hSU : tr.S (i + 1) = tr.U i := by rw [e1, e2 hb]
        obtain ⟨p', hI'⟩ := hI.act (ρ' := ρ) (w' := w) hS h0 hall ho hdo (by rw [hSU]; exact hRU) (by rw [hSU]; exact Went.refl _ _ _) hv
        exact hnext p' ρ _ w hI'
    · have hne : isEff T ops.toList i = false := by
        cases hx : isEff T ops.toList i with
        | false => rfl
        | true => exact absurd ((isEff_class ho).1 hx) h3
      have hnd : noDefer o.op = true := class_noDefer (T := T) (by omega)
      cases hb : tr.W i with
      | false =>
        simp only [Bool.false_eq_true, if_false]
        refine ⟨fun _ _ => trivial, ?_⟩
        have hv : VR ρ (tr.V i) undef := by rw [hst'.skip hb]; exact undefR
        exact hnext p ρ _ w (hI.val hS ho hne (fun _ => hb) hdo hv)
      | true =>
        simp only [if_true]
        have hcls : classOf T o.op = 0 ∨ classOf T o.op = 1 ∨ classOf T o.op = 2 := by omega
        rcases hcls with hc | hc | hc
        · have hp := (hst'.low hc).2.2 hb
          rw [← ePure_congr hopd] at hp
          obtain ⟨v', h1, h2⟩ := ePure_sound hok.types hO hp hc w
          exact wpIn_value hnd h1 (hnext p ρ _ w (hI.val hS ho hne (fun h => by omega) hdo h2))
        · have hrd := (hst'.read hc).2.2 hb
          have hSp : eRead T (tr.E i) o.op (tr.S p) = some (tr.V i) := by
            have hat := tr.stateAt rfl hss p hI.ple
            have hmem := hrs i o (Nat.zero_le _) (by omega) ho hc hb
            have hki : (rangeOf T ops.toList i).1 ≤ cnt T ops.toList p := by
              show ((effsOf T ops.toList).filter _).length ≤ _
              unfold effsOf cnt
              have hsplit : List.range ops.toList.length = List.range p ++ List.range' p (ops.toList.length - p) := by
                rw [List.range_eq_range', List.range_eq_range']
                have := List.range'_append_1 (s := 0) (m := p) (n := ops.toList.length - p)
                rw [Nat.zero_add] at this
                rw [this, show p + (ops.toList.length - p) = ops.toList.length by have := hI.ple; omega]
              rw [hsplit, List.filter_append, List.filter_append, List.length_append]
              have h2 : (List.filter (fun j => (maskAt (masksOf ops.toList []) i).testBit j) (List.filter (isEff T ops.toList) (List.range' p (ops.toList.length - p)))) = [] := by
                rw [List.filter_eq_nil_iff]
                intro j hj hbit
                obtain ⟨hj1, hj2⟩ := List.mem_filter.1 hj
                have hjp := (List.mem_range'_1.1 hj1).1
                have h1 := hmask j hbit
                rw [hI.left j hjp hj2] at h1; cases h1
              rw [h2]
              have := List.length_filter_le (fun j => (maskAt (masksOf ops.toList []) i).testBit j) (List.filter (isEff T ops.toList) (List.range p))
              simpa using this
            have hkh : cnt T ops.toList p ≤ (rangeOf T ops.toList i).2 := by
              show _ ≤ ((effsOf T ops.toList).filter _).length
              unfold effsOf cnt
              have hsplit : List.range ops.toList.length = List.range p ++ List.range' p (ops.toList.length - p) := by
                rw [List.range_eq_range', List.range_eq_range']
                have := List.range'_append_1 (s := 0) (m := p) (n := ops.toList.length - p)
                rw [Nat.zero_add] at this
                rw [this, show p + (ops.toList.length - p) = ops.toList.length by have := hI.ple; omega]
              rw [hsplit, List.filter_append, List.filter_append, List.length_append]
              have h2 : List.filter (fun j => !(maskAt (masksOf ops.toList []) j).testBit i) (List.filter (isEff T ops.toList) (List.range p)) = List.filter (isEff T ops.toList) (List.range p) := by
                rw [List.filter_eq_self]
                intro j hj
                obtain ⟨hj1, hj2⟩ := List.mem_filter.1 hj
                have hjp := List.mem_range.1 hj1
                obtain ⟨oj, hoj, _⟩ := isEff_lt hj2
                rw [hmaskr j oj hoj (hI.done j hjp hj2)]; rfl
              rw [h2]
              exact Nat.le_add_right _ _
            rcases againAll_sound ops.toList ss rs hag i _ _ _ hmem (cnt T ops.toList p) (tr.S p) hat hki hkh with h | h
            · /- only one state -/
              have hati := tr.stateAt rfl hss i (by omega)
              have hii : cnt T ops.toList i = cnt T ops.toList p := by
                have hge : (rangeOf T ops.toList i).1 ≤ cnt T ops.toList i := by
                  show ((effsOf T ops.toList).filter _).length ≤ _
                  unfold effsOf cnt
                  have hsplit : List.range ops.toList.length = List.range i ++ List.range' i (ops.toList.length - i) := by
                    rw [List.range_eq_range', List.range_eq_range']
                    have := List.range'_append_1 (s := 0) (m := i) (n := ops.toList.length - i)
                    rw [Nat.zero_add] at this
                    rw [this, show i + (ops.toList.length - i) = ops.toList.length by omega]
                  rw [hsplit, List.filter_append, List.filter_append, List.length_append]
                  have h2 : (List.filter (fun j => (maskAt (masksOf ops.toList []) i).testBit j) (List.filter (isEff T ops.toList) (List.range' i (ops.toList.length - i)))) = [] := by
                    rw [List.filter_eq_nil_iff]
                    intro j hj hbit
                    obtain ⟨hj1, hj2⟩ := List.mem_filter.1 hj
                    have hji := (List.mem_range'_1.1 hj1).1
                    have hback := mask_listed (L := ops.toList) (li := fun k => decide (k < i)) (fun q oq hq hoq n hn => by
                      have := hS.back q oq hoq n hn
                      have hq' : q < i := of_decide_eq_true hq
                      exact decide_eq_true (by omega)) ho (fun n hn => decide_eq_true (hS.back i o ho n hn)) hbit
                    have := of_decide_eq_true hback
                    omega
                  rw [h2]
                  have := List.length_filter_le (fun j => (maskAt (masksOf ops.toList []) i).testBit j) (List.filter (isEff T ops.toList) (List.range i))
                  simpa using this
                have hle2 : cnt T ops.toList i ≤ (rangeOf T ops.toList i).2 := by
                  show _ ≤ ((effsOf T ops.toList).filter _).length
                  unfold effsOf cnt
                  have hsplit : List.range ops.toList.length = List.range i ++ List.range' i (ops.toList.length - i) := by
                    rw [List.range_eq_range', List.range_eq_range']
                    have := List.range'_append_1 (s := 0) (m := i) (n := ops.toList.length - i)
                    rw [Nat.zero_add] at this
                    rw [this, show i + (ops.toList.length - i) = ops.toList.length by omega]
                  rw [hsplit, List.filter_append, List.filter_append, List.length_append]
                  have h2 : List.filter (fun j => !(maskAt (masksOf ops.toList []) j).testBit i) (List.filter (isEff T ops.toList) (List.range i)) = List.filter (isEff T ops.toList) (List.range i) := by
                    rw [List.filter_eq_self]
                    intro j hj
                    obtain ⟨hj1, hj2⟩ := List.mem_filter.1 hj
                    have hji := List.mem_range.1 hj1
                    obtain ⟨oj, hoj, _⟩ := isEff_lt hj2
                    cases hbit : (maskAt (masksOf ops.toList []) j).testBit i with
                    | false => rfl
                    | true =>
                      have hback := mask_listed (L := ops.toList) (li := fun k => decide (k < j)) (fun q oq hq hoq n hn => by
                        have := hS.back q oq hoq n hn
                        have hq' : q < j := of_decide_eq_true hq
                        exact decide_eq_true (by omega)) hoj (fun n hn => decide_eq_true (hS.back j oj hoj n hn)) hbit
                      have := of_decide_eq_true hback
                      omega
                  rw [h2]
                  exact Nat.le_add_right _ _
                omega
              rw [hii, hat] at hati
              rw [Option.some.inj hati]
              exact hrd
            · exact h
          rw [← eRead_congr hopd] at hSp
          obtain ⟨v', h1, h2⟩ := eRead_sound hok.types hok.aggs hI.r hO hSp
          exact wpIn_value hnd h1 (hnext p ρ _ w (hI.val hS ho hne (fun h => by omega) hdo h2))
        · obtain ⟨fr, f1, f2, f3⟩ := (hst'.fresh hc).2.2 hb
          have f1' := f1
          rw [← eFresh_congr hopd] at f1'
          refine (eFresh_sound hok.types hO f1').wp hnd (fun x v' d h1 h2 => ?_)
          exact hnext p _ _ _ (hI.new hS hst ho hli hc hdo f1 f2 h1 h2)
end

theorem drawS (hok : Ok P T) : DrawS P T := by
  intro call hcall ops env st env' st' h hrg id r ρ w a hm hR hE Q hQ
  unfold runDraw at h
  split at h
  case h_2 => cases h
  rename_i eF t ss rs hrun
  split at h
  case h_2 => cases h
  rename_i hag
  cases h
  have hS := static_of hrg
  obtain ⟨tr, e1, e2, e3, e4, e5, e6, e7, e8⟩ := runD_trace call ops.toList st.nx ops.toList 0 env _ _ _ _ _ _ _ _ rfl hrun
  rw [Nat.zero_add] at e4 e5
  have hdst : ∀ (j : Nat) o t, ops.toList[j]? = some o → o.dst = some t → t < a.tmps.size := fun j o t ho ht => dstMaxL_le _ _ hm o (List.mem_of_getElem? ho) t ht
  obtain ⟨p, k1, k2, k3, k4⟩ := nextEff (T := T) ops.toList ops.toList.length 0 (by omega)
  have hSp : tr.S p = tr.S 0 := by
    have := tr.sConst 0 p (by omega) (fun k h1 h2 => k3 k h1 (by omega))
    rwa [Nat.zero_add] at this
  have hR' : R Gn ρ (tr.S p) { w with drawn := w.drawn + 1 } := by
    rw [hSp, e2]
    exact ⟨fun b o hb => hR.live b o hb, hR.inj, fun b c hc => ⟨Nat.lt_of_lt_of_le (hR.dom b c hc).1 (Nat.le_add_right _ _), (hR.dom b c hc).2⟩, hR.glob⟩
  have hI : Inv tr env ρ st w a (fun _ => false) p ρ a { w with drawn := w.drawn + 1 } := {
    r := hR'
    went := by
      rw [hSp, e2]
      exact ⟨Ren.le_refl _, Nat.le_add_right _ _, Nat.le_refl _, fun c x hx _ => hx, fun b o c hb hc => .inl ⟨b, o, hb, hc⟩, (fun b c h1 h2 => by rw [h1] at h2; cases h2), rfl, rfl, rfl⟩
    nxge := by rw [hSp, e2]; exact Nat.le_refl _
    e1 := fun j o t hj => by cases hj
    e2 := fun t v hv _ => hE t v hv
    fr := fun j o f hj => by cases hj
    un := fun j hj _ => by
      cases hq : ρ (st.nx + j) with
      | none => rfl
      | some c => have := (hR.dom _ _ hq).1; omega
    size := rfl
    defers := rfl
    ple := k2
    done := fun j hj he => by rw [k3 j (Nat.zero_le _) hj] at he; cases he
    left := fun _ _ _ => rfl
    front := k4 }
  have hli : liOf (Array.replicate ops.size false) = fun _ => false := by
    funext k
    unfold liOf
    by_cases hk : k < ops.size <;> simp [Array.getD_eq_getD_getElem?, hk]
  refine wpIn_region_draw (fun t => ?_)
  simp only [Region.schedule, hok.mixed, Bool.true_or, if_true]
  refine wpAnyIn_sound ops.size t _ a _ ?_
  refine draw_any (st := st) (w0 := w) hok hcall hS (by rw [e3, e2]) e1 rfl (by rw [e2]; exact e6) hag e8 hdst (fun ρ' w' a' c => hQ ρ' w' a' (by rw [e4, e5] at c; exact c)) ops.size _ p ρ a _ (by simp) ?_ (by rw [hli]; exact hI) ?_
  · rw [hli]
    intro i o hi; cases hi
  · have := List.length_filter_le (fun k => !liOf (Array.replicate ops.size false) k) (List.range ops.toList.length)
    simpa using this
end Go.Proofs.YtegfafebbnlicaaGreatDoor.Ev

namespace Go.Proofs.YtegfafebbnlicaaGreatDoor.Ev
open Go
set_option linter.unusedVariables false
set_option linter.unusedSimpArgs false

/-- Every entry of a trie, key by key; key: the number whose remaining path is k. -/
inductive TrAll {α : Type} (Q : Nat → α → Prop) : (Nat → Nat) → Bt α → Prop
  | nil (key : Nat → Nat) : TrAll Q key .nil
  | none (key : Nat → Nat) (l r : Bt α) (hl : TrAll Q (fun k => key (2 * k + 1)) l) (hr : TrAll Q (fun k => key (2 * k + 2)) r) : TrAll Q key (.node none l r)
  | some (key : Nat → Nat) (x : α) (l r : Bt α) (h : Q (key 0) x) (hl : TrAll Q (fun k => key (2 * k + 1)) l) (hr : TrAll Q (fun k => key (2 * k + 2)) r) : TrAll Q key (.node (some x) l r)
theorem TrAll.get {α : Type} {Q : Nat → α → Prop} {key : Nat → Nat} {t : Bt α} (h : TrAll Q key t) : ∀ n x, t.get n = Option.some x → Q (key n) x := by
  induction h with
  | nil key => intro n x h; cases h
  | none key l r _ _ ihl ihr =>
    intro n x h
    cases n with
    | zero => cases h
    | succ k =>
      rw [Bt.get_succ] at h
      by_cases hk : k % 2 = 0
      · rw [if_pos hk] at h
        have := ihl _ _ h
        have e : 2 * (k / 2) + 1 = k + 1 := by omega
        rw [← e]; exact this
      · rw [if_neg hk] at h
        have := ihr _ _ h
        have e : 2 * (k / 2) + 2 = k + 1 := by omega
        rw [← e]; exact this
  | some key y l r hy _ _ ihl ihr =>
    intro n x h
    cases n with
    | zero => cases h; exact hy
    | succ k =>
      rw [Bt.get_succ] at h
      by_cases hk : k % 2 = 0
      · rw [if_pos hk] at h
        have := ihl _ _ h
        have e : 2 * (k / 2) + 1 = k + 1 := by omega
        rw [← e]; exact this
      · rw [if_neg hk] at h
        have := ihr _ _ h
        have e : 2 * (k / 2) + 2 = k + 1 := by omega
        rw [← e]; exact this

/-! ### Functions -/
noncomputable def fnChk (T : Tr TI) (fn : Func) : Bool :=
  match fn.body with
  | none => true
  | some c => codeOk T c false && Nat.ble (dstMax c) fn.ntmps
def FQ (P : Program) (T : Tr TI) (g : Nat) (fn : FI) : Prop := P.funcs[g]? = some fn.1 ∧ (fn.1.name == "runtime.NumGoroutine") = false ∧ fnChk T fn.1 = true
theorem fOk_of {P : Program} {T : Tr TI} {F : Bt FI} (h : TrAll (FQ P T) (fun k => k) F) : FOk P T (.mk 0 .nil F) := by
  intro g fn m hg
  obtain ⟨h1, h2, h3⟩ := h.get g (fn, m) hg
  refine ⟨h1, h2, fun c hc => ?_⟩
  unfold fnChk at h3
  rw [hc] at h3
  simp only [Bool.and_eq_true] at h3
  exact ⟨h3.1, ble_iff.1 h3.2⟩

/-! ### Types -/
def sizeB (P : Program) (t : TypeId) (n : Nat) : Bool :=
  match P.info? t with
  | some i => Nat.beq i.size n
  | none => false
theorem sizeB_spec {P : Program} {t : TypeId} {n : Nat} (h : sizeB P t n = true) : sizeIs P t n := by
  unfold sizeB at h
  split at h
  · rename_i i hi; exact ⟨i, hi, beq_iff.1 h⟩
  · cases h
noncomputable def fieldsB (P : Program) (fs : List (Nat × TypeId × Nat)) : List Field → Bool :=
  List.rec (motive := fun _ => List Field → Bool) (fun gs => match gs with
      | [] => true
      | _ :: _ => false)
    (fun x _ ih gs => match gs with
      | [] => false
      | g :: gs => match Nat.beq g.offset x.1, Nat.beq g.type x.2.1, sizeB P x.2.1 x.2.2 with
        | true, true, true => ih gs
        | _, _, _ => false) fs
theorem fieldsB_cons (P : Program) (x : Nat × TypeId × Nat) (fs : List (Nat × TypeId × Nat)) (g : Field) (gs : List Field) : fieldsB P (x :: fs) (g :: gs) = match Nat.beq g.offset x.1, Nat.beq g.type x.2.1, sizeB P x.2.1 x.2.2 with
        | true, true, true => fieldsB P fs gs
        | _, _, _ => false := rfl
theorem fieldsB_spec {P : Program} : ∀ (fs : List (Nat × TypeId × Nat)) (gs : List Field), fieldsB P fs gs = true → gs.length = fs.length ∧ ∀ (i : Nat) x, fs[i]? = some x → ∃ g, gs[i]? = some g ∧ g.offset = x.1 ∧ g.type = x.2.1 ∧ sizeIs P x.2.1 x.2.2
  | [], [], _ => ⟨rfl, fun i x h => by simp at h⟩
  | [], _ :: _, h => by cases h
  | _ :: _, [], h => by cases h
  | x :: fs, g :: gs, h => by
    rw [fieldsB_cons] at h
    split at h
    case h_2 => cases h
    rename_i h1 h2 h3
    obtain ⟨e1, e2⟩ := fieldsB_spec fs gs h
    refine ⟨by simp [e1], fun i y hy => ?_⟩
    cases i with
    | zero => cases hy; exact ⟨g, rfl, beq_iff.1 h1, beq_iff.1 h2, sizeB_spec h3⟩
    | succ i => exact e2 i y hy
def bytesB (P : Program) (t : TypeId) (n : Nat) : Bool := Nat.beq (P.bytesOf t) n
noncomputable def descB (P : Program) (d : ED) (x : Option TypeDesc) : Bool :=
  match x with
  | none => false
  | some y => match d, y with
    | .int k, .int k' => decide (k' = k)
    | .bool, .bool => true
    | .string, .string => true
    | .pointer e, .pointer e' => Nat.beq e' e
    | .slice e sz by_, .slice e' => Nat.beq e' e && sizeB P e sz && bytesB P e by_
    | .array n e sz, .array n' e' => Nat.beq n' n && Nat.beq e' e && sizeB P e sz
    | .map k e, .map k' e' => Nat.beq k' k && Nat.beq e' e
    | .struct fs, .struct gs => fieldsB P fs gs.toList
    | .func, .func _ _ _ => true
    | .iface, .interface _ => true
    | .tuple, .tuple _ => true
    | _, _ => false
theorem descB_spec {P : Program} {d : ED} {x : Option TypeDesc} (h : descB P d x = true) : ∃ y, x = some y ∧ DescR P d y := by
  unfold descB at h
  split at h
  · cases h
  rename_i y
  refine ⟨y, rfl, ?_⟩
  split at h
  · have h' := of_decide_eq_true h
    exact h'
  · trivial
  · trivial
  · exact beq_iff.1 h
  · simp only [Bool.and_eq_true] at h
    exact ⟨beq_iff.1 h.1.1, sizeB_spec h.1.2, beq_iff.1 h.2⟩
  · simp only [Bool.and_eq_true] at h
    exact ⟨beq_iff.1 h.1.1, beq_iff.1 h.1.2, sizeB_spec h.2⟩
  · simp only [Bool.and_eq_true] at h
    exact ⟨beq_iff.1 h.1, beq_iff.1 h.2⟩
  · rename_i fs gs
    obtain ⟨e1, e2⟩ := fieldsB_spec _ _ h
    refine ⟨by rw [← Array.length_toList]; exact e1, fun i x hx => ?_⟩
    obtain ⟨g, h1, h2⟩ := e2 i x hx
    exact ⟨g, by rw [← Array.getElem?_toList]; exact h1, h2⟩
  · trivial
  · trivial
  · trivial
  · cases h
/-- A type's entry. -/
theorem tiOk {P : Program} {t : TypeId} {ti : TI} {i : TypeInfo} (hi : P.info? t = some i) (h1 : Nat.beq i.size ti.size = true) (h2 : Nat.beq i.bytes ti.bytes = true) (h3 : i.zero = some ti.zero) (h4 : plainV ti.zero = true) (h5 : Nat.beq ti.zero.cells.size ti.size = true)
    (h6 : descB P ti.d (P.underlying t) = true) (h7 : ∀ m f, (m, f) ∈ ti.ms → ∃ e, P.underlying t = some (.pointer e) ∧ ∃ i x, P.info? t = some i ∧ i.methods.find? (·.name == m) = some x ∧ x.path = #[] ∧ x.func = some (f, true)) : TIok P t ti :=
  ⟨⟨i, hi, beq_iff.1 h1, beq_iff.1 h2, h3⟩, h4, beq_iff.1 h5, descB_spec h6, h7⟩
/-- Elements of slices stand in the table. -/
noncomputable def elB (T : Tr TI) (ti : TI) : Bool :=
  match ti.d with
  | .slice e sz _ => match T.get e with
    | some te => Nat.beq (eCells te.zero).length sz
    | none => false
  | _ => true
def TQ (P : Program) (T : Tr TI) (t : Nat) (ti : TI) : Prop := TIok P t ti ∧ elB T ti = true
noncomputable def methB (P : Program) (t : TypeId) (p : String × FuncId) : Bool :=
  match P.underlying t with
  | some (.pointer _) => match P.info? t with
    | some i => match i.methods.find? (·.name == p.1) with
      | some x => x.path.isEmpty && (match x.func with
        | some (g, true) => Nat.beq g p.2
        | _ => false)
      | none => false
    | none => false
  | _ => false
theorem methB_spec {P : Program} {t : TypeId} {m : String} {f : FuncId} (h : methB P t (m, f) = true) : ∃ e, P.underlying t = some (.pointer e) ∧ ∃ i x, P.info? t = some i ∧ i.methods.find? (·.name == m) = some x ∧ x.path = #[] ∧ x.func = some (f, true) := by
  unfold methB at h
  split at h
  case h_2 => cases h
  rename_i e he
  split at h
  case h_2 => cases h
  rename_i i hi
  split at h
  case h_2 => cases h
  rename_i x hx
  rw [Bool.and_eq_true] at h
  refine ⟨e, he, i, x, hi, hx, by simpa using h.1, ?_⟩
  have h2 := h.2
  split at h2
  · rename_i g hg
    rw [hg, beq_iff.1 h2]
  · cases h2
noncomputable def tiChk (P : Program) (T : Tr TI) (t : TypeId) (ti : TI) : Bool :=
  match P.info? t with
  | some i => Nat.beq i.size ti.size && Nat.beq i.bytes ti.bytes && plainV ti.zero && Nat.beq ti.zero.cells.size ti.size && descB P ti.d (P.underlying t) && ti.ms.all (methB P t) && elB T ti
  | none => false
theorem tq_of {P : Program} {T : Tr TI} {t : TypeId} {ti : TI} (h : tiChk P T t ti = true) (hz : (P.info? t).bind (·.zero) = some ti.zero) : TQ P T t ti := by
  unfold tiChk at h
  split at h
  case h_2 => cases h
  rename_i i hi
  simp only [Bool.and_eq_true] at h
  obtain ⟨⟨⟨⟨⟨⟨h1, h2⟩, h3⟩, h4⟩, h5⟩, h6⟩, h7⟩ := h
  rw [hi] at hz
  refine ⟨tiOk hi h1 h2 hz h3 h4 h5 (fun m f hm => ?_), h7⟩
  exact methB_spec (List.all_eq_true.1 h6 (m, f) hm)
theorem tOk_of {P : Program} {B : Bt TI} {T : Tr TI} (hT : T = .mk 0 .nil B) (h : TrAll (TQ P T) (fun k => k) B) : TOk P T ∧ ∀ t ti e sz by_, T.get t = some ti → ti.d = .slice e sz by_ → ∃ te, T.get e = some te ∧ (eCells te.zero).length = sz := by
  have hg : ∀ t, T.get t = B.get t := fun t => by rw [hT]; rfl
  refine ⟨fun t ti ht => (h.get t ti ((hg t).symm.trans ht)).1, fun t ti e sz by_ ht hd => ?_⟩
  have := (h.get t ti ((hg t).symm.trans ht)).2
  unfold elB at this
  rw [hd] at this
  simp only at this
  split at this
  · rename_i te hte
    exact ⟨te, hte, beq_iff.1 this⟩
  · cases this
end Go.Proofs.YtegfafebbnlicaaGreatDoor.Ev
