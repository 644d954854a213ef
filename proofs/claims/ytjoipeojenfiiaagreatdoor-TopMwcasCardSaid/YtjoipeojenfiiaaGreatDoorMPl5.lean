/-
  After a crash of the plain machine, recovery leaves all words old or all words new. No program in sight.
-/
import Derived.Test.YtjoipeojenfiiaaGreatDoorMTopA
namespace Go.Proofs.YtjoipeojenfiiaaGreatDoor.Dv
open Go.RowKit
set_option linter.unusedVariables false

/-- The machine at the start. -/
theorem inv_start {T : Nat → Nat} {n N : Nat} {m : MS} (hs : 2 ≤ n ∧ n ≤ 6 ∧ 1 ≤ N ∧ N ≤ 3) (hL : m.dev.L = 40) (hst : ∀ i, i < N → Stat n i (m.op i))
    (hv : ∀ j, j < 8 → m.dev.All (288 + j) (fun r => r = j)) (hu : ∀ k, k < 8 → m.dev.All (32 * k) (fun r => r = unusedW)) (hc : m.cur = none)
    (ho : ∀ i, i < N → (m.op i).stage = 0 ∧ (m.op i).loaded = 0 ∧ (m.op i).done = false ∧ (m.op i).ended = false ∧ (m.op i).tgt = none) : Inv T n N m ∧ Ready T N m := by
  have h0 := ho 0 (by omega)
  have hno : ∀ c, m.cur = some c → False := fun c h => by rw [hc] at h; cases h
  refine ⟨{ size := hs, L := hL, stat := hst, val := ?_, sta := fun k hk => (hu k hk).imp (fun r hr => .inl hr), sta3 := fun c h => (hno c h).elim, recd := fun c h => (hno c h).elim, cur := fun c h => (hno c h).elim, mid := ?_, fresh := ?_, ld := fun c h => (hno c h).elim, ld1 := fun c h => (hno c h).elim, main := ?_, tgt := ?_, prog := fun c h => (hno c h).elim, run := fun i _ c h => (hno c h).elim }, Ready.none hc⟩
  · intro j hj
    refine (hv j hj).imp (fun r hr => ?_)
    rw [hr, h0.1]
    refine ⟨by omega, ?_⟩
    unfold Vok
    rw [if_pos (by omega)]
    omega
  · intro i hi h1 h2
    have := (ho i hi).1
    omega
  · intro i hi _ _ _
    exact ⟨(ho i hi).1, (ho i hi).2.1⟩
  · refine ⟨fun h => ?_, fun h _ => ?_⟩
    · rw [h0.2.2.1] at h; cases h
    · rw [h0.2.2.2.1] at h; cases h
  · intro i hi c h
    rw [(ho i hi).2.2.2.2] at h; cases h

/-! ### what recovery finds -/
def newV (n : Nat) (b : Bool) (j : Nat) : Nat := if b = true ∧ j < n then 100 + j else j
def found (m : MS) (c : Nat → Nat) (k : Nat) : List En := if m.dev.img c (32 * k) = unusedW then [] else (m.op k).ents
theorem fresh_cur (L : Nat) (g : Nat → Nat) (x : Nat) : (fresh L g).cur x = g x := rfl
theorem after_cur {s : DSt} {c : Nat → Nat} {x : Nat} (h : x < 8 * s.L) : (s.after c).cur x = s.img c x := by
  have e : (s.after c).cur x = (fun y => if y < 8 * s.L then s.img c y else 0) x := fresh_cur s.L (fun y => if y < 8 * s.L then s.img c y else 0) x
  rw [e]
  exact if_pos h
theorem ents_map (o : OpS) : o.ents.map (·.1) = o.es.map (·.1) := by
  apply List.ext_getElem?
  intro k
  rw [List.getElem?_map, List.getElem?_map]
  rcases Nat.lt_or_ge k o.es.length with hk | hk
  · obtain ⟨e, he⟩ : ∃ e, o.es[k]? = some e := ⟨_, List.getElem?_eq_getElem hk⟩
    have h1 := ents_get he
    obtain ⟨z, hz⟩ : ∃ z, z = aft e.2.2 (o.seen.getD k 0) := ⟨_, rfl⟩
    rw [← hz] at h1
    rw [h1, he]
    rfl
  · rw [List.getElem?_eq_none hk, List.getElem?_eq_none (by rw [ents_length]; exact hk)]
theorem Inv.esok {T : Nat → Nat} {n N : Nat} {m : MS} (h : Inv T n N m) {i : Nat} (hi : i < N) : EsOk 32 2560 (m.op i).ents := by
  have hst := h.stat i hi
  have hn := h.size
  have hx : ∀ x ∈ (m.op i).ents, ∃ j, j < n ∧ x.1 = 2304 + 8 * j ∧ x.2.1 < 1000 ∧ x.2.2 < 4611686018427387904 := by
    intro x hx
    obtain ⟨e, he, r, z, _, hz, rfl⟩ := ents_mem hx
    obtain ⟨j, hj, h1, h2, h3, _⟩ := hst.ent hn.2.1 he
    have h4 := aft_lt (new := e.2.2) (raw := r) (by omega)
    rw [← hz] at h4
    exact ⟨j, hj, h1, h2, h4⟩
  refine ⟨by rw [ents_length]; exact hst.len, fun x hxm => ?_, fun x hxm => ?_, fun x hxm => ?_, by rw [ents_map]; exact hst.nd⟩
  · obtain ⟨j, hj, h1, _⟩ := hx x hxm
    omega
  · obtain ⟨j, hj, _, h2, _⟩ := hx x hxm
    omega
  · obtain ⟨j, hj, _, _, h3⟩ := hx x hxm
    exact h3
theorem Inv.found {T : Nat → Nat} {n N : Nat} {m : MS} (h : Inv T n N m) {c : Nat → Nat} (hc : m.dev.Cut c) {k : Nat} (hk : k < 8) (hne : Dv.found m c k ≠ []) :
    m.cur = some k ∧ 2 ≤ (m.op k).stage ∧ (m.op k).stage ≤ 4 ∧ m.dev.img c (32 * k) = (m.op k).status T ∧ Dv.found m c k = (m.op k).ents := by
  unfold Dv.found at hne ⊢
  split at hne
  · exact absurd rfl hne
  · rename_i hu
    rcases (h.sta k hk).img hc with h1 | ⟨h1, h2, h3, h4⟩
    · exact absurd h1 hu
    · exact ⟨h1, h2, h3, h4, by rw [if_neg hu]⟩
theorem Inv.desc {T : Nat → Nat} {n N : Nat} {m : MS} (h : Inv T n N m) {c : Nat → Nat} (hc : m.dev.Cut c) {k : Nat} (hk : k < 8) : Desc T 32 (64 * (m.dev.after c).L) (m.dev.after c).cur k (Dv.found m c k) := by
  have hL : (m.dev.after c).L = 40 := h.L
  have h40 := h.L
  by_cases hne : Dv.found m c k = []
  · refine .inl ⟨hne, ?_⟩
    rw [after_cur (by omega)]
    unfold Dv.found at hne
    split at hne
    · assumption
    · rename_i hu
      rcases (h.sta k hk).img hc with h1 | ⟨h1, h2, h3, h4⟩
      · exact h1
      · have hl := (h.stat k (h.cur k h1).1).len
        have := ents_length (m.op k)
        rw [hne] at this
        simp at this
        omega
  · obtain ⟨h1, h2, h3, h4, h5⟩ := h.found hc hk hne
    have he := h.esok (h.cur k h1).1
    rw [hL, h5]
    refine .inr ⟨he, ?_, fun i x hx => ?_⟩
    · rw [after_cur (by omega), h4, ents_length]
      rfl
    · have hi := (List.getElem?_eq_some_iff.1 hx).1
      have hl := ewords_length (m.op k).ents
      have := he.n
      rw [after_cur (by omega)]
      exact (h.recd k h1 h2 h3 i x hx).img hc
theorem up_same {l : List Nat} {c : Nat} (h : ∀ x ∈ l, x = c) : Up l := by
  intro i j hij hj
  have h1 : l.getD i 0 = c := by
    rw [List.getD_eq_getElem?_getD, List.getElem?_eq_getElem (by omega)]
    exact h _ (List.getElem_mem _)
  have h2 : l.getD j 0 = c := by
    rw [List.getD_eq_getElem?_getD, List.getElem?_eq_getElem (by omega)]
    exact h _ (List.getElem_mem _)
  omega
theorem Inv.recok {T : Nat → Nat} {n N : Nat} {m : MS} (h : Inv T n N m) {c : Nat → Nat} (hc : m.dev.Cut c) (t : Nat) : RecOk (m.dev.after c) t (Dv.found m c) := by
  have hL : (m.dev.after c).L = 40 := h.L
  have key : ∀ k, k < 8 → Dv.found m c k = [] ∨ ∃ i, i < N ∧ Dv.found m c k = (m.op i).ents := by
    intro k hk
    by_cases hne : Dv.found m c k = []
    · exact .inl hne
    · obtain ⟨h1, _, _, _, h5⟩ := h.found hc hk hne
      exact .inr ⟨k, (h.cur k h1).1, h5⟩
  have hw : ∀ k, k < 8 → ∀ p ∈ ewr (Dv.found m c k), ∃ j, j < n ∧ p.1 = 2304 + 8 * j ∧ p.2 < 4611686018427387904 := by
    intro k hk p hp
    rcases key k hk with e | ⟨i, hi, e⟩
    · rw [e] at hp; cases hp
    · rw [e] at hp
      unfold ewr at hp
      obtain ⟨x, hx, rfl⟩ := List.mem_map.1 hp
      obtain ⟨e', he, r, z, _, hz, rfl⟩ := ents_mem hx
      obtain ⟨j, hj, h1, h2, h3, _⟩ := (h.stat i hi).ent h.size.2.1 he
      have h4 := aft_lt (new := e'.2.2) (raw := r) (by omega)
      rw [← hz] at h4
      exact ⟨j, hj, h1, h4⟩
  have hn := h.size
  refine ⟨⟨rfl, rfl, rfl⟩, by omega, fun k hk => ?_, fun k hk p hp => ?_, fun k hk p hp => ?_, fun k hk => up_same (c := 2304) (fun x hx => ?_)⟩
  · rcases key k hk with e | ⟨i, hi, e⟩
    · rw [e]; exact Nat.zero_le _
    · rw [e, ents_length]; exact (h.stat i hi).len.2
  · obtain ⟨j, hj, h1, h2⟩ := hw k hk p hp
    omega
  · obtain ⟨j, hj, h1, h2⟩ := hw k hk p hp
    omega
  · obtain ⟨p, hp, rfl⟩ := List.mem_map.1 hx
    obtain ⟨j, hj, h1, h2⟩ := hw k hk p hp
    unfold line
    omega

/-! ### the effect -/
theorem recs_none {s : DSt} {t : Nat} {D : Nat → List En} : ∀ {k : Nat}, (∀ j, j < k → D j = []) → recs s t D k = s
  | 0, _ => rfl
  | k + 1, h => by
    show (if D k = [] then recs s t D k else _) = s
    rw [if_pos (h k (by omega))]
    exact recs_none (fun j hj => h j (by omega))
theorem recs_one {s : DSt} {t c : Nat} {D : Nat → List En} (hne : D c ≠ []) : ∀ {k : Nat}, c < k → (∀ j, j < k → j ≠ c → D j = []) → recs s t D k = s.runs t (recPr (D c) c)
  | 0, hc, _ => by omega
  | k + 1, hc, h => by
    show (if D k = [] then recs s t D k else (recs s t D k).runs t (recPr (D k) k)) = _
    by_cases e : k = c
    · subst e
      rw [if_neg hne, recs_none (fun j hj => h j (by omega) (by omega))]
    · rw [if_pos (h k (by omega) e)]
      exact recs_one hne (by omega) (fun j hj hj2 => h j (by omega) hj2)
theorem fold_word (y : Nat) : ∀ (l : List (Nat × Nat)) (v : Nat), ((∀ p ∈ l, y ≠ p.1 / 8) ∧ l.foldl (fun v p => if y = p.1 / 8 then p.2 else v) v = v) ∨ ∃ p ∈ l, y = p.1 / 8 ∧ l.foldl (fun v p => if y = p.1 / 8 then p.2 else v) v = p.2
  | [], v => .inl ⟨fun p hp => (by cases hp), rfl⟩
  | a :: l, v => by
    rw [List.foldl_cons]
    rcases fold_word y l (if y = a.1 / 8 then a.2 else v) with ⟨h1, h2⟩ | ⟨p, hp, h1, h2⟩
    · by_cases e : y = a.1 / 8
      · rw [if_pos e] at h2 ⊢
        exact .inr ⟨a, List.mem_cons_self, e, h2⟩
      · rw [if_neg e] at h2 ⊢
        refine .inl ⟨fun p hp => ?_, h2⟩
        rcases List.mem_cons.1 hp with rfl | hp
        · exact e
        · exact h1 p hp
    · exact .inr ⟨p, List.mem_cons_of_mem _ hp, h1, h2⟩
theorem Vone_newV (n st j : Nat) : Vone n st j = newV n (decide (¬ st ≤ 2)) j := by
  unfold Vone newV
  by_cases h : st ≤ 2
  · rw [if_pos h, if_neg (by simp; omega)]
  · rw [if_neg h]
    by_cases hj : j < n
    · rw [if_pos hj, if_pos (by simp; omega)]
    · rw [if_neg hj, if_neg (fun hh => hj hh.2)]

/-- After recovery all words are old, or all are new, and new if the change has ended. -/
theorem Inv.recovered {T : Nat → Nat} {n N : Nat} {m : MS} (h : Inv T n N m) {c : Nat → Nat} (hc : m.dev.Cut c) (t : Nat) :
    ∃ b : Bool, ((m.op 0).ended = true → (m.op 0).err = 0 → b = true) ∧ ∀ j, j < 8 → (recs (m.dev.after c) t (Dv.found m c) 8).cur (288 + j) < 4611686018427387904 ∧ (recs (m.dev.after c) t (Dv.found m c) 8).cur (288 + j) % 1099511627776 = newV n b j := by
  have hL := h.L
  have hsz := h.size
  have hok := h.recok hc t
  have himg : ∀ j, j < 8 → (m.dev.after c).cur (288 + j) < 4611686018427387904 ∧ Vok n (m.op 0).stage j ((m.dev.after c).cur (288 + j) % 1099511627776) := by
    intro j hj
    rw [after_cur (by omega)]
    exact (h.val j hj).img hc
  have hend : (m.op 0).ended = true → (m.op 0).err = 0 → (m.op 0).stage = 5 := fun a b => (h.main.1 (h.main.2 a b)).1
  by_cases hall : ∀ k, k < 8 → Dv.found m c k = []
  · have hst : (m.op 0).stage ≠ 3 := by
      intro e
      have hcu := h.mid 0 (by omega) (by omega) (by omega)
      have h1 := (h.sta3 0 hcu e).img hc
      have h2 := (h.stat 0 (by omega)).len
      have h3 : Dv.found m c 0 = (m.op 0).ents := by
        unfold Dv.found
        rw [if_neg]
        rw [h1]
        exact sst_ne h2.1 h2.2
      have h4 := ents_length (m.op 0)
      rw [← h3, hall 0 (by omega)] at h4
      simp at h4
      omega
    refine ⟨decide (¬ (m.op 0).stage ≤ 2), fun a b => ?_, fun j hj => ?_⟩
    · have := hend a b
      simp
      omega
    · rw [recs_none hall, ← Vone_newV]
      exact ⟨(himg j hj).1, Vok_eq hst (himg j hj).2⟩
  · obtain ⟨k, hk, hne⟩ : ∃ k, k < 8 ∧ Dv.found m c k ≠ [] := by
      apply Classical.byContradiction
      intro hn
      exact hall (fun k hk => Classical.byContradiction (fun hh => hn ⟨k, hk, hh⟩))
    obtain ⟨h1, h2, h3, h4, h5⟩ := h.found hc hk hne
    have hkN := (h.cur k h1).1
    have hst := h.stat k hkN
    have hoth : ∀ j, j < 8 → j ≠ k → Dv.found m c j = [] := by
      intro j hj hjk
      apply Classical.byContradiction
      intro hh
      have := (h.found hc hj hh).1
      rw [h1] at this
      exact hjk (Option.some.inj this).symm
    rw [recs_one hne hk hoth]
    have hcur : ∀ j, j < 8 → ((m.dev.after c).runs t (recPr (Dv.found m c k) k)).cur (288 + j) = (ewr (m.op k).ents).foldl (fun v p => if 288 + j = p.1 / 8 then p.2 else v) ((m.dev.after c).cur (288 + j)) := by
      intro j hj
      rw [runs_cur _ hok.calm (recPr_fit hok hk), h5]
      unfold recPr
      rw [List.foldl_append, prog_fold, prog_fold, List.foldl_cons, List.foldl_nil, if_neg (by dsimp only; omega)]
    -- the entries of the operation
    have hent : ∀ p ∈ ewr (m.op k).ents, ∃ e ∈ (m.op k).es, p.1 = e.1 ∧ p.2 < 4611686018427387904 ∧ p.2 % 1099511627776 = e.2.2 := by
      intro p hp
      unfold ewr at hp
      obtain ⟨x, hx, rfl⟩ := List.mem_map.1 hp
      obtain ⟨e, he, r, z, _, hz, rfl⟩ := ents_mem hx
      obtain ⟨j, hj, a1, a2, a3, _⟩ := hst.ent hsz.2.1 he
      have h4 := aft_lt (new := e.2.2) (raw := r) (by omega)
      have h5 := aft_mod (new := e.2.2) (raw := r) (by omega)
      rw [← hz] at h4 h5
      exact ⟨e, he, rfl, h4, h5⟩
    by_cases e0 : k = 0
    · subst e0
      refine ⟨true, fun _ _ => rfl, fun j hj => ?_⟩
      rw [hcur j hj]
      rcases fold_word (288 + j) (ewr (m.op 0).ents) ((m.dev.after c).cur (288 + j)) with ⟨f1, f2⟩ | ⟨p, hp, f1, f2⟩
      · rw [f2]
        have hjn : ¬ j < n := by
          intro hjn
          have hm : (2304 + 8 * j, j, 100 + j) ∈ (m.op 0).es := by rw [hst.main rfl]; exact mainEs_mem hjn
          obtain ⟨z, r, _, hz⟩ := ewr_has hm
          exact f1 _ hz (by dsimp only; omega)
        refine ⟨(himg j hj).1, ?_⟩
        have hv := (himg j hj).2
        unfold newV
        rw [if_neg (fun hh => hjn hh.2)]
        unfold Vok at hv
        split at hv
        · exact hv
        · split at hv
          · rcases hv with hv | hv
            · exact hv
            · exact absurd hv.1 hjn
          · exact hv
      · rw [f2]
        obtain ⟨e, he, a1, a2, a3⟩ := hent p hp
        rw [hst.main rfl] at he
        obtain ⟨j', hj', rfl⟩ := mem_mainEs he
        have : j' = j := by dsimp only at a1; omega
        subst this
        refine ⟨a2, ?_⟩
        rw [a3]
        unfold newV
        rw [if_pos ⟨rfl, hj'⟩]
    · have hst0 : ¬ (2 ≤ (m.op 0).stage ∧ (m.op 0).stage ≤ 4) := by
        intro hh
        have := h.mid 0 (by omega) hh.1 hh.2
        rw [h1] at this
        exact e0 (Option.some.inj this)
      refine ⟨decide (¬ (m.op 0).stage ≤ 2), fun a b => ?_, fun j hj => ?_⟩
      · have := hend a b
        simp
        omega
      · rw [hcur j hj, ← Vone_newV]
        rcases fold_word (288 + j) (ewr (m.op k).ents) ((m.dev.after c).cur (288 + j)) with ⟨f1, f2⟩ | ⟨p, hp, f1, f2⟩
        · rw [f2]
          exact ⟨(himg j hj).1, Vok_eq (by omega) (himg j hj).2⟩
        · rw [f2]
          obtain ⟨e, he, a1, a2, a3⟩ := hent p hp
          refine ⟨a2, ?_⟩
          rw [a3]
          obtain ⟨x, hx, hxe⟩ := List.getElem_of_mem he
          obtain ⟨q, hq, hqx⟩ := List.getElem_of_mem (hst.ordm x hx)
          have hld := h.ld1 k h1 (by omega)
          have hol := hst.ordl
          have hco := h.ld k h1 e0 q x (by omega) (by rw [List.getElem?_eq_getElem hq, hqx])
          have hge : (m.op k).es.getD x (0, 0, 0) = e := by rw [List.getD_eq_getElem?_getD, List.getElem?_eq_getElem hx, hxe]; rfl
          rw [hge] at hco
          obtain ⟨j', hj', b1, _⟩ := hst.ent hsz.2.1 he
          have : j' = j := by omega
          subst this
          exact hco.2 j' b1
end Go.Proofs.YtjoipeojenfiiaaGreatDoor.Dv
