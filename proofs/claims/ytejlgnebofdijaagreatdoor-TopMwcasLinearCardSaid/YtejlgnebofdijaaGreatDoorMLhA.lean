/-
  Histories of calls of a register, and the orders that explain them. No program in sight.
  The search for an order that explains a history: the plain law. No program in sight.
-/
import Derived.Lib.Hide
namespace Go.Proofs.YtejlgnebofdijaaGreatDoor.Ln
set_option linter.unusedVariables false

def up {α : Type} (f : Nat → α) (i : Nat) (v : α) : Nat → α := fun x => if x = i then v else f x
theorem up_same {α : Type} (f : Nat → α) (i : Nat) (v : α) : up f i v i = v := by simp [up]
theorem up_ne {α : Type} (f : Nat → α) {i x : Nat} (v : α) (h : x ≠ i) : up f i v x = f x := by simp [up, h]

/-- A call of a thread: a read, or a change from old to new. -/
structure Cl where
  t : Nat
  rd : Bool
  old : Nat
  new : Nat
/-- What happens: a call begins, ends with a value, fails, or the power fails. -/
inductive Ev where
  | beg (c : Nat)
  | fin (c v : Nat)
  | fail (c v : Nat)
  | crash

/-! ### executions: which calls are pending, how many have begun, which have taken effect and what they have met, the value -/
inductive Run (cl : Nat → Cl) : List Ev → (Nat → Option Nat) → Nat → List (Nat × Nat) → Nat → Prop
  | nil : Run cl [] (fun _ => none) 0 [] 0
  | beg {ev : List Ev} {pd : Nat → Option Nat} {n : Nat} {l : List (Nat × Nat)} {A : Nat} : Run cl ev pd n l A → pd (cl n).t = none → Run cl (ev ++ [.beg n]) (up pd (cl n).t (some n)) (n + 1) l A
  | take {ev : List Ev} {pd : Nat → Option Nat} {n : Nat} {l : List (Nat × Nat)} {A c : Nat} : Run cl ev pd n l A → pd (cl c).t = some c → (∀ v, (c, v) ∉ l) → ((cl c).rd = false → A = (cl c).old) → Run cl ev pd n (l ++ [(c, A)]) (if (cl c).rd then A else (cl c).new)
  | fin {ev : List Ev} {pd : Nat → Option Nat} {n : Nat} {l : List (Nat × Nat)} {A c v : Nat} : Run cl ev pd n l A → pd (cl c).t = some c → (c, v) ∈ l → Run cl (ev ++ [.fin c v]) (up pd (cl c).t none) n l A
  | fail {ev : List Ev} {pd : Nat → Option Nat} {n : Nat} {l : List (Nat × Nat)} {A c v : Nat} : Run cl ev pd n l A → pd (cl c).t = some c → (∀ v, (c, v) ∉ l) → Run cl (ev ++ [.fail c v]) (up pd (cl c).t none) n l A
  | crash {ev : List Ev} {pd : Nat → Option Nat} {n : Nat} {l : List (Nat × Nat)} {A : Nat} : Run cl ev pd n l A → Run cl (ev ++ [.crash]) (fun _ => none) n l A

theorem Run.thr {cl : Nat → Cl} {ev : List Ev} {pd : Nat → Option Nat} {n : Nat} {l : List (Nat × Nat)} {A : Nat} (h : Run cl ev pd n l A) : (∀ t c, pd t = some c → c < n ∧ (cl c).t = t) ∧ (∀ p ∈ l, p.1 < n) ∧ (l.map (·.1)).Nodup := by
  have clr : ∀ {pd : Nat → Option Nat} {n u : Nat}, (∀ t c, pd t = some c → c < n ∧ (cl c).t = t) → ∀ t c, up pd u none t = some c → c < n ∧ (cl c).t = t := by
    intro pd n u h t c e
    by_cases ht : t = u
    · rw [ht, up_same] at e; cases e
    · rw [up_ne _ _ ht] at e; exact h t c e
  induction h with
  | nil => exact ⟨fun t c e => (by cases e), fun p hp => (by cases hp), List.nodup_nil⟩
  | @beg ev pd n l A h hp ih =>
    refine ⟨fun t c e => ?_, fun p hp => Nat.lt_succ_of_lt (ih.2.1 p hp), ih.2.2⟩
    by_cases ht : t = (cl n).t
    · rw [ht, up_same] at e
      cases e
      exact ⟨Nat.lt_succ_self _, ht.symm⟩
    · rw [up_ne _ _ ht] at e
      exact ⟨Nat.lt_succ_of_lt (ih.1 t c e).1, (ih.1 t c e).2⟩
  | take h hp hl _ ih =>
    refine ⟨ih.1, fun p hp' => ?_, ?_⟩
    · rcases List.mem_append.1 hp' with hp' | hp'
      · exact ih.2.1 p hp'
      · simp at hp'; subst hp'; exact (ih.1 _ _ hp).1
    · rw [List.map_append, List.nodup_append]
      refine ⟨ih.2.2, by simp, ?_⟩
      intro a ha b hb e
      simp at hb
      obtain ⟨q, hq, rfl⟩ := List.mem_map.1 ha
      refine hl q.2 ?_
      have e2 : q.1 = _ := e.trans hb
      rw [← e2]
      exact hq
  | fin h hp hl ih => exact ⟨clr ih.1, ih.2⟩
  | fail h hp hl ih => exact ⟨clr ih.1, ih.2⟩
  | crash h ih => exact ⟨fun t c e => (by cases e), ih.2⟩
/-- Only the calls that have begun count. -/
theorem Run.congr {cl cl' : Nat → Cl} {ev : List Ev} {pd : Nat → Option Nat} {n : Nat} {l : List (Nat × Nat)} {A : Nat} (h : Run cl ev pd n l A) : (∀ c, c < n → cl' c = cl c) → Run cl' ev pd n l A := by
  induction h with
  | nil => exact fun _ => .nil
  | @beg ev pd n l A h hp ih =>
    intro hc
    have := (ih (fun c hcn => hc c (Nat.lt_succ_of_lt hcn))).beg (cl := cl') (by rw [hc n (Nat.lt_succ_self _)]; exact hp)
    rw [hc n (Nat.lt_succ_self _)] at this
    exact this
  | @take ev pd n l A c h hp hl ha ih =>
    intro hc
    have hcn := (h.thr.1 _ _ hp).1
    have := (ih hc).take (cl := cl') (c := c) (by rw [hc c hcn]; exact hp) hl (by rw [hc c hcn]; exact ha)
    rw [hc c hcn] at this
    exact this
  | @fin ev pd n l A c v h hp hl ih =>
    intro hc
    have hcn := (h.thr.1 _ _ hp).1
    have := (ih hc).fin (cl := cl') (c := c) (by rw [hc c hcn]; exact hp) hl
    rw [hc c hcn] at this
    exact this
  | @fail ev pd n l A c v h hp hl ih =>
    intro hc
    have hcn := (h.thr.1 _ _ hp).1
    have := (ih hc).fail (cl := cl') (c := c) (v := v) (by rw [hc c hcn]; exact hp) hl
    rw [hc c hcn] at this
    exact this
  | crash h ih => exact fun hc => (ih hc).crash

/-- A call that has failed does not take effect. -/
theorem Run.nofail {cl : Nat → Cl} {ev : List Ev} {pd : Nat → Option Nat} {n : Nat} {l : List (Nat × Nat)} {A : Nat} (h : Run cl ev pd n l A) : ∀ c v, Ev.fail c v ∈ ev → c < n ∧ (∀ t, pd t ≠ some c) ∧ ∀ w, (c, w) ∉ l := by
  induction h with
  | nil => exact fun c v hm => (by cases hm)
  | @beg ev pd n l A h hp ih =>
    intro c v hm
    rcases List.mem_append.1 hm with hm | hm
    · obtain ⟨a, b, d⟩ := ih c v hm
      refine ⟨Nat.lt_succ_of_lt a, fun t e => ?_, d⟩
      by_cases ht : t = (cl n).t
      · rw [ht, up_same] at e; cases e; omega
      · rw [up_ne _ _ ht] at e; exact b t e
    · simp at hm
  | @take ev pd n l A c h hp hl ha ih =>
    intro c' v hm
    obtain ⟨a, b, d⟩ := ih c' v hm
    refine ⟨a, b, fun w hw => ?_⟩
    rcases List.mem_append.1 hw with hw | hw
    · exact d w hw
    · simp at hw
      rw [← hw.1] at hp
      exact b _ hp
  | @fin ev pd n l A c v h hp hl ih =>
    intro c' v' hm
    rcases List.mem_append.1 hm with hm | hm
    · obtain ⟨a, b, d⟩ := ih c' v' hm
      refine ⟨a, fun t e => ?_, d⟩
      by_cases ht : t = (cl c).t
      · rw [ht, up_same] at e; cases e
      · rw [up_ne _ _ ht] at e; exact b t e
    · simp at hm
  | @fail ev pd n l A c v h hp hl ih =>
    intro c' v' hm
    rcases List.mem_append.1 hm with hm | hm
    · obtain ⟨a, b, d⟩ := ih c' v' hm
      refine ⟨a, fun t e => ?_, d⟩
      by_cases ht : t = (cl c).t
      · rw [ht, up_same] at e; cases e
      · rw [up_ne _ _ ht] at e; exact b t e
    · simp at hm
      obtain ⟨rfl, _⟩ := hm
      refine ⟨(h.thr.1 _ _ hp).1, fun t e => ?_, hl⟩
      by_cases ht : t = (cl c').t
      · rw [ht, up_same] at e; cases e
      · rw [up_ne _ _ ht] at e
        exact ht (h.thr.1 _ _ e).2.symm
  | crash h ih =>
    intro c v hm
    rcases List.mem_append.1 hm with hm | hm
    · obtain ⟨a, b, d⟩ := ih c v hm
      exact ⟨a, fun t e => (by cases e), d⟩
    · simp at hm

/-- The calls that have taken effect, one after another from the value a. -/
def Legal (cl : Nat → Cl) : Nat → List (Nat × Nat) → Nat → Prop
  | a, [], b => a = b
  | a, p :: l, b => p.2 = a ∧ ((cl p.1).rd = false → a = (cl p.1).old) ∧ Legal cl (if (cl p.1).rd then a else (cl p.1).new) l b
theorem Legal.snoc {cl : Nat → Cl} : ∀ {l : List (Nat × Nat)} {a b c : Nat}, Legal cl a l b → ((cl c).rd = false → b = (cl c).old) → Legal cl a (l ++ [(c, b)]) (if (cl c).rd then b else (cl c).new)
  | [], a, b, c, h, hc => by
    have : a = b := h
    subst this
    exact ⟨rfl, hc, rfl⟩
  | p :: l, a, b, c, h, hc => ⟨h.1, h.2.1, Legal.snoc h.2.2 hc⟩
theorem Run.legal {cl : Nat → Cl} {ev : List Ev} {pd : Nat → Option Nat} {n : Nat} {l : List (Nat × Nat)} {A : Nat} (h : Run cl ev pd n l A) : Legal cl 0 l A := by
  induction h with
  | nil => rfl
  | beg _ _ ih => exact ih
  | take _ _ _ ha ih => exact ih.snoc ha
  | fin _ _ _ ih => exact ih
  | fail _ _ _ ih => exact ih
  | crash _ ih => exact ih

/-! ### the history of an execution, without the calls in F -/
structure HC where
  c : Cl
  b : Nat
  e : Option (Nat × Nat)
  era : Nat
structure Hi where
  n : Nat
  calls : List HC
  busy : Nat → Bool
  era : Nat
  num : Nat → Nat
def Hi.zero : Hi := ⟨0, [], fun _ => false, 0, fun _ => 0⟩
def Hi.beg (h : Hi) (c : Nat) (x : Cl) : Hi := ⟨h.n + 1, h.calls ++ [⟨x, h.n, none, h.era⟩], up h.busy x.t true, h.era, up h.num c h.calls.length⟩
def Hi.fin (h : Hi) (k v t : Nat) : Hi := { h with n := h.n + 1, calls := h.calls.modify k (fun x => { x with e := some (h.n, v) }), busy := up h.busy t false }
def Hi.crash (h : Hi) : Hi := { h with n := h.n + 1, busy := fun _ => false, era := h.era + 1 }
def Hi.step (cl : Nat → Cl) (F : Nat → Bool) (h : Hi) : Ev → Hi
  | .crash => h.crash
  | .beg c => if F c then h else h.beg c (cl c)
  | .fin c v => if F c then h else h.fin (h.num c) v (cl c).t
  | .fail _ _ => h
def hist (cl : Nat → Cl) (F : Nat → Bool) (ev : List Ev) : Hi := ev.foldl (Hi.step cl F) Hi.zero
theorem hist_snoc (cl : Nat → Cl) (F : Nat → Bool) (ev : List Ev) (e : Ev) : hist cl F (ev ++ [e]) = (hist cl F ev).step cl F e := by unfold hist; rw [List.foldl_append]; rfl

/-- Call x had ended, or was cut, before call y began. -/
def Bef (x y : HC) : Prop := x.era < y.era ∨ ∃ p v, x.e = some (p, v) ∧ p < y.b

structure HOk (cl : Nat → Cl) (F : Nat → Bool) (pd : Nat → Option Nat) (n : Nat) (l : List (Nat × Nat)) (h : Hi) : Prop where
  num : ∀ c, c < n → F c = false → ∃ x, h.calls[h.num c]? = some x ∧ x.c = cl c
  call : ∀ k x, h.calls[k]? = some x → x.b < h.n ∧ x.era ≤ h.era ∧ ∃ c, c < n ∧ F c = false ∧ h.num c = k
  inj : ∀ c c', c < n → c' < n → F c = false → F c' = false → h.num c = h.num c' → c = c'
  pend : ∀ t c, pd t = some c → F c = false → ∀ x, h.calls[h.num c]? = some x → x.e = none ∧ x.era = h.era
  busy : ∀ t, h.busy t = true ↔ ∃ c, pd t = some c ∧ F c = false
  ended : ∀ c x p v, c < n → F c = false → h.calls[h.num c]? = some x → x.e = some (p, v) → (c, v) ∈ l
  order : l.Pairwise (fun p q => ∀ x y, h.calls[h.num p.1]? = some x → h.calls[h.num q.1]? = some y → ¬ Bef y x)

theorem Run.hok {cl : Nat → Cl} {F : Nat → Bool} {ev : List Ev} {pd : Nat → Option Nat} {n : Nat} {l : List (Nat × Nat)} {A : Nat} (h : Run cl ev pd n l A) :
    (∀ c v, Ev.fail c v ∈ ev → F c = true) → (∀ p ∈ l, F p.1 = false) → HOk cl F pd n l (hist cl F ev) := by
  induction h with
  | nil => exact fun _ _ => ⟨fun c hc => absurd hc (by omega), fun k x hx => by simp [hist, Hi.zero] at hx, fun c c' hc => absurd hc (by omega), fun t c e => (by cases e), fun t => ⟨fun e => (by simp [hist, Hi.zero] at e), fun ⟨c, e, _⟩ => (by cases e)⟩, fun c x p v hc => absurd hc (by omega), List.Pairwise.nil⟩
  | @beg ev pd n l A h hp ih =>
    intro hF hl
    have i := ih (fun c v hm => hF c v (List.mem_append_left _ hm)) hl
    have ht := h.thr
    rw [hist_snoc]
    obtain ⟨H, hH⟩ : ∃ H, H = hist cl F ev := ⟨_, rfl⟩
    rw [← hH] at i ⊢
    clear hH ih
    show HOk cl F _ (n + 1) l (if F n then H else H.beg n (cl n))
    by_cases hFn : F n = true
    · rw [if_pos hFn]
      have cas : ∀ c, c < n + 1 → F c = false → c < n := fun c hc hf => by
        rcases Nat.lt_succ_iff_lt_or_eq.1 hc with h1 | h1
        · exact h1
        · rw [h1, hFn] at hf; cases hf
      have pds : ∀ t c, up pd (cl n).t (some n) t = some c → F c = false → pd t = some c := fun t c e hf => by
        by_cases ht : t = (cl n).t
        · rw [ht, up_same] at e; cases e; rw [hFn] at hf; cases hf
        · rwa [up_ne _ _ ht] at e
      refine ⟨fun c hc hf => i.num c (cas c hc hf) hf, fun k x hx => ?_, fun c c' hc hc' hf hf' e => i.inj c c' (cas c hc hf) (cas c' hc' hf') hf hf' e, fun t c e hf => i.pend t c (pds t c e hf) hf, fun t => ?_, fun c x p v hc hf => i.ended c x p v (cas c hc hf) hf, i.order⟩
      · obtain ⟨a, b, c, d, e⟩ := i.call k x hx
        exact ⟨a, b, c, Nat.lt_succ_of_lt d, e⟩
      · rw [i.busy t]
        constructor
        · rintro ⟨c, e, hf⟩
          refine ⟨c, ?_, hf⟩
          rw [up_ne _ _ (fun ht => by rw [ht, hp] at e; cases e)]
          exact e
        · rintro ⟨c, e, hf⟩
          exact ⟨c, pds t c e hf, hf⟩
    · rw [if_neg hFn]
      have hFn : F n = false := by simpa using hFn
      have hnum : ∀ c, c < n → (H.beg n (cl n)).num c = H.num c := fun c hc => up_ne _ _ (by omega)
      have hnn : (H.beg n (cl n)).num n = H.calls.length := up_same _ _ _
      have hold : ∀ k x, H.calls[k]? = some x → (H.beg n (cl n)).calls[k]? = some x := fun k x hx => by
        have := (List.getElem?_eq_some_iff.1 hx).1
        show (H.calls ++ _)[k]? = _
        rw [List.getElem?_append_left this]; exact hx
      have hnew : (H.beg n (cl n)).calls[H.calls.length]? = some ⟨cl n, H.n, none, H.era⟩ := by
        show (H.calls ++ _)[_]? = _
        rw [List.getElem?_append_right (Nat.le_refl _)]; simp
      have hinv : ∀ k x, (H.beg n (cl n)).calls[k]? = some x → H.calls[k]? = some x ∨ (k = H.calls.length ∧ x = ⟨cl n, H.n, none, H.era⟩) := fun k x hx => by
        have hx : (H.calls ++ [⟨cl n, H.n, none, H.era⟩])[k]? = some x := hx
        rcases Nat.lt_or_ge k H.calls.length with hk | hk
        · rw [List.getElem?_append_left hk] at hx; exact .inl hx
        · have hk2 := (List.getElem?_eq_some_iff.1 hx).1
          simp at hk2
          have : k = H.calls.length := by omega
          rw [this, List.getElem?_append_right (Nat.le_refl _)] at hx
          simp at hx
          exact .inr ⟨this, hx.symm⟩
      have hlt : ∀ c, c < n → F c = false → H.num c < H.calls.length := fun c hc hf => by
        obtain ⟨x, hx, _⟩ := i.num c hc hf
        exact (List.getElem?_eq_some_iff.1 hx).1
      refine ⟨fun c hc hf => ?_, fun k x hx => ?_, fun c c' hc hc' hf hf' e => ?_, fun t c e hf x hx => ?_, fun t => ?_, fun c x p v hc hf hx he => ?_, ?_⟩
      · rcases Nat.lt_succ_iff_lt_or_eq.1 hc with h1 | h1
        · obtain ⟨x, hx, hxc⟩ := i.num c h1 hf
          exact ⟨x, by rw [hnum c h1]; exact hold _ _ hx, hxc⟩
        · subst h1
          exact ⟨_, by rw [hnn]; exact hnew, rfl⟩
      · rcases hinv k x hx with hx | ⟨rfl, rfl⟩
        · obtain ⟨a, b, c, d, e, f⟩ := i.call k x hx
          exact ⟨Nat.lt_succ_of_lt a, b, c, Nat.lt_succ_of_lt d, e, by rw [hnum c d]; exact f⟩
        · exact ⟨Nat.lt_succ_self _, Nat.le_refl _, n, Nat.lt_succ_self _, hFn, hnn⟩
      · rcases Nat.lt_succ_iff_lt_or_eq.1 hc with h1 | h1
        · rcases Nat.lt_succ_iff_lt_or_eq.1 hc' with h2 | h2
          · rw [hnum c h1, hnum c' h2] at e
            exact i.inj c c' h1 h2 hf hf' e
          · subst h2
            rw [hnum c h1, hnn] at e
            have := hlt c h1 hf
            omega
        · subst h1
          rcases Nat.lt_succ_iff_lt_or_eq.1 hc' with h2 | h2
          · rw [hnum c' h2, hnn] at e
            have := hlt c' h2 hf'
            omega
          · exact h2.symm
      · by_cases htt : t = (cl n).t
        · rw [htt, up_same] at e
          cases e
          rw [hnn, hnew] at hx
          cases hx
          exact ⟨rfl, rfl⟩
        · rw [up_ne _ _ htt] at e
          have hcn := (ht.1 t c e).1
          rw [hnum c hcn] at hx
          rcases hinv _ x hx with hx | ⟨h1, _⟩
          · exact i.pend t c e hf x hx
          · have := hlt c hcn hf
            omega
      · show up H.busy (cl n).t true t = true ↔ _
        by_cases htt : t = (cl n).t
        · rw [htt, up_same, up_same]
          exact ⟨fun _ => ⟨n, rfl, hFn⟩, fun _ => rfl⟩
        · rw [up_ne _ _ htt, up_ne _ _ htt]
          exact i.busy t
      · rcases Nat.lt_succ_iff_lt_or_eq.1 hc with h1 | h1
        · rw [hnum c h1] at hx
          rcases hinv _ x hx with hx | ⟨h2, _⟩
          · exact i.ended c x p v h1 hf hx he
          · have := hlt c h1 hf
            omega
        · subst h1
          rw [hnn, hnew] at hx
          cases hx
          cases he
      · refine List.Pairwise.imp_of_mem (fun {p q} hpm hqm hpq x y hx hy => ?_) i.order
        have p1 := ht.2.1 p hpm
        have q1 := ht.2.1 q hqm
        rw [hnum _ p1] at hx
        rw [hnum _ q1] at hy
        rcases hinv _ x hx with hx | ⟨h2, _⟩
        · rcases hinv _ y hy with hy | ⟨h2, _⟩
          · exact hpq x y hx hy
          · have := hlt _ q1 (hl q hqm); omega
        · have := hlt _ p1 (hl p hpm); omega
  | @take ev pd n l A c h hp hcl ha ih =>
    intro hF hl
    have i := ih hF (fun p hpm => hl p (List.mem_append_left _ hpm))
    have ht := h.thr
    have hfc : F c = false := hl (c, A) (by simp)
    refine ⟨i.num, i.call, i.inj, i.pend, i.busy, fun c' x p v hc hf hx he => List.mem_append_left _ (i.ended c' x p v hc hf hx he), ?_⟩
    rw [List.pairwise_append]
    refine ⟨i.order, List.pairwise_singleton _ _, fun p hpm q hqm x y hx hy => ?_⟩
    simp at hqm
    subst hqm
    have hy2 := i.pend _ c hp hfc y hy
    rintro (hb | ⟨p', v', he, _⟩)
    · have := (i.call _ x hx).2.1
      omega
    · rw [hy2.1] at he; cases he
  | @fin ev pd n l A c v h hp hcl ih =>
    intro hF hl
    have i := ih (fun c v hm => hF c v (List.mem_append_left _ hm)) hl
    have ht := h.thr
    have hfc : F c = false := hl (c, v) hcl
    have hcn := (ht.1 _ _ hp).1
    rw [hist_snoc]
    obtain ⟨H, hH⟩ : ∃ H, H = hist cl F ev := ⟨_, rfl⟩
    rw [← hH] at i ⊢
    clear hH ih
    show HOk cl F _ n l (if F c then H else H.fin (H.num c) v (cl c).t)
    rw [if_neg (by rw [hfc]; simp)]
    have hget : ∀ k, (H.fin (H.num c) v (cl c).t).calls[k]? = (H.calls[k]?).map (fun x => if H.num c = k then { x with e := some (H.n, v) } else x) := fun k => by
      show (H.calls.modify _ _)[k]? = _
      rw [List.getElem?_modify]
      cases H.calls[k]? with
      | none => rfl
      | some x => by_cases e : H.num c = k <;> simp [e]
    have hinv : ∀ k x, (H.fin (H.num c) v (cl c).t).calls[k]? = some x → ∃ x0, H.calls[k]? = some x0 ∧ x.c = x0.c ∧ x.b = x0.b ∧ x.era = x0.era ∧ ((H.num c = k ∧ x.e = some (H.n, v)) ∨ (H.num c ≠ k ∧ x.e = x0.e)) := fun k x hx => by
      rw [hget k] at hx
      obtain ⟨x0, h0, h1⟩ := Option.map_eq_some_iff.1 hx
      refine ⟨x0, h0, ?_⟩
      by_cases e : H.num c = k
      · rw [if_pos e] at h1; subst h1; exact ⟨rfl, rfl, rfl, .inl ⟨e, rfl⟩⟩
      · rw [if_neg e] at h1; subst h1; exact ⟨rfl, rfl, rfl, .inr ⟨e, rfl⟩⟩
    have pds : ∀ t c', up pd (cl c).t none t = some c' → pd t = some c' ∧ c' ≠ c := fun t c' e => by
      by_cases htt : t = (cl c).t
      · rw [htt, up_same] at e; cases e
      · rw [up_ne _ _ htt] at e
        exact ⟨e, fun e2 => htt (by rw [← e2]; exact (ht.1 t c' e).2.symm)⟩
    refine ⟨fun c' hc hf => ?_, fun k x hx => ?_, i.inj, fun t c' e hf x hx => ?_, fun t => ?_, fun c' x p v' hc hf hx he => ?_, ?_⟩
    · obtain ⟨x, hx, hxc⟩ := i.num c' hc hf
      exact ⟨_, by show (H.fin (H.num c) v (cl c).t).calls[H.num c']? = _; rw [hget, hx]; rfl, by dsimp only; split <;> exact hxc⟩
    · obtain ⟨x0, h0, e1, e2, e3, _⟩ := hinv k x hx
      obtain ⟨a, b, q⟩ := i.call k x0 h0
      exact ⟨by rw [e2]; exact Nat.lt_succ_of_lt a, by rw [e3]; exact b, q⟩
    · obtain ⟨e1, hne⟩ := pds t c' e
      obtain ⟨x0, h0, q1, q2, q3, q4⟩ := hinv _ x hx
      obtain ⟨r1, r2⟩ := i.pend t c' e1 hf x0 h0
      rcases q4 with ⟨q4, _⟩ | ⟨_, q4⟩
      · exact absurd (i.inj c c' hcn (ht.1 t c' e1).1 hfc hf q4).symm hne
      · exact ⟨q4.trans r1, q3.trans r2⟩
    · show up H.busy (cl c).t false t = true ↔ _
      by_cases htt : t = (cl c).t
      · rw [htt, up_same, up_same]
        exact ⟨fun e => (by cases e), fun ⟨c', e, _⟩ => (by cases e)⟩
      · rw [up_ne _ _ htt, up_ne _ _ htt]
        exact i.busy t
    · obtain ⟨x0, h0, q1, q2, q3, q4⟩ := hinv _ x hx
      rcases q4 with ⟨q4, q5⟩ | ⟨_, q4⟩
      · rw [q5] at he
        cases he
        have := i.inj c c' hcn hc hfc hf q4
        rw [← this]
        exact hcl
      · exact i.ended c' x0 p v' hc hf h0 (q4 ▸ he)
    · refine List.Pairwise.imp_of_mem (fun {p q} hpm hqm hpq x y hx hy => ?_) i.order
      obtain ⟨x0, h0, q1, q2, q3, q4⟩ := hinv _ x hx
      obtain ⟨y0, g0, r1, r2, r3, r4⟩ := hinv _ y hy
      have hb := hpq x0 y0 h0 g0
      rintro (hh | ⟨p', v', he, hlt⟩)
      · exact hb (.inl (by omega))
      · rcases r4 with ⟨_, r4⟩ | ⟨_, r4⟩
        · rw [r4] at he
          cases he
          have := (i.call _ x0 h0).1
          omega
        · exact hb (.inr ⟨p', v', r4 ▸ he, by omega⟩)
  | @fail ev pd n l A c v h hp hcl ih =>
    intro hF hl
    have i := ih (fun c v hm => hF c v (List.mem_append_left _ hm)) hl
    have ht := h.thr
    have hfc : F c = true := hF c v (by simp)
    rw [hist_snoc]
    obtain ⟨H, hH⟩ : ∃ H, H = hist cl F ev := ⟨_, rfl⟩
    rw [← hH] at i ⊢
    clear hH ih
    show HOk cl F _ n l H
    have pds : ∀ t c', F c' = false → (up pd (cl c).t none t = some c' ↔ pd t = some c') := fun t c' hf => by
      by_cases htt : t = (cl c).t
      · rw [htt, up_same, hp]
        constructor
        · intro e; cases e
        · intro e; cases e; rw [hfc] at hf; cases hf
      · rw [up_ne _ _ htt]
    refine ⟨i.num, i.call, i.inj, fun t c' e hf => i.pend t c' ((pds t c' hf).1 e) hf, fun t => ?_, i.ended, i.order⟩
    rw [i.busy t]
    exact ⟨fun ⟨c', e, hf⟩ => ⟨c', (pds t c' hf).2 e, hf⟩, fun ⟨c', e, hf⟩ => ⟨c', (pds t c' hf).1 e, hf⟩⟩
  | @crash ev pd n l A h ih =>
    intro hF hl
    have i := ih (fun c v hm => hF c v (List.mem_append_left _ hm)) hl
    rw [hist_snoc]
    obtain ⟨H, hH⟩ : ∃ H, H = hist cl F ev := ⟨_, rfl⟩
    rw [← hH] at i ⊢
    clear hH ih
    show HOk cl F _ n l H.crash
    refine ⟨i.num, fun k x hx => ?_, i.inj, fun t c e => (by cases e), fun t => ⟨fun e => (by cases e), fun ⟨c, e, _⟩ => (by cases e)⟩, i.ended, i.order⟩
    obtain ⟨a, b, q⟩ := i.call k x hx
    exact ⟨Nat.lt_succ_of_lt a, Nat.le_succ_of_le b, q⟩

/-! ### orders that explain a history -/
def ap (x : Cl) (v : Nat) : Nat × Option Nat := if x.rd then (v, some v) else if v = x.old then (x.new, some x.old) else (v, none)
inductive Sol (cs : List HC) (z : Nat) : (Nat → Bool) → Nat → Prop
  | done {used : Nat → Bool} : (∀ (n : Nat) (x : HC), cs[n]? = some x → x.e ≠ none → used n = true) → Sol cs z used z
  | more {used : Nat → Bool} {v n : Nat} {x : HC} : cs[n]? = some x → used n = false → (∀ b y, cs[b]? = some y → Bef x y → used b = false) → (∀ p w, x.e = some (p, w) → (ap x.c v).2 = some w) → Sol cs z (up used n true) (ap x.c v).1 → Sol cs z used v

theorem Sol.of_legal {cl : Nat → Cl} {F : Nat → Bool} {pd : Nat → Option Nat} {n A : Nat} {h : Hi} {l : List (Nat × Nat)} (hk : HOk cl F pd n l h) (hl : ∀ p ∈ l, p.1 < n ∧ F p.1 = false) (hnd : (l.map (·.1)).Nodup) :
    ∀ (l2 l1 : List (Nat × Nat)) (a : Nat) (used : Nat → Bool), l = l1 ++ l2 → Legal cl a l2 A → (∀ k, used k = true ↔ ∃ p ∈ l1, h.num p.1 = k) → Sol h.calls A used a
  | [], l1, a, used, e, hleg, hu => by
    have : a = A := hleg
    subst this
    refine .done (fun k x hx he => ?_)
    obtain ⟨_, _, c, hc, hf, hn⟩ := hk.call k x hx
    cases hxe : x.e with
    | none => exact absurd hxe he
    | some q =>
      have := hk.ended c x q.1 q.2 hc hf (by rw [hn]; exact hx) hxe
      rw [e, List.append_nil] at this
      exact (hu k).2 ⟨_, this, hn⟩
  | p :: l2, l1, a, used, e, hleg, hu => by
    obtain ⟨hpa, hold, hrest⟩ := hleg
    have hpm : p ∈ l := by rw [e]; simp
    obtain ⟨hpn, hpf⟩ := hl p hpm
    obtain ⟨x, hx, hxc⟩ := hk.num p.1 hpn hpf
    have hord := hk.order
    rw [e, List.pairwise_append] at hord
    have hnd2 := hnd
    rw [e, List.map_append, List.nodup_append] at hnd2
    have hap : ap x.c a = (if (cl p.1).rd then a else (cl p.1).new, some a) := by
      unfold ap
      rw [hxc]
      cases hr : (cl p.1).rd with
      | true => rfl
      | false => rw [if_neg (by simp), if_pos (hold hr), if_neg (by simp)]; rw [← hold hr]
    refine .more hx ?_ (fun b y hy hb => ?_) (fun q w hq => ?_) ?_
    · cases hu0 : used (h.num p.1) with
      | false => rfl
      | true =>
        obtain ⟨q, hq, hqn⟩ := (hu _).1 hu0
        have hql : q ∈ l := by rw [e]; exact List.mem_append_left _ hq
        have hqp := hk.inj q.1 p.1 (hl q hql).1 hpn (hl q hql).2 hpf hqn
        exact absurd hqp (hnd2.2.2 q.1 (List.mem_map.2 ⟨q, hq, rfl⟩) p.1 (by simp))
    · cases hu0 : used b with
      | false => rfl
      | true =>
        obtain ⟨q, hq, hqn⟩ := (hu _).1 hu0
        subst hqn
        exact absurd hb (hord.2.2 q hq p (by simp) y x hy hx)
    · have hm := hk.ended p.1 x q w hpn hpf hx hq
      have : w = p.2 := by
        have hinj : ∀ (l : List (Nat × Nat)), (l.map (·.1)).Nodup → ∀ a b, a ∈ l → b ∈ l → a.1 = b.1 → a = b := by
          intro l
          induction l with
          | nil => intro _ a b ha; cases ha
          | cons z l ih =>
            intro hn a b ha hb hab
            rw [List.map_cons, List.nodup_cons] at hn
            rcases List.mem_cons.1 ha with ea | ha2
            · rcases List.mem_cons.1 hb with eb | hb2
              · rw [ea, eb]
              · exact absurd (List.mem_map.2 ⟨b, hb2, by rw [← hab, ea]⟩) hn.1
            · rcases List.mem_cons.1 hb with eb | hb2
              · exact absurd (List.mem_map.2 ⟨a, ha2, by rw [hab, eb]⟩) hn.1
              · exact ih hn.2 a b ha2 hb2 hab
        have := hinj l hnd (p.1, w) p hm hpm rfl
        rw [← this]
      rw [hap, this, hpa]
    · rw [hap]
      refine Sol.of_legal hk hl hnd l2 (l1 ++ [p]) _ _ (by rw [e]; simp) hrest (fun k => ?_)
      by_cases hkp : k = h.num p.1
      · subst hkp
        rw [up_same]
        exact ⟨fun _ => ⟨p, by simp, rfl⟩, fun _ => rfl⟩
      · rw [up_ne _ _ hkp, hu k]
        constructor
        · rintro ⟨q, hq, hqn⟩
          exact ⟨q, List.mem_append_left _ hq, hqn⟩
        · rintro ⟨q, hq, hqn⟩
          rcases List.mem_append.1 hq with hq | hq
          · exact ⟨q, hq, hqn⟩
          · simp at hq
            subst hq
            exact absurd hqn.symm hkp

/-- An execution is explained by an order of its calls, those in F left out. -/
theorem Run.sol {cl : Nat → Cl} {F : Nat → Bool} {ev : List Ev} {pd : Nat → Option Nat} {n : Nat} {l : List (Nat × Nat)} {A : Nat} (h : Run cl ev pd n l A) (hF : ∀ c v, Ev.fail c v ∈ ev → F c = true) (hl : ∀ p ∈ l, F p.1 = false) :
    Sol (hist cl F ev).calls A (fun _ => false) 0 :=
  Sol.of_legal (h.hok hF hl) (fun p hp => ⟨h.thr.2.1 p hp, hl p hp⟩) h.thr.2.2 l [] 0 _ rfl h.legal (fun k => ⟨fun e => (by cases e), fun ⟨p, hp, _⟩ => (by cases hp)⟩)
end Go.Proofs.YtejlgnebofdijaaGreatDoor.Ln

namespace Go.Proofs.YtejlgnebofdijaaGreatDoor.Ln
set_option linter.unusedVariables false

theorem up_bit (u n : Nat) : up (fun k => u.testBit k) n true = fun k => (u ||| 1 <<< n).testBit k := by
  funext k
  unfold up
  rw [Nat.testBit_or, Nat.shiftLeft_eq, Nat.one_mul, Nat.testBit_two_pow]
  by_cases h : k = n
  · simp [h]
  · rw [if_neg h]
    have : ¬ n = k := fun e => h e.symm
    simp [this]
theorem or_lt {u n m : Nat} (hu : u < 2 ^ m) (hn : n < m) : u ||| 1 <<< n < 2 ^ m := by
  refine Nat.or_lt_two_pow hu ?_
  rw [Nat.shiftLeft_eq, Nat.one_mul]
  exact Nat.pow_lt_pow_right (by omega) hn
theorem lt_or {u n : Nat} (h : u.testBit n = false) : u < u ||| 1 <<< n := by
  refine Nat.lt_of_le_of_ne Nat.left_le_or (fun e => ?_)
  have := congrArg (fun x => x.testBit n) e
  simp only [Nat.testBit_or, Nat.shiftLeft_eq, Nat.one_mul, Nat.testBit_two_pow] at this
  rw [h] at this
  simp at this

/-- An order of the other calls explains the history from here on. -/
def Can (cs : List HC) (z u v : Nat) : Prop := Sol cs z (fun k => u.testBit k) v
/-- Call n can be the next one, and the others explain the rest. -/
def Next (cs : List HC) (z u v n : Nat) : Prop := ∃ x, cs[n]? = some x ∧ u.testBit n = false ∧ (∀ b y, cs[b]? = some y → Bef x y → u.testBit b = false) ∧ (∀ p w, x.e = some (p, w) → (ap x.c v).2 = some w) ∧ Can cs z (u ||| 1 <<< n) (ap x.c v).1
def Ended (cs : List HC) (u : Nat) : Prop := ∀ n x, cs[n]? = some x → x.e ≠ none → u.testBit n = true
theorem Can.inv {cs : List HC} {z u v : Nat} (h : Can cs z u v) : (Ended cs u ∧ v = z) ∨ ∃ n, n < cs.length ∧ Next cs z u v n := by
  unfold Can at h
  generalize hf : (fun k => u.testBit k) = f at h
  cases h with
  | done hd => exact .inl ⟨fun n x h1 h2 => by have := hd n x h1 h2; rw [← hf] at this; exact this, rfl⟩
  | @more _ _ n x h1 h2 h3 h4 h5 =>
    subst hf
    refine .inr ⟨n, (List.getElem?_eq_some_iff.1 h1).1, x, h1, h2, h3, h4, ?_⟩
    rw [up_bit] at h5
    exact h5

/-- What has been seen does not lead to an order, or belongs to a smaller set. -/
def Seen (cs : List HC) (z : Nat) (S : Nat × Nat → Prop) (u : Nat) : Prop := ∀ k, S k → ¬ Can cs z k.1 k.2 ∨ k.1 < u
/-- What has been seen since does not lead to an order. -/
def Since (cs : List HC) (z : Nat) (S S' : Nat × Nat → Prop) : Prop := ∀ k, S' k → S k ∨ ¬ Can cs z k.1 k.2
theorem Since.refl (cs : List HC) (z : Nat) (S : Nat × Nat → Prop) : Since cs z S S := fun _ h => .inl h
theorem Since.trans {cs : List HC} {z : Nat} {S S1 S2 : Nat × Nat → Prop} (h : Since cs z S S1) (h' : Since cs z S1 S2) : Since cs z S S2 := fun k hk => by
  rcases h' k hk with h1 | h1
  · exact h k h1
  · exact .inr h1
def ins (S : Nat × Nat → Prop) (u v : Nat) : Nat × Nat → Prop := fun k => S k ∨ k = (u, v)
/-- What a child of the search meets. -/
theorem Seen.child {cs : List HC} {z u v n : Nat} {S S1 : Nat × Nat → Prop} (h : Seen cs z S u) (hs : Since cs z (ins S u v) S1) (hn : u.testBit n = false) : Seen cs z S1 (u ||| 1 <<< n) := fun k hk => by
  have hlt := lt_or hn
  rcases hs k hk with (h1 | h1) | h1
  · rcases h k h1 with h2 | h2
    · exact .inl h2
    · exact .inr (by omega)
  · subst h1
    exact .inr hlt
  · exact .inl h1
/-- A key that has been seen. -/
theorem Seen.no {cs : List HC} {z u v : Nat} {S : Nat × Nat → Prop} (h : Seen cs z S u) (hs : S (u, v)) : ¬ Can cs z u v := by
  rcases h _ hs with h1 | h1
  · exact h1
  · exact absurd h1 (Nat.lt_irrefl _)
/-- The end of a search that has found nothing. -/
theorem Since.close {cs : List HC} {z u v : Nat} {S S1 : Nat × Nat → Prop} (hs : Since cs z (ins S u v) S1) (hd : ¬ (Ended cs u ∧ v = z)) (hn : ∀ n, n < cs.length → ¬ Next cs z u v n) : ¬ Can cs z u v ∧ Since cs z S S1 := by
  have hc : ¬ Can cs z u v := fun h => by
    rcases h.inv with h1 | ⟨n, h1, h2⟩
    · exact hd h1
    · exact hn n h1 h2
  refine ⟨hc, fun k hk => ?_⟩
  rcases hs k hk with (h1 | h1) | h1
  · exact .inl h1
  · subst h1; exact .inr hc
  · exact .inr h1
end Go.Proofs.YtejlgnebofdijaaGreatDoor.Ln
