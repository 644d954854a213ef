/-
  The executions of TopMwcasLinear: the machine of mwcas, the reads, and the events that are recorded. No program in sight.
  The executions of TopMwcasLinear: a step of an operation, a crash, and the bounds. No program in sight.
-/
import Derived.Test.YtejlgnebofdijaaGreatDoorMLs
import Derived.Test.YtejlgnebofdijaaGreatDoorMLhA
namespace Go.Proofs.YtejlgnebofdijaaGreatDoor.Dv
open Ln (Cl Ev Run up up_same up_ne)
set_option linter.unusedVariables false

/-- What a thread is doing. -/
inductive Act where
  | idle
  | rd (r pl raw : Nat)
  | op (i : Nat)

/-- Thread t reads for call c. -/
def RdOk (cl : Nat → Cl) (l : List (Nat × Nat)) (pl raw c : Nat) : Prop := (cl c).rd = true ∧ ((pl = 0 ∧ ∀ v, (c, v) ∉ l) ∨ ((pl = 1 ∨ pl = 2) ∧ (c, raw % 1099511627776) ∈ l))
/-- Operation i does the change of call c. -/
def OpOk (cl : Nat → Cl) (l : List (Nat × Nat)) (od nw : Nat → Nat) (m : MS) (i c : Nat) : Prop :=
  (cl c).rd = false ∧ od i = (cl c).old ∧ nw i = (cl c).new ∧ (4 ≤ (m.op i).stage → (c, (cl c).old) ∈ l) ∧ ((m.op i).stage < 4 → ∀ v, (c, v) ∉ l)
structure Lnk (T : Nat → Nat) (cl : Nat → Cl) (ev : List Ev) (pd : Nat → Option Nat) (n : Nat) (l : List (Nat × Nat)) (A : Nat) (od nw : Nat → Nat) (N : Nat) (m : MS) (act : Nat → Act) : Prop where
  run : Run cl ev pd n l A
  li : LI T od nw A N m
  rdy : Ready T N m
  Nn : N ≤ n
  idle : ∀ t, act t = .idle ↔ pd t = none
  rd : ∀ t r pl raw, act t = .rd r pl raw → raw < 4611686018427387904 ∧ ∃ c, pd t = some c ∧ RdOk cl l pl raw c
  op : ∀ t i, act t = .op i → i < N ∧ (m.op i).t = t ∧ (m.op i).ended = false ∧ ∃ c, pd t = some c ∧ OpOk cl l od nw m i c
  own : ∀ i, i < N → (m.op i).ended = false → act (m.op i).t = .op i
  gone : ∀ i, i < N → (m.op i).ended = true → (m.op i).done = true
  busy : ∀ k, m.busy k = true → ∃ i, i < N ∧ (m.op i).ended = false ∧ (m.op i).k = k
  three : ∀ t, act t ≠ .idle → t < 3

section
variable {T : Nat → Nat} {cl : Nat → Cl} {ev : List Ev} {pd : Nat → Option Nat} {n : Nat} {l : List (Nat × Nat)} {A : Nat} {od nw : Nat → Nat} {N : Nat} {m : MS} {act : Nat → Act}

theorem Lnk.congr (h : Lnk T cl ev pd n l A od nw N m act) {cl' : Nat → Cl} (hc : ∀ c, c < n → cl' c = cl c) : Lnk T cl' ev pd n l A od nw N m act := by
  refine { h with run := h.run.congr hc, rd := fun t r pl raw e => ?_, op := fun t i e => ?_ }
  · obtain ⟨a, c, b, d⟩ := h.rd t r pl raw e
    refine ⟨a, c, b, ?_⟩
    unfold RdOk
    rw [hc c (h.run.thr.1 _ _ b).1]
    exact d
  · obtain ⟨a, b, d, c, e, f⟩ := h.op t i e
    refine ⟨a, b, d, c, e, ?_⟩
    unfold OpOk
    rw [hc c (h.run.thr.1 _ _ e).1]
    exact f

/-- A list of effects that grows by the effect of a call that is pending. -/
theorem notin_snoc {l : List (Nat × Nat)} {c x v w : Nat} (h : (c, v) ∉ l) (hne : c ≠ x) : (c, v) ∉ l ++ [(x, w)] := by
  intro hm
  rcases List.mem_append.1 hm with hm | hm
  · exact h hm
  · simp at hm; exact hne hm.1

/-- The call of a thread. -/
theorem Lnk.call (h : Lnk T cl ev pd n l A od nw N m act) {t : Nat} (ha : act t ≠ .idle) : ∃ c, pd t = some c := by
  cases hp : pd t with
  | none => exact absurd ((h.idle t).2 hp) ha
  | some c => exact ⟨c, rfl⟩

/-- A read is begun. -/
theorem Lnk.begRd (h : Lnk T cl ev pd n l A od nw N m act) {t r : Nat} (ht : t < 3) (ha : act t = .idle) (hc : (cl n).t = t) (hr : (cl n).rd = true) :
    Lnk T cl (ev ++ [.beg n]) (up pd t (some n)) (n + 1) l A od nw N m (up act t (.rd r 0 0)) := by
  have hp := (h.idle t).1 ha
  have hrun : Run cl (ev ++ [.beg n]) (up pd t (some n)) (n + 1) l A := by
    have := h.run.beg (by rw [hc]; exact hp)
    rwa [hc] at this
  have hnl : ∀ v, (n, v) ∉ l := fun v hm => by have := h.run.thr.2.1 _ hm; dsimp only at this; omega
  refine { run := hrun, li := h.li, rdy := h.rdy, Nn := Nat.le_succ_of_le h.Nn, idle := fun u => ?_, rd := fun u r' pl raw e => ?_, op := fun u i e => ?_, own := fun i hi he => ?_, gone := h.gone, busy := h.busy, three := fun u hu => ?_ }
  · by_cases e : u = t
    · rw [e, up_same, up_same]; simp
    · rw [up_ne _ _ e, up_ne _ _ e]; exact h.idle u
  · by_cases e2 : u = t
    · rw [e2, up_same] at e
      cases e
      rw [e2, up_same]
      exact ⟨by omega, n, rfl, hr, .inl ⟨rfl, hnl⟩⟩
    · rw [up_ne _ _ e2] at e
      rw [up_ne _ _ e2]
      exact h.rd u r' pl raw e
  · by_cases e2 : u = t
    · rw [e2, up_same] at e; cases e
    · rw [up_ne _ _ e2] at e
      rw [up_ne _ _ e2]
      exact h.op u i e
  · have := h.own i hi he
    rw [up_ne _ _ (fun e => by rw [e, ha] at this; cases this)]
    exact this
  · by_cases e : u = t
    · omega
    · rw [up_ne _ _ e] at hu; exact h.three u hu

/-- A change is begun. -/
theorem Lnk.begOp (h : Lnk T cl ev pd n l A od nw N m act) {t K : Nat} {ord : List Nat} (ht : t < 3) (ha : act t = .idle) (hc : (cl n).t = t) (hr : (cl n).rd = false) (hK : K < 24) (hlt : (cl n).old < 3 ∧ (cl n).new < 3) (hord : OrdL 2 ord)
    (htg : ∀ i, i < N → ∀ c, (m.op i).tgt = some c → c < N) :
    Lnk T cl (ev ++ [.beg n]) (up pd t (some n)) (n + 1) l A (upd od N (cl n).old) (upd nw N (cl n).new) (N + 1) (m.begin N t K (es2 (cl n).old (cl n).new) ord) (up act t (.op N)) := by
  have hp := (h.idle t).1 ha
  have hrun : Run cl (ev ++ [.beg n]) (up pd t (some n)) (n + 1) l A := by
    have := h.run.beg (by rw [hc]; exact hp)
    rwa [hc] at this
  have hnl : ∀ v, (n, v) ∉ l := fun v hm => by have := h.run.thr.2.1 _ hm; dsimp only at this; omega
  obtain ⟨h1, h2⟩ := h.li.begin h.rdy (t := t) (K := K) (a := (cl n).old) (b := (cl n).new) (ord := ord) hK hlt hord htg
  have hopN : (m.begin N t K (es2 (cl n).old (cl n).new) ord).op N = opNew t K (es2 (cl n).old (cl n).new) ord := by unfold MS.begin MS.begun; dsimp only; rw [upd_same]
  have hopi : ∀ i, i ≠ N → (m.begin N t K (es2 (cl n).old (cl n).new) ord).op i = m.op i := fun i hi => by unfold MS.begin MS.begun; dsimp only; rw [upd_ne _ _ hi]
  have hbu : (m.begin N t K (es2 (cl n).old (cl n).new) ord).busy = upd m.busy K true := rfl
  obtain ⟨m', hm'⟩ : ∃ m', m' = m.begin N t K (es2 (cl n).old (cl n).new) ord := ⟨_, rfl⟩
  rw [← hm'] at h1 h2 hopN hopi hbu ⊢
  clear hm'
  refine { run := hrun, li := h1, rdy := h2, Nn := Nat.succ_le_succ h.Nn, idle := fun u => ?_, rd := fun u r' pl raw e => ?_, op := fun u i e => ?_, own := fun i hi he => ?_, gone := fun i hi he => ?_, busy := fun k hk => ?_, three := fun u hu => ?_ }
  · by_cases e : u = t
    · rw [e, up_same, up_same]; simp
    · rw [up_ne _ _ e, up_ne _ _ e]; exact h.idle u
  · by_cases e2 : u = t
    · rw [e2, up_same] at e; cases e
    · rw [up_ne _ _ e2] at e
      rw [up_ne _ _ e2]
      exact h.rd u r' pl raw e
  · by_cases e2 : u = t
    · rw [e2, up_same] at e
      cases e
      rw [e2, up_same]
      refine ⟨Nat.lt_succ_self _, by rw [hopN]; rfl, by rw [hopN]; rfl, n, rfl, hr, upd_same _ _ _, upd_same _ _ _, ?_, fun _ => hnl⟩
      intro h4
      rw [hopN] at h4
      have : (opNew t K (es2 (cl n).old (cl n).new) ord).stage = 0 := rfl
      omega
    · rw [up_ne _ _ e2] at e
      rw [up_ne _ _ e2]
      obtain ⟨a, b, d, c, e3, f⟩ := h.op u i e
      have hne : i ≠ N := by omega
      refine ⟨Nat.lt_succ_of_lt a, by rw [hopi i hne]; exact b, by rw [hopi i hne]; exact d, c, e3, ?_⟩
      unfold OpOk
      rw [hopi i hne, upd_ne _ _ hne, upd_ne _ _ hne]
      exact f
  · by_cases e : i = N
    · subst e
      rw [hopN]
      exact up_same _ _ _
    · rw [hopi i e] at he ⊢
      have := h.own i (by omega) he
      rw [up_ne _ _ (fun e => by rw [e, ha] at this; cases this)]
      exact this
  · by_cases e : i = N
    · subst e
      rw [hopN] at he
      cases he
    · rw [hopi i e] at he ⊢
      exact h.gone i (by omega) he
  · rw [hbu] at hk
    by_cases e : k = K
    · exact ⟨N, Nat.lt_succ_self _, by rw [hopN]; rfl, by rw [hopN, e]; rfl⟩
    · rw [upd_ne _ _ e] at hk
      obtain ⟨i, a, b, c⟩ := h.busy k hk
      have hne : i ≠ N := by omega
      exact ⟨i, Nat.lt_succ_of_lt a, by rw [hopi i hne]; exact b, by rw [hopi i hne]; exact c⟩
  · by_cases e : u = t
    · omega
    · rw [up_ne _ _ e] at hu; exact h.three u hu

/-- Where the number of free descriptors suffices. -/
theorem Lnk.free (h : Lnk T cl ev pd n l A od nw N m act) : ∃ K, K < 4 ∧ m.busy K = false ∧ ∀ k, k < K → m.busy k = true := by
  have key : ¬ (m.busy 0 = true ∧ m.busy 1 = true ∧ m.busy 2 = true ∧ m.busy 3 = true) := by
    rintro ⟨h0, h1, h2, h3⟩
    obtain ⟨i0, a0, b0, c0⟩ := h.busy 0 h0
    obtain ⟨i1, a1, b1, c1⟩ := h.busy 1 h1
    obtain ⟨i2, a2, b2, c2⟩ := h.busy 2 h2
    obtain ⟨i3, a3, b3, c3⟩ := h.busy 3 h3
    have e0 := h.own i0 a0 b0
    have e1 := h.own i1 a1 b1
    have e2 := h.own i2 a2 b2
    have e3 := h.own i3 a3 b3
    have t0 := h.three _ (by rw [e0]; simp)
    have t1 := h.three _ (by rw [e1]; simp)
    have t2 := h.three _ (by rw [e2]; simp)
    have t3 := h.three _ (by rw [e3]; simp)
    have ne : ∀ {i j : Nat}, act (m.op i).t = .op i → act (m.op j).t = .op j → (m.op i).k ≠ (m.op j).k → (m.op i).t ≠ (m.op j).t := by
      intro i j ei ej hk ht
      rw [ht, ej] at ei
      cases ei
      exact hk rfl
    have n01 := ne e0 e1 (by omega)
    have n02 := ne e0 e2 (by omega)
    have n03 := ne e0 e3 (by omega)
    have n12 := ne e1 e2 (by omega)
    have n13 := ne e1 e3 (by omega)
    have n23 := ne e2 e3 (by omega)
    omega
  cases h0 : m.busy 0 with
  | false => exact ⟨0, by omega, h0, fun k hk => by omega⟩
  | true =>
    cases h1 : m.busy 1 with
    | false => exact ⟨1, by omega, h1, fun k hk => by
                obtain rfl : k = 0 := by omega
                exact h0⟩
    | true =>
      cases h2 : m.busy 2 with
      | false => exact ⟨2, by omega, h2, fun k hk => by have : k = 0 ∨ k = 1 := by omega
                                                        rcases this with rfl | rfl
                                                        · exact h0
                                                        · exact h1⟩
      | true =>
        cases h3 : m.busy 3 with
        | false => exact ⟨3, by omega, h3, fun k hk => by have : k = 0 ∨ k = 1 ∨ k = 2 := by omega
                                                          rcases this with rfl | rfl | rfl
                                                          · exact h0
                                                          · exact h1
                                                          · exact h2⟩
        | true => exact absurd ⟨h0, h1, h2, h3⟩ key

/-! ### reads -/
theorem Lnk.raw_yes (h : Lnk T cl ev pd n l A od nw N m act) {c : Nat} (hc : m.cur = some c) (hs : (m.op c).stage = 3) : (m.op c).seen.getD 0 0 < 4611686018427387904 ∧ (m.op c).seen.getD 0 0 % 1099511627776 = A := by
  have hst := h.li.stat c (h.li.cur c hc).1
  have h2 := h.li.ld1 c hc (by omega)
  obtain ⟨q, hq⟩ := List.getElem?_of_mem (hst.ordm 0 (by omega))
  have hq2 : q < 2 := by have := (List.getElem?_eq_some_iff.1 hq).1; rw [hst.ordl] at this; exact this
  have := h.li.seen c hc q 0 (by omega) hq
  rw [h.li.old c hc (by omega) (by omega)] at this
  exact this
theorem Lnk.raw_no (h : Lnk T cl ev pd n l A od nw N m act) (hok : m.dev.Ok) (hno : ∀ c, m.cur = some c → (m.op c).stage ≠ 3) : m.dev.cur 800 < 4611686018427387904 ∧ m.dev.cur 800 % 1099511627776 = A := by
  have := (h.li.val 800 (.inl rfl)).cur hok
  refine ⟨this.1, ?_⟩
  rcases this.2 with h1 | ⟨c, h1, h2, _⟩
  · exact h1
  · exact absurd h2 (hno c h1)
/-- A read loads. -/
theorem Lnk.load (h : Lnk T cl ev pd n l A od nw N m act) {t r raw raw' : Nat} (ha : act t = .rd r 0 raw) (h1 : raw' < 4611686018427387904) (h2 : raw' % 1099511627776 = A) :
    ∃ c, Lnk T cl ev pd n (l ++ [(c, A)]) A od nw N m (up act t (.rd r 1 raw')) := by
  obtain ⟨_, c, hp, hrd, hq⟩ := h.rd t r 0 raw ha
  have hnl : ∀ v, (c, v) ∉ l := by
    rcases hq with ⟨_, hq⟩ | ⟨hq, _⟩
    · exact hq
    · omega
  have ht := (h.run.thr.1 _ _ hp).2
  have hrun := h.run.take (c := c) (by rw [ht]; exact hp) hnl (by rw [hrd]; simp)
  rw [hrd, if_pos rfl] at hrun
  have hcu : ∀ u c', u ≠ t → pd u = some c' → c' ≠ c := fun u c' hu hc' e => hu (by rw [← ht, ← e]; exact (h.run.thr.1 _ _ hc').2.symm)
  refine ⟨c, { h with run := hrun, idle := fun u => ?_, rd := fun u r' pl raw2 e => ?_, op := fun u i e => ?_, own := fun i hi he => ?_, three := fun u hu => ?_ }⟩
  · by_cases e : u = t
    · rw [e, up_same, hp]; simp
    · rw [up_ne _ _ e]; exact h.idle u
  · by_cases e2 : u = t
    · rw [e2, up_same] at e
      cases e
      rw [e2]
      exact ⟨h1, c, hp, hrd, .inr ⟨.inl rfl, by rw [h2]; simp⟩⟩
    · rw [up_ne _ _ e2] at e
      obtain ⟨a, c', b, d, f⟩ := h.rd u r' pl raw2 e
      refine ⟨a, c', b, d, ?_⟩
      rcases f with ⟨f1, f2⟩ | ⟨f1, f2⟩
      · exact .inl ⟨f1, fun v => notin_snoc (f2 v) (hcu u c' e2 b)⟩
      · exact .inr ⟨f1, List.mem_append_left _ f2⟩
  · have e2 : u ≠ t := fun e2 => by rw [e2, up_same] at e; cases e
    rw [up_ne _ _ e2] at e
    obtain ⟨a, b, d, c', e3, f1, f2, f3, f4, f5⟩ := h.op u i e
    exact ⟨a, b, d, c', e3, f1, f2, f3, fun q => List.mem_append_left _ (f4 q), fun q v => notin_snoc (f5 q v) (hcu u c' e2 e3)⟩
  · have := h.own i hi he
    rw [up_ne _ _ (fun e => by rw [e, ha] at this; cases this)]
    exact this
  · by_cases e : u = t
    · rw [e]; exact h.three t (by rw [ha]; simp)
    · rw [up_ne _ _ e] at hu; exact h.three u hu
/-- A read goes on. -/
theorem Lnk.place (h : Lnk T cl ev pd n l A od nw N m act) {t r raw : Nat} (ha : act t = .rd r 1 raw) : Lnk T cl ev pd n l A od nw N m (up act t (.rd r 2 raw)) := by
  obtain ⟨h1, c, hp, hrd, hq⟩ := h.rd t r 1 raw ha
  refine { h with idle := fun u => ?_, rd := fun u r' pl raw2 e => ?_, op := fun u i e => ?_, own := fun i hi he => ?_, three := fun u hu => ?_ }
  · by_cases e : u = t
    · rw [e, up_same, hp]; simp
    · rw [up_ne _ _ e]; exact h.idle u
  · by_cases e2 : u = t
    · rw [e2, up_same] at e
      cases e
      rw [e2]
      refine ⟨h1, c, hp, hrd, .inr ⟨.inr rfl, ?_⟩⟩
      rcases hq with ⟨hq, _⟩ | ⟨_, hq⟩
      · omega
      · exact hq
    · rw [up_ne _ _ e2] at e
      exact h.rd u r' pl raw2 e
  · have e2 : u ≠ t := fun e2 => by rw [e2, up_same] at e; cases e
    rw [up_ne _ _ e2] at e
    exact h.op u i e
  · have := h.own i hi he
    rw [up_ne _ _ (fun e => by rw [e, ha] at this; cases this)]
    exact this
  · by_cases e : u = t
    · rw [e]; exact h.three t (by rw [ha]; simp)
    · rw [up_ne _ _ e] at hu; exact h.three u hu
/-- The device moves on by a flush or a fence. -/
theorem Lnk.quiet (h : Lnk T cl ev pd n l A od nw N m act) (hok : m.dev.Ok) {t : Nat} {ins : Ins} (hq : ins.op ≠ 1) (hf : ins.Fit m.dev.L) : Lnk T cl ev pd n l A od nw N { m with dev := m.dev.exec t ins } act := by
  obtain ⟨a, b⟩ := calm_exec h.li.calm (t := t) hf
  exact { h with li := h.li.quiet hok hq b a, rdy := ⟨h.rdy.ld, h.rdy.nx⟩ }
/-- A call ends. -/
theorem Lnk.fin0 (h : Lnk T cl ev pd n l A od nw N m act) {t c : Nat} {e : Ev} (hp : pd t = some c) (hrun : Run cl (ev ++ [e]) (up pd t none) n l A) (hno : ∀ i, act t = .op i → False) :
    Lnk T cl (ev ++ [e]) (up pd t none) n l A od nw N m (up act t .idle) := by
  refine { h with run := hrun, idle := fun u => ?_, rd := fun u r' pl raw2 e => ?_, op := fun u i e => ?_, own := fun i hi he => ?_, three := fun u hu => ?_ }
  · by_cases e : u = t
    · rw [e, up_same, up_same]; simp
    · rw [up_ne _ _ e, up_ne _ _ e]; exact h.idle u
  · by_cases e2 : u = t
    · rw [e2, up_same] at e; cases e
    · rw [up_ne _ _ e2] at e
      rw [up_ne _ _ e2]
      exact h.rd u r' pl raw2 e
  · by_cases e2 : u = t
    · rw [e2, up_same] at e; cases e
    · rw [up_ne _ _ e2] at e
      rw [up_ne _ _ e2]
      exact h.op u i e
  · have := h.own i hi he
    rw [up_ne _ _ (fun e => hno i (by rw [← e]; exact this))]
    exact this
  · by_cases e : u = t
    · rw [e, up_same] at hu; exact absurd rfl hu
    · rw [up_ne _ _ e] at hu; exact h.three u hu
theorem Lnk.finRd (h : Lnk T cl ev pd n l A od nw N m act) {t r pl raw : Nat} (ha : act t = .rd r pl raw) (hpl : pl ≠ 0) :
    ∃ c, pd t = some c ∧ (cl c).rd = true ∧ Lnk T cl (ev ++ [.fin c (raw % 1099511627776)]) (up pd t none) n l A od nw N m (up act t .idle) := by
  obtain ⟨_, c, hp, hrd, hq⟩ := h.rd t r pl raw ha
  have hm : (c, raw % 1099511627776) ∈ l := by
    rcases hq with ⟨hq, _⟩ | ⟨_, hq⟩
    · exact absurd hq hpl
    · exact hq
  have ht := (h.run.thr.1 _ _ hp).2
  have hrun := h.run.fin (c := c) (by rw [ht]; exact hp) hm
  rw [ht] at hrun
  exact ⟨c, hp, hrd, h.fin0 hp hrun (fun i e => by rw [ha] at e; cases e)⟩
end
end Go.Proofs.YtejlgnebofdijaaGreatDoor.Dv

namespace Go.Proofs.YtejlgnebofdijaaGreatDoor.Dv
open Ln (Cl Ev Run up up_same up_ne)
set_option linter.unusedVariables false

section
variable {T : Nat → Nat} {cl : Nat → Cl} {ev : List Ev} {pd : Nat → Option Nat} {n : Nat} {l : List (Nat × Nat)} {A : Nat} {od nw : Nat → Nat} {N : Nat} {m : MS} {act : Nat → Act}

/-- What an operation of one thread does to the calls of all: at most one call takes effect. -/
theorem Lnk.effect (h : Lnk T cl ev pd n l A od nw N m act) {m' : MS} {A' i : Nat} {b : Bool} (hs : StepOk od nw A A' N i m m' b) :
    ∃ l', Run cl ev pd n l' A' ∧ (∀ t r pl raw, act t = .rd r pl raw → ∃ c, pd t = some c ∧ RdOk cl l' pl raw c) ∧ ∀ t j, act t = .op j → ∃ c, pd t = some c ∧ OpOk cl l' od nw m' j c := by
  rcases hs.eff with ⟨rfl, hst⟩ | ⟨x, hx, hxd, hA, hA', h3, h4, hst⟩
  · refine ⟨l, h.run, fun t r pl raw e => (h.rd t r pl raw e).2, fun t j e => ?_⟩
    obtain ⟨a, b, d, c, e3, f1, f2, f3, f4, f5⟩ := h.op t j e
    exact ⟨c, e3, f1, f2, f3, fun q => f4 ((hst j).1 q), fun q v => f5 (by have := (hst j).2; omega) v⟩
  · have hxe : (m.op x).ended = false := by
      cases hq : (m.op x).ended with
      | false => rfl
      | true => rw [h.gone x hx hq] at hxd; cases hxd
    have hax := h.own x hx hxe
    obtain ⟨_, _, _, c, hp, g1, g2, g3, g4, g5⟩ := h.op _ x hax
    have ht := (h.run.thr.1 _ _ hp).2
    have hnl := g5 (by omega)
    have hrun := h.run.take (c := c) (by rw [ht]; exact hp) hnl (fun _ => by rw [hA, g2])
    rw [g1, if_neg (by simp)] at hrun
    have hAc : A = (cl c).old := hA.trans g2
    have hAn : A' = (cl c).new := hA'.trans g3
    rw [← hAn] at hrun
    have hcu : ∀ u c', pd u = some c' → c' = c → u = (m.op x).t := fun u c' hc' e => by rw [← ht, ← e]; exact (h.run.thr.1 _ _ hc').2.symm
    refine ⟨l ++ [(c, A)], hrun, fun t r pl raw e => ?_, fun t j e => ?_⟩
    · obtain ⟨_, c', e3, d, f⟩ := h.rd t r pl raw e
      have hne : c' ≠ c := fun q => by rw [q, g1] at d; cases d
      refine ⟨c', e3, d, ?_⟩
      rcases f with ⟨f1, f2⟩ | ⟨f1, f2⟩
      · exact .inl ⟨f1, fun v => notin_snoc (f2 v) hne⟩
      · exact .inr ⟨f1, List.mem_append_left _ f2⟩
    · obtain ⟨a, b, d, c', e3, f1, f2, f3, f4, f5⟩ := h.op t j e
      by_cases hj : j = x
      · subst hj
        have hcc : c' = c := by
          rw [b] at hp
          rw [hp] at e3
          cases e3
          rfl
        subst hcc
        exact ⟨c', e3, f1, f2, f3, fun _ => by rw [hAc]; simp, fun q => by omega⟩
      · have hne : c' ≠ c := fun q => hj (by
          have := hcu t c' e3 q
          rw [← this, e] at hax
          cases hax
          rfl)
        have hsj := hst j hj
        exact ⟨c', e3, f1, f2, f3, fun q => List.mem_append_left _ (f4 (by omega)), fun q v => notin_snoc (f5 (by omega) v) hne⟩

/-- A step of an operation. -/
theorem Lnk.step (h : Lnk T cl ev pd n l A od nw N m act) (hok : m.dev.Ok) {t i : Nat} (ha : act t = .op i) :
    ∃ l' A', ((m.step T i).2 = false → Lnk T cl ev pd n l' A' od nw N (m.step T i).1 act) ∧
      ((m.step T i).2 = true → ∃ c, pd t = some c ∧ (cl c).rd = false ∧ ((m.step T i).1.op i).ended = true ∧ ((m.step T i).1.op i).err = 0 ∧
        Lnk T cl (ev ++ [if ((m.step T i).1.op i).changed then .fin c (cl c).old else .fail c (cl c).old]) (up pd t none) n l' A' od nw N (m.step T i).1 (up act t .idle)) := by
  obtain ⟨hi, hti, hie, _⟩ := h.op t i ha
  obtain ⟨A', h1, h2, hs⟩ := h.li.step h.rdy hok hi hie
  obtain ⟨l', hrun, hrd, hop⟩ := h.effect hs
  obtain ⟨m', hm'⟩ : ∃ m', m' = (m.step T i).1 := ⟨_, rfl⟩
  obtain ⟨b, hb⟩ : ∃ b, b = (m.step T i).2 := ⟨_, rfl⟩
  rw [← hm', ← hb] at hs
  rw [← hm'] at h1 h2 hop
  rw [← hm', ← hb]
  clear hm' hb
  have hbusy : ∀ k, m'.busy k = true → m.busy k = true ∧ (b = true → k ≠ (m.op i).k) := fun k hk => by
    rw [hs.busy] at hk
    cases b with
    | false => exact ⟨hk, fun q => by cases q⟩
    | true =>
      rw [if_pos rfl] at hk
      by_cases e : k = (m.op i).k
      · rw [e, upd_same] at hk; cases hk
      · rw [upd_ne _ _ e] at hk; exact ⟨hk, fun _ => e⟩
  refine ⟨l', A', fun hbf => ?_, fun hbt => ?_⟩
  · subst hbf
    have hen : ∀ j, (m'.op j).ended = (m.op j).ended := fun j => by rw [hs.ended j, if_neg (by simp)]
    refine { run := hrun, li := h1, rdy := h2, Nn := h.Nn, idle := h.idle, rd := fun u r pl raw e => ⟨(h.rd u r pl raw e).1, hrd u r pl raw e⟩, op := fun u j e => ?_, own := fun j hj he => ?_, gone := fun j hj he => ?_, busy := fun k hk => ?_, three := h.three }
    · obtain ⟨a, b, d, _⟩ := h.op u j e
      exact ⟨a, (hs.t j).trans b, (hen j).trans d, hop u j e⟩
    · rw [hen] at he
      rw [hs.t]
      exact h.own j hj he
    · rw [hen] at he
      exact hs.mono j (h.gone j hj he)
    · obtain ⟨j, a, b, c⟩ := h.busy k (hbusy k hk).1
      exact ⟨j, a, (hen j).trans b, (hs.k j).trans c⟩
  · subst hbt
    obtain ⟨hdn, her⟩ := hs.done rfl
    have hen : ∀ j, j ≠ i → (m'.op j).ended = (m.op j).ended := fun j hj => by rw [hs.ended j, if_neg (fun q => hj q.1)]
    have hei : (m'.op i).ended = true := by rw [hs.ended i, if_pos ⟨rfl, rfl⟩]
    obtain ⟨c, hp, g1, g2, g3, g4, g5⟩ := hop t i ha
    have ht := (hrun.thr.1 _ _ hp).2
    obtain ⟨f1, f2⟩ := h1.fin i hi hdn
    have hrun2 : Run cl (ev ++ [if (m'.op i).changed then .fin c (cl c).old else .fail c (cl c).old]) (up pd t none) n l' A' := by
      cases hch : (m'.op i).changed with
      | true =>
        have := hrun.fin (c := c) (by rw [ht]; exact hp) (g4 (by have := f1 hch; omega))
        rw [ht] at this
        exact this
      | false =>
        have := hrun.fail (c := c) (v := (cl c).old) (by rw [ht]; exact hp) (g5 (by have := f2 hch; omega))
        rw [ht] at this
        exact this
    have hau : ∀ u j, u ≠ t → act u = .op j → j ≠ i := fun u j hu e ej => hu (by
      obtain ⟨_, q, _⟩ := h.op u j e
      rw [← q, ej, hti])
    refine ⟨c, hp, g1, hei, her, { run := hrun2, li := h1, rdy := h2, Nn := h.Nn, idle := fun u => ?_, rd := fun u r pl raw e => ?_, op := fun u j e => ?_, own := fun j hj he => ?_, gone := fun j hj he => ?_, busy := fun k hk => ?_, three := fun u hu => ?_ }⟩
    · by_cases e : u = t
      · rw [e, up_same, up_same]; simp
      · rw [up_ne _ _ e, up_ne _ _ e]; exact h.idle u
    · by_cases e2 : u = t
      · rw [e2, up_same] at e; cases e
      · rw [up_ne _ _ e2] at e
        rw [up_ne _ _ e2]
        exact ⟨(h.rd u r pl raw e).1, hrd u r pl raw e⟩
    · by_cases e2 : u = t
      · rw [e2, up_same] at e; cases e
      · rw [up_ne _ _ e2] at e
        rw [up_ne _ _ e2]
        obtain ⟨a, b, d, _⟩ := h.op u j e
        exact ⟨a, (hs.t j).trans b, (hen j (hau u j e2 e)).trans d, hop u j e⟩
    · have hji : j ≠ i := fun e => by rw [e, hei] at he; cases he
      rw [hen j hji] at he
      rw [hs.t]
      have := h.own j hj he
      rw [up_ne _ _ (fun e => by rw [e, ha] at this; cases this; exact hji rfl)]
      exact this
    · by_cases hji : j = i
      · rw [hji]; exact hdn
      · rw [hen j hji] at he
        exact hs.mono j (h.gone j hj he)
    · obtain ⟨hk1, hk2⟩ := hbusy k hk
      obtain ⟨j, a, b, c⟩ := h.busy k hk1
      have hji : j ≠ i := fun e => hk2 rfl (by rw [← c, e])
      exact ⟨j, a, (hen j hji).trans b, (hs.k j).trans c⟩
    · by_cases e : u = t
      · rw [e, up_same] at hu; exact absurd rfl hu
      · rw [up_ne _ _ e] at hu; exact h.three u hu

/-- The power fails, and the pool recovers. -/
theorem Lnk.crashed (h : Lnk T cl ev pd n l A od nw N m act) (hok : m.dev.Ok) {c : Nat → Nat} (hc : m.dev.Cut c) {t : Nat} :
    ∃ D, RecOk (m.dev.after c) t D ∧ (∀ k, k < 24 → Desc T 96 (64 * (m.dev.after c).L) (m.dev.after c).cur k (D k)) ∧
      ∃ l' A', Lnk T cl (ev ++ [.crash]) (fun _ => none) n l' A' (fun _ => 0) (fun _ => 0) 0 (ms0 (recs (m.dev.after c) t D 24)) (fun _ => .idle) := by
  obtain ⟨D, h1, h2, A', ⟨h3, h4⟩, h5⟩ := h.li.crashed hc hok (t := t) (fun _ => 0) (fun _ => 0)
  refine ⟨D, h1, h2, ?_⟩
  have mk : ∀ {l'}, Run cl ev pd n l' A' → Lnk T cl (ev ++ [.crash]) (fun _ => none) n l' A' (fun _ => 0) (fun _ => 0) 0 (ms0 (recs (m.dev.after c) t D 24)) (fun _ => .idle) := fun hr =>
    { run := hr.crash, li := h3, rdy := h4, Nn := Nat.zero_le _, idle := fun u => ⟨fun _ => rfl, fun _ => rfl⟩, rd := fun u r pl raw e => (by cases e), op := fun u i e => (by cases e), own := fun i hi => absurd hi (by omega), gone := fun i hi => absurd hi (by omega), busy := fun k hk => (by cases hk), three := fun u hu => absurd rfl hu }
  rcases h5 with h5 | ⟨x, hx, hst, hA, hA'⟩
  · subst h5
    exact ⟨l, A', mk h.run⟩
  · obtain ⟨hxN, _, hxd⟩ := h.li.cur x hx
    have hxe : (m.op x).ended = false := by
      cases hq : (m.op x).ended with
      | false => rfl
      | true => rw [h.gone x hxN hq] at hxd; cases hxd
    obtain ⟨_, _, _, q, hp, g1, g2, g3, g4, g5⟩ := h.op _ x (h.own x hxN hxe)
    have ht := (h.run.thr.1 _ _ hp).2
    have hrun := h.run.take (c := q) (by rw [ht]; exact hp) (g5 (by omega)) (fun _ => by rw [hA, g2])
    rw [g1, if_neg (by simp), ← g3, ← hA'] at hrun
    exact ⟨_, A', mk hrun⟩
end

/-- The beginning. -/
theorem Lnk.start {T : Nat → Nat} {cl : Nat → Cl} : Lnk T cl [] (fun _ => none) 0 [] 0 (fun _ => 0) (fun _ => 0) 0 (ms0 setF) (fun _ => .idle) :=
  { run := .nil, li := setF_start.1, rdy := (setF_start (od := fun _ => 0) (nw := fun _ => 0)).2, Nn := Nat.le_refl _, idle := fun u => ⟨fun _ => rfl, fun _ => rfl⟩, rd := fun u r pl raw e => (by cases e), op := fun u i e => (by cases e), own := fun i hi => absurd hi (by omega), gone := fun i hi => absurd hi (by omega), busy := fun k hk => (by cases hk), three := fun u hu => absurd rfl hu }

/-! ### the steps that are left of a thread's call -/
def meas (m : MS) : Act → Nat
  | .idle => 0
  | .rd _ pl _ => 4 - pl
  | .op i => 1 + mu m i
theorem meas_le (m : MS) (a : Act) : meas m a ≤ 701 := by
  cases a with
  | idle => exact Nat.zero_le _
  | rd r pl raw => show 4 - pl ≤ 701; omega
  | op i => show 1 + mu m i ≤ 701; have := mu_le m i; omega

/-! ### the number of events -/
def Ev.cr : Ev → Nat
  | .crash => 1
  | _ => 0
def crs (ev : List Ev) : Nat := (ev.map Ev.cr).sum
def ends : List Ev → List Nat
  | [] => []
  | .fin c _ :: l => c :: ends l
  | .fail c _ :: l => c :: ends l
  | _ :: l => ends l
theorem ends_append : ∀ (a b : List Ev), ends (a ++ b) = ends a ++ ends b
  | [], b => rfl
  | .fin c v :: a, b => by show c :: ends (a ++ b) = _; rw [ends_append a b]; rfl
  | .fail c v :: a, b => by show c :: ends (a ++ b) = _; rw [ends_append a b]; rfl
  | .beg c :: a, b => ends_append a b
  | .crash :: a, b => ends_append a b
theorem crs_append (a b : List Ev) : crs (a ++ b) = crs a + crs b := by unfold crs; rw [List.map_append, List.sum_append]
theorem nodup_lt : ∀ (n : Nat) (l : List Nat), l.Nodup → (∀ x ∈ l, x < n) → l.length ≤ n
  | 0, l, _, h => by
    cases l with
    | nil => exact Nat.le_refl _
    | cons a l => exact absurd (h a (by simp)) (by omega)
  | n + 1, l, hn, h => by
    by_cases hm : n ∈ l
    · have h1 := nodup_lt n (l.erase n) (hn.erase n) (fun x hx => by
        have hx2 := (List.Nodup.mem_erase_iff hn).1 hx
        have := h x hx2.2
        omega)
      rw [List.length_erase_of_mem hm] at h1
      omega
    · have h1 := nodup_lt n l hn (fun x hx => by
        have := h x hx
        have hne : x ≠ n := fun e => hm (e ▸ hx)
        omega)
      omega
theorem Run.ends {cl : Nat → Cl} {ev : List Ev} {pd : Nat → Option Nat} {n : Nat} {l : List (Nat × Nat)} {A : Nat} (h : Run cl ev pd n l A) :
    (ends ev).Nodup ∧ (∀ x ∈ ends ev, x < n) ∧ (∀ t c, pd t = some c → c ∉ ends ev) ∧ ev.length = n + (ends ev).length + crs ev := by
  induction h with
  | nil => exact ⟨List.nodup_nil, fun x hx => (by cases hx), fun t c e => (by cases e), rfl⟩
  | @beg ev pd n l A h hp ih =>
    obtain ⟨i1, i2, i3, i4⟩ := ih
    have e : Dv.ends (ev ++ [.beg n]) = Dv.ends ev := by rw [ends_append]; simp [Dv.ends]
    rw [e]
    refine ⟨i1, fun x hx => Nat.lt_succ_of_lt (i2 x hx), fun t c hc => ?_, ?_⟩
    · by_cases ht : t = (cl n).t
      · rw [ht, up_same] at hc; cases hc
        exact fun hm => absurd (i2 _ hm) (Nat.lt_irrefl _)
      · rw [up_ne _ _ ht] at hc; exact i3 t c hc
    · rw [crs_append, List.length_append]; simp [crs, Ev.cr]; simp [crs] at i4; omega
  | take h hp hl ha ih => exact ih
  | @fin ev pd n l A c v h hp hl ih =>
    obtain ⟨i1, i2, i3, i4⟩ := ih
    have e : Dv.ends (ev ++ [.fin c v]) = Dv.ends ev ++ [c] := by rw [ends_append]; simp [Dv.ends]
    have hth := h.thr.1
    rw [e]
    refine ⟨?_, fun x hx => ?_, fun t c' hc => ?_, ?_⟩
    · rw [List.nodup_append]
      exact ⟨i1, by simp, fun a ha b hb => by simp at hb; subst hb; exact fun q => i3 _ _ hp (q ▸ ha)⟩
    · rcases List.mem_append.1 hx with hx | hx
      · exact i2 x hx
      · simp at hx; subst hx; exact (hth _ _ hp).1
    · by_cases ht : t = (cl c).t
      · rw [ht, up_same] at hc; cases hc
      · rw [up_ne _ _ ht] at hc
        intro hm
        rcases List.mem_append.1 hm with hm | hm
        · exact i3 t c' hc hm
        · simp at hm; subst hm; exact ht (hth _ _ hc).2.symm
    · rw [crs_append, List.length_append, List.length_append]; simp [crs, Ev.cr]; simp [crs] at i4; omega
  | @fail ev pd n l A c v h hp hl ih =>
    obtain ⟨i1, i2, i3, i4⟩ := ih
    have e : Dv.ends (ev ++ [.fail c v]) = Dv.ends ev ++ [c] := by rw [ends_append]; simp [Dv.ends]
    have hth := h.thr.1
    rw [e]
    refine ⟨?_, fun x hx => ?_, fun t c' hc => ?_, ?_⟩
    · rw [List.nodup_append]
      exact ⟨i1, by simp, fun a ha b hb => by simp at hb; subst hb; exact fun q => i3 _ _ hp (q ▸ ha)⟩
    · rcases List.mem_append.1 hx with hx | hx
      · exact i2 x hx
      · simp at hx; subst hx; exact (hth _ _ hp).1
    · by_cases ht : t = (cl c).t
      · rw [ht, up_same] at hc; cases hc
      · rw [up_ne _ _ ht] at hc
        intro hm
        rcases List.mem_append.1 hm with hm | hm
        · exact i3 t c' hc hm
        · simp at hm; subst hm; exact ht (hth _ _ hc).2.symm
    · rw [crs_append, List.length_append, List.length_append]; simp [crs, Ev.cr]; simp [crs] at i4; omega
  | @crash ev pd n l A h ih =>
    obtain ⟨i1, i2, i3, i4⟩ := ih
    have e : Dv.ends (ev ++ [.crash]) = Dv.ends ev := by rw [ends_append]; simp [Dv.ends]
    rw [e]
    refine ⟨i1, i2, fun t c hc => (by cases hc), ?_⟩
    rw [crs_append, List.length_append]; simp [crs, Ev.cr]; simp [crs] at i4; omega
theorem Run.evs {cl : Nat → Cl} {ev : List Ev} {pd : Nat → Option Nat} {n : Nat} {l : List (Nat × Nat)} {A : Nat} (h : Run cl ev pd n l A) : ev.length ≤ 2 * n + crs ev := by
  obtain ⟨i1, i2, _, i4⟩ := Run.ends h
  have := nodup_lt n _ i1 i2
  omega
end Go.Proofs.YtejlgnebofdijaaGreatDoor.Dv
