/-
  The plain machine of mwcas with changes of two words from one value to another: what holds between any two steps. No program in sight.
  The plain machine of mwcas with changes of two words: every step keeps what holds, and at most one operation takes effect in it. No program in sight.
  The plain machine of mwcas with changes of two words: a step. No program in sight.
  The plain machine of mwcas with changes of two words: a whole step, and a new operation. No program in sight.
  Programs that are executed whole; what a crash leaves. No program in sight.
  The plain machine of mwcas with changes of two words: the start, a crash and its recovery. No program in sight.
  The plain machine of mwcas with changes of two words: an operation ends after a bounded number of its own steps. No program in sight.
-/
import Derived.Test.YtejlgnebofdijaaGreatDoorMPlA
import Derived.Test.YtejlgnebofdijaaGreatDoorMOpA
import Derived.Test.YtejlgnebofdijaaGreatDoorMBegB
namespace Go.Proofs.YtejlgnebofdijaaGreatDoor.Dv
open Go.RowKit
set_option linter.unusedVariables false

def es2 (a b : Nat) : List (Nat × Nat × Nat) := [(6400, a, b), (6528, a, b)]
/-- What never changes of an operation, and the length of what it has seen. -/
structure LStat (a b : Nat) (o : OpS) : Prop where
  es : o.es = es2 a b
  lt : a < 3 ∧ b < 3
  k : o.k < 24
  ordl : o.ord.length = 2
  ordm : ∀ x, x < 2 → x ∈ o.ord
  ordv : ∀ x ∈ o.ord, x < 2
  sl : o.seen.length = 2

/-- The value of both words is A, in every image; while operation c is storing, a word may have its new value. -/
structure LI (T : Nat → Nat) (od nw : Nat → Nat) (A N : Nat) (m : MS) : Prop where
  L : m.dev.L = 110
  A3 : A < 3
  stat : ∀ i, i < N → LStat (od i) (nw i) (m.op i)
  val : ∀ x, x = 800 ∨ x = 816 → m.dev.All x (fun r => r < 4611686018427387904 ∧ (r % 1099511627776 = A ∨ ∃ c, m.cur = some c ∧ (m.op c).stage = 3 ∧ r % 1099511627776 = nw c))
  sta : ∀ k, k < 24 → m.dev.All (32 * k) (fun r => r = unusedW ∨ ∃ c, m.cur = some c ∧ (m.op c).k = k ∧ 2 ≤ (m.op c).stage ∧ (m.op c).stage ≤ 4 ∧ r = (m.op c).status T)
  sta3 : ∀ c, m.cur = some c → (m.op c).stage = 3 → m.dev.All (32 * (m.op c).k) (fun r => r = (m.op c).status T)
  recd : ∀ c, m.cur = some c → 2 ≤ (m.op c).stage → (m.op c).stage ≤ 4 → ∀ q v, (ewords (m.op c).ents)[q]? = some v → m.dev.All (32 * (m.op c).k + 8 + q) (fun r => r = v)
  cur : ∀ c, m.cur = some c → c < N ∧ (m.op c).stage ≤ 4 ∧ (m.op c).done = false
  mid : ∀ i, i < N → 1 ≤ (m.op i).stage → (m.op i).stage ≤ 4 → m.cur = some i
  fresh : ∀ i, i < N → m.cur ≠ some i → (m.op i).done = false → (m.op i).stage = 0 ∧ (m.op i).loaded = 0
  old : ∀ c, m.cur = some c → (m.op c).stage ≤ 3 → 0 < (m.op c).loaded → od c = A
  new : ∀ c, m.cur = some c → (m.op c).stage = 4 → nw c = A
  seen : ∀ c, m.cur = some c → ∀ q x, q < (m.op c).loaded → (m.op c).ord[q]? = some x → (m.op c).seen.getD x 0 < 4611686018427387904 ∧ (m.op c).seen.getD x 0 % 1099511627776 = od c
  ld1 : ∀ c, m.cur = some c → 1 ≤ (m.op c).stage → (m.op c).loaded = 2
  fin : ∀ i, i < N → (m.op i).done = true → ((m.op i).changed = true → (m.op i).stage = 5) ∧ ((m.op i).changed = false → (m.op i).stage = 0)
  tgt : ∀ i, i < N → ∀ c, (m.op i).tgt = some c → 1 ≤ (m.op i).inn ∧ (m.op i).inn ≤ (m.op c).stage
  prog : ∀ c, m.cur = some c → 1 ≤ (m.op c).stage → (m.op c).prog = Dv.prog ((m.op c).stores T (m.op c).stage)
  run : ∀ i, i < N → ∀ c, m.cur = some c → (m.op i).tgt = some c → (m.op i).inn = (m.op c).stage → Done m.dev (m.op i).t ((m.op c).stores T (m.op c).stage) (m.op i).next
  calm : ∀ t, Calm m.dev t

theorem LStat.of_same {a b : Nat} {o o' : OpS} (h : LStat a b o) (hk : o'.k = o.k) (he : o'.es = o.es) (ho : o'.ord = o.ord) (hs : o'.seen.length = o.seen.length) : LStat a b o' where
  es := he.trans h.es
  lt := h.lt
  k := by rw [hk]; exact h.k
  ordl := by rw [ho]; exact h.ordl
  ordm := fun x hx => by rw [ho]; exact h.ordm x hx
  ordv := fun x hx => h.ordv x (ho ▸ hx)
  sl := hs.trans h.sl
theorem LStat.len {a b : Nat} {o : OpS} (h : LStat a b o) : o.es.length = 2 := by rw [h.es]; rfl
theorem LStat.ents {a b : Nat} {o : OpS} (h : LStat a b o) : ∃ y z, y < 4611686018427387904 ∧ z < 4611686018427387904 ∧ y % 1099511627776 = b ∧ z % 1099511627776 = b ∧ o.ents = [(6400, a, y), (6528, a, z)] := by
  have hb := h.lt
  have e0 := ents_get (o := o) (k := 0) (x := (6400, a, b)) (by rw [h.es]; rfl)
  have e1 := ents_get (o := o) (k := 1) (x := (6528, a, b)) (by rw [h.es]; rfl)
  have h1 := aft_lt (new := b) (raw := o.seen.getD 0 0) (by omega)
  have h2 := aft_lt (new := b) (raw := o.seen.getD 1 0) (by omega)
  have h3 := aft_mod (new := b) (raw := o.seen.getD 0 0) (by omega)
  have h4 := aft_mod (new := b) (raw := o.seen.getD 1 0) (by omega)
  dsimp only at e0 e1
  generalize aft b (o.seen.getD 0 0) = y at e0 h1 h3
  generalize aft b (o.seen.getD 1 0) = z at e1 h2 h4
  refine ⟨y, z, h1, h2, h3, h4, ?_⟩
  have hl : o.ents.length = 2 := by rw [ents_length]; exact h.len
  match hen : o.ents, hl with
  | [p, q], _ =>
    rw [hen] at e0 e1
    have a1 : p = (6400, a, y) := Option.some.inj e0
    have a2 : q = (6528, a, z) := Option.some.inj e1
    rw [a1, a2]
theorem LStat.ewr {a b : Nat} {o : OpS} (h : LStat a b o) : ∃ y z, y < 4611686018427387904 ∧ z < 4611686018427387904 ∧ y % 1099511627776 = b ∧ z % 1099511627776 = b ∧ Dv.ewr o.ents = [(6400, y), (6528, z)] := by
  obtain ⟨y, z, h1, h2, h3, h4, h5⟩ := h.ents
  exact ⟨y, z, h1, h2, h3, h4, by rw [h5]; rfl⟩

theorem lstores_mem {T : Nat → Nat} {a b s : Nat} {o : OpS} (h : LStat a b o) (hs : 1 ≤ s) (hs4 : s ≤ 4) {p : Nat × Nat} (hp : p ∈ o.stores T s) :
    (s = 1 ∧ ∃ q, q < 6 ∧ p.1 = 256 * o.k + 64 + 8 * q ∧ (ewords o.ents)[q]? = some p.2) ∨ (s = 2 ∧ p = (256 * o.k, o.status T)) ∨
    (s = 3 ∧ (p.1 = 6400 ∨ p.1 = 6528) ∧ p.2 < 4611686018427387904 ∧ p.2 % 1099511627776 = b) ∨ (s = 4 ∧ p = (256 * o.k, unusedW)) := by
  have : s = 1 ∨ s = 2 ∨ s = 3 ∨ s = 4 := by omega
  rcases this with rfl | rfl | rfl | rfl
  · refine .inl ⟨rfl, ?_⟩
    unfold OpS.stores at hp
    rw [if_pos rfl] at hp
    unfold OpS.recw at hp
    obtain ⟨q, hq, rfl⟩ := List.mem_map.1 hp
    have hq' : q < (ewords o.ents).length := by simpa using hq
    have hl := ewords_length o.ents
    rw [ents_length, h.len] at hl
    refine ⟨q, by omega, rfl, ?_⟩
    dsimp only
    rw [List.getD_eq_getElem?_getD, List.getElem?_eq_getElem hq']
    rfl
  · refine .inr (.inl ⟨rfl, ?_⟩)
    unfold OpS.stores at hp
    rw [if_neg (by omega), if_pos rfl] at hp
    simp at hp
    rw [hp]
    rfl
  · refine .inr (.inr (.inl ⟨rfl, ?_⟩))
    unfold OpS.stores at hp
    rw [if_neg (by omega), if_neg (by omega), if_pos rfl] at hp
    obtain ⟨y, z, h1, h2, h3, h4, h5⟩ := h.ewr
    rw [h5] at hp
    rcases List.mem_cons.1 hp with rfl | hp
    · exact ⟨.inl rfl, h1, h3⟩
    · rcases List.mem_cons.1 hp with rfl | hp
      · exact ⟨.inr rfl, h2, h4⟩
      · cases hp
  · refine .inr (.inr (.inr ⟨rfl, ?_⟩))
    unfold OpS.stores at hp
    rw [if_neg (by omega), if_neg (by omega), if_neg (by omega)] at hp
    simp at hp
    rw [hp]
theorem lstores_ok {T : Nat → Nat} {a b s : Nat} {o : OpS} (h : LStat a b o) (hs : 1 ≤ s) (hs4 : s ≤ 4) : StOk (o.stores T s) where
  al := by
    intro p hp
    rcases lstores_mem h hs hs4 hp with ⟨_, q, _, h1, _⟩ | ⟨_, rfl⟩ | ⟨_, h1, _⟩ | ⟨_, rfl⟩
    · omega
    · dsimp only; omega
    · omega
    · dsimp only; omega
  one := by
    intro p hp q hq hpq
    by_cases h3 : s = 3
    · subst h3
      unfold OpS.stores at hp hq
      rw [if_neg (by omega), if_neg (by omega), if_pos rfl] at hp hq
      obtain ⟨y, z, _, _, _, _, h5⟩ := h.ewr
      rw [h5] at hp hq
      simp only [List.mem_cons, List.not_mem_nil, or_false] at hp hq
      rcases hp with rfl | rfl <;> rcases hq with rfl | rfl
      · rfl
      · dsimp only at hpq; omega
      · dsimp only at hpq; omega
      · rfl
    · rcases lstores_mem h hs hs4 hp with ⟨_, q1, _, h1, v1⟩ | ⟨s1, rfl⟩ | ⟨s1, _⟩ | ⟨s1, rfl⟩
      · rcases lstores_mem h hs hs4 hq with ⟨_, q2, _, h2, v2⟩ | ⟨s2, _⟩ | ⟨s2, _⟩ | ⟨s2, _⟩
        · have : q1 = q2 := by omega
          subst this
          rw [v1] at v2
          exact Option.some.inj v2
        all_goals omega
      · rcases lstores_mem h hs hs4 hq with ⟨s2, _⟩ | ⟨_, rfl⟩ | ⟨s2, _⟩ | ⟨s2, _⟩
        · omega
        · rfl
        all_goals omega
      · omega
      · rcases lstores_mem h hs hs4 hq with ⟨s2, _⟩ | ⟨s2, _⟩ | ⟨s2, _⟩ | ⟨_, rfl⟩
        · omega
        · omega
        · omega
        · rfl

section
variable {T od nw : Nat → Nat} {A N : Nat} {m : MS}
theorem LI.one (h : LI T od nw A N m) {c c' : Nat} (hc : m.cur = some c) (hc' : m.cur = some c') : c' = c := by rw [hc] at hc'; cases hc'; rfl
/-- Another device with the same words. -/
theorem LI.dev (h : LI T od nw A N m) {d : DSt} (hd : Eqv d m.dev) (hc : ∀ t, Calm d t) : LI T od nw A N { m with dev := d } where
  L := hd.L.trans h.L
  A3 := h.A3
  stat := h.stat
  val := fun x hx => hd.all (h.val x hx)
  sta := fun k hk => hd.all (h.sta k hk)
  sta3 := fun c hcc hs => hd.all (h.sta3 c hcc hs)
  recd := fun c hcc h1 h2 q v hq => hd.all (h.recd c hcc h1 h2 q v hq)
  cur := h.cur
  mid := h.mid
  fresh := h.fresh
  old := h.old
  new := h.new
  seen := h.seen
  ld1 := h.ld1
  fin := h.fin
  tgt := h.tgt
  prog := h.prog
  run := fun i hi c hcc h1 h2 => Done.eqv hd (h.run i hi c hcc h1 h2)
  calm := hc
/-- A flush, a fence of any thread. -/
theorem LI.quiet (h : LI T od nw A N m) (hok : m.dev.Ok) {t : Nat} {ins : Ins} {d : DSt} (hq : ins.op ≠ 1) (hd : Eqv d (m.dev.did t ins)) (hc : ∀ t, Calm d t) : LI T od nw A N { m with dev := d } where
  L := by rw [hd.L, did_L]; exact h.L
  A3 := h.A3
  stat := h.stat
  val := fun x hx => hd.all (DSt.did_all (h.val x hx) hok (fun e => absurd e hq) (fun e => absurd e hq))
  sta := fun k hk => hd.all (DSt.did_all (h.sta k hk) hok (fun e => absurd e hq) (fun e => absurd e hq))
  sta3 := fun c hcc hs => hd.all (DSt.did_all (h.sta3 c hcc hs) hok (fun e => absurd e hq) (fun e => absurd e hq))
  recd := fun c hcc h1 h2 q v hqq => hd.all (DSt.did_all (h.recd c hcc h1 h2 q v hqq) hok (fun e => absurd e hq) (fun e => absurd e hq))
  cur := h.cur
  mid := h.mid
  fresh := h.fresh
  old := h.old
  new := h.new
  seen := h.seen
  ld1 := h.ld1
  fin := h.fin
  tgt := h.tgt
  prog := h.prog
  run := fun i hi c hcc h1 h2 => by
    have hr := h.run i hi c hcc h1 h2
    refine Done.eqv hd ⟨fun q p a b => ?_, fun q y a b p a1 a2 => DSt.did_fl (hr.fl q y a b p a1 a2) hok (fun e => absurd e hq) (fun e => absurd e hq)⟩
    rw [DSt.did_cur (fun e => absurd e hq), if_neg (fun e => hq e.1)]
    exact hr.st q p a b
  calm := hc
/-- Operation i takes another place in the stage of the current one. -/
theorem LI.place (h : LI T od nw A N m) {i c nx : Nat} (hc : m.cur = some c) (hs : 1 ≤ (m.op c).stage) (hd : Done m.dev (m.op i).t ((m.op c).stores T (m.op c).stage) nx) :
    LI T od nw A N (m.set i { m.op i with tgt := some c, inn := (m.op c).stage, next := nx }) := by
  obtain ⟨o, ho⟩ : ∃ o : OpS, o = { m.op i with tgt := some c, inn := (m.op c).stage, next := nx } := ⟨_, rfl⟩
  rw [← ho]
  have kk : ∀ j, ((m.set i o).op j).k = (m.op j).k := set_key (·.k) (by rw [ho])
  have ke : ∀ j, ((m.set i o).op j).es = (m.op j).es := set_key (·.es) (by rw [ho])
  have ko : ∀ j, ((m.set i o).op j).ord = (m.op j).ord := set_key (·.ord) (by rw [ho])
  have ksn : ∀ j, ((m.set i o).op j).seen = (m.op j).seen := set_key (·.seen) (by rw [ho])
  have kl : ∀ j, ((m.set i o).op j).loaded = (m.op j).loaded := set_key (·.loaded) (by rw [ho])
  have ks : ∀ j, ((m.set i o).op j).stage = (m.op j).stage := set_key (·.stage) (by rw [ho])
  have kp : ∀ j, ((m.set i o).op j).prog = (m.op j).prog := set_key (·.prog) (by rw [ho])
  have kd : ∀ j, ((m.set i o).op j).done = (m.op j).done := set_key (·.done) (by rw [ho])
  have kc : ∀ j, ((m.set i o).op j).changed = (m.op j).changed := set_key (·.changed) (by rw [ho])
  have ktt : ∀ j, ((m.set i o).op j).t = (m.op j).t := set_key (·.t) (by rw [ho])
  have kst : ∀ j, ((m.set i o).op j).status T = (m.op j).status T := fun j => status_same (ke j) (ksn j)
  have ken : ∀ j, ((m.set i o).op j).ents = (m.op j).ents := fun j => ents_same (ke j) (ksn j)
  have kso : ∀ j z, ((m.set i o).op j).stores T z = (m.op j).stores T z := fun j z => stores_same (kk j) (ke j) (ksn j) z
  exact {
    L := h.L
    A3 := h.A3
    stat := fun i hi => (h.stat i hi).of_same (kk i) (ke i) (ko i) (by rw [ksn])
    val := fun x hx => (h.val x hx).imp (fun r hr => ⟨hr.1, hr.2.imp id (fun ⟨c, a, b, d⟩ => ⟨c, a, by rw [ks]; exact b, d⟩)⟩)
    sta := fun k hk => (h.sta k hk).imp (fun r hr => hr.imp id (fun ⟨c, a, b, d, e, f⟩ => ⟨c, a, by rw [kk]; exact b, by rw [ks]; exact d, by rw [ks]; exact e, by rw [kst]; exact f⟩))
    sta3 := fun c' hc' h3 => by rw [ks] at h3; rw [kst, kk]; exact h.sta3 c' hc' h3
    recd := fun c' hc' h1 h2 q v hq => by rw [ks] at h1 h2; rw [ken] at hq; rw [kk]; exact h.recd c' hc' h1 h2 q v hq
    cur := fun c' hc' => by rw [ks, kd]; exact h.cur c' hc'
    mid := fun i hi h1 h2 => by rw [ks] at h1 h2; exact h.mid i hi h1 h2
    fresh := fun i hi h1 h2 => by rw [kd] at h2; rw [ks, kl]; exact h.fresh i hi h1 h2
    old := fun c' hc' h1 h2 => by rw [ks] at h1; rw [kl] at h2; exact h.old c' hc' h1 h2
    new := fun c' hc' h1 => by rw [ks] at h1; exact h.new c' hc' h1
    seen := fun c' hc' q x h1 h2 => by rw [kl] at h1; rw [ko] at h2; rw [ksn]; exact h.seen c' hc' q x h1 h2
    ld1 := fun c' hc' h1 => by rw [ks] at h1; rw [kl]; exact h.ld1 c' hc' h1
    fin := fun i hi h1 => by rw [kd] at h1; rw [kc, ks]; exact h.fin i hi h1
    tgt := fun j hj c' h1 => by
      rw [ks]
      by_cases e : j = i
      · subst e
        rw [set_same, ho] at h1 ⊢
        cases h1
        exact ⟨hs, Nat.le_refl _⟩
      · rw [set_ne m o e] at h1 ⊢
        exact h.tgt j hj c' h1
    prog := fun c' hc' h1 => by rw [ks] at h1; rw [kp, ks, kso]; exact h.prog c' hc' h1
    run := fun j hj c' hc' h1 h2 => by
      rw [ks] at h2
      rw [ktt, kso, ks]
      by_cases e : j = i
      · subst e
        rw [set_same, ho] at h1 ⊢
        cases h1
        exact hd
      · rw [set_ne m o e] at h1 h2 ⊢
        exact h.run j hj c' hc' h1 h2
    calm := h.calm }
/-- A thread executes an instruction of the stage of the current operation. -/
theorem LI.exec (h : LI T od nw A N m) (hok : m.dev.Ok) {c t : Nat} {ins : Ins} {d : DSt} (hc : m.cur = some c) (hs : 1 ≤ (m.op c).stage)
    (hi : ins ∈ Dv.prog ((m.op c).stores T (m.op c).stage)) (hd : Eqv d (m.dev.did t ins)) (hcal : ∀ t, Calm d t) : LI T od nw A N { m with dev := d } := by
  have hcc := h.cur c hc
  have hst := h.stat c hcc.1
  have hk := hst.k
  have hsok := lstores_ok (T := T) hst hs hcc.2.1
  have h8 : ins.op = 1 → ins.off % 8 = 0 := by
    intro e
    rcases prog_mem hi with ⟨p, hp, rfl⟩ | ⟨y, _, rfl⟩ | rfl
    · exact hsok.al p hp
    · cases e
    · cases e
  have hop : ins.op = 1 → ∃ p ∈ (m.op c).stores T (m.op c).stage, ins = ⟨1, p.1, p.2⟩ := by
    intro e
    rcases prog_mem hi with ⟨p, hp, rfl⟩ | ⟨y, _, rfl⟩ | rfl
    · exact ⟨p, hp, rfl⟩
    · cases e
    · cases e
  exact {
    L := by rw [hd.L, did_L]; exact h.L
    A3 := h.A3
    stat := h.stat
    val := fun x hx => hd.all (DSt.did_all (h.val x hx) hok h8 (fun e1 e2 => by
      obtain ⟨p, hp, rfl⟩ := hop e1
      dsimp only at e2 ⊢
      rcases lstores_mem hst hs hcc.2.1 hp with ⟨_, q, hq, a, _⟩ | ⟨_, rfl⟩ | ⟨s3, a, v1, v2⟩ | ⟨_, rfl⟩
      · omega
      · dsimp only at e2; omega
      · exact ⟨v1, .inr ⟨c, hc, s3, v2⟩⟩
      · dsimp only at e2; omega))
    sta := fun k hk => hd.all (DSt.did_all (h.sta k hk) hok h8 (fun e1 e2 => by
      obtain ⟨p, hp, rfl⟩ := hop e1
      dsimp only at e2 ⊢
      rcases lstores_mem hst hs hcc.2.1 hp with ⟨_, q, hq, a, _⟩ | ⟨s2, rfl⟩ | ⟨s3, a, v1, v2⟩ | ⟨_, rfl⟩
      · omega
      · dsimp only at e2 ⊢
        exact .inr ⟨c, hc, by omega, by omega, by omega, rfl⟩
      · omega
      · exact .inl rfl))
    sta3 := fun c' hc' h3 => hd.all (DSt.did_all (h.sta3 c' hc' h3) hok h8 (fun e1 e2 => by
      have := h.one hc hc'
      subst this
      obtain ⟨p, hp, rfl⟩ := hop e1
      dsimp only at e2 h3 ⊢
      rcases lstores_mem hst hs hcc.2.1 hp with ⟨s1, q, hq, a, _⟩ | ⟨s2, rfl⟩ | ⟨s3, a, v1, v2⟩ | ⟨s4, rfl⟩
      · omega
      · omega
      · omega
      · omega))
    recd := fun c' hc' h1 h2 q v hq => hd.all (DSt.did_all (h.recd c' hc' h1 h2 q v hq) hok h8 (fun e1 e2 => by
      have := h.one hc hc'
      subst this
      have hq' := (List.getElem?_eq_some_iff.1 hq).1
      rw [ewords_length, ents_length] at hq'
      dsimp only at hq'
      have := hst.len
      obtain ⟨p, hp, rfl⟩ := hop e1
      dsimp only at e2 h1 h2 ⊢
      rcases lstores_mem hst hs hcc.2.1 hp with ⟨s1, q, hq, a, _⟩ | ⟨s2, rfl⟩ | ⟨s3, a, v1, v2⟩ | ⟨s4, rfl⟩
      · omega
      · dsimp only at e2; omega
      · omega
      · dsimp only at e2; omega))
    cur := h.cur
    mid := h.mid
    fresh := h.fresh
    old := h.old
    new := h.new
    seen := h.seen
    ld1 := h.ld1
    fin := h.fin
    tgt := h.tgt
    prog := h.prog
    run := fun i hi' c' hc' h1 h2 => by
      have := h.one hc hc'
      subst this
      exact Done.eqv hd (Done.other (h.run i hi' c' hc h1 h2) hok hsok hi)
    calm := hcal }
/-- An operation becomes the current one. -/
theorem LI.take (h : LI T od nw A N m) {i : Nat} (hi : i < N) (hc : m.cur = none) (hd : (m.op i).done = false) : LI T od nw A N { m with cur := some i } ∧ Ready T N { m with cur := some i } := by
  have hf := h.fresh i hi (by rw [hc]; simp) hd
  have no : ∀ {c : Nat}, m.cur = some c → False := fun e => by rw [hc] at e; cases e
  refine ⟨{ L := h.L, A3 := h.A3, stat := h.stat, val := ?_, sta := ?_, sta3 := ?_, recd := ?_, cur := ?_, mid := ?_, fresh := ?_, old := ?_, new := ?_, seen := ?_, ld1 := ?_, fin := h.fin, tgt := h.tgt, prog := ?_, run := ?_, calm := h.calm }, ?_, ?_⟩
  · exact fun x hx => (h.val x hx).imp (fun r hr => ⟨hr.1, hr.2.imp id (fun ⟨c, a, _⟩ => (no a).elim)⟩)
  · exact fun k hk => (h.sta k hk).imp (fun r hr => hr.imp id (fun ⟨c, a, _⟩ => (no a).elim))
  · intro c hcc h3; cases hcc; have := hf.1; dsimp only at h3; omega
  · intro c hcc h3; cases hcc; have := hf.1; dsimp only at h3; omega
  · intro c hcc; cases hcc; exact ⟨hi, by have := hf.1; dsimp only; omega, hd⟩
  · intro j hj h1 h2; exact (no (h.mid j hj h1 h2)).elim
  · intro j hj _ h2; exact h.fresh j hj (by rw [hc]; simp) h2
  · intro c hcc _ h2; cases hcc; have := hf.2; dsimp only at h2; omega
  · intro c hcc h3; cases hcc; have := hf.1; dsimp only at h3; omega
  · intro c hcc q x hq; cases hcc; have := hf.2; dsimp only at hq; omega
  · intro c hcc h1; cases hcc; have := hf.1; dsimp only at h1; omega
  · intro c hcc h1; cases hcc; have := hf.1; dsimp only at h1; omega
  · intro j hj c hcc h1 h2; cases hcc; have h3 := h.tgt j hj _ h1; have := hf.1; dsimp only at h2; omega
  · intro c hcc h1; cases hcc; have := (h.stat _ hi).len; have := hf.2; dsimp only; omega
  · intro j hj c hcc h1 h2; cases hcc; have h3 := h.tgt j hj _ h1; have := hf.1; dsimp only at h2; omega
end
end Go.Proofs.YtejlgnebofdijaaGreatDoor.Dv

namespace Go.Proofs.YtejlgnebofdijaaGreatDoor.Dv
open Go.RowKit
set_option linter.unusedVariables false

section
variable {T od nw : Nat → Nat} {A N : Nat} {m : MS}
/-- The next word of the current operation is as its entry expects. -/
theorem LI.sees (h : LI T od nw A N m) (hok : m.dev.Ok) {c x : Nat} (hc : m.cur = some c) (hs : (m.op c).stage = 0) (hl : (m.op c).loaded < 2) (hx : (m.op c).ord[(m.op c).loaded]? = some x)
    {w : Nat} (hw : w < 4611686018427387904) (hwo : w % 1099511627776 = od c) (hA : od c = A) :
    LI T od nw A N (m.set c { m.op c with seen := (m.op c).seen.set x w, loaded := (m.op c).loaded + 1 }) := by
  obtain ⟨o, ho⟩ : ∃ o : OpS, o = { m.op c with seen := (m.op c).seen.set x w, loaded := (m.op c).loaded + 1 } := ⟨_, rfl⟩
  rw [← ho]
  have kk : ∀ j, ((m.set c o).op j).k = (m.op j).k := set_key (·.k) (by rw [ho])
  have ke : ∀ j, ((m.set c o).op j).es = (m.op j).es := set_key (·.es) (by rw [ho])
  have ko : ∀ j, ((m.set c o).op j).ord = (m.op j).ord := set_key (·.ord) (by rw [ho])
  have ks : ∀ j, ((m.set c o).op j).stage = (m.op j).stage := set_key (·.stage) (by rw [ho])
  have kd : ∀ j, ((m.set c o).op j).done = (m.op j).done := set_key (·.done) (by rw [ho])
  have kc : ∀ j, ((m.set c o).op j).changed = (m.op j).changed := set_key (·.changed) (by rw [ho])
  have kt : ∀ j, ((m.set c o).op j).tgt = (m.op j).tgt := set_key (·.tgt) (by rw [ho])
  have ki : ∀ j, ((m.set c o).op j).inn = (m.op j).inn := set_key (·.inn) (by rw [ho])
  have ksl : ∀ j, ((m.set c o).op j).seen.length = (m.op j).seen.length := set_key (·.seen.length) (by rw [ho]; simp)
  have hcN := (h.cur c hc).1
  have hst := h.stat c hcN
  have hx2 : x < 2 := hst.ordv x (List.mem_of_getElem? hx)
  have hsl := hst.sl
  have only : ∀ {c'}, (m.set c o).cur = some c' → c' = c := fun hc' => h.one hc hc'
  exact {
    L := h.L
    A3 := h.A3
    stat := fun i hi => (h.stat i hi).of_same (kk i) (ke i) (ko i) (ksl i)
    val := fun x hx => (h.val x hx).imp (fun r hr => ⟨hr.1, hr.2.imp id (fun ⟨c', a, b, d⟩ => ⟨c', a, by rw [ks]; exact b, d⟩)⟩)
    sta := fun k hk => (h.sta k hk).imp (fun r hr => by
      rcases hr with hr | ⟨c', a, b, d, e, f⟩
      · exact .inl hr
      · have := h.one hc a; subst this; omega)
    sta3 := fun c' hc' h3 => by
      have := only hc'; subst this; rw [ks] at h3; omega
    recd := fun c' hc' h3 => by
      have := only hc'; subst this; rw [ks] at h3; omega
    cur := fun c' hc' => by rw [ks, kd]; exact h.cur c' hc'
    mid := fun i hi h1 h2 => by rw [ks] at h1 h2; exact h.mid i hi h1 h2
    fresh := fun i hi h1 h2 => by
      have hne : i ≠ c := fun e => h1 (by rw [e]; exact hc)
      rw [set_ne m o hne] at h2 ⊢
      exact h.fresh i hi h1 h2
    old := fun c' hc' _ _ => by have := only hc'; subst this; exact hA
    new := fun c' hc' h3 => by have := only hc'; subst this; rw [ks] at h3; omega
    seen := fun c' hc' q x' h1 h2 => by
      have := only hc'; subst this
      rw [ko] at h2
      rw [set_same, ho] at h1 ⊢
      dsimp only at h1 ⊢
      by_cases e : x' = x
      · subst e
        rw [List.getD_eq_getElem?_getD, List.getElem?_set, if_pos rfl, if_pos (by omega)]
        exact ⟨hw, hwo⟩
      · rw [List.getD_eq_getElem?_getD, List.getElem?_set, if_neg (Ne.symm e), ← List.getD_eq_getElem?_getD]
        rcases Nat.lt_or_ge q (m.op c').loaded with hq | hq
        · exact h.seen c' hc q x' hq h2
        · have hq2 : q = (m.op c').loaded := by omega
          rw [hq2, hx] at h2
          cases h2
          exact absurd rfl e
    ld1 := fun c' hc' h3 => by have := only hc'; subst this; rw [ks] at h3; omega
    fin := fun i hi h1 => by rw [kd] at h1; rw [kc, ks]; exact h.fin i hi h1
    tgt := fun i hi c' h1 => by rw [kt] at h1; rw [ki, ks]; exact h.tgt i hi c' h1
    prog := fun c' hc' h3 => by have := only hc'; subst this; rw [ks] at h3; omega
    run := fun i hi c' hc' h1 h2 => by
      have := only hc'; subst this
      rw [kt] at h1; rw [ki, ks] at h2
      have := h.tgt i hi _ h1
      omega
    calm := h.calm }
/-- The current operation finds another word. -/
theorem LI.fails (h : LI T od nw A N m) {c : Nat} (hc : m.cur = some c) (hs : (m.op c).stage = 0) : LI T od nw A N (m.finish c false) := by
  obtain ⟨o, ho⟩ : ∃ o : OpS, o = { m.op c with done := true, changed := false } := ⟨_, rfl⟩
  have hfin : m.finish c false = { m.set c o with cur := none } := by rw [ho]; rfl
  rw [hfin]
  have kk : ∀ j, ((m.set c o).op j).k = (m.op j).k := set_key (·.k) (by rw [ho])
  have ke : ∀ j, ((m.set c o).op j).es = (m.op j).es := set_key (·.es) (by rw [ho])
  have ko : ∀ j, ((m.set c o).op j).ord = (m.op j).ord := set_key (·.ord) (by rw [ho])
  have ks : ∀ j, ((m.set c o).op j).stage = (m.op j).stage := set_key (·.stage) (by rw [ho])
  have kt : ∀ j, ((m.set c o).op j).tgt = (m.op j).tgt := set_key (·.tgt) (by rw [ho])
  have ki : ∀ j, ((m.set c o).op j).inn = (m.op j).inn := set_key (·.inn) (by rw [ho])
  have ksl : ∀ j, ((m.set c o).op j).seen.length = (m.op j).seen.length := set_key (·.seen.length) (by rw [ho])
  exact {
    L := h.L
    A3 := h.A3
    stat := fun i hi => (h.stat i hi).of_same (kk i) (ke i) (ko i) (ksl i)
    val := fun x hx => (h.val x hx).imp (fun r hr => ⟨hr.1, .inl (by
      rcases hr.2 with hr | ⟨c', a, b, _⟩
      · exact hr
      · have := h.one hc a; subst this; omega)⟩)
    sta := fun k hk => (h.sta k hk).imp (fun r hr => by
      rcases hr with hr | ⟨c', a, b, d, _⟩
      · exact .inl hr
      · have := h.one hc a; subst this; omega)
    sta3 := fun c' hc' => by cases hc'
    recd := fun c' hc' => by cases hc'
    cur := fun c' hc' => by cases hc'
    mid := fun i hi h1 h2 => by
      dsimp only at h1 h2
      rw [ks] at h1 h2
      have := h.mid i hi h1 h2
      rw [hc] at this; cases this; omega
    fresh := fun i hi _ h2 => by
      dsimp only at h2 ⊢
      have hne : i ≠ c := by
        intro e
        subst e
        rw [set_same, ho] at h2
        cases h2
      rw [set_ne m o hne] at h2 ⊢
      exact h.fresh i hi (by rw [hc]; intro e; cases e; exact hne rfl) h2
    old := fun c' hc' => by cases hc'
    new := fun c' hc' => by cases hc'
    seen := fun c' hc' => by cases hc'
    ld1 := fun c' hc' => by cases hc'
    fin := fun i hi h1 => by
      dsimp only at h1 ⊢
      by_cases e : i = c
      · subst e
        rw [set_same, ho]
        exact ⟨fun e => (by cases e), fun _ => hs⟩
      · rw [set_ne m o e] at h1 ⊢
        exact h.fin i hi h1
    tgt := fun i hi c' h1 => by dsimp only at h1 ⊢; rw [kt] at h1; rw [ki, ks]; exact h.tgt i hi c' h1
    prog := fun c' hc' => by cases hc'
    run := fun i hi c' hc' => by cases hc'
    calm := h.calm }
/-- The current operation goes on to stage s; at stage 4 it has taken effect. -/
theorem LI.enter (h : LI T od nw A N m) {c s : Nat} (hc : m.cur = some c) (hs : (m.op c).stage + 1 = s) (hs4 : s ≤ 4)
    (h1 : s = 1 → (m.op c).loaded = 2) (hall : 2 ≤ s → ∀ p ∈ (m.op c).stores T (m.op c).stage, m.dev.All (p.1 / 8) (fun v => v = p.2)) :
    LI T od nw (if s = 4 then nw c else A) N (m.enter T c s) ∧ Ready T N (m.enter T c s) := by
  obtain ⟨o, ho⟩ : ∃ o : OpS, o = { m.op c with stage := s, prog := Dv.prog ((m.op c).stores T s) } := ⟨_, rfl⟩
  have hen : m.enter T c s = m.set c o := by rw [ho]; unfold MS.enter; rw [if_pos hs4]
  rw [hen]
  have kk : ∀ j, ((m.set c o).op j).k = (m.op j).k := set_key (·.k) (by rw [ho])
  have ke : ∀ j, ((m.set c o).op j).es = (m.op j).es := set_key (·.es) (by rw [ho])
  have ko : ∀ j, ((m.set c o).op j).ord = (m.op j).ord := set_key (·.ord) (by rw [ho])
  have ksn : ∀ j, ((m.set c o).op j).seen = (m.op j).seen := set_key (·.seen) (by rw [ho])
  have kl : ∀ j, ((m.set c o).op j).loaded = (m.op j).loaded := set_key (·.loaded) (by rw [ho])
  have kd : ∀ j, ((m.set c o).op j).done = (m.op j).done := set_key (·.done) (by rw [ho])
  have kc : ∀ j, ((m.set c o).op j).changed = (m.op j).changed := set_key (·.changed) (by rw [ho])
  have kt : ∀ j, ((m.set c o).op j).tgt = (m.op j).tgt := set_key (·.tgt) (by rw [ho])
  have ki : ∀ j, ((m.set c o).op j).inn = (m.op j).inn := set_key (·.inn) (by rw [ho])
  have kst : ∀ j, ((m.set c o).op j).status T = (m.op j).status T := fun j => status_same (ke j) (ksn j)
  have ken : ∀ j, ((m.set c o).op j).ents = (m.op j).ents := fun j => ents_same (ke j) (ksn j)
  have kso : ∀ j z, ((m.set c o).op j).stores T z = (m.op j).stores T z := fun j z => stores_same (kk j) (ke j) (ksn j) z
  have kcc : ((m.set c o).op c).stage = s := by rw [set_same, ho]
  have kne : ∀ j, j ≠ c → ((m.set c o).op j).stage = (m.op j).stage := fun j hj => by rw [set_ne m o hj]
  have kge : ∀ j, (m.op j).stage ≤ ((m.set c o).op j).stage := by
    intro j
    by_cases e : j = c
    · rw [e, kcc]; omega
    · rw [kne j e]; exact Nat.le_refl _
  have only : ∀ {c'}, (m.set c o).cur = some c' → c' = c := fun hc' => h.one hc hc'
  have hcN := (h.cur c hc).1
  have hst := h.stat c hcN
  refine ⟨{ L := h.L, A3 := ?_, stat := fun i hi => (h.stat i hi).of_same (kk i) (ke i) (ko i) (by rw [ksn]), val := ?_, sta := ?_, sta3 := ?_, recd := ?_, cur := ?_, mid := ?_, fresh := ?_, old := ?_, new := ?_, seen := ?_, ld1 := ?_, fin := ?_, tgt := ?_, prog := ?_, run := ?_, calm := h.calm }, ?_, ?_⟩
  · split
    · exact hst.lt.2
    · exact h.A3
  · intro x hx
    by_cases e4 : s = 4
    · rw [if_pos e4]
      have hst3 : (m.op c).stores T (m.op c).stage = Dv.ewr (m.op c).ents := by
        have : (m.op c).stage = 3 := by omega
        rw [this]; rfl
      obtain ⟨y, z, a1, a2, a3, a4, a5⟩ := hst.ewr
      rw [hst3, a5] at hall
      have q1 := hall (by omega) (6400, y) (by simp)
      have q2 := hall (by omega) (6528, z) (by simp)
      dsimp only at q1 q2
      rcases hx with rfl | rfl
      · exact q1.imp (fun v hv => ⟨by rw [hv]; exact a1, .inl (by rw [hv]; exact a3)⟩)
      · exact q2.imp (fun v hv => ⟨by rw [hv]; exact a2, .inl (by rw [hv]; exact a4)⟩)
    · rw [if_neg e4]
      refine (h.val x hx).imp (fun r hr => ⟨hr.1, .inl ?_⟩)
      rcases hr.2 with hr | ⟨c', a, b, _⟩
      · exact hr
      · have := h.one hc a; subst this; clear hr; omega
  · intro k hk8
    refine (h.sta k hk8).imp (fun r hr => ?_)
    rcases hr with hr | ⟨c', a1, a0, a2, a3, a4⟩
    · exact .inl hr
    · have := h.one hc a1; subst this
      exact .inr ⟨c', hc, by rw [kk]; exact a0, by rw [kcc]; omega, by rw [kcc]; exact hs4, by rw [kst]; exact a4⟩
  · intro c' hc' h3
    cases only hc'
    rw [kcc] at h3
    subst h3
    rw [kst, kk]
    have hst2 : (m.op c).stores T (m.op c).stage = [(256 * (m.op c).k, (m.op c).status T)] := by
      have : (m.op c).stage = 2 := by omega
      rw [this]; rfl
    have ha := hall (by omega) (256 * (m.op c).k, (m.op c).status T) (by rw [hst2]; simp)
    dsimp only at ha
    have hw : 256 * (m.op c).k / 8 = 32 * (m.op c).k := by omega
    rw [hw] at ha
    exact ha
  · intro c' hc' h2 h4 q v hq
    cases only hc'
    rw [kcc] at h2 h4
    rw [ken] at hq
    rw [kk]
    by_cases e2 : s = 2
    · have hst1 : (m.op c).stores T (m.op c).stage = (m.op c).recw := by
        have : (m.op c).stage = 1 := by omega
        rw [this]; rfl
      have hq' := (List.getElem?_eq_some_iff.1 hq).1
      have ha := hall h2 (256 * (m.op c).k + 64 + 8 * q, v) (by
        rw [hst1]
        unfold OpS.recw
        refine List.mem_map.2 ⟨q, by simpa using hq', ?_⟩
        rw [List.getD_eq_getElem?_getD, hq]
        rfl)
      dsimp only at ha
      have hw : (256 * (m.op c).k + 64 + 8 * q) / 8 = 32 * (m.op c).k + 8 + q := by omega
      rw [hw] at ha
      exact ha
    · exact h.recd c hc (by omega) (by omega) q v hq
  · intro c' hc'
    cases only hc'
    rw [kcc, kd]
    exact ⟨hcN, hs4, (h.cur c hc).2.2⟩
  · intro i hi a b
    by_cases e : i = c
    · rw [e]; exact hc
    · rw [kne i e] at a b
      exact h.mid i hi a b
  · intro i hi a b
    have hne : i ≠ c := fun e => a (by rw [e]; exact hc)
    rw [set_ne m o hne] at b ⊢
    exact h.fresh i hi a b
  · intro c' hc' a b
    cases only hc'
    rw [kcc] at a
    rw [kl] at b
    rw [if_neg (by omega)]
    exact h.old c hc (by omega) b
  · intro c' hc' a
    cases only hc'
    rw [kcc] at a
    rw [if_pos a]
  · intro c' hc' q x a b
    cases only hc'
    rw [kl] at a
    rw [ko] at b
    rw [ksn]
    exact h.seen c hc q x a b
  · intro c' hc' _
    cases only hc'
    rw [kl]
    by_cases e1 : s = 1
    · exact h1 e1
    · exact h.ld1 c hc (by omega)
  · intro i hi a
    rw [kd] at a
    have hne : i ≠ c := fun e => by rw [e, (h.cur c hc).2.2] at a; cases a
    rw [kc, kne i hne]
    exact h.fin i hi a
  · intro i hi c' a
    rw [kt] at a
    rw [ki]
    have := h.tgt i hi c' a
    exact ⟨this.1, Nat.le_trans this.2 (kge c')⟩
  · intro c' hc' _
    cases only hc'
    rw [kso, kcc, set_same, ho]
  · intro i hi c' hc' a b
    cases only hc'
    rw [kt] at a
    rw [ki, kcc] at b
    have := h.tgt i hi c a
    omega
  · intro c' hc' a
    cases only hc'
    rw [kcc] at a
    omega
  · intro i hi c' hc' a b
    cases only hc'
    rw [kt] at a
    rw [ki, kcc] at b
    have := h.tgt i hi c a
    omega
/-- The current operation has cleared its descriptor. -/
theorem LI.over (h : LI T od nw A N m) {c : Nat} (hc : m.cur = some c) (hs : (m.op c).stage = 4)
    (hall : ∀ p ∈ (m.op c).stores T (m.op c).stage, m.dev.All (p.1 / 8) (fun v => v = p.2)) : LI T od nw A N (m.enter T c 5) ∧ Ready T N (m.enter T c 5) := by
  obtain ⟨o, ho⟩ : ∃ o : OpS, o = { m.op c with stage := 5, done := true, changed := true } := ⟨_, rfl⟩
  have hen : m.enter T c 5 = { m.set c o with cur := none } := by
    rw [ho]
    unfold MS.enter
    rw [if_neg (by omega)]
    unfold MS.finish
    rw [set_same]
    unfold MS.set
    dsimp only
    congr 1
    funext j
    unfold upd
    split <;> rfl
  rw [hen]
  have kk : ∀ j, ((m.set c o).op j).k = (m.op j).k := set_key (·.k) (by rw [ho])
  have ke : ∀ j, ((m.set c o).op j).es = (m.op j).es := set_key (·.es) (by rw [ho])
  have ko : ∀ j, ((m.set c o).op j).ord = (m.op j).ord := set_key (·.ord) (by rw [ho])
  have kt : ∀ j, ((m.set c o).op j).tgt = (m.op j).tgt := set_key (·.tgt) (by rw [ho])
  have ki : ∀ j, ((m.set c o).op j).inn = (m.op j).inn := set_key (·.inn) (by rw [ho])
  have ksl : ∀ j, ((m.set c o).op j).seen.length = (m.op j).seen.length := set_key (·.seen.length) (by rw [ho])
  have kcc : ((m.set c o).op c).stage = 5 := by rw [set_same, ho]
  have kne : ∀ j, j ≠ c → ((m.set c o).op j).stage = (m.op j).stage := fun j hj => by rw [set_ne m o hj]
  have kge : ∀ j, (m.op j).stage ≤ ((m.set c o).op j).stage := by
    intro j
    by_cases e : j = c
    · rw [e, kcc]; omega
    · rw [kne j e]; exact Nat.le_refl _
  have hcN := (h.cur c hc).1
  refine ⟨{ L := h.L, A3 := h.A3, stat := fun i hi => (h.stat i hi).of_same (kk i) (ke i) (ko i) (ksl i), val := ?_, sta := ?_, sta3 := fun c' hc' => (by cases hc'), recd := fun c' hc' => (by cases hc'), cur := fun c' hc' => (by cases hc'), mid := ?_, fresh := ?_, old := fun c' hc' => (by cases hc'), new := fun c' hc' => (by cases hc'), seen := fun c' hc' => (by cases hc'), ld1 := fun c' hc' => (by cases hc'), fin := ?_, tgt := ?_, prog := fun c' hc' => (by cases hc'), run := fun i hi c' hc' => (by cases hc'), calm := h.calm }, Ready.none rfl⟩
  · intro x hx
    refine (h.val x hx).imp (fun r hr => ⟨hr.1, .inl ?_⟩)
    rcases hr.2 with hr | ⟨c', a, b, _⟩
    · exact hr
    · have := h.one hc a; subst this; clear hr; omega
  · intro k hk8
    by_cases e : k = (m.op c).k
    · subst e
      have hst : (m.op c).stores T (m.op c).stage = [(256 * (m.op c).k, unusedW)] := by rw [hs]; rfl
      have ha := hall (256 * (m.op c).k, unusedW) (by rw [hst]; simp)
      dsimp only at ha
      have hw : 256 * (m.op c).k / 8 = 32 * (m.op c).k := by omega
      rw [hw] at ha
      exact ha.imp (fun v hv => .inl hv)
    · refine (h.sta k hk8).imp (fun r hr => ?_)
      rcases hr with hr | ⟨c', a1, a2, _⟩
      · exact .inl hr
      · have := h.one hc a1; subst this; exact absurd a2.symm e
  · intro i hi a b
    dsimp only at a b
    by_cases e : i = c
    · rw [e, kcc] at b; omega
    · rw [kne i e] at a b
      have := h.mid i hi a b
      rw [hc] at this; cases this; exact absurd rfl e
  · intro i hi _ b
    dsimp only at b ⊢
    have hne : i ≠ c := by
      intro e
      subst e
      rw [set_same, ho] at b
      cases b
    rw [set_ne m o hne] at b ⊢
    exact h.fresh i hi (by rw [hc]; intro e; cases e; exact hne rfl) b
  · intro i hi a
    dsimp only at a ⊢
    by_cases e : i = c
    · subst e
      rw [set_same, ho]
      exact ⟨fun _ => rfl, fun e => (by cases e)⟩
    · rw [set_ne m o e] at a ⊢
      exact h.fin i hi a
  · intro i hi c' a
    dsimp only at a ⊢
    rw [kt] at a
    rw [ki]
    have := h.tgt i hi c' a
    exact ⟨this.1, Nat.le_trans this.2 (kge c')⟩
end
end Go.Proofs.YtejlgnebofdijaaGreatDoor.Dv

namespace Go.Proofs.YtejlgnebofdijaaGreatDoor.Dv
open Go.RowKit
set_option linter.unusedVariables false

/-- At most operation c takes effect. -/
def Eff (od nw : Nat → Nat) (c A A' : Nat) (m m' : MS) : Prop :=
  (A' = A ∧ ∀ j, (4 ≤ (m'.op j).stage ↔ 4 ≤ (m.op j).stage)) ∨
  (A = od c ∧ A' = nw c ∧ (m.op c).stage = 3 ∧ (m'.op c).stage = 4 ∧ ∀ j, j ≠ c → (m'.op j).stage = (m.op j).stage)
theorem Eff.same {od nw : Nat → Nat} {c A : Nat} {m m' : MS} (h : ∀ j, (m'.op j).stage = (m.op j).stage) : Eff od nw c A A m m' := .inl ⟨rfl, fun j => by rw [h j]⟩
theorem calm_exec {s : DSt} (h : ∀ t, Calm s t) {t : Nat} {x : Ins} (hx : x.Fit s.L) : (∀ u, Calm (s.exec t x) u) ∧ Eqv (s.exec t x) (s.did t x) := by
  obtain ⟨a, b, _⟩ := exec_calm (h t) hx
  refine ⟨fun u => ⟨a.off, a.armed, ?_⟩, b⟩
  have hc := cnt_calm (h t)
  have : (s.exec t x).err u = s.err u := by
    unfold DSt.exec
    by_cases e1 : x.op = 1
    · rw [if_pos e1]
      have hw : s.word x.off = true := by unfold DSt.word; simp; exact hx.1 e1
      unfold DSt.store
      rw [hw, hc]
      rfl
    · rw [if_neg e1]
      by_cases e2 : x.op = 2
      · rw [if_pos e2]
        unfold DSt.flush
        rw [decide_eq_true (hx.2 e2), hc]
        rfl
      · rw [if_neg e2]
        unfold DSt.fence
        rw [hc]
        rfl
  rw [this]
  exact (h u).err

section
variable {T od nw : Nat → Nat} {A N : Nat} {m : MS}
/-- The words of the current operation, which is loading. -/
theorem LI.word (h : LI T od nw A N m) (hok : m.dev.Ok) {c : Nat} (hc : m.cur = some c) (hs : (m.op c).stage = 0) {e : Nat × Nat × Nat} (he : e ∈ (m.op c).es) : e.2.1 = od c ∧ m.dev.cur (e.1 / 8) < 4611686018427387904 ∧ m.dev.cur (e.1 / 8) % 1099511627776 = A := by
  have hst := h.stat c (h.cur c hc).1
  rw [hst.es] at he
  have key : ∀ x, x = 800 ∨ x = 816 → m.dev.cur x < 4611686018427387904 ∧ m.dev.cur x % 1099511627776 = A := fun x hx => by
    have hv := DSt.All.cur (h.val x hx) hok
    refine ⟨hv.1, ?_⟩
    rcases hv.2 with hr | ⟨c', a, b, _⟩
    · exact hr
    · have := h.one hc a; subst this; omega
  unfold es2 at he
  simp only [List.mem_cons, List.not_mem_nil, or_false] at he
  rcases he with rfl | rfl
  · refine ⟨rfl, ?_⟩
    show m.dev.cur (6400 / 8) < _ ∧ m.dev.cur (6400 / 8) % _ = A
    rw [show 6400 / 8 = 800 by omega]
    exact key 800 (.inl rfl)
  · refine ⟨rfl, ?_⟩
    show m.dev.cur (6528 / 8) < _ ∧ m.dev.cur (6528 / 8) % _ = A
    rw [show 6528 / 8 = 816 by omega]
    exact key 816 (.inr rfl)

theorem LI.load (h : LI T od nw A N m) (hr : Ready T N m) (hok : m.dev.Ok) {c t : Nat} (hc : m.cur = some c) (hs : (m.op c).stage = 0) :
    LI T od nw A N (m.load T c t) ∧ Ready T N (m.load T c t) ∧ Eff od nw c A A m (m.load T c t) := by
  have hcN := (h.cur c hc).1
  have hst := h.stat c hcN
  have hlen := hst.len
  have hlt := hr.ld c hc hs
  obtain ⟨x, hx⟩ : ∃ x, x = (m.op c).ord.getD (m.op c).loaded 0 := ⟨_, rfl⟩
  have hgo : (m.op c).ord[(m.op c).loaded]? = some x := by
    have : (m.op c).loaded < (m.op c).ord.length := by rw [hst.ordl, ← hlen]; exact hlt
    rw [hx, List.getD_eq_getElem?_getD, List.getElem?_eq_getElem this]; rfl
  have hxl : x < (m.op c).es.length := by rw [hlen]; exact hst.ordv x (List.mem_of_getElem? hgo)
  obtain ⟨e, he⟩ : ∃ e, e = (m.op c).es.getD x (0, 0, 0) := ⟨_, rfl⟩
  have hge : (m.op c).es[x]? = some e := by rw [he, List.getD_eq_getElem?_getD, List.getElem?_eq_getElem hxl]; rfl
  have hem : e ∈ (m.op c).es := List.mem_of_getElem? hge
  obtain ⟨w1, w2, w3⟩ := h.word hok hc hs hem
  have hon : m.dev.on t true = m.dev := by unfold DSt.on; rw [(h.calm t).off]; rfl
  have hend : m.load T c t = if m.dev.cur (e.1 / 8) % 1099511627776 = e.2.1 then
      (if (m.op c).loaded + 1 = (m.op c).ord.length then (m.set c { m.op c with seen := (m.op c).seen.set x (m.dev.cur (e.1 / 8)), loaded := (m.op c).loaded + 1 }).enter T c 1
        else m.set c { m.op c with seen := (m.op c).seen.set x (m.dev.cur (e.1 / 8)), loaded := (m.op c).loaded + 1 })
      else m.finish c false := by
    have h1 : m.load T c t = if (m.dev.on t true).err t ≠ 0 then { m with dev := m.dev.on t true } else if m.dev.cur (e.1 / 8) % 1099511627776 = e.2.1 then
      (if (m.op c).loaded + 1 = (m.op c).ord.length then (MS.set { m with dev := m.dev.on t true } c { m.op c with seen := (m.op c).seen.set x (m.dev.cur (e.1 / 8)), loaded := (m.op c).loaded + 1 }).enter T c 1
        else MS.set { m with dev := m.dev.on t true } c { m.op c with seen := (m.op c).seen.set x (m.dev.cur (e.1 / 8)), loaded := (m.op c).loaded + 1 })
      else MS.finish { m with dev := m.dev.on t true } c false := by rw [he, hx]; rfl
    rw [h1, hon, if_neg (fun hh => hh (h.calm t).err)]
  rw [hend, w1, w3]
  split
  · rename_i hv
    have h2 := h.sees hok hc hs (by rw [← hlen]; exact hlt) hgo w2 (by rw [w3]; exact hv) hv.symm
    obtain ⟨o, ho⟩ : ∃ o : OpS, o = { m.op c with seen := (m.op c).seen.set x (m.dev.cur (e.1 / 8)), loaded := (m.op c).loaded + 1 } := ⟨_, rfl⟩
    rw [← ho] at h2 ⊢
    have hc2 : (m.set c o).cur = some c := hc
    have hs2 : ((m.set c o).op c).stage = 0 := by rw [set_same, ho]; exact hs
    have hl2 : ((m.set c o).op c).loaded = (m.op c).loaded + 1 := by rw [set_same, ho]
    have he2 : ((m.set c o).op c).es = (m.op c).es := by rw [set_same, ho]
    have kst : ∀ j, ((m.set c o).op j).stage = (m.op j).stage := set_key (·.stage) (by rw [ho])
    split
    · rename_i hl
      have h3 := h2.enter hc2 (by rw [hs2]) (by omega) (fun _ => by rw [hl2, hl, hst.ordl]) (fun h => by omega)
      rw [if_neg (by omega)] at h3
      refine ⟨h3.1, h3.2, .inl ⟨rfl, fun j => ?_⟩⟩
      unfold MS.enter
      rw [if_pos (by omega)]
      by_cases e : j = c
      · subst e
        rw [set_same]
        dsimp only
        omega
      · rw [set_ne _ _ e, kst]
    · rename_i hl
      refine ⟨h2, ⟨?_, ?_⟩, Eff.same kst⟩
      · intro c' hc' _
        have := h.one hc hc'
        subst this
        rw [hl2, he2]
        rw [hst.ordl] at hl
        omega
      · intro i hi c' hc' a b
        have := h.one hc hc'
        subst this
        have := h2.tgt i hi _ a
        omega
  · rename_i hv
    refine ⟨h.fails hc hs, Ready.none rfl, Eff.same (fun j => ?_)⟩
    have := set_key (m := m) (i := c) (o := { m.op c with done := true, changed := false }) (·.stage) rfl j
    exact this

theorem LI.advance (h : LI T od nw A N m) (hr : Ready T N m) (hok : m.dev.Ok) {i c : Nat} (hi : i < N) (hc : m.cur = some c) :
    ∃ A', LI T od nw A' N (m.advance T i c) ∧ Ready T N (m.advance T i c) ∧ Eff od nw c A A' m (m.advance T i c) := by
  by_cases hs0 : (m.op c).stage = 0
  · unfold MS.advance
    rw [if_pos hs0]
    exact ⟨A, h.load hr hok hc hs0⟩
  · rw [advance_eq T m i c hs0]
    obtain ⟨s, hs⟩ : ∃ s, s = (m.op c).stage := ⟨_, rfl⟩
    rw [← hs]
    have hs1 : 1 ≤ (m.op c).stage := by omega
    have hcc := h.cur c hc
    obtain ⟨m1, hm1⟩ : ∃ m1 : MS, m1 = m.aim i c := ⟨_, rfl⟩
    rw [← hm1]
    -- the place
    have hp : LI T od nw A N m1 ∧ m1.dev = m.dev ∧ m1.cur = m.cur ∧ (∀ j, (m1.op j).stage = (m.op j).stage) ∧ (m1.op c).stage = s ∧ (m1.op i).tgt = some c ∧ (m1.op i).inn = s ∧
        Ready T N m1 := by
      rw [hm1]
      unfold MS.aim
      rw [← hs]
      split
      · rename_i hcond
        exact ⟨h, rfl, rfl, fun _ => rfl, hs.symm, hcond.1, hcond.2, hr⟩
      · have hI := h.place (i := i) hc hs1 (Done.zero _ _ _)
        rw [← hs] at hI
        obtain ⟨o, ho⟩ : ∃ o : OpS, o = { m.op i with tgt := some c, inn := s, next := 0 } := ⟨_, rfl⟩
        rw [← ho] at hI ⊢
        have ks : ∀ j, ((m.set i o).op j).stage = (m.op j).stage := set_key (·.stage) (by rw [ho])
        have kl : ∀ j, ((m.set i o).op j).loaded = (m.op j).loaded := set_key (·.loaded) (by rw [ho])
        have ke : ∀ j, ((m.set i o).op j).es = (m.op j).es := set_key (·.es) (by rw [ho])
        have kk : ∀ j, ((m.set i o).op j).k = (m.op j).k := set_key (·.k) (by rw [ho])
        have ksn : ∀ j, ((m.set i o).op j).seen = (m.op j).seen := set_key (·.seen) (by rw [ho])
        refine ⟨hI, rfl, rfl, ks, by rw [ks, hs], by rw [set_same, ho], by rw [set_same, ho], ?_, ?_⟩
        · intro c' hc' a
          rw [ks] at a
          rw [kl, ke]
          exact hr.ld c' hc' a
        · intro j hj c' hc' a b
          rw [stores_same (kk c') (ke c') (ksn c'), ks]
          rw [ks] at b
          by_cases e : j = i
          · subst e
            rw [set_same, ho]
            rw [prog_length]
            dsimp only
            omega
          · rw [set_ne m o e] at a b ⊢
            exact hr.nx j hj c' hc' a b
    obtain ⟨hI1, hd1, hcu1, kst1, hs1', ht1, hin1, hr1⟩ := hp
    clear hm1 hr
    have hc1 : m1.cur = some c := by rw [hcu1]; exact hc
    have hnx := hr1.nx i hi c hc1 ht1 (by rw [hin1, hs1'])
    have hpr := hI1.prog c hc1 (by omega)
    have hrun := hI1.run i hi c hc1 ht1 (by rw [hin1, hs1'])
    have hst1 := hI1.stat c hcc.1
    have hok1 : m1.dev.Ok := by rw [hd1]; exact hok
    have hs4 : s ≤ 4 := by have := (hI1.cur c hc1).2.1; omega
    rw [hs1'] at hnx hpr hrun
    have hsok := lstores_ok (T := T) hst1 (show 1 ≤ s by omega) hs4
    obtain ⟨ins, hins⟩ : ∃ ins, ins = (m1.op c).prog.getD (m1.op i).next ⟨3, 0, 0⟩ := ⟨_, rfl⟩
    have hget : (Dv.prog ((m1.op c).stores T s))[(m1.op i).next]? = some ins := by
      rw [hins, hpr, List.getD_eq_getElem?_getD, List.getElem?_eq_getElem hnx]; rfl
    have himem := List.mem_of_getElem? hget
    obtain ⟨m2, hm2⟩ : ∃ m2 : MS, m2 = { m1 with dev := m1.dev.exec (m1.op i).t ins } := ⟨_, rfl⟩
    have hdid : m1.did i c = m2 := by rw [hm2, hins]; rfl
    rw [hdid]
    unfold MS.went
    have hop2 : m2.op = m1.op := by rw [hm2]
    have hc2 : m2.cur = some c := by rw [hm2]; exact hc1
    have hLL := hI1.L
    have hk24 := hst1.k
    have hfit : ins.Fit m1.dev.L := by
      refine prog_fit (l := (m1.op c).stores T s) (fun p hp => ⟨hsok.al p hp, ?_⟩) ins himem
      rw [hLL]
      rcases lstores_mem hst1 (by omega) hs4 hp with ⟨_, q, hq, a, _⟩ | ⟨_, rfl⟩ | ⟨s3, a, v1, v2⟩ | ⟨_, rfl⟩
      · omega
      · dsimp only; omega
      · omega
      · dsimp only; omega
    obtain ⟨hcal2, b⟩ := calm_exec hI1.calm (t := (m1.op i).t) hfit
    have hd2 : m2.dev = m1.dev.exec (m1.op i).t ins := by rw [hm2]
    rw [← hd2] at b hcal2
    rw [if_neg (by rw [hop2]; exact fun hh => hh (hcal2 _).err)]
    have hI2 : LI T od nw A N m2 := by
      have := hI1.exec hok1 hc1 (by omega) (by rw [hs1']; exact himem) b hcal2
      have hm2' : m2 = { m1 with dev := m2.dev } := by rw [hm2]
      rw [hm2']
      exact this
    have hdn := Done.eqv b (hrun.next hok1 hsok hget)
    rw [← hop2] at hdn
    have hs2 : (m2.op c).stage = s := by rw [hop2]; exact hs1'
    have hI3 := hI2.place (i := i) (nx := (m2.op i).next + 1) hc2 (by omega) (by rw [hs2]; exact hdn)
    have hsame : ({ m2.op i with tgt := some c, inn := (m2.op c).stage, next := (m2.op i).next + 1 } : OpS) = { m2.op i with next := (m2.op i).next + 1 } := by
      have e1 : (m2.op i).tgt = some c := by rw [hop2]; exact ht1
      have e2 : (m2.op i).inn = (m2.op c).stage := by rw [hop2, hin1, hs1']
      rw [← e1, ← e2]
    rw [hsame] at hI3
    obtain ⟨o, ho⟩ : ∃ o : OpS, o = { m2.op i with next := (m2.op i).next + 1 } := ⟨_, rfl⟩
    rw [← ho] at hI3 ⊢
    have ks : ∀ j, ((m2.set i o).op j).stage = (m2.op j).stage := set_key (·.stage) (by rw [ho])
    have kl : ∀ j, ((m2.set i o).op j).loaded = (m2.op j).loaded := set_key (·.loaded) (by rw [ho])
    have ke : ∀ j, ((m2.set i o).op j).es = (m2.op j).es := set_key (·.es) (by rw [ho])
    have kk : ∀ j, ((m2.set i o).op j).k = (m2.op j).k := set_key (·.k) (by rw [ho])
    have ksn : ∀ j, ((m2.set i o).op j).seen = (m2.op j).seen := set_key (·.seen) (by rw [ho])
    have kp : ∀ j, ((m2.set i o).op j).prog = (m2.op j).prog := set_key (·.prog) (by rw [ho])
    have kso : ∀ j z, ((m2.set i o).op j).stores T z = (m2.op j).stores T z := fun j z => stores_same (kk j) (ke j) (ksn j) z
    have kfin : ∀ j, ((m2.set i o).op j).stage = (m.op j).stage := fun j => by rw [ks, hop2]; exact kst1 j
    have hc3 : (m2.set i o).cur = some c := hc2
    have hs3 : ((m2.set i o).op c).stage = s := by rw [ks]; exact hs2
    have hnxt : ((m2.set i o).op i).next = (m1.op i).next + 1 := by rw [set_same, ho, hop2]
    have hlen : ((m2.set i o).op c).prog.length = (Dv.prog ((m1.op c).stores T s)).length := by rw [kp, hop2, hpr]
    rw [hnxt, hlen]
    split
    · rename_i hlast
      have hfin := hrun.last hget hlast
      have hall : ∀ p ∈ ((m2.set i o).op c).stores T ((m2.set i o).op c).stage, (m2.set i o).dev.All (p.1 / 8) (fun v => v = p.2) := by
        intro p hp
        rw [kso, hs3, hop2] at hp
        exact b.all (hfin.2 p hp)
      by_cases e4 : s = 4
      · rw [e4]
        have h5 := hI3.over hc3 (by rw [hs3, e4]) hall
        refine ⟨A, h5.1, h5.2, .inl ⟨rfl, fun j => ?_⟩⟩
        have hst5 : ((m2.set i o).enter T c 5).op j = if j = c then { ({ (m2.set i o).op c with stage := 5 } : OpS) with done := true, changed := true } else (m2.set i o).op j := by
          unfold MS.enter
          rw [if_neg (by omega)]
          unfold MS.finish
          rw [set_same]
          unfold MS.set upd
          dsimp only
          split <;> rfl
        rw [hst5]
        by_cases e : j = c
        · subst e
          rw [if_pos rfl]
          dsimp only
          omega
        · rw [if_neg e, kfin]
      · have h6 := hI3.enter hc3 (by rw [hs3]) (by omega) (fun hh => by omega) (fun _ => hall)
        have hop6 : ∀ j, ((m2.set i o).enter T c (s + 1)).op j = if j = c then { (m2.set i o).op c with stage := s + 1, prog := Dv.prog (((m2.set i o).op c).stores T (s + 1)) } else (m2.set i o).op j := fun j => by
          unfold MS.enter
          rw [if_pos (by omega)]
          rfl
        by_cases e3 : s = 3
        · rw [e3] at h6 hop6 ⊢
          rw [if_pos rfl] at h6
          refine ⟨nw c, h6.1, h6.2, .inr ⟨?_, rfl, by rw [← hs, e3], ?_, fun j hj => ?_⟩⟩
          · have hl := hI1.ld1 c hc1 (by omega)
            exact (hI1.old c hc1 (by omega) (by omega)).symm
          · rw [hop6 c, if_pos rfl]
          · rw [hop6 j, if_neg hj, kfin]
        · rw [if_neg (by omega)] at h6
          refine ⟨A, h6.1, h6.2, .inl ⟨rfl, fun j => ?_⟩⟩
          rw [hop6 j]
          by_cases e : j = c
          · subst e
            rw [if_pos rfl]
            dsimp only
            omega
          · rw [if_neg e, kfin]
    · rename_i hnl
      refine ⟨A, hI3, ⟨?_, ?_⟩, Eff.same kfin⟩
      · intro c' hc' a'
        have := hI3.one hc3 hc'
        subst this
        rw [hs3] at a'
        omega
      · intro j hj c' hc' a' b'
        have := hI3.one hc3 hc'
        subst this
        rw [kso, hs3, hop2]
        by_cases e : j = i
        · subst e
          rw [hnxt]
          omega
        · rw [hs3] at b'
          rw [set_ne m2 o e, hop2] at a' b' ⊢
          have := hr1.nx j hj _ hc1 a' (by rw [b', hs1'])
          rw [hs1'] at this
          exact this
end
end Go.Proofs.YtejlgnebofdijaaGreatDoor.Dv

namespace Go.Proofs.YtejlgnebofdijaaGreatDoor.Dv
open Go.RowKit
set_option linter.unusedVariables false

/-- What no instruction changes. -/
structure Fr (m m' : MS) : Prop where
  busy : m'.busy = m.busy
  t : ∀ j, (m'.op j).t = (m.op j).t
  k : ∀ j, (m'.op j).k = (m.op j).k
  ended : ∀ j, (m'.op j).ended = (m.op j).ended
  done : ∀ j, (m.op j).done = true → (m'.op j).done = true
theorem Fr.refl (m : MS) : Fr m m := ⟨rfl, fun _ => rfl, fun _ => rfl, fun _ => rfl, fun _ h => h⟩
theorem Fr.trans {a b c : MS} (h : Fr a b) (k : Fr b c) : Fr a c := ⟨k.busy.trans h.busy, fun j => (k.t j).trans (h.t j), fun j => (k.k j).trans (h.k j), fun j => (k.ended j).trans (h.ended j), fun j hj => k.done j (h.done j hj)⟩
theorem Fr.set {m : MS} {i : Nat} {o : OpS} (h : o.t = (m.op i).t ∧ o.k = (m.op i).k ∧ o.ended = (m.op i).ended ∧ ((m.op i).done = true → o.done = true)) : Fr m (m.set i o) :=
  ⟨rfl, set_key (·.t) h.1, set_key (·.k) h.2.1, set_key (·.ended) h.2.2.1, fun j hj => by
    by_cases e : j = i
    · subst e; rw [set_same]; exact h.2.2.2 hj
    · rw [set_ne m o e]; exact hj⟩
theorem Fr.dev (m : MS) (d : DSt) : Fr m { m with dev := d } := ⟨rfl, fun _ => rfl, fun _ => rfl, fun _ => rfl, fun _ h => h⟩
theorem Fr.cur (m : MS) (c : Option Nat) : Fr m { m with cur := c } := ⟨rfl, fun _ => rfl, fun _ => rfl, fun _ => rfl, fun _ h => h⟩
theorem Fr.finish (m : MS) (i : Nat) (b : Bool) : Fr m (m.finish i b) := (Fr.set (m := m) (i := i) (o := { m.op i with done := true, changed := b }) ⟨rfl, rfl, rfl, fun _ => rfl⟩).trans (Fr.cur _ _)
theorem Fr.enter (T : Nat → Nat) (m : MS) (i s : Nat) : Fr m (m.enter T i s) := by
  unfold MS.enter
  split
  · exact Fr.set ⟨rfl, rfl, rfl, fun h => h⟩
  · refine (Fr.set (m := m) (i := i) (o := { m.op i with stage := s }) ⟨rfl, rfl, rfl, fun h => h⟩).trans (Fr.finish _ _ _)
theorem Fr.load (T : Nat → Nat) (m : MS) (c t : Nat) : Fr m (m.load T c t) := by
  unfold MS.load
  dsimp only
  split
  · exact Fr.dev _ _
  · split
    · have h1 : Fr m (MS.set { m with dev := m.dev.on t true } c { m.op c with seen := (m.op c).seen.set ((m.op c).ord.getD (m.op c).loaded 0) (m.dev.cur (((m.op c).es.getD ((m.op c).ord.getD (m.op c).loaded 0) (0, 0, 0)).1 / 8)), loaded := (m.op c).loaded + 1 }) :=
        (Fr.dev m _).trans (Fr.set ⟨rfl, rfl, rfl, fun h => h⟩)
      split
      · exact h1.trans (Fr.enter _ _ _ _)
      · exact h1
    · exact (Fr.dev m _).trans (Fr.finish _ _ _)
theorem Fr.advance (T : Nat → Nat) (m : MS) (i c : Nat) : Fr m (m.advance T i c) := by
  by_cases hs0 : (m.op c).stage = 0
  · unfold MS.advance
    rw [if_pos hs0]
    exact Fr.load _ _ _ _
  · rw [advance_eq T m i c hs0]
    have h1 : Fr m (m.aim i c) := by
      unfold MS.aim
      split
      · exact Fr.refl _
      · exact Fr.set ⟨rfl, rfl, rfl, fun h => h⟩
    have h2 : Fr m ((m.aim i c).did i c) := h1.trans (Fr.dev _ _)
    unfold MS.went
    split
    · exact h2
    · have h3 := h2.trans (Fr.set (m := (m.aim i c).did i c) (i := i) (o := { ((m.aim i c).did i c).op i with next := (((m.aim i c).did i c).op i).next + 1 }) ⟨rfl, rfl, rfl, fun h => h⟩)
      split
      · exact h3.trans (Fr.enter _ _ _ _)
      · exact h3

section
variable {T od nw : Nat → Nat} {A N : Nat} {m : MS}
/-- An operation that is done ends. -/
theorem LI.stop (h : LI T od nw A N m) (hr : Ready T N m) {i : Nat} (hd : (m.op i).done = true) : LI T od nw A N (m.stop i 0) ∧ Ready T N (m.stop i 0) ∧ (∀ j, ((m.stop i 0).op j).stage = (m.op j).stage) ∧ (m.stop i 0).dev = m.dev ∧ (m.stop i 0).cur = m.cur := by
  obtain ⟨m1, hm1⟩ : ∃ m1 : MS, m1 = { m.set i { m.op i with ended := true, err := 0 } with busy := upd m.busy (m.op i).k false } := ⟨_, rfl⟩
  have hs : m.stop i 0 = m1 := by
    have : m.stop i 0 = if (m.op i).done = false ∧ m.cur = some i ∧ (m.op i).stage < 2 then { m1 with cur := none } else m1 := by rw [hm1]; rfl
    rw [this, if_neg (fun hh => by rw [hd] at hh; cases hh.1)]
  have hl : Like m m1 := by
    rw [hm1]
    have l := like_set (m := m) (i := i) (o := { m.op i with ended := true, err := 0 }) ⟨rfl, rfl, rfl, rfl, rfl, rfl, rfl, rfl, rfl, rfl, rfl, rfl, rfl⟩
    exact ⟨l.t, l.k, l.es, l.ord, l.seen, l.loaded, l.stage, l.prog, l.done, l.changed, l.tgt, l.inn, l.next⟩
  have hc : m1.cur = m.cur := by rw [hm1]; rfl
  have hdv : m1.dev = m.dev := by rw [hm1]; rfl
  rw [hs]
  refine ⟨?_, hr.like hl hc, hl.stage, hdv, hc⟩
  exact {
    L := by rw [hdv]; exact h.L
    A3 := h.A3
    stat := fun j hj => (h.stat j hj).of_same (hl.k j) (hl.es j) (hl.ord j) (by rw [hl.seen])
    val := fun x hx => by
      rw [hdv]
      exact (h.val x hx).imp (fun r hr => ⟨hr.1, hr.2.imp id (fun ⟨c, a, b, d⟩ => ⟨c, by rw [hc]; exact a, by rw [hl.stage]; exact b, d⟩)⟩)
    sta := fun k hk => by
      rw [hdv]
      exact (h.sta k hk).imp (fun r hr => hr.imp id (fun ⟨c, a, b, d, e, f⟩ => ⟨c, by rw [hc]; exact a, by rw [hl.k]; exact b, by rw [hl.stage]; exact d, by rw [hl.stage]; exact e, by rw [hl.status]; exact f⟩))
    sta3 := fun c hcc h3 => by rw [hc] at hcc; rw [hl.stage] at h3; rw [hl.status, hl.k, hdv]; exact h.sta3 c hcc h3
    recd := fun c hcc h1 h2 q v hq => by rw [hc] at hcc; rw [hl.stage] at h1 h2; rw [hl.ents] at hq; rw [hl.k, hdv]; exact h.recd c hcc h1 h2 q v hq
    cur := fun c hcc => by rw [hc] at hcc; rw [hl.stage, hl.done]; exact h.cur c hcc
    mid := fun j hj h1 h2 => by rw [hl.stage] at h1 h2; rw [hc]; exact h.mid j hj h1 h2
    fresh := fun j hj h1 h2 => by rw [hc] at h1; rw [hl.done] at h2; rw [hl.stage, hl.loaded]; exact h.fresh j hj h1 h2
    old := fun c hcc h1 h2 => by rw [hc] at hcc; rw [hl.stage] at h1; rw [hl.loaded] at h2; exact h.old c hcc h1 h2
    new := fun c hcc h1 => by rw [hc] at hcc; rw [hl.stage] at h1; exact h.new c hcc h1
    seen := fun c hcc q x h1 h2 => by rw [hc] at hcc; rw [hl.loaded] at h1; rw [hl.ord] at h2; rw [hl.seen]; exact h.seen c hcc q x h1 h2
    ld1 := fun c hcc h1 => by rw [hc] at hcc; rw [hl.stage] at h1; rw [hl.loaded]; exact h.ld1 c hcc h1
    fin := fun j hj h1 => by rw [hl.done] at h1; rw [hl.changed, hl.stage]; exact h.fin j hj h1
    tgt := fun j hj c h1 => by rw [hl.tgt] at h1; rw [hl.inn, hl.stage]; exact h.tgt j hj c h1
    prog := fun c hcc h1 => by rw [hc] at hcc; rw [hl.stage] at h1; rw [hl.prog, hl.stage, hl.stores]; exact h.prog c hcc h1
    run := fun j hj c hcc h1 h2 => by
      rw [hc] at hcc; rw [hl.tgt] at h1; rw [hl.inn, hl.stage] at h2; rw [hl.t, hl.stores, hl.stage, hl.next, hdv]
      exact h.run j hj c hcc h1 h2
    calm := by rw [hdv]; exact h.calm }

/-- What a step of operation i leaves. -/
structure StepOk (od nw : Nat → Nat) (A A' N i : Nat) (m m' : MS) (b : Bool) : Prop where
  eff : (A' = A ∧ ∀ j, (4 ≤ (m'.op j).stage ↔ 4 ≤ (m.op j).stage)) ∨ ∃ c, c < N ∧ (m.op c).done = false ∧ A = od c ∧ A' = nw c ∧ (m.op c).stage = 3 ∧ (m'.op c).stage = 4 ∧ ∀ j, j ≠ c → (m'.op j).stage = (m.op j).stage
  t : ∀ j, (m'.op j).t = (m.op j).t
  k : ∀ j, (m'.op j).k = (m.op j).k
  busy : m'.busy = if b then upd m.busy (m.op i).k false else m.busy
  ended : ∀ j, (m'.op j).ended = if j = i ∧ b = true then true else (m.op j).ended
  done : b = true → (m'.op i).done = true ∧ (m'.op i).err = 0
  more : b = false → (m'.op i).done = false
  mono : ∀ j, (m.op j).done = true → (m'.op j).done = true
theorem LI.step (h : LI T od nw A N m) (hr : Ready T N m) (hok : m.dev.Ok) {i : Nat} (hi : i < N) (he : (m.op i).ended = false) :
    ∃ A', LI T od nw A' N (m.step T i).1 ∧ Ready T N (m.step T i).1 ∧ StepOk od nw A A' N i m (m.step T i).1 (m.step T i).2 := by
  have hstop : ∀ (m2 : MS) j, ((m2.stop i 0).op j).t = (m2.op j).t ∧ ((m2.stop i 0).op j).k = (m2.op j).k ∧ ((m2.stop i 0).op j).done = (m2.op j).done ∧ ((m2.stop i 0).op j).ended = (if j = i then true else (m2.op j).ended) ∧ (m2.stop i 0).busy = upd m2.busy (m2.op i).k false ∧ ((m2.stop i 0).op i).err = 0 := by
    intro m2 j
    have h1 : (m2.stop i 0).op = (m2.set i { m2.op i with ended := true, err := 0 }).op := by unfold MS.stop; dsimp only; split <;> rfl
    have h2 : (m2.stop i 0).busy = upd m2.busy (m2.op i).k false := by unfold MS.stop; dsimp only; split <;> rfl
    rw [h1, h2]
    refine ⟨set_key (o := { m2.op i with ended := true, err := 0 }) (·.t) rfl j, set_key (o := { m2.op i with ended := true, err := 0 }) (·.k) rfl j, set_key (o := { m2.op i with ended := true, err := 0 }) (·.done) rfl j, ?_, rfl, by rw [set_same]⟩
    by_cases e : j = i
    · subst e; rw [set_same, if_pos rfl]
    · rw [set_ne _ _ e, if_neg e]
  by_cases hdn : (m.op i).done = true
  · have hst : m.step T i = (m.stop i 0, true) := by
      unfold MS.step
      rw [he, if_neg (by simp), if_neg (by simp [(h.calm (m.op i).t).err]), hdn, if_pos rfl]
    rw [hst]
    obtain ⟨a, b, c, d, e⟩ := h.stop hr hdn
    exact ⟨A, a, b, ⟨.inl ⟨rfl, fun j => by rw [c]⟩, fun j => (hstop m j).1, fun j => (hstop m j).2.1, by rw [if_pos rfl]; exact (hstop m i).2.2.2.2.1, fun j => by rw [(hstop m j).2.2.2.1]; by_cases q : j = i <;> simp [q], fun _ => ⟨by rw [(hstop m i).2.2.1]; exact hdn, (hstop m i).2.2.2.2.2⟩, fun q => (by cases q), fun j hj => by rw [(hstop m j).2.2.1]; exact hj⟩⟩
  · have hdn : (m.op i).done = false := by simpa using hdn
    rw [step_eq T m i he (h.calm _).err hdn]
    obtain ⟨c, hc⟩ : ∃ c, c = m.cur.getD i := ⟨_, rfl⟩
    rw [← hc]
    obtain ⟨m1, hm1⟩ : ∃ m1 : MS, m1 = { m with cur := some c } := ⟨_, rfl⟩
    rw [← hm1]
    have hI : LI T od nw A N m1 ∧ Ready T N m1 := by
      rw [hm1]
      cases hcu : m.cur with
      | none =>
        rw [hcu] at hc
        simp at hc
        rw [hc]
        exact h.take hi hcu hdn
      | some c' =>
        rw [hcu] at hc
        simp at hc
        rw [hc, ← hcu]
        exact ⟨h, hr⟩
    have hc1 : m1.cur = some c := by rw [hm1]
    have hop1 : m1.op = m.op := by rw [hm1]
    have hbu1 : m1.busy = m.busy := by rw [hm1]
    obtain ⟨A', a1, a2, a3⟩ := hI.1.advance hI.2 (by rw [hm1]; exact hok) hi hc1
    have hfr := Fr.advance T m1 i c
    obtain ⟨m2, hm2⟩ : ∃ m2, m2 = m1.advance T i c := ⟨_, rfl⟩
    rw [← hm2] at a1 a2 a3 hfr ⊢
    have hcd := hI.1.cur c hc1
    rw [hop1] at hcd
    have heff : (A' = A ∧ ∀ j, (4 ≤ (m2.op j).stage ↔ 4 ≤ (m.op j).stage)) ∨ ∃ c, c < N ∧ (m.op c).done = false ∧ A = od c ∧ A' = nw c ∧ (m.op c).stage = 3 ∧ (m2.op c).stage = 4 ∧ ∀ j, j ≠ c → (m2.op j).stage = (m.op j).stage := by
      rcases a3 with ⟨b1, b2⟩ | ⟨b1, b2, b3, b4, b5⟩
      · exact .inl ⟨b1, fun j => by rw [b2, hop1]⟩
      · rw [hop1] at b3 b5
        exact .inr ⟨c, hcd.1, hcd.2.2, b1, b2, b3, b4, b5⟩
    unfold MS.closing
    rw [if_neg (fun hh => hh (a1.calm _).err)]
    cases hd2 : (m2.op i).done with
    | true =>
      rw [if_pos rfl]
      obtain ⟨s1, s2, s3, s4, s5⟩ := a1.stop a2 hd2
      refine ⟨A', s1, s2, ⟨?_, fun j => by rw [(hstop m2 j).1, hfr.t, hop1], fun j => by rw [(hstop m2 j).2.1, hfr.k, hop1], ?_, fun j => ?_, fun _ => ⟨by rw [(hstop m2 i).2.2.1]; exact hd2, (hstop m2 i).2.2.2.2.2⟩, fun q => (by cases q), fun j hj => ?_⟩⟩
      · rcases heff with ⟨b1, b2⟩ | ⟨c', b1, b2, b3, b4, b5, b6, b7⟩
        · exact .inl ⟨b1, fun j => by rw [s3, b2]⟩
        · exact .inr ⟨c', b1, b2, b3, b4, b5, by rw [s3]; exact b6, fun j hj => by rw [s3]; exact b7 j hj⟩
      · rw [if_pos rfl, (hstop m2 i).2.2.2.2.1, hfr.busy, hfr.k, hop1, hbu1]
      · rw [(hstop m2 j).2.2.2.1, hfr.ended, hop1]
        by_cases q : j = i <;> simp [q]
      · rw [(hstop m2 j).2.2.1]
        exact hfr.done j (by rw [hop1]; exact hj)
    | false =>
      rw [if_neg (by simp)]
      exact ⟨A', a1, a2, ⟨heff, fun j => by rw [hfr.t, hop1], fun j => by rw [hfr.k, hop1], by rw [if_neg (by simp), hfr.busy, hbu1], fun j => by rw [if_neg (by simp), hfr.ended, hop1], fun q => (by cases q), fun _ => hd2, fun j hj => hfr.done j (by rw [hop1]; exact hj)⟩⟩

/-! ### a new operation -/
theorem LI.begin (h : LI T od nw A N m) (hr : Ready T N m) {t K a b : Nat} {ord : List Nat} (hK : K < 24) (hab : a < 3 ∧ b < 3) (hord : OrdL 2 ord) (htg : ∀ i, i < N → ∀ c, (m.op i).tgt = some c → c < N) :
    LI T (upd od N a) (upd nw N b) A (N + 1) (m.begin N t K (es2 a b) ord) ∧ Ready T (N + 1) (m.begin N t K (es2 a b) ord) := by
  have hopN : (m.begin N t K (es2 a b) ord).op N = opNew t K (es2 a b) ord := by unfold MS.begin MS.begun; dsimp only; rw [upd_same]
  have hopi : ∀ i, i ≠ N → (m.begin N t K (es2 a b) ord).op i = m.op i := fun i hi => by unfold MS.begin MS.begun; dsimp only; rw [upd_ne _ _ hi]
  have hcu : (m.begin N t K (es2 a b) ord).cur = m.cur := rfl
  have hdv : (m.begin N t K (es2 a b) ord).dev = m.dev := rfl
  obtain ⟨m', hm'⟩ : ∃ m', m' = m.begin N t K (es2 a b) ord := ⟨_, rfl⟩
  rw [← hm'] at hopN hopi hcu hdv ⊢
  have hlt : ∀ c, m'.cur = some c → c < N ∧ m.cur = some c := fun c hc => by rw [hcu] at hc; exact ⟨(h.cur c hc).1, hc⟩
  have ho : ∀ i, i < N → upd od N a i = od i ∧ upd nw N b i = nw i ∧ m'.op i = m.op i := fun i hi => ⟨upd_ne _ _ (by omega), upd_ne _ _ (by omega), hopi i (by omega)⟩
  have cas : ∀ i, i < N + 1 → i < N ∨ i = N := fun i hi => by omega
  have hN0 : (m'.op N).stage = 0 ∧ (m'.op N).loaded = 0 ∧ (m'.op N).done = false ∧ (m'.op N).tgt = none := by rw [hopN]; exact ⟨rfl, rfl, rfl, rfl⟩
  have key : ∀ {c : Nat} (P : Prop), m'.cur = some c → (c < N → m.cur = some c → (m'.op c = m.op c) → P) → P := fun P hc f => f (hlt _ hc).1 (hlt _ hc).2 (ho _ (hlt _ hc).1).2.2
  have tg : ∀ {i c : Nat}, i < N → c < N → (m'.op i).tgt = some c → (m.op i).tgt = some c := fun hi _ e => by rw [(ho _ hi).2.2] at e; exact e
  refine ⟨{ L := by rw [hdv]; exact h.L, A3 := h.A3, stat := ?_, val := ?_, sta := ?_, sta3 := ?_, recd := ?_, cur := ?_, mid := ?_, fresh := ?_, old := ?_, new := ?_, seen := ?_, ld1 := ?_, fin := ?_, tgt := ?_, prog := ?_, run := ?_, calm := by rw [hdv]; exact h.calm }, ⟨?_, ?_⟩⟩
  · intro i hi
    rcases cas i hi with hi | rfl
    · rw [(ho i hi).1, (ho i hi).2.1, (ho i hi).2.2]; exact h.stat i hi
    · rw [upd_same, upd_same, hopN]
      exact ⟨rfl, hab, hK, hord.len, hord.all, hord.lt, by unfold opNew es2; simp⟩
  · intro x hx
    rw [hdv]
    refine (h.val x hx).imp (fun r hr => ⟨hr.1, hr.2.imp id (fun ⟨c, q1, q2, q3⟩ => ?_)⟩)
    have hcN := (h.cur c q1).1
    exact ⟨c, by rw [hcu]; exact q1, by rw [(ho c hcN).2.2]; exact q2, by rw [(ho c hcN).2.1]; exact q3⟩
  · intro k hk
    rw [hdv]
    refine (h.sta k hk).imp (fun r hr => hr.imp id (fun ⟨c, q1, q2, q3, q4, q5⟩ => ?_))
    have hcN := (h.cur c q1).1
    exact ⟨c, by rw [hcu]; exact q1, by rw [(ho c hcN).2.2]; exact q2, by rw [(ho c hcN).2.2]; exact q3, by rw [(ho c hcN).2.2]; exact q4, by rw [(ho c hcN).2.2]; exact q5⟩
  · intro c hc
    obtain ⟨hcN, hc2⟩ := hlt c hc
    rw [(ho c hcN).2.2, hdv]
    exact h.sta3 c hc2
  · intro c hc
    obtain ⟨hcN, hc2⟩ := hlt c hc
    rw [(ho c hcN).2.2, hdv]
    exact h.recd c hc2
  · intro c hc
    obtain ⟨hcN, hc2⟩ := hlt c hc
    rw [(ho c hcN).2.2]
    exact ⟨by omega, (h.cur c hc2).2⟩
  · intro i hi h1 h2
    rcases cas i hi with hi | rfl
    · rw [(ho i hi).2.2] at h1 h2
      rw [hcu]
      exact h.mid i hi h1 h2
    · rw [hN0.1] at h1; omega
  · intro i hi h1 h2
    rcases cas i hi with hi | rfl
    · rw [(ho i hi).2.2] at h2 ⊢
      rw [hcu] at h1
      exact h.fresh i hi h1 h2
    · exact ⟨hN0.1, hN0.2.1⟩
  · intro c hc
    obtain ⟨hcN, hc2⟩ := hlt c hc
    rw [(ho c hcN).2.2, (ho c hcN).1]
    exact h.old c hc2
  · intro c hc
    obtain ⟨hcN, hc2⟩ := hlt c hc
    rw [(ho c hcN).2.2, (ho c hcN).2.1]
    exact h.new c hc2
  · intro c hc
    obtain ⟨hcN, hc2⟩ := hlt c hc
    rw [(ho c hcN).2.2, (ho c hcN).1]
    exact h.seen c hc2
  · intro c hc
    obtain ⟨hcN, hc2⟩ := hlt c hc
    rw [(ho c hcN).2.2]
    exact h.ld1 c hc2
  · intro i hi
    rcases cas i hi with hi | rfl
    · rw [(ho i hi).2.2]; exact h.fin i hi
    · rw [hN0.2.2.1]; intro e; cases e
  · intro i hi c hc
    rcases cas i hi with hi | rfl
    · rw [(ho i hi).2.2] at hc ⊢
      have q := h.tgt i hi c hc
      have hcN := htg i hi c hc
      rw [hopi c (by omega)]
      exact q
    · rw [hN0.2.2.2] at hc; cases hc
  · intro c hc
    obtain ⟨hcN, hc2⟩ := hlt c hc
    rw [(ho c hcN).2.2]
    exact h.prog c hc2
  · intro i hi c hc h1 h2
    obtain ⟨hcN, hc2⟩ := hlt c hc
    rcases cas i hi with hi | rfl
    · rw [(ho i hi).2.2] at h1 h2 ⊢
      rw [(ho c hcN).2.2] at h2 ⊢
      rw [hdv]
      exact h.run i hi c hc2 h1 h2
    · rw [hN0.2.2.2] at h1; cases h1
  · intro c hc
    obtain ⟨hcN, hc2⟩ := hlt c hc
    rw [(ho c hcN).2.2]
    exact hr.ld c hc2
  · intro i hi c hc h1 h2
    obtain ⟨hcN, hc2⟩ := hlt c hc
    rcases cas i hi with hi | rfl
    · rw [(ho i hi).2.2] at h1 h2 ⊢
      rw [(ho c hcN).2.2] at h2 ⊢
      exact hr.nx i hi c hc2 h1 h2
    · rw [hN0.2.2.2] at h1; cases h1
end
end Go.Proofs.YtejlgnebofdijaaGreatDoor.Dv

namespace Go.Proofs.YtejlgnebofdijaaGreatDoor.Dv
open Go.RowKit
set_option linter.unusedVariables false

/-! ### programs that are executed whole -/
theorem exec_ok {s : DSt} {t : Nat} (h : s.Ok) (hc : Calm s t) {x : Ins} (hx : x.Fit s.L) (hv : x.val < 18446744073709551616) (hex : s.ex < 1000000) : (s.exec t x).Ok := by
  have hcn := cnt_calm hc
  have h1 : (s.ctl false false s.left (s.ex + 1)).Ok := h.ctl _ _ _ _ h.left (by omega) (by omega)
  unfold DSt.exec
  by_cases e1 : x.op = 1
  · rw [if_pos e1]
    have hw : s.word x.off = true := by unfold DSt.word; simp; exact hx.1 e1
    unfold DSt.store
    rw [hw, hcn]
    exact h1.write hw hv (Nat.lt_succ_of_le (h.len _))
  · rw [if_neg e1]
    by_cases e2 : x.op = 2
    · rw [if_pos e2]
      unfold DSt.flush
      rw [decide_eq_true (hx.2 e2), hcn]
      have hlt := hx.2 e2
      have hh : ∀ t' n p, ((s.ctl false false s.left (s.ex + 1)).flushed t x.off).notes t' n = some p → p ≤ (s.H n).length ∧ n < s.L := by
        intro t' n p hp
        unfold DSt.flushed DSt.setNote at hp
        dsimp only at hp
        by_cases et : t' = t
        · rw [et, upd_same] at hp
          by_cases en : n = x.off / 64
          · rw [en, upd_same] at hp
            cases hp
            rw [en]
            exact ⟨Nat.le_refl _, by omega⟩
          · rw [upd_ne _ _ en] at hp
            exact h.note t n p hp
        · rw [upd_ne _ _ et] at hp
          exact h.note t' n p hp
      have hnb := h.nb
      exact { h1 with note := hh, nb := by show s.nb + 1 ≤ s.ex + 1; omega }
    · rw [if_neg e2]
      unfold DSt.fence
      rw [hcn]
      have hdn : ∀ n, ((s.ctl false false s.left (s.ex + 1)).fenced t).dn n ≤ (s.H n).length := by
        intro n
        unfold DSt.fenced
        dsimp only
        split
        · rename_i p hp
          have := (h.note t n p hp).1
          have := h.dn n
          exact Nat.max_le.2 ⟨h.dn n, (h.note t n p hp).1⟩
        · exact h.dn n
      have hno : ∀ t' n p, ((s.ctl false false s.left (s.ex + 1)).fenced t).notes t' n = some p → p ≤ (s.H n).length ∧ n < s.L := by
        intro t' n p hp
        unfold DSt.fenced at hp
        dsimp only at hp
        by_cases et : t' = t
        · rw [et, upd_same] at hp; cases hp
        · rw [upd_ne _ _ et] at hp
          exact h.note t' n p hp
      exact { h1 with dn := hdn, note := hno }
theorem runs_ok {t : Nat} : ∀ (l : List Ins) {s : DSt}, s.Ok → Calm s t → (∀ x ∈ l, x.Fit s.L) → (∀ x ∈ l, x.val < 18446744073709551616) → s.ex + l.length ≤ 1000000 → (s.runs t l).Ok
  | [], s, h, _, _, _, _ => h
  | x :: l, s, h, hc, hf, hv, hex => by
    rw [List.length_cons] at hex
    obtain ⟨a, b, c⟩ := exec_calm hc (hf x List.mem_cons_self)
    have hL : (s.exec t x).L = s.L := exec_L _ _ _
    exact runs_ok l (exec_ok h hc (hf x List.mem_cons_self) (hv x List.mem_cons_self) (by omega)) a (fun z hz => by rw [hL]; exact hf z (List.mem_cons_of_mem _ hz)) (fun z hz => hv z (List.mem_cons_of_mem _ hz)) (by rw [c]; omega)
theorem runs_done {t : Nat} {s : DSt} {l : List (Nat × Nat)} (h : Calm s t) (hok : ∀ j, ((s.runs t ((prog l).take j))).Ok) (hl : StOk l) (hf : ∀ x ∈ prog l, x.Fit s.L) : ∀ j, j ≤ (prog l).length → Done (s.runs t ((prog l).take j)) t l j ∧ Calm (s.runs t ((prog l).take j)) t ∧ (s.runs t ((prog l).take j)).L = s.L := by
  intro j
  induction j with
  | zero => intro _; exact ⟨Done.zero _ _ _, h, rfl⟩
  | succ j ih =>
    intro hj
    obtain ⟨h1, h2, h3⟩ := ih (by omega)
    obtain ⟨x, hx⟩ : ∃ x, (prog l)[j]? = some x := ⟨_, List.getElem?_eq_getElem (by omega)⟩
    have htk : (prog l).take (j + 1) = (prog l).take j ++ [x] := by rw [List.take_add_one, hx]; rfl
    rw [htk, runs_snoc]
    have hxf := hf x (List.mem_of_getElem? hx)
    obtain ⟨a, b, c⟩ := exec_calm h2 (by rw [h3]; exact hxf)
    exact ⟨Done.eqv b (h1.next (hok j) hl hx), a, (exec_L _ _ _).trans h3⟩
/-- The stores of a program that is executed whole are persistent. -/
theorem runs_all {t : Nat} {s : DSt} {l : List (Nat × Nat)} (h : Calm s t) (hok : ∀ j, ((s.runs t ((prog l).take j))).Ok) (hl : StOk l) (hf : ∀ x ∈ prog l, x.Fit s.L) : ∀ p ∈ l, (s.runs t (prog l)).All (p.1 / 8) (fun v => v = p.2) := by
  have hlen : 1 ≤ (prog l).length := by rw [prog_length]; omega
  obtain ⟨x, hx⟩ : ∃ x, (prog l)[(prog l).length - 1]? = some x := ⟨_, List.getElem?_eq_getElem (by omega)⟩
  obtain ⟨h1, h2, h3⟩ := runs_done h hok hl hf ((prog l).length - 1) (by omega)
  obtain ⟨a, b, c⟩ := exec_calm h2 (by rw [h3]; exact hf x (List.mem_of_getElem? hx))
  have htk : prog l = (prog l).take ((prog l).length - 1) ++ [x] := by
    have : (prog l).take ((prog l).length - 1 + 1) = (prog l).take ((prog l).length - 1) ++ [x] := by rw [List.take_add_one, hx]; rfl
    rw [← this, List.take_of_length_le (by omega)]
  have hla := h1.last hx (by omega)
  intro p hp
  rw [htk, runs_snoc]
  exact b.all (hla.2 p hp)
/-- Other words keep what they have. -/
theorem runs_keep {t x : Nat} {P : Nat → Prop} : ∀ (l : List Ins) {s : DSt}, Calm s t → (∀ j, ((s.runs t (l.take j))).Ok) → (∀ y ∈ l, y.Fit s.L) → (∀ y ∈ l, y.op = 1 → x = y.off / 8 → P y.val) → s.All x P → (s.runs t l).All x P
  | [], s, _, _, _, _, h => h
  | y :: l, s, hc, hok, hf, hv, h => by
    obtain ⟨a, b, c⟩ := exec_calm hc (hf y List.mem_cons_self)
    have hL : (s.exec t y).L = s.L := exec_L _ _ _
    have hs0 : s.Ok := hok 0
    refine runs_keep l a (fun j => hok (j + 1)) (fun z hz => by rw [hL]; exact hf z (List.mem_cons_of_mem _ hz)) (fun z hz => hv z (List.mem_cons_of_mem _ hz)) ?_
    exact b.all (DSt.did_all h hs0 (fun e => (hf y List.mem_cons_self).1 e |>.1) (hv y List.mem_cons_self))

/-! ### after a crash -/
theorem fresh_cur (L : Nat) (g : Nat → Nat) (x : Nat) : (fresh L g).cur x = g x := rfl
theorem after_cur {s : DSt} {c : Nat → Nat} {x : Nat} (h : x < 8 * s.L) : (s.after c).cur x = s.img c x := by
  have e : (s.after c).cur x = (fun y => if y < 8 * s.L then s.img c y else 0) x := fresh_cur s.L (fun y => if y < 8 * s.L then s.img c y else 0) x
  rw [e]
  exact if_pos h
theorem recs_none {s : DSt} {t : Nat} {D : Nat → List En} : ∀ {k : Nat}, (∀ j, j < k → D j = []) → recs s t D k = s
  | 0, _ => rfl
  | k + 1, h => by
    show (if D k = [] then recs s t D k else _) = s
    rw [if_pos (h k (by omega))]
    exact recs_none (fun j hj => h j (by omega))
theorem recs_one {s : DSt} {t c : Nat} {D : Nat → List En} (hne : D c ≠ []) : ∀ {k : Nat}, c < k → (∀ j, j < k → j ≠ c → D j = []) → recs s t D k = s.runs t (recPr (D c) c)
  | 0, hc, _ => by omega
  | k + 1, hc, h => by
    show (if D k = [] then recs s t D k else (recs s t D k).runs t (recPr (D k) k)) = _
    by_cases e : k = c
    · subst e
      rw [if_neg hne, recs_none (fun j hj => h j (by omega) (by omega))]
    · rw [if_pos (h k (by omega) e)]
      exact recs_one hne (by omega) (fun j hj hj2 => h j (by omega) hj2)
theorem fold_word (y : Nat) : ∀ (l : List (Nat × Nat)) (v : Nat), ((∀ p ∈ l, y ≠ p.1 / 8) ∧ l.foldl (fun v p => if y = p.1 / 8 then p.2 else v) v = v) ∨ ∃ p ∈ l, y = p.1 / 8 ∧ l.foldl (fun v p => if y = p.1 / 8 then p.2 else v) v = p.2
  | [], v => .inl ⟨fun p hp => (by cases hp), rfl⟩
  | a :: l, v => by
    rw [List.foldl_cons]
    rcases fold_word y l (if y = a.1 / 8 then a.2 else v) with ⟨h1, h2⟩ | ⟨p, hp, h1, h2⟩
    · by_cases e : y = a.1 / 8
      · rw [if_pos e] at h2 ⊢
        exact .inr ⟨a, List.mem_cons_self, e, h2⟩
      · rw [if_neg e] at h2 ⊢
        refine .inl ⟨fun p hp => ?_, h2⟩
        rcases List.mem_cons.1 hp with rfl | hp
        · exact e
        · exact h1 p hp
    · exact .inr ⟨p, List.mem_cons_of_mem _ hp, h1, h2⟩
end Go.Proofs.YtejlgnebofdijaaGreatDoor.Dv

namespace Go.Proofs.YtejlgnebofdijaaGreatDoor.Dv
open Go.RowKit
set_option linter.unusedVariables false

theorem all_fresh {L : Nat} {g : Nat → Nat} {x : Nat} {P : Nat → Prop} (h : P (g x)) : (fresh L g).All x P := by
  intro k _ h2
  have : k = 0 := Nat.le_zero.1 h2
  subst this
  exact h
theorem calm_runs {t : Nat} : ∀ (l : List Ins) {s : DSt}, (∀ u, Calm s u) → (∀ x ∈ l, x.Fit s.L) → ∀ u, Calm (s.runs t l) u
  | [], s, h, _ => h
  | x :: l, s, h, hf => by
    have hL : (s.exec t x).L = s.L := exec_L _ _ _
    exact calm_runs l (calm_exec h (hf x List.mem_cons_self)).1 (fun y hy => by rw [hL]; exact hf y (List.mem_cons_of_mem _ hy))
/-- The machine at the start. -/
theorem LI.start {T od nw : Nat → Nat} {A : Nat} {s : DSt} (hA : A < 3) (hL : s.L = 110) (hv : ∀ x, x = 800 ∨ x = 816 → s.All x (fun r => r < 4611686018427387904 ∧ r % 1099511627776 = A)) (hu : ∀ k, k < 24 → s.All (32 * k) (fun r => r = unusedW)) (hc : ∀ t, Calm s t) :
    LI T od nw A 0 (ms0 s) ∧ Ready T 0 (ms0 s) := by
  have no : ∀ {c : Nat}, (ms0 s).cur = some c → False := fun e => by cases e
  exact ⟨{ L := hL, A3 := hA, stat := fun i hi => absurd hi (by omega), val := fun x hx => (hv x hx).imp (fun r hr => ⟨hr.1, .inl hr.2⟩), sta := fun k hk => (hu k hk).imp (fun r hr => .inl hr), sta3 := fun c h => (no h).elim, recd := fun c h => (no h).elim, cur := fun c h => (no h).elim, mid := fun i hi => absurd hi (by omega), fresh := fun i hi => absurd hi (by omega), old := fun c h => (no h).elim, new := fun c h => (no h).elim, seen := fun c h => (no h).elim, ld1 := fun c h => (no h).elim, fin := fun i hi => absurd hi (by omega), tgt := fun i hi => absurd hi (by omega), prog := fun c h => (no h).elim, run := fun i hi => absurd hi (by omega), calm := hc }, Ready.none rfl⟩

section
variable {T od nw : Nat → Nat} {A N : Nat} {m : MS}
theorem LI.fit (h : LI T od nw A N m) (hr : Ready T N m) (hok : m.dev.Ok) {i c : Nat} (hi : i < N) (hc : m.cur = some c) : Fit T m i c := by
  have hcc := h.cur c hc
  have hst := h.stat c hcc.1
  refine ⟨hcc.2.1, ?_, hr.ld c hc, fun e he => ?_, h.prog c hc, hr.nx i hi c hc⟩
  · rw [hst.es]
    intro i j hij hj
    have hj2 : j < 2 := hj
    have : (i = 0 ∧ j = 0) ∨ (i = 0 ∧ j = 1) ∨ (i = 1 ∧ j = 1) := by omega
    rcases this with ⟨rfl, rfl⟩ | ⟨rfl, rfl⟩ | ⟨rfl, rfl⟩
    · exact Nat.le_refl _
    · show line 6400 ≤ line 6528; decide
    · exact Nat.le_refl _
  · rw [hst.es] at he
    unfold es2 at he
    simp only [List.mem_cons, List.not_mem_nil, or_false] at he
    rcases he with rfl | rfl
    · show m.dev.cur (6400 / 8) < _
      rw [show 6400 / 8 = 800 by omega]
      exact (DSt.All.cur (h.val 800 (.inl rfl)) hok).1
    · show m.dev.cur (6528 / 8) < _
      rw [show 6528 / 8 = 816 by omega]
      exact (DSt.All.cur (h.val 816 (.inr rfl)) hok).1

/-- What recovery finds after a crash. -/
def found2 (m : MS) (c : Nat → Nat) (k : Nat) : List En := if m.dev.img c (32 * k) = unusedW then [] else match m.cur with | some x => (m.op x).ents | none => []
theorem LI.found (h : LI T od nw A N m) {c : Nat → Nat} (hc : m.dev.Cut c) {k : Nat} (hk : k < 24) (hne : found2 m c k ≠ []) :
    ∃ x, m.cur = some x ∧ (m.op x).k = k ∧ 2 ≤ (m.op x).stage ∧ (m.op x).stage ≤ 4 ∧ m.dev.img c (32 * k) = (m.op x).status T ∧ found2 m c k = (m.op x).ents := by
  unfold found2 at hne ⊢
  split at hne
  · exact absurd rfl hne
  · rename_i hu
    rcases (h.sta k hk).img hc with h1 | ⟨x, h1, h2, h3, h4, h5⟩
    · exact absurd h1 hu
    · exact ⟨x, h1, h2, h3, h4, h5, by rw [if_neg hu, h1]⟩
theorem LStat.esok {a b : Nat} {o : OpS} (h : LStat a b o) : EsOk 96 7040 o.ents := by
  obtain ⟨y, z, h1, h2, h3, h4, h5⟩ := h.ents
  have hlt := h.lt
  rw [h5]
  refine ⟨by simp, fun e he => ?_, fun e he => ?_, fun e he => ?_, ?_⟩
  · simp only [List.mem_cons, List.not_mem_nil, or_false] at he
    rcases he with rfl | rfl <;> (dsimp only; omega)
  · simp only [List.mem_cons, List.not_mem_nil, or_false] at he
    rcases he with rfl | rfl <;> (dsimp only; omega)
  · simp only [List.mem_cons, List.not_mem_nil, or_false] at he
    rcases he with rfl | rfl
    · exact h1
    · exact h2
  · simp
theorem LI.desc (h : LI T od nw A N m) {c : Nat → Nat} (hc : m.dev.Cut c) {k : Nat} (hk : k < 24) : Desc T 96 (64 * (m.dev.after c).L) (m.dev.after c).cur k (found2 m c k) := by
  have hL : (m.dev.after c).L = 110 := h.L
  have h40 := h.L
  by_cases hne : found2 m c k = []
  · refine .inl ⟨hne, ?_⟩
    rw [after_cur (by omega)]
    rcases (h.sta k hk).img hc with h1 | ⟨x, h1, h2, h3, h4, h5⟩
    · exact h1
    · unfold found2 at hne
      split at hne
      · assumption
      · have hst := h.stat x (h.cur x h1).1
        rw [h1] at hne
        have := ents_length (m.op x)
        rw [hst.len] at this
        simp only at hne
        rw [hne] at this
        cases this
  · obtain ⟨x, h1, h2, h3, h4, h5, h6⟩ := h.found hc hk hne
    have hst := h.stat x (h.cur x h1).1
    have he := hst.esok
    rw [hL, h6]
    refine .inr ⟨he, ?_, fun i v hv => ?_⟩
    · rw [after_cur (by omega), h5, ents_length]
      rfl
    · have hi := (List.getElem?_eq_some_iff.1 hv).1
      have hl := ewords_length (m.op x).ents
      have := he.n
      rw [after_cur (by omega)]
      have := (h.recd x h1 h3 h4 i v hv).img hc
      rw [h2] at this
      exact this
theorem LI.recok (h : LI T od nw A N m) {c : Nat → Nat} (hc : m.dev.Cut c) (t : Nat) : RecOk (m.dev.after c) t (found2 m c) := by
  have hL : (m.dev.after c).L = 110 := h.L
  have key : ∀ k, k < 24 → Dv.ewr (found2 m c k) = [] ∨ ∃ y z, y < 4611686018427387904 ∧ z < 4611686018427387904 ∧ Dv.ewr (found2 m c k) = [(6400, y), (6528, z)] := by
    intro k hk
    by_cases hne : found2 m c k = []
    · exact .inl (by rw [hne]; rfl)
    · obtain ⟨x, h1, _, _, _, _, h6⟩ := h.found hc hk hne
      obtain ⟨y, z, a1, a2, _, _, a5⟩ := (h.stat x (h.cur x h1).1).ewr
      exact .inr ⟨y, z, a1, a2, by rw [h6]; exact a5⟩
  have hlen : ∀ k, (Dv.ewr (found2 m c k)).length = (found2 m c k).length := fun k => by simp [Dv.ewr]
  refine ⟨⟨rfl, rfl, rfl⟩, by omega, fun k hk => ?_, fun k hk p hp => ?_, fun k hk p hp => ?_, fun k hk => ?_⟩
  · rw [← hlen k]
    rcases key k hk with e | ⟨y, z, _, _, e⟩ <;> (rw [e]; simp)
  · rcases key k hk with e | ⟨y, z, a1, a2, e⟩
    · rw [e] at hp; cases hp
    · rw [e] at hp
      simp only [List.mem_cons, List.not_mem_nil, or_false] at hp
      rcases hp with rfl | rfl <;> (dsimp only; omega)
  · rcases key k hk with e | ⟨y, z, a1, a2, e⟩
    · rw [e] at hp; cases hp
    · rw [e] at hp
      simp only [List.mem_cons, List.not_mem_nil, or_false] at hp
      rcases hp with rfl | rfl <;> (dsimp only; omega)
  · rcases key k hk with e | ⟨y, z, a1, a2, e⟩
    · rw [e]; intro i j _ hj; exact absurd hj (by simp)
    · rw [e]
      intro i j hij hj
      have hj2 : j < 2 := hj
      have : (i = 0 ∧ j = 0) ∨ (i = 0 ∧ j = 1) ∨ (i = 1 ∧ j = 1) := by omega
      rcases this with ⟨rfl, rfl⟩ | ⟨rfl, rfl⟩ | ⟨rfl, rfl⟩ <;> (show line _ ≤ line _; unfold line; dsimp only; omega)

/-- After a crash and its recovery the machine starts anew; the operation that was being stored may have taken effect. -/
theorem LI.crashed (h : LI T od nw A N m) {c : Nat → Nat} (hc : m.dev.Cut c) (hok : m.dev.Ok) {t : Nat} (od' nw' : Nat → Nat) :
    ∃ D, RecOk (m.dev.after c) t D ∧ (∀ k, k < 24 → Desc T 96 (64 * (m.dev.after c).L) (m.dev.after c).cur k (D k)) ∧
      ∃ A', (LI T od' nw' A' 0 (ms0 (recs (m.dev.after c) t D 24)) ∧ Ready T 0 (ms0 (recs (m.dev.after c) t D 24))) ∧
        (A' = A ∨ ∃ x, m.cur = some x ∧ (m.op x).stage ≤ 3 ∧ A = od x ∧ A' = nw x) := by
  refine ⟨found2 m c, h.recok hc t, fun k hk => h.desc hc hk, ?_⟩
  have hL := h.L
  have hrok := h.recok hc t
  have hcal0 : ∀ u, Calm (m.dev.after c) u := fun u => ⟨rfl, rfl, rfl⟩
  have hafx : ∀ {x : Nat} {P : Nat → Prop}, x < 880 → P (m.dev.img c x) → (m.dev.after c).All x P := fun {x P} hx hp => by
    refine all_fresh ?_
    rw [if_pos (by omega)]
    exact hp
  by_cases hall : ∀ k, k < 24 → found2 m c k = []
  · rw [recs_none hall]
    have hunu : ∀ k, k < 24 → m.dev.img c (32 * k) = unusedW := fun k hk => by
      rcases h.desc hc hk with ⟨_, hv⟩ | ⟨he, _⟩
      · rw [after_cur (by omega)] at hv; exact hv
      · have := he.n; rw [hall k hk] at this; simp at this
    have hst3 : ∀ x, m.cur = some x → (m.op x).stage ≠ 3 := fun x hx e => by
      have h1 := (h.sta3 x hx e).img hc
      have hst := h.stat x (h.cur x hx).1
      rw [hunu _ hst.k] at h1
      have := sst_ne (n := (m.op x).es.length) (c := crcW T (ewords (m.op x).ents)) (by rw [hst.len]; omega) (by rw [hst.len]; omega)
      exact this h1.symm
    refine ⟨A, LI.start h.A3 h.L (fun x hx => hafx (by rcases hx with rfl | rfl <;> omega) ?_) (fun k hk => hafx (by omega) (hunu k hk)) hcal0, .inl rfl⟩
    obtain ⟨a1, a2⟩ := (h.val x hx).img hc
    refine ⟨a1, ?_⟩
    rcases a2 with a2 | ⟨x', b1, b2, _⟩
    · exact a2
    · exact absurd b2 (hst3 x' b1)
  · obtain ⟨k, hk, hne⟩ : ∃ k, k < 24 ∧ found2 m c k ≠ [] := by
      apply Classical.byContradiction
      intro hn
      exact hall (fun k hk => Classical.byContradiction (fun hh => hn ⟨k, hk, hh⟩))
    obtain ⟨x, h1, h2, h3, h4, h5, h6⟩ := h.found hc hk hne
    have hst := h.stat x (h.cur x h1).1
    have hoth : ∀ j, j < 24 → j ≠ k → found2 m c j = [] := by
      intro j hj hjk
      apply Classical.byContradiction
      intro hh
      obtain ⟨x', b1, b2, _⟩ := h.found hc hj hh
      have := h.one h1 b1
      subst this
      exact hjk (b2.symm.trans h2)
    rw [recs_one hne hk hoth]
    obtain ⟨y, z, a1, a2, a3, a4, a5⟩ := hst.ewr
    have hfit := recPr_fit hrok hk
    -- the two programs
    obtain ⟨s2, hs2⟩ : ∃ s2, s2 = m.dev.after c := ⟨_, rfl⟩
    have hs2ok : s2.Ok := by
      rw [hs2]
      exact fresh_ok (by have := hok.lines; exact this) (fun w => by split; exact img_lt hok _ _; omega)
    have hL2 : s2.L = 110 := by rw [hs2]; exact h.L
    have hex2 : s2.ex = 0 := by rw [hs2]; rfl
    rw [← hs2] at hcal0 hafx hfit hrok ⊢
    obtain ⟨l1, hl1⟩ : ∃ l1, l1 = [(6400, y), (6528, z)] := ⟨_, rfl⟩
    obtain ⟨l2, hl2⟩ : ∃ l2, l2 = [(256 * k, unusedW)] := ⟨_, rfl⟩
    have hpr : recPr (found2 m c k) k = Dv.prog l1 ++ Dv.prog l2 := by unfold recPr; rw [h6, a5, hl1, hl2]
    rw [hpr] at hfit ⊢
    have hru : s2.runs t (Dv.prog l1 ++ Dv.prog l2) = (s2.runs t (Dv.prog l1)).runs t (Dv.prog l2) := by unfold DSt.runs; rw [List.foldl_append]
    rw [hru]
    have f1 : ∀ i ∈ Dv.prog l1, i.Fit s2.L := fun i hi => hfit i (List.mem_append_left _ hi)
    have f2 : ∀ i ∈ Dv.prog l2, i.Fit s2.L := fun i hi => hfit i (List.mem_append_right _ hi)
    have v1 : ∀ i ∈ Dv.prog l1, i.val < 18446744073709551616 := fun i hi => by
      rcases prog_mem hi with ⟨p, hp, rfl⟩ | ⟨q, _, rfl⟩ | rfl
      · rw [hl1] at hp
        simp only [List.mem_cons, List.not_mem_nil, or_false] at hp
        rcases hp with rfl | rfl <;> (dsimp only; omega)
      · dsimp only; omega
      · dsimp only; omega
    have v2 : ∀ i ∈ Dv.prog l2, i.val < 18446744073709551616 := fun i hi => by
      rcases prog_mem hi with ⟨p, hp, rfl⟩ | ⟨q, _, rfl⟩ | rfl
      · rw [hl2] at hp
        simp only [List.mem_cons, List.not_mem_nil, or_false] at hp
        rw [hp]; dsimp only; unfold unusedW; omega
      · dsimp only; omega
      · dsimp only; omega
    have n1 : (Dv.prog l1).length ≤ 5 := by rw [prog_length]; have := plines_le l1; rw [hl1] at this ⊢; simp at this ⊢; omega
    have n2 : (Dv.prog l2).length ≤ 3 := by rw [prog_length]; have := plines_le l2; rw [hl2] at this ⊢; simp at this ⊢; omega
    have so1 : StOk l1 := ⟨fun p hp => by rw [hl1] at hp; simp only [List.mem_cons, List.not_mem_nil, or_false] at hp; rcases hp with rfl | rfl <;> (dsimp only), fun p hp q hq e => by
      rw [hl1] at hp hq
      simp only [List.mem_cons, List.not_mem_nil, or_false] at hp hq
      rcases hp with rfl | rfl <;> rcases hq with rfl | rfl
      · rfl
      · dsimp only at e; omega
      · dsimp only at e; omega
      · rfl⟩
    have so2 : StOk l2 := ⟨fun p hp => by rw [hl2] at hp; simp only [List.mem_cons, List.not_mem_nil, or_false] at hp; rw [hp]; dsimp only; omega, fun p hp q hq e => by
      rw [hl2] at hp hq
      simp only [List.mem_cons, List.not_mem_nil, or_false] at hp hq
      rw [hp, hq]⟩
    obtain ⟨s3, hs3⟩ : ∃ s3, s3 = s2.runs t (Dv.prog l1) := ⟨_, rfl⟩
    obtain ⟨q1, q2, q3⟩ := runs_calm (Dv.prog l1) (hcal0 t) f1
    have ok3 : s3.Ok := by rw [hs3]; exact runs_ok (Dv.prog l1) hs2ok (hcal0 t) f1 v1 (by omega)
    have tk1 : ∀ j, (s2.runs t ((Dv.prog l1).take j)).Ok := fun j => runs_ok _ hs2ok (hcal0 t) (fun i hi => f1 i (List.mem_of_mem_take hi)) (fun i hi => v1 i (List.mem_of_mem_take hi)) (by rw [List.length_take]; omega)
    have all1 := runs_all (hcal0 t) tk1 so1 f1
    rw [← hs3] at q1 q2 q3 all1 ⊢
    have f2' : ∀ i ∈ Dv.prog l2, i.Fit s3.L := by rw [q2]; exact f2
    have tk2 : ∀ j, (s3.runs t ((Dv.prog l2).take j)).Ok := fun j => runs_ok _ ok3 q1 (fun i hi => f2' i (List.mem_of_mem_take hi)) (fun i hi => v2 i (List.mem_of_mem_take hi)) (by rw [List.length_take]; omega)
    have all2 := runs_all q1 tk2 so2 f2'
    have keep1 : ∀ {w : Nat} {P : Nat → Prop}, w < 800 → s2.All w P → s3.All w P := fun {w P} hw hp => by
      rw [hs3]
      refine runs_keep (Dv.prog l1) (hcal0 t) tk1 f1 (fun i hi e1 e2 => ?_) hp
      rcases prog_mem hi with ⟨p, hp, rfl⟩ | ⟨q, _, rfl⟩ | rfl
      · rw [hl1] at hp
        simp only [List.mem_cons, List.not_mem_nil, or_false] at hp
        rcases hp with rfl | rfl <;> (dsimp only at e2; omega)
      · cases e1
      · cases e1
    have keep2 : ∀ {w : Nat} {P : Nat → Prop}, w ≠ 32 * k → s3.All w P → (s3.runs t (Dv.prog l2)).All w P := fun {w P} hw hp => by
      refine runs_keep (Dv.prog l2) q1 tk2 f2' (fun i hi e1 e2 => ?_) hp
      rcases prog_mem hi with ⟨p, hp, rfl⟩ | ⟨q, _, rfl⟩ | rfl
      · rw [hl2] at hp
        simp only [List.mem_cons, List.not_mem_nil, or_false] at hp
        subst hp
        dsimp only at e2
        omega
      · cases e1
      · cases e1
    have w800 := all1 (6400, y) (by rw [hl1]; simp)
    have w816 := all1 (6528, z) (by rw [hl1]; simp)
    have wk := all2 (256 * k, unusedW) (by rw [hl2]; simp)
    dsimp only at w800 w816 wk
    rw [show 256 * k / 8 = 32 * k by omega] at wk
    refine ⟨nw x, LI.start hst.lt.2 ?_ (fun w hw => ?_) (fun j hj => ?_) ?_, ?_⟩
    · have : (s3.runs t (Dv.prog l2)).L = s3.L := (runs_calm (Dv.prog l2) q1 f2').2.1
      rw [this, q2, hL2]
    · rcases hw with rfl | rfl
      · exact keep2 (by omega) (w800.imp (fun v hv => by rw [hv]; exact ⟨a1, a3⟩))
      · exact keep2 (by omega) (w816.imp (fun v hv => by rw [hv]; exact ⟨a2, a4⟩))
    · by_cases e : j = k
      · subst e; exact wk
      · refine keep2 (by omega) (keep1 (by omega) (hafx (by omega) ?_))
        rcases h.desc hc hj with ⟨_, hv⟩ | ⟨he, _⟩
        · rw [after_cur (by omega)] at hv; exact hv
        · have := he.n; rw [hoth j hj e] at this; simp at this
    · exact calm_runs (Dv.prog l2) (by rw [hs3]; exact calm_runs (Dv.prog l1) hcal0 f1) f2'
    · by_cases e4 : (m.op x).stage = 4
      · exact .inl (h.new x h1 e4)
      · exact .inr ⟨x, h1, by omega, (h.old x h1 (by omega) (by have := h.ld1 x h1 (by omega); omega)).symm, rfl⟩
end
end Go.Proofs.YtejlgnebofdijaaGreatDoor.Dv

namespace Go.Proofs.YtejlgnebofdijaaGreatDoor.Dv
open Go.RowKit
set_option linter.unusedVariables false

/-- What is left to do of operation c for the thread of operation i. -/
def rem (m : MS) (c i : Nat) : Nat := if (m.op c).stage = 0 then 170 + (2 - (m.op c).loaded) else (4 - (m.op c).stage) * 40 + (40 - (if (m.op i).tgt = some c ∧ (m.op i).inn = (m.op c).stage then (m.op i).next else 0))
def mu (m : MS) (i : Nat) : Nat := match m.cur with | none => 400 | some c => if c = i then rem m i i else 500 + rem m c i
theorem rem_le (m : MS) (c i : Nat) : rem m c i ≤ 200 := by
  unfold rem
  split
  · omega
  · omega
theorem enter_eq (T : Nat → Nat) (m : MS) (i : Nat) {s : Nat} (h : s ≤ 4) : m.enter T i s = m.set i { m.op i with stage := s, prog := Dv.prog ((m.op i).stores T s) } := if_pos h
theorem enter_dv (T : Nat → Nat) (m : MS) (i s : Nat) : (m.enter T i s).dev = m.dev := by
  unfold MS.enter
  split <;> rfl
theorem went_dev (T : Nat → Nat) (m : MS) (i c s : Nat) : (m.went T i c s).dev = m.dev := by
  unfold MS.went
  split
  · rfl
  · split
    · rw [enter_dv]; rfl
    · rfl
theorem mu_le (m : MS) (i : Nat) : mu m i ≤ 700 := by
  unfold mu
  split
  · omega
  · rename_i c _
    have h1 := rem_le m i i
    have h2 := rem_le m c i
    split <;> omega

section
variable {T od nw : Nat → Nat} {A N : Nat} {m : MS}
theorem LI.prog40 (h : LI T od nw A N m) {c : Nat} (hc : m.cur = some c) : (Dv.prog ((m.op c).stores T (m.op c).stage)).length ≤ 40 := by
  have hst := h.stat c (h.cur c hc).1
  have h18 := stores_len6 (T := T) (s := (m.op c).stage) (o := m.op c) (by rw [hst.len]; omega)
  have := plines_le ((m.op c).stores T (m.op c).stage)
  rw [prog_length]
  omega
theorem LI.adv_mu (h : LI T od nw A N m) (hr : Ready T N m) (hok : m.dev.Ok) {i c : Nat} (hi : i < N) (hc : m.cur = some c) :
    ((m.advance T i c).cur = none ∧ ((m.advance T i c).op c).done = true) ∨ ((m.advance T i c).cur = some c ∧ rem (m.advance T i c) c i < rem m c i) := by
  have hcN := (h.cur c hc).1
  have hst := h.stat c hcN
  by_cases hs0 : (m.op c).stage = 0
  · have hlt := hr.ld c hc hs0
    have hno : (m.op i).tgt ≠ some c := fun e => by have := h.tgt i hi c e; omega
    have hadv : m.advance T i c = m.load T c (m.op i).t := by unfold MS.advance; rw [if_pos hs0]
    have hrem : rem m c i = 170 + (2 - (m.op c).loaded) := by unfold rem; rw [if_pos hs0]
    rw [hadv, hrem]
    have hon : m.dev.on (m.op i).t true = m.dev := by unfold DSt.on; rw [(h.calm 0).off]; rfl
    obtain ⟨idx, hidx⟩ : ∃ idx, idx = (m.op c).ord.getD (m.op c).loaded 0 := ⟨_, rfl⟩
    obtain ⟨e, he⟩ : ∃ e, e = (m.op c).es.getD idx (0, 0, 0) := ⟨_, rfl⟩
    obtain ⟨w, hw⟩ : ∃ w, w = m.dev.cur (e.1 / 8) := ⟨_, rfl⟩
    have h1 : m.load T c (m.op i).t = if (m.dev.on (m.op i).t true).err (m.op i).t ≠ 0 then { m with dev := m.dev.on (m.op i).t true } else if w % 1099511627776 = e.2.1 then
      (if (m.op c).loaded + 1 = (m.op c).ord.length then (MS.set { m with dev := m.dev.on (m.op i).t true } c { m.op c with seen := (m.op c).seen.set idx w, loaded := (m.op c).loaded + 1 }).enter T c 1
        else MS.set { m with dev := m.dev.on (m.op i).t true } c { m.op c with seen := (m.op c).seen.set idx w, loaded := (m.op c).loaded + 1 })
      else MS.finish { m with dev := m.dev.on (m.op i).t true } c false := by rw [hw, he, hidx]; rfl
    rw [h1, hon, if_neg (fun hh => hh (h.calm _).err)]
    clear h1
    have hlen := hst.len
    split
    · obtain ⟨o, ho⟩ : ∃ o : OpS, o = { m.op c with seen := (m.op c).seen.set idx w, loaded := (m.op c).loaded + 1 } := ⟨_, rfl⟩
      have hm : ({ m with dev := m.dev } : MS) = m := rfl
      rw [hm, ← ho]
      have kt : ((m.set c o).op i).tgt = (m.op i).tgt := set_key (·.tgt) (by rw [ho]) i
      split
      · refine .inr ⟨?_, ?_⟩
        · rw [enter_eq T _ _ (by omega)]; exact hc
        · rw [enter_eq T _ _ (by omega)]
          obtain ⟨o2, ho2⟩ : ∃ o2 : OpS, o2 = { (m.set c o).op c with stage := 1, prog := Dv.prog (((m.set c o).op c).stores T 1) } := ⟨_, rfl⟩
          rw [← ho2]
          have kt2 : (((m.set c o).set c o2).op i).tgt = (m.op i).tgt := (set_key (·.tgt) (by rw [ho2]) i).trans kt
          have ks2 : (((m.set c o).set c o2).op c).stage = 1 := by rw [set_same, ho2]
          unfold rem
          rw [if_neg (show ¬ (((m.set c o).set c o2).op c).stage = 0 by omega), ks2, if_neg (fun hh => hno (by rw [← kt2]; exact hh.1))]
          omega
      · rename_i hl
        refine .inr ⟨hc, ?_⟩
        have ks : ((m.set c o).op c).stage = 0 := by rw [set_same, ho]; exact hs0
        have kl : ((m.set c o).op c).loaded = (m.op c).loaded + 1 := by rw [set_same, ho]
        unfold rem
        rw [if_pos ks, kl]
        omega
    · refine .inl ⟨rfl, ?_⟩
      show ((MS.set m c { m.op c with done := true, changed := false }).op c).done = true
      rw [set_same]
  · rw [advance_eq T m i c hs0]
    obtain ⟨s, hs⟩ : ∃ s, s = (m.op c).stage := ⟨_, rfl⟩
    have hs4 := (h.cur c hc).2.1
    have hp40 := h.prog40 hc
    obtain ⟨p, hp⟩ : ∃ p, p = if (m.op i).tgt = some c ∧ (m.op i).inn = (m.op c).stage then (m.op i).next else 0 := ⟨_, rfl⟩
    have hp2 : p < 40 := by
      rw [hp]
      split
      · rename_i hcond
        have := hr.nx i hi c hc hcond.1 hcond.2
        omega
      · omega
    have hrem : rem m c i = (4 - s) * 40 + (40 - p) := by unfold rem; rw [if_neg hs0, ← hp, hs]
    rw [hrem, ← hs]
    obtain ⟨m1, hm1⟩ : ∃ m1 : MS, m1 = m.aim i c := ⟨_, rfl⟩
    rw [← hm1]
    have h1 : m1.cur = some c ∧ (m1.op c).stage = s ∧ (m1.op i).tgt = some c ∧ (m1.op i).inn = s ∧ (m1.op i).next = p ∧ m1.dev = m.dev ∧ (∀ j, (m1.op j).prog = (m.op j).prog) := by
      rw [hm1]
      unfold MS.aim
      by_cases hcond : (m.op i).tgt = some c ∧ (m.op i).inn = (m.op c).stage
      · rw [if_pos hcond]
        rw [if_pos hcond] at hp
        exact ⟨hc, hs.symm, hcond.1, by rw [hs]; exact hcond.2, hp.symm, rfl, fun _ => rfl⟩
      · rw [if_neg hcond]
        rw [if_neg hcond] at hp
        obtain ⟨o, ho⟩ : ∃ o : OpS, o = { m.op i with tgt := some c, inn := (m.op c).stage, next := 0 } := ⟨_, rfl⟩
        rw [← ho]
        exact ⟨hc, (set_key (·.stage) (by rw [ho]) c).trans hs.symm, by rw [set_same, ho], by rw [set_same, ho, hs], by rw [set_same, ho, hp], rfl, set_key (·.prog) (by rw [ho])⟩
    obtain ⟨a1, a2, a3, a4, a5, a6, a7⟩ := h1
    obtain ⟨m2, hm2⟩ : ∃ m2 : MS, m2 = m1.did i c := ⟨_, rfl⟩
    rw [← hm2]
    have hop2 : m2.op = m1.op := by rw [hm2]; rfl
    have hc2 : m2.cur = some c := by rw [hm2]; exact a1
    unfold MS.went
    -- the thread has no error
    have herr : m2.dev.err (m2.op i).t = 0 := by
      obtain ⟨A', b1, _⟩ := h.advance hr hok hi hc
      have hh := (b1.calm (m2.op i).t).err
      rw [advance_eq T m i c hs0, ← hs, went_dev] at hh
      rw [hm2, hm1]
      rw [hm2, hm1] at hh
      exact hh
    rw [if_neg (fun hh => hh herr)]
    obtain ⟨o, ho⟩ : ∃ o : OpS, o = { m2.op i with next := (m2.op i).next + 1 } := ⟨_, rfl⟩
    rw [← ho]
    have kn : ((m2.set i o).op i).next = p + 1 := by rw [set_same, ho, hop2, a5]
    have kt : ((m2.set i o).op i).tgt = some c := by rw [set_same, ho, hop2, a3]
    have ki : ((m2.set i o).op i).inn = s := by rw [set_same, ho, hop2, a4]
    have ks : ((m2.set i o).op c).stage = s := by rw [set_key (·.stage) (by rw [ho]) c, hop2, a2]
    split
    · by_cases e4 : s = 4
      · refine .inl ⟨?_, ?_⟩
        · unfold MS.enter; rw [if_neg (by omega)]; rfl
        · unfold MS.enter
          rw [if_neg (by omega)]
          unfold MS.finish
          show ((MS.set _ c _).op c).done = true
          rw [set_same]
      · refine .inr ⟨?_, ?_⟩
        · rw [enter_eq T _ _ (by omega)]; exact hc2
        · rw [enter_eq T _ _ (by omega)]
          obtain ⟨o2, ho2⟩ : ∃ o2 : OpS, o2 = { (m2.set i o).op c with stage := s + 1, prog := Dv.prog (((m2.set i o).op c).stores T (s + 1)) } := ⟨_, rfl⟩
          rw [← ho2]
          have ki2 : (((m2.set i o).set c o2).op i).inn = s := (set_key (·.inn) (by rw [ho2]) i).trans ki
          have ks2 : (((m2.set i o).set c o2).op c).stage = s + 1 := by rw [set_same, ho2]
          unfold rem
          rw [if_neg (by omega), ks2, if_neg (fun hh => by have := hh.2; omega)]
          have : s = 1 ∨ s = 2 ∨ s = 3 := by omega
          rcases this with rfl | rfl | rfl <;> omega
    · refine .inr ⟨hc2, ?_⟩
      unfold rem
      rw [if_neg (by omega), ks, if_pos ⟨kt, ki⟩, kn]
      omega
/-- A step that does not end the operation brings it nearer to its end. -/
theorem LI.mu (h : LI T od nw A N m) (hr : Ready T N m) (hok : m.dev.Ok) {i : Nat} (hi : i < N) (he : (m.op i).ended = false) (hb : (m.step T i).2 = false) : Dv.mu (m.step T i).1 i < Dv.mu m i := by
  have hdn : (m.op i).done = false := by
    cases hd : (m.op i).done with
    | false => rfl
    | true =>
      unfold MS.step at hb
      rw [he, if_neg (by simp), if_neg (by simp [(h.calm (m.op i).t).err]), hd, if_pos rfl] at hb
      cases hb
  rw [step_eq T m i he (h.calm _).err hdn] at hb ⊢
  obtain ⟨c, hc⟩ : ∃ c, c = m.cur.getD i := ⟨_, rfl⟩
  rw [← hc] at hb ⊢
  obtain ⟨m1, hm1⟩ : ∃ m1 : MS, m1 = { m with cur := some c } := ⟨_, rfl⟩
  rw [← hm1] at hb ⊢
  have hI : LI T od nw A N m1 ∧ Ready T N m1 := by
    rw [hm1]
    cases hcu : m.cur with
    | none =>
      rw [hcu] at hc
      simp at hc
      rw [hc]
      exact h.take hi hcu hdn
    | some c' =>
      rw [hcu] at hc
      simp at hc
      rw [hc, ← hcu]
      exact ⟨h, hr⟩
  have hc1 : m1.cur = some c := by rw [hm1]
  have hmu : Dv.mu m i = 400 ∧ c = i ∨ m.cur = some c ∧ rem m1 c i = rem m c i := by
    cases hcu : m.cur with
    | none => rw [hcu] at hc; simp at hc; exact .inl ⟨by unfold Dv.mu; rw [hcu], hc⟩
    | some c' =>
      rw [hcu] at hc
      simp at hc
      subst hc
      exact .inr ⟨rfl, by rw [hm1]; rfl⟩
  obtain ⟨A', a1, _, _⟩ := hI.1.advance hI.2 (by rw [hm1]; exact hok) hi hc1
  have hmv := hI.1.adv_mu hI.2 (by rw [hm1]; exact hok) hi hc1
  obtain ⟨m2, hm2⟩ : ∃ m2, m2 = m1.advance T i c := ⟨_, rfl⟩
  rw [← hm2] at hb a1 hmv ⊢
  unfold MS.closing at hb ⊢
  rw [if_neg (fun hh => hh (a1.calm _).err)] at hb ⊢
  cases hd2 : (m2.op i).done with
  | true => rw [hd2, if_pos rfl] at hb; cases hb
  | false =>
    rw [if_neg (by simp)]
    rcases hmv with ⟨b1, b2⟩ | ⟨b1, b2⟩
    · have hci : c ≠ i := fun e => by rw [e, hd2] at b2; cases b2
      have e1 : Dv.mu m2 i = 400 := by unfold Dv.mu; rw [b1]
      rcases hmu with ⟨_, q⟩ | ⟨q, _⟩
      · exact absurd q hci
      · have e2 : Dv.mu m i = 500 + rem m c i := by unfold Dv.mu; rw [q]; exact if_neg hci
        dsimp only
        omega
    · by_cases hci : c = i
      · subst hci
        have e1 : Dv.mu m2 c = rem m2 c c := by unfold Dv.mu; rw [b1]; exact if_pos rfl
        have := rem_le m1 c c
        rcases hmu with ⟨q, _⟩ | ⟨q, q2⟩
        · dsimp only; omega
        · have e2 : Dv.mu m c = rem m c c := by unfold Dv.mu; rw [q]; exact if_pos rfl
          dsimp only; omega
      · have e1 : Dv.mu m2 i = 500 + rem m2 c i := by unfold Dv.mu; rw [b1]; exact if_neg hci
        rcases hmu with ⟨_, q⟩ | ⟨q, q2⟩
        · exact absurd q hci
        · have e2 : Dv.mu m i = 500 + rem m c i := by unfold Dv.mu; rw [q]; exact if_neg hci
          dsimp only; omega
end
end Go.Proofs.YtejlgnebofdijaaGreatDoor.Dv
