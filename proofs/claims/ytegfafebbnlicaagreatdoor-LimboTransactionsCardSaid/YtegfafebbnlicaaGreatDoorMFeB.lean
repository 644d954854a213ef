/-
  Fence in the evaluator's own state: its closed form, and what it comes to cell by cell.
  Fence is answered by its closed form: it is so in the world.
-/
import Derived.Test.YtegfafebbnlicaaGreatDoorMFeA
import Derived.Test.YtegfafebbnlicaaGreatDoorMEvH
namespace Go.Proofs.YtegfafebbnlicaaGreatDoor.Ev
open Go
set_option linter.unusedVariables false
set_option linter.unusedSimpArgs false

/-- A noted line: its number, the note, what is done, the stores that are left. -/
structure ON where
  n : Nat
  p : Nat
  dn : Nat
  l : List (Nat × Nat)

/-- Stores out of cells. -/
noncomputable def prL (c : Tr Value) (k : Nat) : Nat → Option (List (Nat × Nat)) :=
  Nat.rec (motive := fun _ => Nat → Option (List (Nat × Nat))) (fun _ => some [])
    (fun _ ih o => match c.get o, c.get (Nat.succ o) with
      | some (.int .u64 (.ofNat a)), some (.int .u64 (.ofNat v)) => match ih (Nat.succ (Nat.succ o)) with
        | some l => some ((a, v) :: l)
        | none => none
      | _, _ => none) k
theorem prL_succ (c : Tr Value) (k o : Nat) : prL c (k + 1) o = match c.get o, c.get (Nat.succ o) with
      | some (.int .u64 (.ofNat a)), some (.int .u64 (.ofNat v)) => match prL c k (Nat.succ (Nat.succ o)) with
        | some l => some ((a, v) :: l)
        | none => none
      | _, _ => none := rfl
theorem prL_spec (c : Tr Value) : ∀ (k o : Nat) (l : List (Nat × Nat)), prL c k o = some l → l.length = k ∧ ∀ i p, l[i]? = some p → c.get (o + 2 * i) = some (.int .u64 (.ofNat p.1)) ∧ c.get (o + 2 * i + 1) = some (.int .u64 (.ofNat p.2))
  | 0, o, l, h => by cases h; exact ⟨rfl, fun i p hp => by simp at hp⟩
  | k + 1, o, l, h => by
    rw [prL_succ] at h
    split at h
    case h_2 => cases h
    rename_i a v h1 h2
    split at h
    case h_2 => cases h
    rename_i l1 hl
    cases h
    obtain ⟨e1, e2⟩ := prL_spec c k _ _ hl
    refine ⟨by simp [e1], fun i p hp => ?_⟩
    cases i with
    | zero => simp at hp; subst hp; exact ⟨h1, h2⟩
    | succ i =>
      have := e2 i p (by simpa using hp)
      rw [show o.succ.succ + 2 * i = o + 2 * (i + 1) by simp only [Nat.succ_eq_add_one]; omega] at this
      exact this
/-- Stores within a line n, the device having N words. -/
noncomputable def okL (N n : Nat) (l : List (Nat × Nat)) : Bool :=
  List.rec (motive := fun _ => Bool) true (fun p _ ih => match Nat.beq (Nat.div p.1 64) n, Nat.ble (Nat.succ (Nat.div p.1 8)) N, Nat.ble (Nat.succ p.1) 18446744073709551616, Nat.ble (Nat.succ p.2) 18446744073709551616 with
    | true, true, true, true => ih
    | _, _, _, _ => false) l
theorem okL_cons (N n : Nat) (p : Nat × Nat) (l : List (Nat × Nat)) : okL N n (p :: l) = match Nat.beq (Nat.div p.1 64) n, Nat.ble (Nat.succ (Nat.div p.1 8)) N, Nat.ble (Nat.succ p.1) 18446744073709551616, Nat.ble (Nat.succ p.2) 18446744073709551616 with
    | true, true, true, true => okL N n l
    | _, _, _, _ => false := rfl
theorem okL_spec (N n : Nat) : ∀ l, okL N n l = true → ∀ p ∈ l, p.1 / 8 < N ∧ p.1 < 18446744073709551616 ∧ p.2 < 18446744073709551616 ∧ p.1 / 64 = n
  | [], _, p, hp => by simp at hp
  | q :: l, h, p, hp => by
    rw [okL_cons] at h
    split at h
    case h_2 => cases h
    rename_i h1 h2 h3 h4
    rcases List.mem_cons.1 hp with rfl | hp
    · exact ⟨ble_iff.1 h2, ble_iff.1 h3, ble_iff.1 h4, beq_iff.1 h1⟩
    · exact okL_spec N n l h p hp
noncomputable def setL (l : List (Nat × Nat)) : Tr Value → Tr Value :=
  List.rec (motive := fun _ => Tr Value → Tr Value) (fun t => t) (fun p _ ih t => ih (t.set (Nat.div p.1 8) (.int .u64 (.ofNat p.2)))) l
noncomputable def perO (ns : List ON) : Tr Value → Tr Value :=
  List.rec (motive := fun _ => Tr Value → Tr Value) (fun t => t) (fun o _ ih t => match Nat.ble (Nat.succ o.dn) o.p with
    | true => ih (setL o.l t)
    | false => ih t) ns
noncomputable def linO (ns : List ON) : Tr Value → Tr Value :=
  List.rec (motive := fun _ => Tr Value → Tr Value) (fun t => t) (fun o _ ih t => match Nat.ble (Nat.succ o.dn) o.p with
    | true => ih ((t.set (Nat.mul o.n 2) (.int .u64 (.ofNat o.p))).set (Nat.succ (Nat.mul o.n 2)) (.slice none 0 0))
    | false => ih t) ns

/-! Cell by cell. -/
def perV (ns : List ON) (x : Nat) (v : Value) : Value :=
  match ns with
  | [] => v
  | o :: ns => perV ns x (if o.dn < o.p then Fe.aft v x o.l else v)
def linV (ns : List ON) (x : Nat) (v : Value) : Value :=
  match ns with
  | [] => v
  | o :: ns => linV ns x (if o.dn < o.p then (if x = o.n * 2 then Fe.u64 o.p else if x = o.n * 2 + 1 then .slice none 0 0 else v) else v)
def TrR (ρ : Ren) (N : Nat) (t : Tr Value) (f : Nat → Value) : Prop := ∀ x, x < N → ∃ v, t.get x = some v ∧ VR ρ v (f x)
theorem TrR.set {ρ : Ren} {N : Nat} {t : Tr Value} {f g : Nat → Value} (h : TrR ρ N t f) (i : Nat) {v v' : Value} (hv : VR ρ v v') (hg : ∀ x, g x = if x = i then v' else f x) : TrR ρ N (t.set i v) g := by
  intro x hx
  rw [hg x, Tr.get_set]
  by_cases e : x = i
  · rw [if_pos e, if_pos e]; exact ⟨v, rfl, hv⟩
  · rw [if_neg e, if_neg e]; exact h x hx
theorem setL_cons (p : Nat × Nat) (l : List (Nat × Nat)) (t : Tr Value) : setL (p :: l) t = setL l (t.set (p.1 / 8) (.int .u64 (.ofNat p.2))) := rfl
theorem setL_R {ρ : Ren} {N : Nat} : ∀ (l : List (Nat × Nat)) (t : Tr Value) (f : Nat → Value), TrR ρ N t f → TrR ρ N (setL l t) (fun x => Fe.aft (f x) x l)
  | [], t, f, h => h
  | p :: l, t, f, h => by
    rw [setL_cons]
    have h2 : TrR ρ N (t.set (p.1 / 8) (.int .u64 (.ofNat p.2))) (fun x => if p.1 / 8 = x then Fe.u64 p.2 else f x) := by
      refine h.set (v' := Fe.u64 p.2) (p.1 / 8) (.int _ _) (fun x => ?_)
      by_cases e : x = p.1 / 8
      · rw [if_pos e, if_pos e.symm]
      · rw [if_neg e, if_neg (fun e' => e e'.symm)]
    exact setL_R l _ _ h2
theorem perO_cons (o : ON) (ns : List ON) (t : Tr Value) : perO (o :: ns) t = match Nat.ble (Nat.succ o.dn) o.p with
    | true => perO ns (setL o.l t)
    | false => perO ns t := rfl
theorem linO_cons (o : ON) (ns : List ON) (t : Tr Value) : linO (o :: ns) t = match Nat.ble (Nat.succ o.dn) o.p with
    | true => linO ns ((t.set (o.n * 2) (.int .u64 (.ofNat o.p))).set (o.n * 2 + 1) (.slice none 0 0))
    | false => linO ns t := rfl
theorem ble_false {a b : Nat} (h : Nat.ble (Nat.succ a) b = false) : ¬ a < b := fun h' => by
  rw [ble_iff.2 (show Nat.succ a ≤ b from h')] at h; cases h
theorem perO_R {ρ : Ren} {N : Nat} : ∀ (ns : List ON) (t : Tr Value) (f : Nat → Value), TrR ρ N t f → TrR ρ N (perO ns t) (fun x => perV ns x (f x))
  | [], t, f, h => h
  | o :: ns, t, f, h => by
    rw [perO_cons]
    unfold perV
    split
    · rename_i hb
      have hlt : o.dn < o.p := ble_iff.1 hb
      simp only [if_pos hlt]
      exact perO_R ns _ _ (setL_R o.l t f h)
    · rename_i hb
      simp only [if_neg (ble_false hb)]
      exact perO_R ns _ _ h
theorem linO_R {ρ : Ren} {N : Nat} : ∀ (ns : List ON) (t : Tr Value) (f : Nat → Value), TrR ρ N t f → TrR ρ N (linO ns t) (fun x => linV ns x (f x))
  | [], t, f, h => h
  | o :: ns, t, f, h => by
    rw [linO_cons]
    unfold linV
    split
    · rename_i hb
      have hlt : o.dn < o.p := ble_iff.1 hb
      simp only [if_pos hlt]
      have h1 : TrR ρ N (t.set (o.n * 2) (.int .u64 (.ofNat o.p))) (fun x => if x = o.n * 2 then Fe.u64 o.p else f x) := h.set _ (.int _ _) (fun x => rfl)
      have h2 : TrR ρ N ((t.set (o.n * 2) (.int .u64 (.ofNat o.p))).set (o.n * 2 + 1) (.slice none 0 0)) (fun x => if x = o.n * 2 then Fe.u64 o.p else if x = o.n * 2 + 1 then .slice none 0 0 else f x) := by
        refine h1.set _ .nils (fun x => ?_)
        by_cases e : x = o.n * 2 + 1
        · rw [if_neg (by omega), if_pos e, if_pos e]
        · simp only [if_neg e]
      exact linO_R ns _ _ h2
    · rename_i hb
      simp only [if_neg (ble_false hb)]
      exact linO_R ns _ _ h

/-- The notes as the world's contract asks for them. -/
def mkNE (fl : Nat → Value) (o : ON) : Fe.NE :=
  match fl (o.n * 2 + 1) with
  | .slice (some a) _ cap => ⟨o.p, o.dn, o.l, a.block, a.off, cap⟩
  | _ => ⟨o.p, o.dn, o.l, 0, 0, 0⟩
theorem mkNE_spec (fl : Nat → Value) (o : ON) : (mkNE fl o).p = o.p ∧ (mkNE fl o).dn = o.dn ∧ (mkNE fl o).l = o.l := by
  unfold mkNE; split <;> exact ⟨rfl, rfl, rfl⟩
def ntOf (fl : Nat → Value) (ns : List ON) (n : Nat) : Option Fe.NE := (ns.find? fun o => o.n == n).map (mkNE fl)
theorem ntOf_some {fl : Nat → Value} {ns : List ON} {n : Nat} {e : Fe.NE} (h : ntOf fl ns n = some e) : ∃ o ∈ ns, o.n = n ∧ e = mkNE fl o := by
  unfold ntOf at h
  rw [Option.map_eq_some_iff] at h
  obtain ⟨o, h1, h2⟩ := h
  exact ⟨o, List.mem_of_find?_eq_some h1, by simpa using List.find?_some h1, h2.symm⟩
theorem ntOf_isSome {fl : Nat → Value} {ns : List ON} {o : ON} (h : o ∈ ns) : (ntOf fl ns o.n).isSome := by
  unfold ntOf
  rw [Option.isSome_map]
  exact List.find?_isSome.2 ⟨o, h, by simp⟩

theorem perV_other {x : Nat} : ∀ (ns : List ON) (v : Value), (∀ o ∈ ns, ∀ p ∈ o.l, p.1 / 64 = o.n) → (∀ o ∈ ns, o.n ≠ x / 8) → perV ns x v = v
  | [], v, _, _ => rfl
  | o :: ns, v, hl, hn => by
    unfold perV
    have h0 : Fe.aft v x o.l = v := Fe.aft_other (fun p hp hpx => hn o (by simp) (by rw [← hl o (by simp) p hp]; omega))
    rw [h0, ite_self]
    exact perV_other ns v (fun o ho => hl o (by simp [ho])) (fun o ho => hn o (by simp [ho]))
theorem linV_other {x : Nat} : ∀ (ns : List ON) (v : Value), (∀ o ∈ ns, o.n ≠ x / 2) → linV ns x v = v
  | [], v, _ => rfl
  | o :: ns, v, hn => by
    unfold linV
    have h0 := hn o (by simp)
    rw [if_neg (show ¬ x = o.n * 2 by omega), if_neg (show ¬ x = o.n * 2 + 1 by omega), ite_self]
    exact linV_other ns v (fun o ho => hn o (by simp [ho]))
theorem perV_eq (fl f : Nat → Value) (x : Nat) : ∀ (ns : List ON), (∀ o ∈ ns, ∀ p ∈ o.l, p.1 / 64 = o.n) → (∀ o ∈ ns, ¬ o.dn < o.p → o.l = []) → (ns.map ON.n).Nodup → perV ns x (f x) = Fe.fper (ntOf fl ns) (fun _ => false) f x
  | [], _, _, _ => rfl
  | o :: ns, hl, hi, hd => by
    have hd' := List.nodup_cons.1 hd
    unfold perV Fe.fper ntOf
    by_cases e : o.n = x / 8
    · rw [List.find?_cons_of_pos (by simpa using e)]
      simp only [Option.map_some, (mkNE_spec fl o).2.2, Bool.false_eq_true, if_false]
      have h0 : (if o.dn < o.p then Fe.aft (f x) x o.l else f x) = Fe.aft (f x) x o.l := by
        by_cases hlt : o.dn < o.p
        · rw [if_pos hlt]
        · rw [if_neg hlt, hi o (by simp) hlt]; rfl
      rw [h0]
      refine perV_other ns _ (fun o ho => hl o (by simp [ho])) (fun q hq hqx => hd'.1 ?_)
      rw [show o.n = q.n by rw [e, hqx]]
      exact List.mem_map.2 ⟨q, hq, rfl⟩
    · rw [List.find?_cons_of_neg (by simpa using e)]
      have h0 : Fe.aft (f x) x o.l = f x := Fe.aft_other (fun p hp hpx => e (by rw [← hl o (by simp) p hp]; omega))
      rw [h0, ite_self]
      exact perV_eq fl f x ns (fun o ho => hl o (by simp [ho])) (fun o ho => hi o (by simp [ho])) hd'.2
theorem linV_eq (fl : Nat → Value) (x : Nat) : ∀ (ns : List ON), (ns.map ON.n).Nodup → linV ns x (fl x) = Fe.flin (ntOf fl ns) (fun _ => false) fl x
  | [], _ => rfl
  | o :: ns, hd => by
    have hd' := List.nodup_cons.1 hd
    unfold linV Fe.flin ntOf
    by_cases e : o.n = x / 2
    · rw [List.find?_cons_of_pos (by simpa using e)]
      simp only [Option.map_some, (mkNE_spec fl o).1, (mkNE_spec fl o).2.1, Bool.false_eq_true, if_false]
      rw [linV_other ns _ (fun q hq hqx => hd'.1 (by rw [show o.n = q.n by rw [e, hqx]]; exact List.mem_map.2 ⟨q, hq, rfl⟩))]
      by_cases hlt : o.dn < o.p
      · rw [if_pos hlt, if_neg (Nat.not_le.2 hlt)]; unfold Fe.linAft; rw [e]
      · rw [if_neg hlt, if_pos (Nat.le_of_not_lt hlt)]
    · rw [List.find?_cons_of_neg (by simpa using e)]
      rw [if_neg (show ¬ x = o.n * 2 by omega), if_neg (show ¬ x = o.n * 2 + 1 by omega), ite_self]
      exact linV_eq fl x ns hd'.2

/-! The notes out of the map. -/
noncomputable def noteO (st : St) (pb lb N L : Nat) (lin : Tr Value) (e : MapEntry) : Option ON :=
  match e.key, e.val with
  | .int .i64 (.ofNat n), .int .u64 (.ofNat p) => match lin.get (Nat.mul n 2), Nat.ble (Nat.succ n) L, Nat.ble p 1000000 with
    | some (.int .u64 (.ofNat dn)), true, true => match Nat.ble dn 1000000, Nat.ble (Nat.succ dn) p with
      | true, false => some ⟨n, p, dn, []⟩
      | true, true => match lin.get (Nat.succ (Nat.mul n 2)) with
        | some (.slice (some ⟨hb, ho, z⟩) len cap) => match Nat.beq (Nat.add dn len) p, Nat.ble len cap, Nat.beq hb pb, Nat.beq hb lb, st.h.get hb with
          | true, true, false, false, some (.cells _ hn _ hc) => match Nat.ble (Nat.add ho (Nat.mul 2 len)) hn, prL hc len ho with
            | true, some l => match okL N n l with
              | true => some ⟨n, p, dn, l⟩
              | false => none
            | _, _ => none
          | _, _, _, _, _ => none
        | _ => none
      | _, _ => none
    | _, _, _ => none
  | _, _ => none
/-- What a note out of the map says. -/
structure NoteOk (st : St) (pb lb N L : Nat) (lin : Tr Value) (e : MapEntry) (o : ON) : Prop where
  key : e.key = .int .i64 (.ofNat o.n)
  val : e.val = .int .u64 (.ofNat o.p)
  lt : o.n < L
  p : o.p ≤ 1000000
  dn : o.dn ≤ 1000000
  done : lin.get (o.n * 2) = some (.int .u64 (.ofNat o.dn))
  idle : ¬ o.dn < o.p → o.l = []
  line : ∀ p ∈ o.l, p.1 / 8 < N ∧ p.1 < 18446744073709551616 ∧ p.2 < 18446744073709551616 ∧ p.1 / 64 = o.n
  full : o.dn < o.p → o.dn + o.l.length = o.p ∧ ∃ hb ho z cap t hn u hc, lin.get (o.n * 2 + 1) = some (.slice (some ⟨hb, ho, z⟩) o.l.length cap) ∧ o.l.length ≤ cap ∧ hb ≠ pb ∧ hb ≠ lb ∧ st.h.get hb = some (.cells t hn u hc) ∧ ho + 2 * o.l.length ≤ hn ∧
    ∀ i p, o.l[i]? = some p → hc.get (ho + 2 * i) = some (.int .u64 (.ofNat p.1)) ∧ hc.get (ho + 2 * i + 1) = some (.int .u64 (.ofNat p.2))
theorem beq_ne {a b : Nat} (h : Nat.beq a b = false) : a ≠ b := fun e => by subst e; rw [Nat.beq_refl] at h; cases h
theorem noteO_spec {st : St} {pb lb N L : Nat} {lin : Tr Value} {e : MapEntry} {o : ON} (h : noteO st pb lb N L lin e = some o) : NoteOk st pb lb N L lin e o := by
  unfold noteO at h
  split at h
  case h_2 => cases h
  rename_i n p hk hv
  split at h
  case h_2 => cases h
  rename_i dn h1 h2 h3
  split at h
  · rename_i h4 h5
    cases h
    exact { key := hk, val := hv, lt := ble_iff.1 h2, p := ble_iff.1 h3, dn := ble_iff.1 h4, done := h1, idle := fun _ => rfl, line := fun p hp => by simp at hp, full := fun hlt => absurd hlt (ble_false h5) }
  · rename_i h4 h5
    split at h
    case h_2 => cases h
    rename_i hb ho z len cap h6
    split at h
    case h_2 => cases h
    rename_i t hn u hc h7 h8 h9 h10 h11
    split at h
    case h_2 => cases h
    rename_i l h12 h13
    split at h
    case h_2 => cases h
    rename_i h14
    cases h
    obtain ⟨e1, e2⟩ := prL_spec _ _ _ _ h13
    refine { key := hk, val := hv, lt := ble_iff.1 h2, p := ble_iff.1 h3, dn := ble_iff.1 h4, done := h1, idle := fun hlt => absurd (ble_iff.1 h5) hlt, line := okL_spec _ _ _ h14, full := fun _ => ⟨?_, hb, ho, z, cap, t, hn, u, hc, ?_, ?_, beq_ne h9, beq_ne h10, h11, ?_, e2⟩ }
    · show dn + l.length = p
      rw [e1]; exact beq_iff.1 h7
    · show lin.get _ = some (.slice _ l.length cap)
      rw [e1]; exact h6
    · rw [e1]; exact ble_iff.1 h8
    · rw [e1]; exact ble_iff.1 h12
  · cases h
noncomputable def notesO (st : St) (pb lb N L : Nat) (lin : Tr Value) (es : List MapEntry) : Option (List ON) :=
  List.rec (motive := fun _ => Option (List ON)) (some []) (fun e _ ih => match noteO st pb lb N L lin e with
    | some o => match ih with
      | some l => some (o :: l)
      | none => none
    | none => none) es
/-- Lists side by side. -/
inductive All2 {α β : Type} (Q : α → β → Prop) : List α → List β → Prop
  | nil : All2 Q [] []
  | cons (a : α) (b : β) (l : List α) (m : List β) (h : Q a b) (hl : All2 Q l m) : All2 Q (a :: l) (b :: m)
theorem All2.left {α β : Type} {Q : α → β → Prop} {l : List α} {m : List β} (h : All2 Q l m) : ∀ a ∈ l, ∃ b ∈ m, Q a b := by
  induction h with
  | nil => intro a h; simp at h
  | cons a b l m h hl ih =>
    intro x hx
    rcases List.mem_cons.1 hx with rfl | hx
    · exact ⟨b, by simp, h⟩
    · obtain ⟨y, hy, hq⟩ := ih x hx; exact ⟨y, by simp [hy], hq⟩
theorem All2.right {α β : Type} {Q : α → β → Prop} {l : List α} {m : List β} (h : All2 Q l m) : ∀ b ∈ m, ∃ a ∈ l, Q a b := by
  induction h with
  | nil => intro a h; simp at h
  | cons a b l m h hl ih =>
    intro x hx
    rcases List.mem_cons.1 hx with rfl | hx
    · exact ⟨a, by simp, h⟩
    · obtain ⟨y, hy, hq⟩ := ih x hx; exact ⟨y, by simp [hy], hq⟩
theorem notesO_spec {st : St} {pb lb N L : Nat} {lin : Tr Value} : ∀ (es : List MapEntry) (ns : List ON), notesO st pb lb N L lin es = some ns → All2 (NoteOk st pb lb N L lin) es ns
  | [], ns, h => by cases h; exact .nil
  | e :: es, ns, h => by
    have h : (match noteO st pb lb N L lin e with
    | some o => match notesO st pb lb N L lin es with
      | some l => some (o :: l)
      | none => none
    | none => none) = some ns := h
    split at h
    case h_2 => cases h
    rename_i o ho
    split at h
    case h_2 => cases h
    rename_i l hl
    cases h
    exact .cons _ _ _ _ (noteO_spec ho) (notesO_spec es l hl)

/-- Are the numbers apart? -/
noncomputable def apartB (l : List Nat) : Bool := List.rec (motive := fun _ => Bool) true (fun x l ih => match notIn l x with
  | true => ih
  | false => false) l
theorem notIn_mem2 : ∀ (l : List Nat) (n : Nat), notIn l n = true → n ∉ l
  | [], n, _ => by simp
  | y :: l, n, h => by
    rw [notIn_cons] at h
    split at h
    case h_1 => cases h
    rename_i hb
    simp only [List.mem_cons, not_or]
    exact ⟨fun e => beq_ne hb e.symm, notIn_mem2 l n h⟩
theorem apartB_nodup : ∀ (l : List Nat), apartB l = true → l.Nodup
  | [], _ => by simp
  | x :: l, h => by
    have h : (match notIn l x with
  | true => apartB l
  | false => false) = true := h
    split at h
    case h_2 => cases h
    rename_i hb
    exact List.nodup_cons.2 ⟨notIn_mem2 l x hb, apartB_nodup l h⟩
noncomputable def bornL (es : List MapEntry) : List Nat := List.rec (motive := fun _ => List Nat) [] (fun e _ ih => e.born :: ih) es
noncomputable def lineL (ns : List ON) : List Nat := List.rec (motive := fun _ => List Nat) [] (fun e _ ih => e.n :: ih) ns
theorem bornL_eq : ∀ es : List MapEntry, bornL es = es.map (·.born)
  | [] => rfl
  | e :: es => by show e.born :: bornL es = _; rw [bornL_eq es]; rfl
theorem lineL_eq : ∀ ns : List ON, lineL ns = ns.map ON.n
  | [] => rfl
  | e :: es => by show e.n :: lineL es = _; rw [lineL_eq es]; rfl
noncomputable def belowB (cl : Nat) (l : List Nat) : Bool := List.rec (motive := fun _ => Bool) true (fun x _ ih => match Nat.ble (Nat.succ x) cl with
  | true => ih
  | false => false) l
theorem belowB_spec (cl : Nat) : ∀ l : List Nat, belowB cl l = true → ∀ x ∈ l, x < cl
  | [], _, x, hx => by simp at hx
  | y :: l, h, x, hx => by
    have h : (match Nat.ble (Nat.succ y) cl with
  | true => belowB cl l
  | false => false) = true := h
    split at h
    case h_2 => cases h
    rename_i hb
    rcases List.mem_cons.1 hx with rfl | hx
    · exact ble_iff.1 hb
    · exact belowB_spec cl l h x hx

/-- Fence behind the count. -/
noncomputable def fenceO (t : Nat) (st : St) : Option St :=
  match st.load t 0 1, st.load t 3 1 with
  | some [.pointer (some ⟨d, 0, none⟩)], some [.map (some m)] => match st.load d 0 1, st.load d 2 1 with
    | some [.slice (some ⟨pb, 0, none⟩) N _], some [.slice (some ⟨lb, 0, none⟩) L _] => match st.h.get pb, st.h.get lb, st.h.get m with
      | some (.cells tp np false per), some (.cells tl nl false lin), some (.map es cl) =>
        match Nat.beq tp 29, Nat.beq tl 394, Nat.beq np N, Nat.beq nl (Nat.mul 2 L), Nat.ble L 100000, Nat.beq pb lb with
        | true, true, true, true, true, false => match Nat.beq t pb, Nat.beq t lb, Nat.beq d pb, Nat.beq d lb with
          | false, false, false, false => match notesO st pb lb N L lin es with
            | some ns => match apartB (lineL ns), apartB (bornL es), belowB cl (bornL es), Nat.ble es.length 65536 with
              | true, true, true, true => some ⟨((st.h.set pb (.cells tp np false (perO ns per))).set lb (.cells tl nl false (linO ns lin))).set m (.map [] cl), st.nx⟩
              | _, _, _, _ => none
            | none => none
          | _, _, _, _ => none
        | _, _, _, _, _, _ => none
      | _, _, _ => none
    | _, _ => none
  | _, _ => none
noncomputable def fenceH (call : Call1) (args : List Value) (st : St) : Option (Value × St) :=
  match args with
  | [.pointer (some ⟨t, 0, none⟩)] => match st.load t 0 1 with
    | some [.pointer (some ⟨_, 0, none⟩)] => match call (.fn 199) [.pointer (some ⟨t, 0, none⟩), .bool true] st with
      | some (.bool true, st1) => match fenceO t st1 with
        | some st2 => some (.tuple #[], st2)
        | none => none
      | some (.bool false, st1) => some (.tuple #[], st1)
      | _ => none
    | _ => none
  | _ => none
end Go.Proofs.YtegfafebbnlicaaGreatDoor.Ev

namespace Go.Proofs.YtegfafebbnlicaaGreatDoor.Ev
open Go
set_option linter.unusedVariables false
set_option linter.unusedSimpArgs false

theorem ER.ints {ρ : Ren} {l m : List MapEntry} (h : ER ρ l m) (hi : ∀ e ∈ l, isIB e.val = true) : m = l := by
  induction h with
  | nil => rfl
  | cons k v v' n l m hk hv _ ih =>
    have h1 := VR.ib hv (hi _ List.mem_cons_self)
    have h2 := ih (fun e he => hi e (List.mem_cons_of_mem _ he))
    rw [h1, h2]

/-- Some live blocks are turned, no block is new. -/
theorem R.change {G : Nat} {ρ : Ren} {st st' : St} {w w' : World} (hR : R G ρ st w) (hnx : st'.nx = st.nx) (hsz : w.heap.size ≤ w'.heap.size) (hos : w'.os = w.os) (htp : w'.tape = w.tape) (hout : w'.output = w.output)
    (hl : ∀ b o', st'.h.get b = some o' → ∃ o c x, st.h.get b = some o ∧ ρ b = some c ∧ w'.heap[c]? = some x ∧ ObjR ρ o' x ∧ objN x = ρ.sz c)
    (hf : ∀ c x, w.heap[c]? = some x → (∀ b o, st.h.get b = some o → ρ b ≠ some c) → w'.heap[c]? = some x) : R G ρ st' w' ∧ Went ρ st w ρ st' w' := by
  refine ⟨⟨?_, ?_, ?_, hR.glob⟩, ⟨Ren.le_refl _, Nat.le_of_eq hnx.symm, hsz, hf, ?_, ?_, hos, htp, hout⟩⟩
  · intro b o' hb
    obtain ⟨o, c, x, h1, h2, h3⟩ := hl b o' hb
    exact ⟨c, x, h2, h3⟩
  · intro b b' o o' c hb hb' hc hc'
    obtain ⟨q, _, _, h1, _⟩ := hl b o hb
    obtain ⟨q', _, _, h1', _⟩ := hl b' o' hb'
    exact hR.inj b b' q q' c h1 h1' hc hc'
  · intro b c hc
    exact ⟨by rw [hnx]; exact (hR.dom b c hc).1, Nat.lt_of_lt_of_le (hR.dom b c hc).2 hsz⟩
  · intro b o c hb hc
    obtain ⟨q, _, _, h1, _⟩ := hl b o hb
    exact .inl ⟨b, q, h1, hc⟩
  · intro b c h1 h2; rw [h1] at h2; cases h2

theorem loadOne {ρ : Ren} {st : St} {w : World} {G : Nat} (hR : R G ρ st w) {b o : Nat} {v : Value} (h : st.load b o 1 = some [v]) : ∃ g v', ρ b = some g ∧ w.cell? ⟨g, o, none⟩ = some v' ∧ VR ρ v v' := by
  obtain ⟨_, g, arr, t, fr, hρ, hw, hs, h2⟩ := hR.load_cells h
  obtain ⟨v', h3, h4⟩ := h2 0 v rfl
  exact ⟨g, v', hρ, by rw [cell_of hw]; exact h3, h4⟩

theorem All2.apart {st : St} {pb lb N L : Nat} {lin : Tr Value} {es : List MapEntry} {ns : List ON} (hall : All2 (NoteOk st pb lb N L lin) es ns) (hnd : (ns.map ON.n).Nodup) : es.Pairwise (fun x y => x.key ≠ y.key) := by
  induction hall with
  | nil => exact List.Pairwise.nil
  | cons a b l m h hl ih =>
    have hd2 := List.nodup_cons.1 hnd
    refine List.pairwise_cons.2 ⟨fun y hy hk => hd2.1 ?_, ih hd2.2⟩
    obtain ⟨o, ho, hok⟩ := hl.left y hy
    rw [h.key, hok.key] at hk
    injection hk with _ hk
    injection hk with hk
    rw [hk]; exact List.mem_map.2 ⟨o, ho, rfl⟩
theorem wf_i64 {n L : Nat} (h : n < L) (hL : L ≤ 100000) : (Lit.int .i64 (n : Int)).wf = true := by
  simp [Lit.wf, IntKind.min, IntKind.max, IntKind.bits, IntKind.signed]; omega
theorem wf_u64 {n : Nat} (h : n ≤ 1000000) : (Lit.int .u64 (n : Int)).wf = true := by
  simp [Lit.wf, IntKind.min, IntKind.max, IntKind.bits, IntKind.signed]; omega

open Go.WideElems (Fit rd rg pl rd_val rd_key rg_of rd_mk) in
open Go.WideShapes (atKey_sorted) in
set_option maxHeartbeats 1000000 in
theorem fenceO_sound {t T : Nat} {ρ : Ren} {st st' : St} {w : World} (h : fenceO t st = some st') (hR : R Gn ρ st w) (hT : ρ t = some T) :
    ∃ D pb lb m N wc L lc nb f fl nt DD, Fe.FRdy w T D pb lb m N wc L lc nb f fl nt DD ∧ ∀ w2, Fe.FDone w pb lb m N L f fl nt w2 → R Gn ρ st' w2 ∧ Went ρ st w ρ st' w2 := by
  unfold fenceO at h
  split at h
  case h_2 => cases h
  rename_i d m hl0 hl3
  split at h
  case h_2 => cases h
  rename_i pb N wc lb L lc hd0 hd2
  split at h
  case h_2 => cases h
  rename_i tp np per tl nl lin es cl hpb hlb hm
  split at h
  case h_2 => cases h
  rename_i k1 k2 k3 k4 k5 k6
  split at h
  case h_2 => cases h
  rename_i k7 k8 k9 k10
  split at h
  case h_2 => cases h
  rename_i ns hns
  split at h
  case h_2 => cases h
  rename_i k11 k12 k13 k14
  cases h
  -- the blocks
  obtain ⟨T', v0, hT', hc0, hv0⟩ := loadOne hR hl0
  rw [hT] at hT'; cases hT'
  obtain ⟨T', v3, hT', hc3, hv3⟩ := loadOne hR hl3
  rw [hT] at hT'; cases hT'
  cases hv0 with
  | ptr _ D _ hD =>
  cases hv3 with
  | map _ M hM =>
  obtain ⟨D', u0, hD', hu0, hv0⟩ := loadOne hR hd0
  rw [hD] at hD'; cases hD'
  obtain ⟨D', u2, hD', hu2, hv2⟩ := loadOne hR hd2
  rw [hD] at hD'; cases hD'
  cases hv0 with
  | slc _ PB _ _ _ hPB =>
  cases hv2 with
  | slc _ LB _ _ _ hLB =>
  obtain ⟨PB', parr, pfr, hPB', hpw, hpfz, hps, hpu, hpc, hpN⟩ := hR.cells hpb
  rw [hPB] at hPB'; cases hPB'
  obtain ⟨LB', larr, lfr, hLB', hlw, hlfz, hls, hlu, hlc, hlN⟩ := hR.cells hlb
  rw [hLB] at hLB'; cases hLB'
  obtain ⟨M', ents, hM', hmw, hme, hmN⟩ := hR.map hm
  rw [hM] at hM'; cases hM'
  obtain ⟨hpsz, rfl⟩ := hpu rfl
  obtain ⟨hlsz, rfl⟩ := hlu rfl
  have e1 := beq_iff.1 k1; have e2 := beq_iff.1 k2; have e3 := beq_iff.1 k3; have e4 := beq_iff.1 k4
  have e5 := ble_iff.1 k5; have e6 := beq_ne k6; have e7 := beq_ne k7; have e8 := beq_ne k8; have e9 := beq_ne k9; have e10 := beq_ne k10
  have e4 : nl = 2 * L := e4
  subst e1; subst e2; subst e3; subst e4
  have hall := notesO_spec es ns hns
  have hents : ents.toList = es := hme.ints (fun e he => by
    obtain ⟨o, _, ho⟩ := hall.left e he
    rw [ho.val]; rfl)
  have hnd : (ns.map ON.n).Nodup := by rw [← lineL_eq]; exact apartB_nodup _ k11
  have hbn : (es.map (·.born)).Nodup := by rw [← bornL_eq]; exact apartB_nodup _ k12
  have hbl : ∀ e ∈ es, e.born < cl := fun e he => belowB_spec _ _ k13 _ (by rw [bornL_eq]; exact List.mem_map.2 ⟨e, he, rfl⟩)
  have hkn : es.Pairwise (fun x y => x.key ≠ y.key) := hall.apart hnd
  have hstamp : MapKept.Stamped ents cl := by
    rw [MapKept.stamped_iff, hents]
    exact ⟨hbl, hbn, hkn⟩
  have apart : ∀ {b b' c c' : Nat} {o o' : EObj}, st.h.get b = some o → st.h.get b' = some o' → ρ b = some c → ρ b' = some c' → b ≠ b' → c ≠ c' := by
    intro b b' c c' o o' h1 h2 h3 h4 hne hcc
    subst hcc
    exact hne (hR.inj b b' o o' c h1 h2 h3 h4)
  have htl : ∃ o, st.h.get t = some o := by
    unfold St.load at hl0
    split at hl0
    · rename_i x hx; exact ⟨_, hx⟩
    · rename_i x hx; exact ⟨_, hx⟩
    · cases hl0
  have hdl : ∃ o, st.h.get d = some o := by
    unfold St.load at hd0
    split at hd0
    · rename_i x hx; exact ⟨_, hx⟩
    · rename_i x hx; exact ⟨_, hx⟩
    · cases hd0
  obtain ⟨to, hto⟩ := htl
  obtain ⟨do_, hdo⟩ := hdl
  have hmp : m ≠ pb := fun e => by subst e; rw [hm] at hpb; cases hpb
  have hml : m ≠ lb := fun e => by subst e; rw [hm] at hlb; cases hlb
  obtain ⟨f, hf⟩ : ∃ f : Nat → Value, f = fun x => (parr[x]?).getD undef := ⟨_, rfl⟩
  obtain ⟨fl, hfl⟩ : ∃ f : Nat → Value, f = fun x => (larr[x]?).getD undef := ⟨_, rfl⟩
  have hfc : ∀ x, x < np → parr[x]? = some (f x) := fun x hx => by
    rw [hf]; simp [Array.getElem?_eq_getElem (show x < parr.size by omega)]
  have hflc : ∀ x, x < 2 * L → larr[x]? = some (fl x) := fun x hx => by
    rw [hfl]; simp [Array.getElem?_eq_getElem (show x < larr.size by omega)]
  have hpR : TrR ρ np per f := fun x hx => by
    obtain ⟨v, v', h1, h2, h3⟩ := hpc x hx
    rw [hfc x hx] at h2; cases h2
    exact ⟨v, h1, h3⟩
  have hlR : TrR ρ (2 * L) lin fl := fun x hx => by
    obtain ⟨v, v', h1, h2, h3⟩ := hlc x hx
    rw [hflc x hx] at h2; cases h2
    exact ⟨v, h1, h3⟩
  have hlen : ents.size = es.length := by rw [← hents]; simp
  have hrd : ∀ e o, NoteOk st pb lb np L lin e o → rd (H := Unit) Tryz.prog 3 (plainElem Tryz.prog 29) e = some (.int .i64 (o.n : Int), .lit (.int .u64 (o.p : Int))) := by
    intro e o ho
    obtain ⟨k, v, bn⟩ := e
    have h1 := ho.key; have h2 := ho.val
    simp only at h1 h2
    subst h1; subst h2
    exact rd_mk (Maps.keyOf_int_mk Tryz.underlying3 (wf_i64 ho.lt e5)) (plainElem_int Tryz.underlying29 (wf_u64 ho.p))
  have hfit : Fit (H := Unit) Tryz.prog 3 (plainElem Tryz.prog 29) ents cl := by
    refine ⟨?_, hstamp, fun x hx => ?_⟩
    · rw [hlen]
      have : es.length ≤ 65536 := ble_iff.1 k14
      exact Nat.le_trans this (by decide)
    · rw [hents] at hx
      obtain ⟨o, _, ho⟩ := hall.left x hx
      exact ⟨_, hrd x o ho⟩
  have hKe : Maps.Keyed Tryz.prog 3 := Maps.int_keyed Tryz.underlying3
  have hat := fun (kl : Lit) hk => atKey_sorted (ents.toList.map (rg (H := Unit) Tryz.prog 3 (plainElem Tryz.prog 29))) (Maps.fit_rising hKe hfit) kl hk
  have hmem : ∀ o ∈ ns, ((Lit.int .i64 (o.n : Int), DataW.lit (.int .u64 (o.p : Int))) : Lit × DataW Unit) ∈ ents.toList.map (rg (H := Unit) Tryz.prog 3 (plainElem Tryz.prog 29)) := by
    intro o ho
    obtain ⟨e, he, hok⟩ := hall.right o ho
    rw [hents]
    exact List.mem_map.2 ⟨e, he, rg_of (hrd e o hok)⟩
  have nok : ∀ (n : Nat) e, ntOf fl ns n = some e → ∃ o ∈ ns, o.n = n ∧ e = mkNE fl o ∧ ∃ me, NoteOk st pb lb np L lin me o := by
    intro n e he
    obtain ⟨o, h1, h2, h3⟩ := ntOf_some he
    obtain ⟨me, _, h4⟩ := hall.right o h1
    exact ⟨o, h1, h2, h3, me, h4⟩
  have lint : ∀ {x k : Nat}, x < 2 * L → lin.get x = some (.int .u64 (.ofNat k)) → fl x = Fe.u64 k := by
    intro x k hx hg
    obtain ⟨v, h1, h2⟩ := hlR x hx
    rw [hg] at h1; cases h1
    exact VR.ib h2 rfl
  refine ⟨D, PB, LB, M, np, wc, L, lc, ents.size, f, fl, ntOf fl ns, .map ((ents.toList.map (rg Tryz.prog 3 (plainElem Tryz.prog 29))).foldr DataW.insert []), ?_, ?_⟩
  · exact {
      thr := hc0
      note := hc3
      dper := hu0
      dlin := hu2
      per := ⟨parr, hpw, hpsz, hfc⟩
      lin := ⟨larr, hlw, hlsz, hflc⟩
      ne := apart hlb hpb hLB hPB (fun e => e6 e.symm)
      tp := apart hto hpb hT hPB e7
      tl := apart hto hlb hT hLB e8
      dp := apart hdo hpb hD hPB e9
      dl := apart hdo hlb hD hLB e10
      mp := apart hm hpb hM hPB hmp
      ml := apart hm hlb hM hLB hml
      hL := e5
      owns := ⟨ents, cl, hmw, hfit, Nat.le_refl _, rfl⟩
      key := by
        intro x hx
        obtain ⟨p, hp, hpk⟩ := List.any_eq_true.1 hx
        obtain ⟨y, hy, rfl⟩ := List.mem_map.1 (mem_sorted.1 hp)
        rw [hents] at hy
        obtain ⟨o, ho, hok⟩ := hall.left y hy
        rw [rg_of (hrd y o hok)] at hpk
        have hpk := WideAt.sameKey_eq hpk
        simp only at hpk
        injection hpk with _ hpk
        exact ⟨o.n, hpk.symm, ntOf_isSome ho⟩
      has := by
        intro n hn
        obtain ⟨e, he⟩ := Option.isSome_iff_exists.1 hn
        obtain ⟨o, ho, rfl, _⟩ := nok n e he
        exact List.any_eq_true.2 ⟨_, mem_sorted.2 (hmem o ho), WideAt.sameKey_self trivial⟩
      at_ := by
        intro n e he zd
        obtain ⟨o, ho, rfl, rfl, _⟩ := nok n e he
        rw [(mkNE_spec fl o).1]
        exact (hat (.int .i64 (o.n : Int)) trivial).2 _ (hmem o ho) rfl zd
      lt := by
        intro n e he
        obtain ⟨o, ho, rfl, rfl, me, hok⟩ := nok n e he
        rw [(mkNE_spec fl o).1, (mkNE_spec fl o).2.1]
        exact ⟨hok.lt, hok.p, hok.dn, lint (by have := hok.lt; omega) hok.done⟩
      idle := by
        intro n e he hle
        obtain ⟨o, ho, rfl, rfl, me, hok⟩ := nok n e he
        rw [(mkNE_spec fl o).1, (mkNE_spec fl o).2.1] at hle
        rw [(mkNE_spec fl o).2.2]
        exact hok.idle (Nat.not_lt.2 hle)
      full := by
        intro n e he hlt
        obtain ⟨o, ho, rfl, rfl, me, hok⟩ := nok n e he
        have hlt' : o.dn < o.p := by rw [(mkNE_spec fl o).1, (mkNE_spec fl o).2.1] at hlt; exact hlt
        obtain ⟨g1, hb, ho', z, cap, ty, hn, u, hc, g2, g3, g4, g5, g6, g7, g8⟩ := hok.full hlt'
        obtain ⟨v, h1, h2⟩ := hlR (o.n * 2 + 1) (by have := hok.lt; omega)
        rw [g2] at h1; cases h1
        obtain ⟨c, cap', hcb, hfv, hcap⟩ : ∃ c cap', ρ hb = some c ∧ fl (o.n * 2 + 1) = .slice (some ⟨c, ho', none⟩) o.l.length cap' ∧ o.l.length ≤ cap' := by
          cases hq : fl (o.n * 2 + 1) with
          | slice a len2 cap2 =>
            rw [hq] at h2
            cases h2 with
            | slc _ c _ _ _ hcb => exact ⟨c, _, hcb, rfl, g3⟩
            | slu _ c _ o2 _ _ z hcb hle ho2 hz =>
              rcases ho2 with rfl | h0
              · exact ⟨c, _, hcb, rfl, hle⟩
              · omega
          | _ => rw [hq] at h2; cases h2
        have hmk : mkNE fl o = ⟨o.p, o.dn, o.l, c, ho', cap'⟩ := by unfold mkNE; rw [hfv]
        rw [hmk]
        obtain ⟨c', harr, hfr, hcb', hcw, _, hcs, _, hcc, _⟩ := hR.cells g6
        rw [hcb] at hcb'; cases hcb'
        refine ⟨g1, hcap, hfv, apart g6 hpb hcb hPB g4, apart g6 hlb hcb hLB g5, fun i p hi => ?_, hok.line⟩
        have hil : i < o.l.length := by
          rcases Nat.lt_or_ge i o.l.length with h' | h'
          · exact h'
          · rw [List.getElem?_eq_none h'] at hi; cases hi
        obtain ⟨q1, q2⟩ := g8 i p hi
        obtain ⟨x1, y1, a1, b1, r1⟩ := hcc (ho' + 2 * i) (by omega)
        obtain ⟨x2, y2, a2, b2, r2⟩ := hcc (ho' + 2 * i + 1) (by omega)
        rw [q1] at a1; cases a1
        rw [q2] at a2; cases a2
        cases r1; cases r2
        exact ⟨by rw [cell_of hcw]; exact b1, by rw [cell_of hcw]; exact b2⟩ }
  · intro w2 hd
    have hlive2 : ∀ b o, st.h.get b = some o → b ≠ pb → b ≠ lb → b ≠ m → ∃ c x, ρ b = some c ∧ w2.heap[c]? = some x ∧ ObjR ρ o x ∧ objN x = ρ.sz c := by
      intro b o hb h1 h2 h3
      obtain ⟨c, x, g1, g2, g3, g4⟩ := hR.live b o hb
      refine ⟨c, x, g1, ?_, g3, g4⟩
      rw [hd.only.block c (heap_lt g2) (fun e => by
        rcases e with e | e | e
        · exact apart hb hpb g1 hPB h1 e
        · exact apart hb hlb g1 hLB h2 e
        · exact apart hb hm g1 hM h3 e)]
      exact g2
    refine hR.change rfl hd.only.size hd.only.os hd.only.tape hd.only.output (fun b o' hb => ?_) (fun c x hx hn => ?_)
    · simp only [Tr.get_set] at hb
      by_cases hbm : b = m
      · subst hbm
        rw [if_pos rfl] at hb; cases hb
        exact ⟨_, M, _, hm, hM, hd.map _ _ hmw, ⟨.nil, rfl⟩, hmN.symm⟩
      · rw [if_neg hbm] at hb
        by_cases hbl2 : b = lb
        · subst hbl2
          rw [if_pos rfl] at hb; cases hb
          obtain ⟨arr, h1, h2, h3⟩ := hd.lin
          have hrr := linO_R ns lin fl hlR
          refine ⟨_, LB, _, hlb, hLB, h1, ⟨rfl, fun i _ hh => by omega, by omega, fun _ => ⟨h2, rfl⟩, fun i hi => ?_⟩, ?_⟩
          · obtain ⟨v, q1, q2⟩ := hrr i hi
            have q2 : VR ρ v (linV ns i (fl i)) := q2
            rw [linV_eq fl i ns hnd] at q2
            exact ⟨v, _, q1, h3 i hi, q2⟩
          · show arr.size = _
            rw [h2, ← hlsz]; exact hlN
        · rw [if_neg hbl2] at hb
          by_cases hbp : b = pb
          · subst hbp
            rw [if_pos rfl] at hb; cases hb
            obtain ⟨arr, h1, h2, h3⟩ := hd.per
            have hrr := perO_R ns per f hpR
            refine ⟨_, PB, _, hpb, hPB, h1, ⟨rfl, fun i _ hh => by omega, by omega, fun _ => ⟨h2, rfl⟩, fun i hi => ?_⟩, ?_⟩
            · obtain ⟨v, q1, q2⟩ := hrr i hi
              have q2 : VR ρ v (perV ns i (f i)) := q2
              rw [perV_eq fl f i ns (fun o ho p hp => by
                  obtain ⟨me, _, hok⟩ := hall.right o ho
                  exact (hok.line p hp).2.2.2) (fun o ho hlt => by
                  obtain ⟨me, _, hok⟩ := hall.right o ho
                  exact hok.idle hlt) hnd] at q2
              exact ⟨v, _, q1, h3 i hi, q2⟩
            · show arr.size = _
              rw [h2, ← hpsz]; exact hpN
          · rw [if_neg hbp] at hb
            obtain ⟨c, x, h1⟩ := hlive2 b o' hb hbp hbl2 hbm
            exact ⟨o', c, x, hb, h1⟩
    · rw [hd.only.block c (heap_lt hx) (fun e => by
        rcases e with rfl | rfl | rfl
        · exact hn pb _ hpb hPB
        · exact hn lb _ hlb hLB
        · exact hn m _ hm hM)]
      exact hx

/-- Fence. -/
theorem fenceH_sound {call : Call1} (hcall : CallS Tryz.prog call) {args : List Value} {st st' : St} {v : Value} (h : fenceH call args st = some (v, st')) {ρ : Ren} {w : World} {args' : Array Value} (hR : R Gn ρ st w) (har : AR ρ args.toArray args') :
    HasBody Tryz.prog 378 ∧ CallsIn (Fw none) 0 Tryz.prog 378 args' w (RetR ρ st w v st') := by
  refine ⟨⟨_, _, Tryz.func378, rfl, rfl⟩, ?_⟩
  show CallsIn Fence.wide 0 _ _ _ _ _
  rw [callsIn_wide]
  unfold fenceH at h
  split at h
  case h_2 => cases h
  rename_i t
  split at h
  case h_2 => cases h
  rename_i d hl0
  obtain ⟨T, v0, hT, hc0, hv0⟩ := loadOne hR hl0
  cases hv0 with
  | ptr _ D _ hD =>
  obtain ⟨hsz, harv⟩ := har
  have hsz : args'.size = 1 := hsz.symm
  have ha0 : args' = #[.pointer (some ⟨T, 0, none⟩)] := by
    apply Array.ext_getElem?
    intro i
    cases i with
    | zero =>
      have hi : 0 < args'.size := by omega
      have := harv 0 _ _ rfl (Array.getElem?_eq_getElem hi)
      rw [Array.getElem?_eq_getElem hi]
      generalize args'[0] = q at this
      cases this with
      | ptr _ T2 _ hT2 => rw [hT] at hT2; cases hT2; rfl
    | succ i => rw [Array.getElem?_eq_none (by omega), Array.getElem?_eq_none (by simp)]
  subst ha0
  have hargs : AR ρ [Value.pointer (some ⟨t, 0, none⟩), Value.bool true].toArray #[Fe.ptr T, .bool true] := by
    have := (AR.one (VR.ptr t T 0 hT)).push (VR.bool true)
    exact this
  have hq : ∀ {b : Bool} {st1 : St}, call (.fn 199) [.pointer (some ⟨t, 0, none⟩), .bool true] st = some (.bool b, st1) →
      Calls Tryz.prog 199 #[Fe.ptr T, .bool true] w fun e w1 => e = .returned (.bool b) ∧ ∃ ρ1, R Gn ρ1 st1 w1 ∧ Went ρ st w ρ1 st1 w1 := by
    intro b st1 hc
    have h1 := (hcall (.fn 199) _ st _ st1 hc ρ w _ hR hargs).2
    have h1 : CallsIn Fence.wide 0 Tryz.prog 199 #[Fe.ptr T, .bool true] w (RetR ρ st w (.bool b) st1) := h1
    rw [callsIn_wide] at h1
    refine h1.mono ?_
    rintro e w1 ⟨v', rfl, ρ1, g1, g2, g3⟩
    cases g3
    exact ⟨rfl, ρ1, g1, g2⟩
  split at h
  · rename_i st1 hc
    split at h
    case h_2 => cases h
    rename_i st2 hf
    cases h
    refine (Fe.fence_row (Qf := fun _ => False) (Q := fun w' => ∃ ρ', R Gn ρ' st' w' ∧ Went ρ st w ρ' st' w') hc0 ((hq hc).mono ?_)).mono ?_
    · rintro e w1 ⟨rfl, ρ1, g1, g2⟩
      refine .inr ⟨rfl, ?_⟩
      obtain ⟨D2, pb, lb, m, N, wc, L, lc, nb, f, fl, nt, DD, h1, h2⟩ := fenceO_sound hf g1 (g2.le _ _ hT).1
      exact ⟨D2, pb, lb, m, N, wc, L, lc, nb, f, fl, nt, DD, h1, fun w2 hd => ⟨ρ1, (h2 w2 hd).1, g2.trans (h2 w2 hd).2⟩⟩
    · rintro e w' ⟨rfl, hff | ⟨ρ', g1, g2⟩⟩
      · exact hff.elim
      · exact ⟨_, rfl, ρ', g1, g2, .tup _ _ rfl (fun i x y hx => by simp at hx)⟩
  · rename_i st1 hc
    cases h
    refine (Fe.fence_row (Qf := fun w' => ∃ ρ', R Gn ρ' st' w' ∧ Went ρ st w ρ' st' w') (Q := fun _ => False) hc0 ((hq hc).mono ?_)).mono ?_
    · rintro e w1 ⟨rfl, ρ1, g1, g2⟩
      exact .inl ⟨rfl, ρ1, g1, g2⟩
    · rintro e w' ⟨rfl, ⟨ρ', g1, g2⟩ | hff⟩
      · exact ⟨_, rfl, ρ', g1, g2, .tup _ _ rfl (fun i x y hx => by simp at hx)⟩
      · exact hff.elim
  · cases h
end Go.Proofs.YtegfafebbnlicaaGreatDoor.Ev
