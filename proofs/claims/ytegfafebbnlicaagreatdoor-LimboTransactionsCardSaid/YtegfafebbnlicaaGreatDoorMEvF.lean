/-
  Ranges over maps of no more than one entry that is left hold in the world.
  An operation of each class, as the machine carries it out.
  Reads, fresh blocks, changes of memory, as the machine carries them out.
-/
import Derived.Test.YtegfafebbnlicaaGreatDoorMEvE
namespace Go.Proofs.YtegfafebbnlicaaGreatDoor.Ev
open Go
set_option linter.unusedVariables false
set_option linter.unusedSimpArgs false

variable {P : Program} {G : Nat} {ρ : Ren} {st : St} {w : World}

theorem R.fresh (hR : R G ρ st w) {o : EObj} {x : Obj} (d : Nat) (ho : ∀ ρ', ρ.le ρ' → ObjR ρ' o x) :
    R G (ρ.add st.nx w.heap.size (objN x)) (st.new o) { w with heap := w.heap.push x, drawn := d } ∧ Went ρ st w (ρ.add st.nx w.heap.size (objN x)) (st.new o) { w with heap := w.heap.push x, drawn := d } := by
  have hle : ρ.le (ρ.add st.nx w.heap.size (objN x)) := Ren.le_add hR.free (fun k hk => absurd (hR.dom k _ hk).2 (Nat.lt_irrefl _))
  obtain ⟨r1, r2, r3⟩ := hR.new (b := st.nx) (nx := Nat.succ st.nx) (w' := { w with heap := w.heap.push x, drawn := d }) hR.free (Nat.le_succ _) (Nat.lt_succ_self _) (ho _ hle) rfl rfl rfl rfl
  exact ⟨r1, r3 (Nat.le_refl _)⟩

theorem eRange_sound (hR : R G ρ st w) {t : TypeId} {ti : TI} (ht : TIok P t ti) {x x' v : Value} {st' : St} (h : eRange ti.d x st = some (v, st')) (hx : VR ρ x x') :
    ∃ v' ρ' w', (Instr.range t x').run P w = .ok v' w' ∧ R G ρ' st' w' ∧ Went ρ st w ρ' st' w' ∧ VR ρ' v v' := by
  obtain ⟨d, hd, hr⟩ := ht.desc
  unfold eRange at h
  split at h
  case h_3 => cases h
  · rename_i kt et he
    rw [he] at hr
    cases d <;> simp only [DescR] at hr
    cases h; cases hx
    obtain ⟨r1, r2⟩ := hR.fresh (o := .iter none 0 [] 0) (x := .mapIter none 0 #[] 0) w.drawn (fun ρ' _ => ⟨rfl, rfl, rfl⟩)
    refine ⟨ptrTo w.heap.size, _, _, ?_, r1, r2, .ptr st.nx _ 0 (Ren.add_at ρ _ _ _)⟩
    simp only [Instr.range, Sem.run_bind, run_underlying hd, Result.andThen_ok, Sem.run_pure, run_newObj]
    rfl
  · rename_i kt et b he
    rw [he] at hr
    cases d <;> simp only [DescR] at hr
    split at h
    case h_2 => cases h
    rename_i es cl hes
    cases h
    cases hx with
    | map _ c hb =>
    obtain ⟨g, ents, hg, hw, her, hz⟩ := hR.map (St.entries_spec hes)
    rw [hb] at hg; cases hg
    obtain ⟨r1, r2⟩ := hR.fresh (o := .iter (some b) cl [] cl) (x := .mapIter (some c) cl #[] cl) w.drawn (fun ρ' hle => ⟨(hle _ _ hb).1, rfl, rfl, rfl⟩)
    refine ⟨ptrTo w.heap.size, _, _, ?_, r1, r2, .ptr st.nx _ 0 (Ren.add_at ρ _ _ _)⟩
    simp only [Instr.range, Sem.run_bind, run_underlying hd, Result.andThen_ok, run_getMap hw, Sem.run_pure, run_newObj]
    rfl

theorem R.iter {b : Nat} {m : Option Nat} {s : Nat} {l : List Nat} {n : Nat} (hR : R G ρ st w) (h : st.h.get b = some (.iter m s l n)) :
    ∃ g m' l', ρ b = some g ∧ w.heap[g]? = some (.mapIter m' s l' n) ∧ l'.toList = l ∧ ρ.sz g = 0 ∧ (match m, m' with | none, none => True | some x, some y => ρ x = some y | _, _ => False) := by
  obtain ⟨g, x, hg, hx, ho, hn⟩ := hR.live b _ h
  cases m with
  | none =>
    cases x <;> simp only [ObjR] at ho
    rename_i m' s' l' n'
    cases m' with
    | some y => exact ho.elim
    | none =>
      obtain ⟨rfl, h2, rfl⟩ := ho
      exact ⟨g, none, l', hg, hx, h2, hn.symm, trivial⟩
  | some y0 =>
    cases x <;> simp only [ObjR] at ho
    rename_i m' s' l' n'
    cases m' with
    | none => exact ho.elim
    | some y =>
      obtain ⟨h1, rfl, h2, rfl⟩ := ho
      exact ⟨g, some y, l', hg, hx, h2, hn.symm, h1⟩
theorem run_getIter {g s n : Nat} {m : Option Nat} {l : Array Nat} (h : w.heap[g]? = some (.mapIter m s l n)) : (getObj g).run P w = .ok (.mapIter m s l n) w := by
  simp [getObj, Sem.run, h]
theorem notIn_cons (x : Nat) (l : List Nat) (n : Nat) : notIn (x :: l) n = match Nat.beq x n with
    | true => false
    | false => notIn l n := rfl
theorem notIn_eq (n : Nat) : ∀ (l : List Nat), notIn l n = !l.contains n
  | [] => rfl
  | x :: l => by
    rw [notIn_cons, notIn_eq n l, List.contains_cons]
    cases h : Nat.beq x n with
    | true => have := beq_iff.1 h; subst this; simp
    | false =>
      have : (n == x) = false := by
        rw [beq_eq_false_iff_ne]
        intro hh; subst hh; rw [Nat.beq_refl] at h; cases h
      simp [this]
theorem unseen_cons (seen : List Nat) (e : MapEntry) (es : List MapEntry) : unseen seen (e :: es) = match notIn seen e.born with
    | true => e :: unseen seen es
    | false => unseen seen es := rfl
theorem unseen_sound (seen : List Nat) {l m : List MapEntry} (h : ER ρ l m) : ER ρ (unseen seen l) (m.filter fun e => !seen.contains e.born) := by
  induction h with
  | nil => exact .nil
  | cons k v v' n l m hk hv _ ih =>
    rw [unseen_cons, List.filter_cons, notIn_eq]
    cases hc : seen.contains n with
    | true => simpa [hc] using ih
    | false => simp only [hc, Bool.not_false, if_true]; exact .cons _ _ _ _ _ _ hk hv ih
theorem allFrom_cons (n : Nat) (e : MapEntry) (es : List MapEntry) : allFrom n (e :: es) = match Nat.ble n e.born with
    | true => allFrom n es
    | false => false := rfl
theorem allFrom_sound (n : Nat) {l m : List MapEntry} (h : ER ρ l m) : allFrom n l = m.all fun e => decide (e.born ≥ n) := by
  induction h with
  | nil => rfl
  | cons k v v' q l m hk hv _ ih =>
    rw [allFrom_cons, List.all_cons]
    simp only
    cases hb : Nat.ble n q with
    | true => rw [ih, show decide (q ≥ n) = true from decide_eq_true (ble_iff.1 hb)]; rfl
    | false =>
      have : ¬ n ≤ q := fun hle => by rw [ble_iff.2 hle] at hb; cases hb
      rw [show decide (q ≥ n) = false from decide_eq_false this]; rfl

theorem eNext_sound (hR : R G ρ st w) {x x' v : Value} {str : Bool} {st' : St} {ty : TypeId} (h : eNext x str st = some (v, st')) (hx : VR ρ x x') :
    ∃ v' w', (Instr.next x' str ty).run P w = .ok v' w' ∧ R G ρ st' w' ∧ Went ρ st w ρ st' w' ∧ VR ρ v v' := by
  unfold eNext at h
  split at h
  case h_2 => cases h
  rename_i r
  cases hx with
  | ptr _ c _ hb =>
  have hover : VR ρ (.tuple #[.bool false]) (.tuple #[.bool false]) := .tup _ _ rfl (AR.one (.bool false)).2
  split at h
  · rename_i s l n hg
    cases h
    obtain ⟨g, m', l', hg', hw, hl, hz, hm⟩ := hR.iter hg
    rw [hb] at hg'; cases hg'
    cases m' with
    | some y => exact hm.elim
    | none => exact ⟨_, w, by simp only [Instr.next, Sem.run_bind, run_getIter hw, Result.andThen_ok, Sem.run_pure], hR, Went.refl _ _ _, hover⟩
  · rename_i m since seen last hg
    obtain ⟨g, m', l', hg', hw, hl, hz, hm⟩ := hR.iter hg
    rw [hb] at hg'; cases hg'
    cases m' with
    | none => exact hm.elim
    | some mc =>
    have hm : ρ m = some mc := hm
    split at h
    case h_2 => cases h
    rename_i es cl hes
    obtain ⟨g2, ents, hg2, hw2, her, hz2⟩ := hR.map (St.entries_spec hes)
    rw [hm] at hg2; cases hg2
    subst hl
    have hleft : ER ρ (unseen l'.toList es) (ents.filter fun e => !l'.contains e.born).toList := by
      have := unseen_sound l'.toList her
      have hc : ∀ e : MapEntry, l'.contains e.born = l'.toList.contains e.born := fun e => by simp
      rw [Array.toList_filter]
      simp only [hc]
      exact this
    have hguard : (!l'.isEmpty && !ents.isEmpty && ents.all (fun e => decide (e.born ≥ last))) = eStale l'.toList es last := by
      have ha := allFrom_sound last her
      have hall : ents.all (fun e => decide (e.born ≥ last)) = ents.toList.all (fun e => decide (e.born ≥ last)) := by simp
      have e1 : l'.isEmpty = l'.toList.isEmpty := by simp
      have e2 : ents.isEmpty = es.isEmpty := by
        have hlen := her.length
        rw [show ents.isEmpty = ents.toList.isEmpty by simp]
        cases hq : ents.toList with
        | nil => rw [hq] at hlen; cases es <;> simp_all
        | cons y ys => rw [hq] at hlen; cases es <;> simp_all
      rw [e1, e2, hall, ← ha]
      unfold eStale
      cases l'.toList <;> cases es <;> simp
    cases hgu : eStale l'.toList es last with
    | true => rw [hgu] at h; simp only at h; cases h
    | false =>
    have hgf := hguard.trans hgu
    rw [hgu] at h
    split at h
    · cases h
      rename_i hun
      rw [hun] at hleft
      have hl0 : (ents.filter fun e => !l'.contains e.born) = #[] := by
        apply Array.ext'
        cases hq : (ents.filter fun e => !l'.contains e.born).toList with
        | nil => rfl
        | cons y ys => rw [hq] at hleft; cases hleft
      refine ⟨.tuple #[.bool false], w, ?_, hR, Went.refl _ _ _, hover⟩
      simp only [Instr.next, Sem.run_bind, run_getIter hw, Result.andThen_ok, run_getMap hw2, hgf, Bool.false_eq_true, if_false, hl0, Array.filter_empty, Array.isEmpty_empty, if_true, Array.append_empty, Array.map_empty, run_choose]
      simp [Question.forced]
    · rename_i e _ hun
      split at h
      case h_2 => cases h
      rename_i hlt
      have hlt := ble_iff.1 hlt
      cases h
      rw [hun] at hleft
      obtain ⟨v2, hl1, hvr, hpk⟩ : ∃ v2, (ents.filter fun e => !l'.contains e.born) = #[⟨e.key, v2, e.born⟩] ∧ VR ρ e.val v2 ∧ plain1 e.key = true := by
        cases hq : (ents.filter fun e => !l'.contains e.born).toList with
        | nil => rw [hq] at hleft; cases hleft
        | cons y ys =>
          rw [hq] at hleft
          cases hleft with
          | cons k v v' n l m hk hv hrest =>
            cases hrest
            exact ⟨v', Array.ext' hq, hv, hk⟩
      have hold : (#[(⟨e.key, v2, e.born⟩ : MapEntry)].filter fun x => decide (x.born < since)) = #[⟨e.key, v2, e.born⟩] := by
        have : decide (e.born < since) = true := decide_eq_true hlt
        simp [this]
      have hnew : (#[(⟨e.key, v2, e.born⟩ : MapEntry)].filter fun x => decide (x.born ≥ since)) = #[] := by
        have hlt' : e.born < since := hlt
        simp; omega
      have hobj : ObjR ρ (.iter (some m) since (l'.toList ++ [e.born]) cl) (.mapIter (some mc) since (l'.push e.born) cl) := ⟨hm, rfl, by rw [Array.toList_push], rfl⟩
      obtain ⟨r1, r2⟩ := hR.turn hg hb hobj hz.symm (w' := { w with heap := w.heap.setIfInBounds c (.mapIter (some mc) since (l'.push e.born) cl) }) (heap_put hw) (fun k hk => heap_put_other hk) (by simp) rfl rfl rfl
      refine ⟨.tuple #[.bool true, e.key, v2], _, ?_, r1, r2, .tup _ _ rfl (((AR.one (.bool true)).push (VR.plain1 ρ hpk)).push hvr).2⟩
      have hne : ∀ arr t fr, (Obj.mapIter (some mc) since l' last) ≠ .cells arr t fr := fun _ _ _ h => by cases h
      simp only [Instr.next, Sem.run_bind, run_getIter hw, Result.andThen_ok, run_getMap hw2, hgf, Bool.false_eq_true, if_false, hl1, hold, hnew, run_choose]
      simp [Question.forced, run_setObj hw hne]
    · cases h
  · cases h

theorem byStamp_cons (n : Nat) (e : MapEntry) (es : List MapEntry) : byStamp n (e :: es) = match Nat.beq e.born n with
    | true => some e
    | false => byStamp n es := rfl
theorem byStamp_sound (n : Nat) {l m : List MapEntry} (h : ER ρ l m) : ∀ e, byStamp n l = some e → ∃ v', m.find? (fun e => e.born == n) = some ⟨e.key, v', e.born⟩ ∧ VR ρ e.val v' ∧ plain1 e.key = true := by
  induction h with
  | nil => intro e h; cases h
  | cons k v v' q l m hk hv _ ih =>
    intro e h
    rw [byStamp_cons] at h
    split at h
    · rename_i hb
      cases h
      have hq : q = n := beq_iff.1 hb
      subst hq
      exact ⟨v', by simp [List.find?_cons], hv, hk⟩
    · rename_i hb
      have hb : Nat.beq q n = false := hb
      obtain ⟨v2, h1, h2, h3⟩ := ih e h
      refine ⟨v2, ?_, h2, h3⟩
      have : (q == n) = false := by
        rw [beq_eq_false_iff_ne]; intro hh; subst hh; rw [Nat.beq_refl] at hb; cases hb
      rw [List.find?_cons]
      simp only [this]
      exact h1
theorem eEntry_sound (hR : R G ρ st w) {x x' v : Value} (h : eEntry x st = some v) (hx : VR ρ x x') : ∃ v', (Instr.entry x').run P w = .ok v' w ∧ VR ρ v v' := by
  unfold eEntry at h
  split at h
  case h_2 => cases h
  rename_i r
  cases hx with
  | ptr _ c _ hb =>
  split at h
  case h_2 => cases h
  rename_i m since seen last hg
  obtain ⟨g, m', l', hg', hw, hl, hz, hm⟩ := hR.iter hg
  rw [hb] at hg'; cases hg'
  cases m' with
  | none => exact hm.elim
  | some mc =>
  have hm : ρ m = some mc := hm
  subst hl
  split at h
  case h_2 => cases h
  rename_i n es cl hn hes
  obtain ⟨g2, ents, hg2, hw2, her, hz2⟩ := hR.map (St.entries_spec hes)
  rw [hm] at hg2; cases hg2
  split at h
  case h_2 => cases h
  rename_i hcl
  have hcl := beq_iff.1 hcl
  subst hcl
  split at h
  case h_2 => cases h
  rename_i e he
  cases h
  obtain ⟨v2, h1, h2, h3⟩ := byStamp_sound n her e he
  have hback : l'.back? = some n := by
    unfold lastOf at hn
    rw [← hn]; simp
  have hfind : ents.find? (fun e => e.born == n) = some ⟨e.key, v2, e.born⟩ := by
    rw [← Array.find?_toList]; exact h1
  refine ⟨.tuple #[e.key, v2], ?_, .tup _ _ rfl ((AR.one (VR.plain1 ρ h3)).push h2).2⟩
  simp only [Instr.entry, Sem.run_bind, run_getIter hw, Result.andThen_ok, hback, run_getMap hw2, bne_self_eq_false, Bool.false_eq_true, if_false, hfind, Sem.run_pure]
end Go.Proofs.YtegfafebbnlicaaGreatDoor.Ev

namespace Go.Proofs.YtegfafebbnlicaaGreatDoor.Ev
open Go
set_option linter.unusedVariables false
set_option linter.unusedSimpArgs false

variable {P : Program} {ρ : Ren} {st : St} {w : World}

/-- The operands, as the evaluator and the activation have them. -/
def OpdR (ρ : Ren) (env : Env) (ev : Operand → Value) : Prop := ∀ x v, eOpd env x = some v → VR ρ v (ev x)
theorem opdR {env : Env} {a : Act} (hR : R Gn ρ st w) (hE : EnvR ρ env a.tmps) : OpdR ρ env a.eval := by
  intro x v h
  cases x with
  | tmp t =>
    obtain ⟨v', h1, h2⟩ := hE t v h
    have : a.eval (.tmp t) = v' := by simp [Act.eval, Array.getD_eq_getD_getElem?, h1]
    rw [this]; exact h2
  | const c =>
    simp only [eOpd] at h
    split at h
    · rename_i hp; cases h; exact VR.plain ρ hp
    · cases h
  | global g =>
    simp only [eOpd] at h
    split at h
    · rename_i hg
      cases h
      exact .ptr g g 0 (hR.glob g (ble_iff.1 hg))
    · cases h
  | func f =>
    cases h
    exact .fn _ rfl _ _ _ _ rfl (AR.nil ρ).2 rfl (AR.nil ρ).2

variable {env : Env} {ev : Operand → Value}
theorem eOpds_cons (x : Operand) (l : List Operand) : eOpds env (x :: l) = match eOpd env x with
      | some v => match eOpds env l with
        | some vs => some (v :: vs)
        | none => none
      | none => none := rfl
theorem AR.cons {x y : Value} {l m : List Value} (h : VR ρ x y) (h' : AR ρ l.toArray m.toArray) : AR ρ (x :: l).toArray (y :: m).toArray := by
  have := (AR.one h).append h'
  simpa using this
theorem eOpds_sound (hO : OpdR ρ env ev) : ∀ (l : List Operand) (vs : List Value), eOpds env l = some vs → AR ρ vs.toArray (l.map ev).toArray
  | [], vs, h => by cases h; exact AR.nil ρ
  | x :: l, vs, h => by
    rw [eOpds_cons] at h
    split at h
    case h_2 => cases h
    rename_i v hv
    split at h
    case h_2 => cases h
    rename_i vs' hvs
    cases h
    exact AR.cons (hO x v hv) (eOpds_sound hO l vs' hvs)
theorem eOpds_arr (hO : OpdR ρ env ev) {l : Array Operand} {vs : List Value} (h : eOpds env l.toList = some vs) : AR ρ vs.toArray (l.map ev) := by
  have := eOpds_sound hO _ _ h
  have e : (l.toList.map ev).toArray = l.map ev := by apply Array.ext'; simp
  rw [← e]; exact this
theorem eParts_cons (x : Nat × Operand) (l : List (Nat × Operand)) : eParts env (x :: l) = match eOpd env x.2 with
      | some v => match eParts env l with
        | some vs => some ((x.1, v) :: vs)
        | none => none
      | none => none := rfl
theorem eParts_sound (hO : OpdR ρ env ev) : ∀ (l : List (Nat × Operand)) (vs : List (Nat × Value)), eParts env l = some vs → PR ρ vs (l.map fun p => (p.1, ev p.2))
  | [], vs, h => by cases h; exact .nil
  | x :: l, vs, h => by
    rw [eParts_cons] at h
    split at h
    case h_2 => cases h
    rename_i v hv
    split at h
    case h_2 => cases h
    rename_i vs' hvs
    cases h
    exact .cons _ _ _ _ _ (hO _ v hv) (eParts_sound hO l vs' hvs)
theorem eParts_arr (hO : OpdR ρ env ev) {l : Array (Nat × Operand)} {vs : List (Nat × Value)} (h : eParts env l.toList = some vs) : PR ρ vs (l.map fun (i, x) => (i, ev x)).toList := by
  have := eParts_sound hO _ _ h
  rw [Array.toList_map]
  exact this
theorem eOpt_sound (hO : OpdR ρ env ev) {x : Option Operand} {v : Option Value} (h : eOpt env x = some v) : OR ρ v (x.map ev) := by
  unfold eOpt at h
  split at h
  · cases h; exact trivial
  · rename_i y
    split at h
    · rename_i v' hv
      cases h
      exact hO _ _ hv
    · cases h

theorem run_guard_ib {op : BinOp} {t : TypeId} {x y : Operand} {a b : Value} (h : isIB a = true) (w : World) : (eqGuard op t x y a b).run P w = .ok () w := by
  unfold eqGuard
  cases a <;> first | (cases h; done) | (cases op <;> rfl)

/-- Operations of values alone. -/
theorem ePure_sound {T : Tr TI} (hT : TOk P T) (hO : OpdR ρ env ev) {o : Oper} {v : Value} (h : ePure T env o.op = some v) (hc : classOf T o.op = 0) (w : World) :
    ∃ v', (execOp ev o).run P w = .ok (.value v') w ∧ VR ρ v v' := by
  cases ho : o.op <;> rw [ho] at h hc <;> simp only [ePure] at h <;> first | (cases h; done) | skip
  case move x => exact ⟨_, by simp only [execOp, ho, Sem.run_pure], hO _ _ h⟩
  case assign x => exact ⟨_, by simp only [execOp, ho, Sem.run_pure], hO _ _ h⟩
  case pick c a b =>
    split at h
    case h_2 => cases h
    rename_i t hc'
    split at h
    case h_2 => cases h
    rename_i va vb ha hb
    have h1 := hO _ _ hc'
    have hcv : ev c = .bool t := by generalize ev c = q at h1; cases h1; rfl
    cases t <;> cases h
    · exact ⟨ev b, by simp [execOp, ho, hcv, asBool], hO _ _ hb⟩
    · exact ⟨ev a, by simp [execOp, ho, hcv, asBool], hO _ _ ha⟩
  case build t ps =>
    split at h
    case h_2 => cases h
    rename_i ti l ht hl
    obtain ⟨v', h1, h2⟩ := eBuild_sound (hT _ _ ht) (eParts_arr hO hl) h w
    exact ⟨v', by simp only [execOp, ho, Sem.run_bind, h1, Result.andThen_ok, Sem.run_pure], h2⟩
  case nilCheck x =>
    split at h
    case h_2 => cases h
    rename_i v0 hv
    exact eNil_sound hT h (hO _ _ hv) ho rfl w
  case binOp op t x y yt =>
    split at h
    case h_2 => cases h
    rename_i a b ha hb
    obtain ⟨h1, h2⟩ := eBin_sound (P := P) h (hO _ _ ha) (hO _ _ hb) t w
    have hib : isIB a = true := by
      unfold eBin at h
      split at h <;> first | rfl | cases h
    refine ⟨v, ?_, VR.same h2⟩
    have ea := (hO _ _ ha).ib hib
    have hg : (eqGuard op t x y (ev x) (ev y)).run P w = .ok () w := by rw [ea]; exact run_guard_ib hib w
    simp only [execOp, ho, Sem.run_bind, hg, Result.andThen_ok, h1, Sem.run_pure]
  case unOp op t x =>
    split at h
    case h_2 => cases h
    rename_i a ha
    obtain ⟨h1, h2⟩ := eUn_sound (P := P) h (hO _ _ ha) w
    exact ⟨v, by simp only [execOp, ho, Sem.run_bind, h1, Result.andThen_ok, Sem.run_pure], VR.same h2⟩
  case convert s d x =>
    split at h
    case h_2 => cases h
    rename_i si ti a hs ht ha
    obtain ⟨h1, h2⟩ := eConvInt_sound (hT _ _ hs) (hT _ _ ht) h (hO _ _ ha) w
    exact ⟨v, by simp only [execOp, ho, Sem.run_bind, h1, Result.andThen_ok, Sem.run_pure], VR.same h2⟩
  case makeInterface t x =>
    split at h
    case h_2 => cases h
    rename_i ti a ht ha
    split at h
    · cases h
    · rename_i hn
      cases h
      obtain ⟨h1, h2⟩ := eIface_sound (hT _ _ ht) hn (hO _ _ ha) w
      exact ⟨_, by simp only [execOp, ho, Sem.run_bind, h1, Result.andThen_ok, Sem.run_pure], h2⟩
  case makeFunc fn first captured =>
    split at h
    case h_2 => cases h
    rename_i xs cs hfn hx hcs
    cases h
    have h1 := eOpds_arr hO hx
    have h2 := eOpds_arr hO hcs
    exact ⟨.func fn (first.map ev) (captured.map ev), by simp only [execOp, ho, Sem.run_bind, Instr.makeFunc, Result.andThen_ok, Sem.run_pure], .fn fn hfn _ _ _ _ h1.1 h1.2 h2.1 h2.2⟩
  case slice t x lo hi mx =>
    split at h
    case h_2 => cases h
    rename_i ti a l hh m ht ha hl hhi hm
    obtain ⟨v', h1, h2⟩ := eSlice_sound (hT _ _ ht) h (hO _ _ ha) (eOpt_sound hO hl) (eOpt_sound hO hhi) (eOpt_sound hO hm) w
    exact ⟨v', by simp only [execOp, ho, Sem.run_bind, h1, Result.andThen_ok, Sem.run_pure], h2⟩
  case fieldAddr t x f =>
    split at h
    case h_2 => cases h
    rename_i ti a ht ha
    obtain ⟨v', h1, h2⟩ := eFieldAddr_sound (hT _ _ ht) h (hO _ _ ha) w
    exact ⟨v', by simp only [execOp, ho, Sem.run_bind, h1, Result.andThen_ok, Sem.run_pure], h2⟩
  case field t x f =>
    split at h
    case h_2 => cases h
    rename_i ti a ht ha
    obtain ⟨v', h1, h2⟩ := eField_sound hT (hT _ _ ht) h (hO _ _ ha) w
    exact ⟨v', by simp only [execOp, ho, Sem.run_bind, h1, Result.andThen_ok, Sem.run_pure], h2⟩
  case indexAddr t x i =>
    split at h
    case h_2 => cases h
    rename_i ti a b ht ha hb
    obtain ⟨v', h1, h2⟩ := eIndexAddr_sound (hT _ _ ht) h (hO _ _ ha) (hO _ _ hb) w
    exact ⟨v', by simp only [execOp, ho, Sem.run_bind, h1, Result.andThen_ok, Sem.run_pure], h2⟩
  case index t x i =>
    split at h
    case h_2 => cases h
    rename_i ti a b ht ha hb
    obtain ⟨v', h1, h2⟩ := eIndex_sound hT (hT _ _ ht) h (hO _ _ ha) (hO _ _ hb) w
    exact ⟨v', by simp only [execOp, ho, Sem.run_bind, h1, Result.andThen_ok, Sem.run_pure], h2⟩
  case extract x i =>
    split at h
    case h_2 => cases h
    rename_i a ha
    obtain ⟨v', h1, h2⟩ := eExtr_sound (P := P) h (hO _ _ ha) w
    exact ⟨v', by simp only [execOp, ho, Sem.run_bind, h1, Result.andThen_ok, Sem.run_pure], h2⟩
  case call c =>
    split at h
    · rename_i x hcal hargs
      split at h
      case h_2 => cases h
      rename_i t ts hts
      split at h
      case h_2 => cases h
      rename_i ti ht
      split at h
      case h_2 => cases h
      rename_i e sz by_ hd
      have har := eOpds_arr hO hargs
      obtain ⟨y, hy, hsz, hr⟩ := AR.single (x := x) har rfl
      have harr : c.args.map ev = #[y] := by
        apply Array.ext_getElem?
        intro i
        cases i with
        | zero => rw [hy]; rfl
        | succ i => rw [Array.getElem?_eq_none (by omega), Array.getElem?_eq_none (by simp)]
      have h0 : c.argTypes[0]? = some t := by rw [← Array.getElem?_toList, hts]; rfl
      obtain ⟨h1, h2⟩ := eCap_sound (w := w) (hT _ _ ht) ⟨e, sz, by_, hd⟩ h hr c.argTypes h0 o.type
      exact ⟨v, by simp only [execOp, ho, resolve, hcal, Sem.run_bind, Sem.run_pure, Result.andThen_ok, invoke, builtin, harr, h1], VR.same h2⟩
    · rename_i x l hcal hargs
      have har := eOpds_arr hO hargs
      obtain ⟨x', l', hxl, hx', hl'⟩ : ∃ x' l', (c.args.map ev).toList = x' :: l' ∧ VR ρ x x' ∧ AR ρ l.toArray l'.toArray := by
        cases hq : (c.args.map ev).toList with
        | nil => have := har.1; rw [← Array.length_toList (xs := c.args.map ev), hq] at this; simp at this
        | cons x' l' =>
          have h2 : AR ρ (x :: l).toArray (x' :: l').toArray := by rw [← hq]; exact har
          exact ⟨x', l', rfl, h2.of_list.1, h2.of_list.2⟩
      obtain ⟨v', h1, h2⟩ := eMinL_sound (P := P) w l l' x x' v h hx' hl'
      refine ⟨v', ?_, h2⟩
      simp only [Bool.false_eq_true, if_false] at h1
      simp only [execOp, ho, resolve, hcal, Sem.run_bind, Sem.run_pure, Result.andThen_ok, invoke, builtin, Builtin.min_, hxl]
      rw [show (fun a b => Builtin.min2 a b) = Builtin.min2 from rfl] at h1
      simp only [h1, Result.andThen_ok]
    · rename_i x l hcal hargs
      have har := eOpds_arr hO hargs
      obtain ⟨x', l', hxl, hx', hl'⟩ : ∃ x' l', (c.args.map ev).toList = x' :: l' ∧ VR ρ x x' ∧ AR ρ l.toArray l'.toArray := by
        cases hq : (c.args.map ev).toList with
        | nil => have := har.1; rw [← Array.length_toList (xs := c.args.map ev), hq] at this; simp at this
        | cons x' l' =>
          have h2 : AR ρ (x :: l).toArray (x' :: l').toArray := by rw [← hq]; exact har
          exact ⟨x', l', rfl, h2.of_list.1, h2.of_list.2⟩
      obtain ⟨v', h1, h2⟩ := eMinL_sound (P := P) w l l' x x' v h hx' hl'
      refine ⟨v', ?_, h2⟩
      simp only [if_true] at h1
      simp only [execOp, ho, resolve, hcal, Sem.run_bind, Sem.run_pure, Result.andThen_ok, invoke, builtin, Builtin.max_, hxl]
      rw [show (fun a b => Builtin.max2 a b) = Builtin.max2 from rfl] at h1
      simp only [h1, Result.andThen_ok]
    · cases h
end Go.Proofs.YtegfafebbnlicaaGreatDoor.Ev

namespace Go.Proofs.YtegfafebbnlicaaGreatDoor.Ev
open Go
set_option linter.unusedVariables false
set_option linter.unusedSimpArgs false

variable {P : Program} {ρ : Ren} {st : St} {w : World} {env : Env} {ev : Operand → Value}

theorem args1 (hO : OpdR ρ env ev) {l : Array Operand} {x : Operand} {v : Value} (hl : l.toList = [x]) (hv : eOpd env x = some v) : l.map ev = #[ev x] ∧ VR ρ v (ev x) := by
  refine ⟨?_, hO _ _ hv⟩
  apply Array.ext'
  rw [Array.toList_map, hl]; rfl
theorem args2 (ev : Operand → Value) {l : Array Operand} {x y : Operand} (hl : l.toList = [x, y]) : l.map ev = #[ev x, ev y] := by
  apply Array.ext'
  rw [Array.toList_map, hl]; rfl
theorem argT0 {l : Array TypeId} {t : TypeId} {ts : List TypeId} (h : l.toList = t :: ts) : l[0]? = some t := by rw [← Array.getElem?_toList, h]; rfl
theorem argT1 {l : Array TypeId} {t t' : TypeId} {ts : List TypeId} (h : l.toList = t :: t' :: ts) : l[1]? = some t' := by rw [← Array.getElem?_toList, h]; rfl

theorem eRead_sound {T : Tr TI} (hT : TOk P T) (hA : AggOk P) (hR : R Gn ρ st w) (hO : OpdR ρ env ev) {o : Oper} {v : Value} (h : eRead T env o.op st = some v) :
    ∃ v', (execOp ev o).run P w = .ok (.value v') w ∧ VR ρ v v' := by
  cases ho : o.op <;> rw [ho] at h <;> simp only [eRead] at h <;> first | (cases h; done) | skip
  case load t x =>
    split at h
    case h_2 => cases h
    rename_i ti a ht ha
    obtain ⟨v', h1, h2⟩ := eLoad_sound (hT _ _ ht) hR h (hO _ _ ha)
    exact ⟨v', by simp only [execOp, ho, Sem.run_bind, h1, Result.andThen_ok, Sem.run_pure], h2⟩
  case lookup t x k ok =>
    split at h
    case h_2 => cases h
    rename_i ti a b ht ha hb
    obtain ⟨v', h1, h2⟩ := eLookup_sound hT hR (hT _ _ ht) h (hO _ _ ha) (hO _ _ hb)
    exact ⟨v', by simp only [execOp, ho, Sem.run_bind, h1, Result.andThen_ok, Sem.run_pure], h2⟩
  case convert s d x =>
    split at h
    case h_2 => cases h
    rename_i si di a hs hd ha
    split at h
    case h_2 => cases h
    rename_i e sz by_ hse hde
    split at h
    case h_2 => cases h
    rename_i te hte
    split at h
    case h_2 => cases h
    rename_i hteu
    obtain ⟨h1, h2⟩ := eToString_sound hT hR (hT _ _ hs) (hT _ _ hd) hse hde hte hteu h (hO _ _ ha)
    exact ⟨v, by simp only [execOp, ho, Sem.run_bind, h1, Result.andThen_ok, Sem.run_pure], VR.same h2⟩
  case call c =>
    split at h
    case h_2 => cases h
    rename_i x t ts hcal hargs hts
    split at h
    case h_2 => cases h
    rename_i ti a ht ha
    obtain ⟨e1, e2⟩ := args1 hO hargs ha
    obtain ⟨h1, h2⟩ := eLen_sound hR (hT _ _ ht) h e2 c.argTypes (argT0 hts) o.type
    exact ⟨v, by simp only [execOp, ho, resolve, hcal, Sem.run_bind, Sem.run_pure, Result.andThen_ok, invoke, builtin, e1, h1], VR.same h2⟩
  case binOp op t x y yt =>
    split at h
    · rename_i k a k' b ha hb
      obtain ⟨h1, h2⟩ := eBin_sound (P := P) h (hO _ _ ha) (hO _ _ hb) t w
      have ea := (hO _ _ ha).ib rfl
      have hg : (eqGuard op t x y (ev x) (ev y)).run P w = .ok () w := by rw [ea]; exact run_guard_ib rfl w
      exact ⟨v, by simp only [execOp, ho, Sem.run_bind, hg, Result.andThen_ok, h1, Sem.run_pure], VR.same h2⟩
    · rename_i a b ha hb
      obtain ⟨h1, h2⟩ := eStr_sound (P := P) h w
      have ea := (hO _ _ ha).ib rfl
      have eb := (hO _ _ hb).ib rfl
      have hg : (eqGuard op t x y (ev x) (ev y)).run P w = .ok () w := by rw [ea]; exact run_guard_ib rfl w
      have h3 : (binOp op t (ev x) (ev y)).run P w = .ok v w := by
        rw [ea, eb, ← h1]; cases op <;> rfl
      exact ⟨v, by simp only [execOp, ho, Sem.run_bind, hg, Result.andThen_ok, h3, Sem.run_pure], VR.same h2⟩
    · rename_i a b ha hb
      split at h
      case h_2 => cases h
      rename_i r hr
      have hop : op = .eql ∨ op = .neq := by
        split at h
        · exact .inl rfl
        · exact .inr rfl
        · cases h
      have ra := hO _ _ ha
      have rb := hO _ _ hb
      generalize hqa : ev x = qa at ra
      generalize hqb : ev y = qb at rb
      cases ra with
      | agg _ a' hc1 hc2 =>
      cases rb with
      | agg _ b' hd1 hd2 =>
      obtain ⟨g1, g2⟩ := eEqAgg_sound (w := w) hA hr ⟨hc1, hc2⟩ ⟨hd1, hd2⟩ op hop x y
      rcases hop with rfl | rfl
      · cases h
        exact ⟨.bool r, by simp only [execOp, ho, hqa, hqb, Sem.run_bind, g1, Result.andThen_ok, g2, Sem.run_pure], .bool _⟩
      · cases h
        exact ⟨.bool (eNot r), by simp only [execOp, ho, hqa, hqb, Sem.run_bind, g1, Result.andThen_ok, g2, Sem.run_pure, eNot_eq], .bool _⟩
    · rename_i a b n1 n2 n3 ha hb
      split at h
      case h_2 => cases h
      rename_i ti ht
      split at h
      case h_2 => cases h
      rename_i r hr
      have hop : op = .eql ∨ op = .neq := by
        split at h
        · exact .inl rfl
        · exact .inr rfl
        · cases h
      obtain ⟨g1, g2, g3⟩ := eEq_sound hT hR (hT _ _ ht) hr (hO _ _ ha) (hO _ _ hb) op hop (xo := x) (yo := y) rfl
      rcases hop with rfl | rfl
      · cases h
        exact ⟨.bool r, by simp only [execOp, ho, Sem.run_bind, g1, Result.andThen_ok, g3, g2, Sem.run_pure], .bool _⟩
      · cases h
        exact ⟨.bool (eNot r), by simp only [execOp, ho, Sem.run_bind, g1, Result.andThen_ok, g3, g2, Sem.run_pure, eNot_eq], .bool _⟩
    · cases h

/-- A fresh block, as an operation. -/
def FreshOp (P : Program) (ρ : Ren) (s : Sem Next) (fr : Fresh) : Prop :=
  ∀ w : World, ∃ (x : Obj) (mk' : Nat → Value) (d : Nat), s.run P w = .ok (.value (mk' w.heap.size)) { w with heap := w.heap.push x, drawn := d } ∧ (∀ ρ', ρ.le ρ' → ObjR ρ' fr.obj x) ∧
    ∀ ρ' b, ρ.le ρ' → ρ' b = some w.heap.size → ρ'.sz w.heap.size = objN x → VR ρ' (fr.val b) (mk' w.heap.size)
theorem FreshOk.op {s : Sem Value} {fr : Fresh} (h : FreshOk P ρ s fr) : FreshOp P ρ (do pure (.value (← s))) fr := by
  intro w
  obtain ⟨x, mk', d, h1, h2, h3⟩ := h w
  exact ⟨x, mk', d, by simp only [Sem.run_bind, h1, Result.andThen_ok, Sem.run_pure], h2, h3⟩
theorem eFresh_sound {T : Tr TI} (hT : TOk P T) (hO : OpdR ρ env ev) {o : Oper} {fr : Fresh} (h : eFresh T env o.op = some fr) : FreshOp P ρ (execOp ev o) fr := by
  cases ho : o.op <;> rw [ho] at h <;> simp only [eFresh] at h <;> first | (cases h; done) | skip
  case alloc t =>
    split at h
    case h_2 => cases h
    rename_i ti ht
    have := (eAlloc_sound (ρ := ρ) (hT _ _ ht) h).op
    have he : execOp ev o = (do pure (.value (← Instr.alloc t true (.tuple #[])))) := by simp only [execOp, ho]
    rw [he]; exact this
  case box t x =>
    split at h
    case h_2 => cases h
    rename_i a ha
    have := (eVar_sound (P := P) h (hO _ _ ha)).op
    have he : execOp ev o = (do pure (.value (← Instr.box t (ev x)))) := by simp only [execOp, ho]
    rw [he]; exact this
  case buildSlice t len ps =>
    split at h
    case h_2 => cases h
    rename_i ti l ht hl
    have := (eBuildSlice_sound hT (hT _ _ ht) (eParts_arr hO hl) h).op
    have he : execOp ev o = (do pure (.value (← Instr.buildSlice t len (ps.map fun (i, x) => (i, ev x))))) := by simp only [execOp, ho]
    rw [he]; exact this
  case makeMap t r =>
    split at h
    case h_2 => cases h
    cases h
    have := (eMakeMap_sound (P := P) (ρ := ρ) t).op
    have he : execOp ev o = (do pure (.value (← Instr.makeMap t none))) := by simp only [execOp, ho]; rfl
    rw [he]; exact this
  case makeSlice t l c =>
    split at h
    case h_2 => cases h
    rename_i ti a b ht ha hb
    have := (eMakeSlice_sound hT (hT _ _ ht) h (hO _ _ ha) (hO _ _ hb)).op
    have he : execOp ev o = (do pure (.value (← Instr.makeSlice t (ev l) (ev c)))) := by simp only [execOp, ho]
    rw [he]; exact this
  case convert s d x =>
    split at h
    case h_2 => cases h
    rename_i si di b hs hd ha
    split at h
    case h_2 => cases h
    rename_i e sz by_ hse hde
    have ea := (hO _ _ ha).ib rfl
    have := (eToBytes_sound (ρ := ρ) hT (hT _ _ hs) (hT _ _ hd) hse hde h).op
    have he : execOp ev o = (do pure (.value (← convert s d (.string b)))) := by simp only [execOp, ho, ea]
    rw [he]; exact this

/-- What an operation that changes memory comes to. -/
def EffOk (P : Program) (ρ : Ren) (st : St) (w : World) (s : Sem Next) (v : Value) (st' : St) : Prop :=
  ∃ nx v' ρ' w', s.run P w = .ok nx w' ∧ (nx = .value v' ∨ nx = .skip ∧ v' = undef) ∧ R Gn ρ' st' w' ∧ Went ρ st w ρ' st' w' ∧ VR ρ' v v'
theorem undefR : VR ρ undefV undef := .tup _ _ rfl (AR.nil ρ).2
theorem eEff_sound {T : Tr TI} (hT : TOk P T) (hel : ∀ t ti e sz by_, T.get t = some ti → ti.d = .slice e sz by_ → ∃ te, T.get e = some te ∧ (eCells te.zero).length = sz)
    (hR : R Gn ρ st w) (hO : OpdR ρ env ev) {o : Oper} {v : Value} {st' : St} (h : eEff T env o.op st = some (v, st')) : EffOk P ρ st w (execOp ev o) v st' := by
  cases ho : o.op <;> rw [ho] at h <;> simp only [eEff] at h <;> first | (cases h; done) | skip
  case store t x y =>
    split at h
    case h_2 => cases h
    rename_i ti a b ht ha hb
    split at h
    case h_2 => cases h
    rename_i st1 hst
    cases h
    obtain ⟨w', h1, h2, h3⟩ := eStore_sound (hT _ _ ht) hR hst (hO _ _ ha) (hO _ _ hb)
    exact ⟨.skip, undef, ρ, w', by simp only [execOp, ho, Sem.run_bind, h1, Result.andThen_ok, Sem.run_pure], .inr ⟨rfl, rfl⟩, h2, h3, undefR⟩
  case mapUpdate t m k x =>
    split at h
    case h_2 => cases h
    rename_i ti a b c ht ha hb hc
    split at h
    case h_2 => cases h
    rename_i st1 hst
    cases h
    obtain ⟨w', h1, h2, h3⟩ := eMapSet_sound hT hR (hT _ _ ht) hst (hO _ _ ha) (hO _ _ hb) (hO _ _ hc)
    exact ⟨.skip, undef, ρ, w', by simp only [execOp, ho, Sem.run_bind, h1, Result.andThen_ok, Sem.run_pure], .inr ⟨rfl, rfl⟩, h2, h3, undefR⟩
  case mapEntry t m k =>
    split at h
    case h_2 => cases h
    rename_i ti a b ht ha hb
    obtain ⟨v', w', h1, h2, h3, h4⟩ := eMapEntry_sound hT hR (hT _ _ ht) h (hO _ _ ha) (hO _ _ hb)
    exact ⟨.value v', v', ρ, w', by simp only [execOp, ho, Sem.run_bind, h1, Result.andThen_ok, Sem.run_pure], .inl rfl, h2, h3, h4⟩
  case range t x =>
    split at h
    case h_2 => cases h
    rename_i ti a ht ha
    obtain ⟨v', ρ', w', h1, h2, h3, h4⟩ := eRange_sound hR (hT _ _ ht) h (hO _ _ ha)
    exact ⟨.value v', v', ρ', w', by simp only [execOp, ho, Sem.run_bind, h1, Result.andThen_ok, Sem.run_pure], .inl rfl, h2, h3, h4⟩
  case next it str =>
    split at h
    case h_2 => cases h
    rename_i a ha
    obtain ⟨v', w', h1, h2, h3, h4⟩ := eNext_sound (P := P) (ty := o.type) hR h (hO _ _ ha)
    exact ⟨.value v', v', ρ, w', by simp only [execOp, ho, Sem.run_bind, h1, Result.andThen_ok, Sem.run_pure], .inl rfl, h2, h3, h4⟩
  case entry it =>
    split at h
    case h_2 => cases h
    rename_i a ha
    split at h
    case h_2 => cases h
    rename_i r hr
    cases h
    obtain ⟨v', h1, h2⟩ := eEntry_sound (P := P) hR hr (hO _ _ ha)
    exact ⟨.value v', v', ρ, w, by simp only [execOp, ho, Sem.run_bind, h1, Result.andThen_ok, Sem.run_pure], .inl rfl, hR, Went.refl _ _ _, h2⟩
  case entryStore t m s x =>
    split at h
    case h_2 => cases h
    rename_i a b c ha hb hc
    split at h
    case h_2 => cases h
    rename_i st1 hst
    cases h
    obtain ⟨w', h1, h2, h3⟩ := eEntryStore_sound (P := P) (t := t) hR hst (hO _ _ ha) (hO _ _ hb) (hO _ _ hc)
    exact ⟨.skip, undef, ρ, w', by simp only [execOp, ho, Sem.run_bind, h1, Result.andThen_ok, Sem.run_pure], .inr ⟨rfl, rfl⟩, h2, h3, undefR⟩
  case call c =>
    split at h
    · rename_i x y t t' hcal hargs hts
      split at h
      case h_2 => cases h
      rename_i ti ti' a b ht ht' ha hb
      obtain ⟨v', ρ', w', h1, h2, h3, h4⟩ := eAppendOp_sound hT hR (ty := o.type) (argT0 hts) (argT1 hts) (hT _ _ ht) (hT _ _ ht') h (hO _ _ ha) (hO _ _ hb) (fun e sz by_ hd => hel t ti e sz by_ ht hd)
      exact ⟨.value v', v', ρ', w', by simp only [execOp, ho, resolve, hcal, Sem.run_bind, Sem.run_pure, Result.andThen_ok, invoke, builtin, args2 ev hargs, h1], .inl rfl, h2, h3, h4⟩
    · rename_i x y t ts hcal hargs hts
      split at h
      case h_2 => cases h
      rename_i ti a b ht ha hb
      obtain ⟨v', w', h1, h2, h3, h4⟩ := eCopy_sound hR (ty := o.type) (argT0 hts) (hT _ _ ht) h (hO _ _ ha) (hO _ _ hb)
      exact ⟨.value v', v', ρ, w', by simp only [execOp, ho, resolve, hcal, Sem.run_bind, Sem.run_pure, Result.andThen_ok, invoke, builtin, args2 ev hargs, h1], .inl rfl, h2, h3, h4⟩
    · rename_i x y t ts hcal hargs hts
      split at h
      case h_2 => cases h
      rename_i ti a b ht ha hb
      split at h
      case h_2 => cases h
      rename_i st1 hst
      cases h
      obtain ⟨w', h1, h2, h3⟩ := eDelete_sound hT hR (hT _ _ ht) hst (hO _ _ ha) (hO _ _ hb) c.argTypes (argT0 hts) o.type
      exact ⟨.value (.tuple #[]), undef, ρ, w', by simp only [execOp, ho, resolve, hcal, Sem.run_bind, Sem.run_pure, Result.andThen_ok, invoke, builtin, args2 ev hargs, h1], .inl rfl, h2, h3, undefR⟩
    · rename_i x t ts hcal hargs hts
      split at h
      case h_2 => cases h
      rename_i ti a ht ha
      split at h
      case h_2 => cases h
      rename_i st1 hst
      cases h
      obtain ⟨e1, e2⟩ := args1 hO hargs ha
      obtain ⟨w', h1, h2, h3⟩ := eClear_sound hT hR (ty := o.type) (argT0 hts) (hT _ _ ht) hst e2
      exact ⟨.value (.tuple #[]), undef, ρ, w', by simp only [execOp, ho, resolve, hcal, Sem.run_bind, Sem.run_pure, Result.andThen_ok, invoke, builtin, e1, h1], .inl rfl, h2, h3, undefR⟩
    · cases h
end Go.Proofs.YtegfafebbnlicaaGreatDoor.Ev
