/-
  The evaluator, staged: guards; drawn regions; the same function.
  The evaluator, staged: regions, code, calls; the same function.
-/
import Derived.Test.YtegfafebbnlicaaGreatDoorMExA
namespace Go.Proofs.YtegfafebbnlicaaGreatDoor.Ev
open Go
set_option linter.unusedVariables false
set_option linter.unusedSimpArgs false

/-! Guards. -/
structure WC where
  get : Env → Option Bool
noncomputable def vBo : Value → Option Bool → (Bool → Option Bool) → Option Bool :=
  @Value.rec (fun _ => Option Bool → (Bool → Option Bool) → Option Bool) (fun _ => PUnit) (fun _ => PUnit)
    (fun b _ f => f b) (fun _ _ d _ => d) (fun _ _ d _ => d) (fun _ _ _ d _ => d) (fun _ d _ => d) (fun _ d _ => d) (fun _ _ _ d _ => d) (fun _ d _ => d) (fun _ d _ => d) (fun _ _ _ _ _ d _ => d) (fun d _ => d) (fun _ _ _ d _ => d) (fun d _ => d) (fun _ _ d _ => d) (fun _ _ d _ => d)
    (fun _ _ => PUnit.unit) PUnit.unit (fun _ _ _ _ => PUnit.unit)
noncomputable def kW (f : Bool → Option Bool) (x : OV) : Option Bool := @Option.rec Value (fun _ => (Bool → Option Bool) → Option Bool) (fun _ => none) (fun v f => vBo v (some false) f) x f
noncomputable def cWant (ops : List Oper) (o : Oper) : WC :=
  match o.guard with
  | none => ⟨fun _ => some true⟩
  | some (j, want) => match ops[j]? with
    | some oj => match oj.dst with
      | some t => match want with
        | true => ⟨fun env => kW (fun b => some b) (envGet env t)⟩
        | false => ⟨fun env => kW (fun b => some (eNot b)) (envGet env t)⟩
      | none => ⟨fun _ => none⟩
    | none => ⟨fun _ => none⟩
theorem cWant_get (ops : List Oper) (o : Oper) (env : Env) : (cWant ops o).get env = eWanted ops env o := by
  unfold cWant eWanted
  cases o.guard with
  | none => rfl
  | some g =>
    obtain ⟨j, want⟩ := g
    simp only
    cases ops[j]? with
    | none => rfl
    | some oj =>
      simp only
      cases oj.dst with
      | none => rfl
      | some t =>
        cases want with
        | true =>
          show kW (fun b => some b) (envGet env t) = _
          rw [envGet_eq]
          simp only
          cases env.get t with
          | none => rfl
          | some v => cases v <;> rfl
        | false =>
          show kW (fun b => some (eNot b)) (envGet env t) = _
          rw [envGet_eq]
          simp only
          cases env.get t with
          | none => rfl
          | some v => cases v <;> rfl

/-! Drawn regions. -/
/-- What a drawn region's operations end with. -/
inductive RDX where
  | bad
  | ok (e : Env) (t : St) (ss : List St) (rs : List Rd)
abbrev DXF := Call1 → Nat → Env → St → St → List St → List Rd → RDX
structure DX where
  run : DXF
/-- Need the read not be looked at again? -/
noncomputable def still (T : Tr TI) (ops : List Oper) (i : Nat) : Bool :=
  match rangeOf T ops i with
  | (lo, hi) => Nat.ble hi lo
/-- Where a value goes. -/
noncomputable def putD (dst : Option Tmp) (env : Env) (v : Value) : Env := @Option.rec Tmp (fun _ => Env → Value → Env) (fun env _ => env) (fun t env v => envSet env t v) dst env v
theorem putD_eq (dst : Option Tmp) (env : Env) (v : Value) : putD dst env v = ePut env dst v := by cases dst <;> rfl
/-- The value alone, whatever the state. -/
noncomputable def kD0 (dst : Option Tmp) (next : DXF) (x : RV) (call : Call1) (nx : Nat) (env : Env) (s t : St) (ss : List St) (rs : List Rd) : RDX :=
  @Option.rec (Value × St) (fun _ => Option Tmp → DXF → DXF) (fun _ _ _ _ _ _ _ _ _ => .bad)
    (fun p dst next call nx env s t ss rs => @Prod.rec Value St (fun _ => Option Tmp → DXF → DXF) (fun v _ dst next call nx env s t ss rs => next call nx (putD dst env v) s t ss rs) p dst next call nx env s t ss rs) x dst next call nx env s t ss rs
noncomputable def kD1 (i : Nat) (op : Op) (dst : Option Tmp) (next : DXF) (x : RV) (call : Call1) (nx : Nat) (env : Env) (s t : St) (ss : List St) (rs : List Rd) : RDX :=
  @Option.rec (Value × St) (fun _ => Nat → Op → Option Tmp → DXF → DXF) (fun _ _ _ _ _ _ _ _ _ _ _ => .bad)
    (fun p i op dst next call nx env s t ss rs => @Prod.rec Value St (fun _ => Nat → Op → Option Tmp → DXF → DXF) (fun v _ i op dst next call nx env s t ss rs => next call nx (putD dst env v) s t ss (rs ++ [(i, env, op, v)])) p i op dst next call nx env s t ss rs) x i op dst next call nx env s t ss rs
noncomputable def kD2 (i : Nat) (dst : Option Tmp) (next : DXF) (x : Option Fresh) (call : Call1) (nx : Nat) (env : Env) (s t : St) (ss : List St) (rs : List Rd) : RDX :=
  @Option.rec Fresh (fun _ => Nat → Option Tmp → DXF → DXF) (fun _ _ _ _ _ _ _ _ _ _ => .bad)
    (fun fr i dst next call nx env s t ss rs => next call nx (putD dst env (fr.val (Nat.add nx i))) s ⟨t.h.set (Nat.add nx i) fr.obj, t.nx⟩ ss rs) x i dst next call nx env s t ss rs
noncomputable def kD3 (dst : Option Tmp) (next : DXF) (x : RV) (call : Call1) (nx : Nat) (env : Env) (ss : List St) (rs : List Rd) : RDX :=
  @Option.rec (Value × St) (fun _ => Option Tmp → DXF → Call1 → Nat → Env → List St → List Rd → RDX) (fun _ _ _ _ _ _ _ => .bad)
    (fun p dst next call nx env ss rs => @Prod.rec Value St (fun _ => Option Tmp → DXF → Call1 → Nat → Env → List St → List Rd → RDX) (fun v t' dst next call nx env ss rs => next call nx (putD dst env v) t' t' (ss ++ [t']) rs) p dst next call nx env ss rs) x dst next call nx env ss rs
/-- The choice by the guard. -/
noncomputable def kDW (yes no : DXF) (w : Option Bool) (call : Call1) (nx : Nat) (env : Env) (s t : St) (ss : List St) (rs : List Rd) : RDX :=
  @Option.rec Bool (fun _ => DXF → DXF → DXF) (fun _ _ _ _ _ _ _ _ _ => .bad)
    (fun b yes no call nx env s t ss rs => @Bool.rec (fun _ => DXF → DXF → DXF) (fun _ no => no) (fun yes _ => yes) b yes no call nx env s t ss rs) w yes no call nx env s t ss rs
noncomputable def cDStep (T : Tr TI) (ops : List Oper) (o : Oper) (i : Nat) (ih : DX) : DX :=
  match ih, cWant ops o with
  | ⟨next⟩, ⟨w⟩ => match classOf T o.op with
    | 0 => match cPure T o.op with
      | ⟨op⟩ => ⟨fun call nx env s t ss rs => kDW (fun call nx env s t ss rs => kD0 o.dst next (op call env s) call nx env s t ss rs) (fun call nx env s t ss rs => next call nx (putD o.dst env undefV) s t ss rs) (w env) call nx env s t ss rs⟩
    | 1 => match cRead T o.op, still T ops i with
      | ⟨op⟩, true => ⟨fun call nx env s t ss rs => kDW (fun call nx env s t ss rs => kD0 o.dst next (op call env s) call nx env s t ss rs) (fun call nx env s t ss rs => next call nx (putD o.dst env undefV) s t ss rs) (w env) call nx env s t ss rs⟩
      | ⟨op⟩, false => ⟨fun call nx env s t ss rs => kDW (fun call nx env s t ss rs => kD1 i o.op o.dst next (op call env s) call nx env s t ss rs) (fun call nx env s t ss rs => next call nx (putD o.dst env undefV) s t ss rs) (w env) call nx env s t ss rs⟩
    | 2 => ⟨fun call nx env s t ss rs => kDW (fun call nx env s t ss rs => kD2 i o.dst next (eFresh T env o.op) call nx env s t ss rs) (fun call nx env s t ss rs => next call nx (putD o.dst env undefV) s t ss rs) (w env) call nx env s t ss rs⟩
    | _ => match cAct T o with
      | ⟨op⟩ => ⟨fun call nx env s t ss rs => kDW (fun call nx env s t ss rs => kD3 o.dst next (op call env t) call nx env ss rs) (fun call nx env s t ss rs => next call nx (putD o.dst env undefV) t t (ss ++ [t]) rs) (w env) call nx env s t ss rs⟩
noncomputable def cD (T : Tr TI) (ops : List Oper) (l : List Oper) : Nat → DX :=
  @List.rec Oper (fun _ => Nat → DX) (fun _ => ⟨fun _ _ env _ t ss rs => .ok env t ss rs⟩) (fun o _ ih i => cDStep T ops o i (ih (Nat.succ i))) l

/-- The same reads, but for those that need no look. -/
def RdEq (T : Tr TI) (ops : List Oper) (rs rs' : List Rd) : Prop := ∀ ss, againAll T ops ss rs = againAll T ops ss rs'
theorem againAllX_cons (T : Tr TI) (ops : List Oper) (ss : List St) (r : Rd) (rs : List Rd) : againAll T ops ss (r :: rs) = (match r with
    | (i, env, op, v) => match rangeOf T ops i with
      | (lo, hi) => match Nat.ble hi lo with
        | true => againAll T ops ss rs
        | false => match againAt T env op v ss 0 lo hi with
          | true => againAll T ops ss rs
          | false => false) := rfl
def andB2 (a b : Bool) : Bool := match a with
  | true => b
  | false => false
theorem againAll_append (T : Tr TI) (ops : List Oper) (ss : List St) : ∀ (a b : List Rd), againAll T ops ss (a ++ b) = andB2 (againAll T ops ss a) (againAll T ops ss b)
  | [], b => rfl
  | r :: a, b => by
    have ih := againAll_append T ops ss a b
    rw [List.cons_append, againAllX_cons, againAllX_cons, ih]
    obtain ⟨i, env, op, v⟩ := r
    simp only
    cases rangeOf T ops i with
    | mk lo hi =>
      simp only
      cases Nat.ble hi lo with
      | true => rfl
      | false =>
        simp only
        cases againAt T env op v ss 0 lo hi <;> rfl
theorem RdEq.snoc {T : Tr TI} {ops : List Oper} {rs rs' : List Rd} (h : RdEq T ops rs rs') (r : Rd) : RdEq T ops (rs ++ [r]) (rs' ++ [r]) := fun ss => by
  rw [againAll_append, againAll_append, h ss]
theorem RdEq.skip {T : Tr TI} {ops : List Oper} {rs rs' : List Rd} (h : RdEq T ops rs rs') {i : Nat} (hs : still T ops i = true) (env : Env) (op : Op) (v : Value) : RdEq T ops (rs ++ [(i, env, op, v)]) rs' := fun ss => by
  rw [againAll_append, h ss]
  have : againAll T ops ss [(i, env, op, v)] = true := by
    rw [againAllX_cons]
    unfold still at hs
    cases hr : rangeOf T ops i with
    | mk lo hi =>
      rw [hr] at hs
      simp only at hs
      simp only [hr, hs]
      rfl
  rw [this]
  cases againAll T ops ss rs' <;> rfl
/-- How the two runs stand to each other. -/
def RdR (T : Tr TI) (ops : List Oper) (x : RDX) (y : Option (Env × St × List St × List Rd)) : Prop :=
  match x, y with
  | .bad, none => True
  | .ok e t ss rs', some (e', t', ss', rs) => e = e' ∧ t = t' ∧ ss = ss' ∧ RdEq T ops rs rs'
  | _, _ => False
theorem runDX_cons (T : Tr TI) (call : Call1) (ops : List Oper) (nx : Nat) (o : Oper) (l : List Oper) (i : Nat) (env : Env) (s t : St) (ss : List St) (rs : List Rd) : runD T call ops nx (o :: l) i env s t ss rs = (match eWanted ops env o with
      | none => none
      | some wn => match classOf T o.op with
        | 0 => match wn with
          | true => match ePure T env o.op with
            | some v => runD T call ops nx l (Nat.succ i) (ePut env o.dst v) s t ss rs
            | none => none
          | false => runD T call ops nx l (Nat.succ i) (ePut env o.dst undefV) s t ss rs
        | 1 => match wn with
          | true => match eRead T env o.op s with
            | some v => runD T call ops nx l (Nat.succ i) (ePut env o.dst v) s t ss (rs ++ [(i, env, o.op, v)])
            | none => none
          | false => runD T call ops nx l (Nat.succ i) (ePut env o.dst undefV) s t ss rs
        | 2 => match wn with
          | true => match eFresh T env o.op with
            | some fr => runD T call ops nx l (Nat.succ i) (ePut env o.dst (fr.val (Nat.add nx i))) s ⟨t.h.set (Nat.add nx i) fr.obj, t.nx⟩ ss rs
            | none => none
          | false => runD T call ops nx l (Nat.succ i) (ePut env o.dst undefV) s t ss rs
        | _ => match wn with
          | true => match eAct T call env o t with
            | some (v, t') => runD T call ops nx l (Nat.succ i) (ePut env o.dst v) t' t' (ss ++ [t']) rs
            | none => none
          | false => runD T call ops nx l (Nat.succ i) (ePut env o.dst undefV) t t (ss ++ [t]) rs) := rfl
theorem cD_run (T : Tr TI) (call : Call1) (ops : List Oper) (nx : Nat) : ∀ (l : List Oper) (i : Nat) (env : Env) (s t : St) (ss : List St) (rs rs' : List Rd), RdEq T ops rs rs' → RdR T ops ((cD T ops l i).run call nx env s t ss rs') (runD T call ops nx l i env s t ss rs)
  | [], i, env, s, t, ss, rs, rs', h => ⟨rfl, rfl, rfl, h⟩
  | o :: l, i, env, s, t, ss, rs, rs', h => by
    have ih := cD_run T call ops nx l (Nat.succ i)
    have hw := cWant_get ops o env
    rw [runDX_cons]
    show RdR T ops ((cDStep T ops o i (cD T ops l (Nat.succ i))).run call nx env s t ss rs') _
    unfold cDStep
    generalize cD T ops l (Nat.succ i) = n at ih
    generalize cWant ops o = W at hw
    cases n with
    | mk next =>
    cases W with
    | mk w =>
    have ih : ∀ env s t ss rs rs', RdEq T ops rs rs' → RdR T ops (next call nx env s t ss rs') (runD T call ops nx l (Nat.succ i) env s t ss rs) := ih
    have hw : w env = eWanted ops env o := hw
    generalize classOf T o.op = k
    match k with
    | 0 =>
      have ho := cPure_run T o.op call env s
      generalize cPure T o.op = q at ho
      cases q with
      | mk op =>
      show RdR T ops (kDW (fun call nx env s t ss rs => kD0 o.dst next (op call env s) call nx env s t ss rs) (fun call nx env s t ss rs => next call nx (putD o.dst env undefV) s t ss rs) (w env) call nx env s t ss rs') _
      have ho : op call env s = _ := ho
      rw [hw]
      cases eWanted ops env o with
      | none => trivial
      | some b => cases b with
        | false =>
          have := ih (putD o.dst env undefV) s t ss rs rs' h
          rw [putD_eq] at this
          show RdR T ops (next call nx (putD o.dst env undefV) s t ss rs') _
          rw [putD_eq]
          exact this
        | true =>
          show RdR T ops (kD0 o.dst next (op call env s) call nx env s t ss rs') _
          rw [ho]
          simp only
          cases ePure T env o.op with
          | none => trivial
          | some v =>
            have := ih (putD o.dst env v) s t ss rs rs' h
            rw [putD_eq] at this
            show RdR T ops (next call nx (putD o.dst env v) s t ss rs') _
            rw [putD_eq]
            exact this
    | 1 =>
      have ho := cRead_run T o.op call env s
      generalize cRead T o.op = q at ho
      cases q with
      | mk op =>
      have ho : op call env s = _ := ho
      cases hs : still T ops i with
      | true =>
        show RdR T ops (kDW (fun call nx env s t ss rs => kD0 o.dst next (op call env s) call nx env s t ss rs) (fun call nx env s t ss rs => next call nx (putD o.dst env undefV) s t ss rs) (w env) call nx env s t ss rs') _
        rw [hw]
        cases eWanted ops env o with
        | none => trivial
        | some b => cases b with
          | false =>
            have := ih (putD o.dst env undefV) s t ss rs rs' h
            rw [putD_eq] at this
            show RdR T ops (next call nx (putD o.dst env undefV) s t ss rs') _
            rw [putD_eq]
            exact this
          | true =>
            show RdR T ops (kD0 o.dst next (op call env s) call nx env s t ss rs') _
            rw [ho]
            simp only
            cases eRead T env o.op s with
            | none => trivial
            | some v =>
              have := ih (putD o.dst env v) s t ss _ rs' (h.skip hs env o.op v)
              rw [putD_eq] at this
              show RdR T ops (next call nx (putD o.dst env v) s t ss rs') _
              rw [putD_eq]
              exact this
      | false =>
        show RdR T ops (kDW (fun call nx env s t ss rs => kD1 i o.op o.dst next (op call env s) call nx env s t ss rs) (fun call nx env s t ss rs => next call nx (putD o.dst env undefV) s t ss rs) (w env) call nx env s t ss rs') _
        rw [hw]
        cases eWanted ops env o with
        | none => trivial
        | some b => cases b with
          | false =>
            have := ih (putD o.dst env undefV) s t ss rs rs' h
            rw [putD_eq] at this
            show RdR T ops (next call nx (putD o.dst env undefV) s t ss rs') _
            rw [putD_eq]
            exact this
          | true =>
            show RdR T ops (kD1 i o.op o.dst next (op call env s) call nx env s t ss rs') _
            rw [ho]
            simp only
            cases eRead T env o.op s with
            | none => trivial
            | some v =>
              have := ih (putD o.dst env v) s t ss _ _ (h.snoc (i, env, o.op, v))
              rw [putD_eq] at this
              show RdR T ops (next call nx (putD o.dst env v) s t ss (rs' ++ [(i, env, o.op, v)])) _
              rw [putD_eq]
              exact this
    | 2 =>
      show RdR T ops (kDW (fun call nx env s t ss rs => kD2 i o.dst next (eFresh T env o.op) call nx env s t ss rs) (fun call nx env s t ss rs => next call nx (putD o.dst env undefV) s t ss rs) (w env) call nx env s t ss rs') _
      rw [hw]
      cases eWanted ops env o with
      | none => trivial
      | some b => cases b with
        | false =>
          have := ih (putD o.dst env undefV) s t ss rs rs' h
          rw [putD_eq] at this
          show RdR T ops (next call nx (putD o.dst env undefV) s t ss rs') _
          rw [putD_eq]
          exact this
        | true =>
          show RdR T ops (kD2 i o.dst next (eFresh T env o.op) call nx env s t ss rs') _
          simp only
          cases eFresh T env o.op with
          | none => trivial
          | some fr =>
            have := ih (putD o.dst env (fr.val (Nat.add nx i))) s ⟨t.h.set (Nat.add nx i) fr.obj, t.nx⟩ ss rs rs' h
            rw [putD_eq] at this
            show RdR T ops (next call nx (putD o.dst env (fr.val (Nat.add nx i))) s ⟨t.h.set (Nat.add nx i) fr.obj, t.nx⟩ ss rs') _
            rw [putD_eq]
            exact this
    | n + 3 =>
      have ho := cAct_run T o call env t
      generalize cAct T o = q at ho
      cases q with
      | mk op =>
      have ho : op call env t = _ := ho
      show RdR T ops (kDW (fun call nx env s t ss rs => kD3 o.dst next (op call env t) call nx env ss rs) (fun call nx env s t ss rs => next call nx (putD o.dst env undefV) t t (ss ++ [t]) rs) (w env) call nx env s t ss rs') _
      rw [hw]
      cases eWanted ops env o with
      | none => trivial
      | some b => cases b with
        | false =>
          have := ih (putD o.dst env undefV) t t (ss ++ [t]) rs rs' h
          rw [putD_eq] at this
          show RdR T ops (next call nx (putD o.dst env undefV) t t (ss ++ [t]) rs') _
          rw [putD_eq]
          exact this
        | true =>
          show RdR T ops (kD3 o.dst next (op call env t) call nx env ss rs') _
          rw [ho]
          simp only
          cases eAct T call env o t with
          | none => trivial
          | some p =>
            obtain ⟨v, t'⟩ := p
            have := ih (putD o.dst env v) t' t' (ss ++ [t']) rs rs' h
            rw [putD_eq] at this
            show RdR T ops (next call nx (putD o.dst env v) t' t' (ss ++ [t']) rs') _
            rw [putD_eq]
            exact this
/-- A drawn region. -/
noncomputable def kDraw (T : Tr TI) (ops : List Oper) (x : RDX) : Option (Env × St) :=
  @RDX.rec (fun _ => Tr TI → List Oper → Option (Env × St)) (fun _ _ => none)
    (fun e t ss rs T ops => @Bool.rec (fun _ => Env → St → Option (Env × St)) (fun _ _ => none) (fun e t => some (e, t)) (againAll T ops ss rs) e t) x T ops
structure DrC where
  run : Call1 → Env → St → Option (Env × St)
noncomputable def cDraw (T : Tr TI) (ops : List Oper) : DrC :=
  match cD T ops ops 0, ops.length with
  | ⟨f⟩, n => ⟨fun call env st => kDraw T ops (f call st.nx env ⟨st.h, Nat.add st.nx n⟩ ⟨st.h, Nat.add st.nx n⟩ [⟨st.h, Nat.add st.nx n⟩] [])⟩
theorem cDraw_run (T : Tr TI) (call : Call1) (ops : List Oper) (env : Env) (st : St) : (cDraw T ops).run call env st = runDraw T call ops env st := by
  have h := cD_run T call ops st.nx ops 0 env ⟨st.h, Nat.add st.nx ops.length⟩ ⟨st.h, Nat.add st.nx ops.length⟩ [⟨st.h, Nat.add st.nx ops.length⟩] [] [] (fun _ => rfl)
  unfold cDraw runDraw
  generalize cD T ops ops 0 = q at h
  cases q with
  | mk f =>
    have h : RdR T ops (f call st.nx env ⟨st.h, Nat.add st.nx ops.length⟩ ⟨st.h, Nat.add st.nx ops.length⟩ [⟨st.h, Nat.add st.nx ops.length⟩] []) _ := h
    show kDraw T ops (f call st.nx env ⟨st.h, Nat.add st.nx ops.length⟩ ⟨st.h, Nat.add st.nx ops.length⟩ [⟨st.h, Nat.add st.nx ops.length⟩] []) = _
    generalize f call st.nx env ⟨st.h, Nat.add st.nx ops.length⟩ ⟨st.h, Nat.add st.nx ops.length⟩ [⟨st.h, Nat.add st.nx ops.length⟩] [] = x at h
    generalize runD T call ops st.nx ops 0 env ⟨st.h, Nat.add st.nx ops.length⟩ ⟨st.h, Nat.add st.nx ops.length⟩ [⟨st.h, Nat.add st.nx ops.length⟩] [] = y at h
    cases x with
    | bad => cases y with
      | none => rfl
      | some p => exact h.elim
    | ok e t ss rs' => cases y with
      | none => exact h.elim
      | some p =>
        obtain ⟨e', t', ss', rs⟩ := p
        obtain ⟨rfl, rfl, rfl, h4⟩ := h
        show @Bool.rec (fun _ => Env → St → Option (Env × St)) (fun _ _ => none) (fun e t => some (e, t)) (againAll T ops ss rs') e t = (match againAll T ops ss rs with
          | true => some (e, t)
          | false => none)
        rw [h4 ss]
        cases againAll T ops ss rs' <;> rfl
end Go.Proofs.YtegfafebbnlicaaGreatDoor.Ev

namespace Go.Proofs.YtegfafebbnlicaaGreatDoor.Ev
open Go
set_option linter.unusedVariables false
set_option linter.unusedSimpArgs false

/-- What a region ends with. -/
inductive RE where
  | bad
  | ok (e : Env) (s : St)
def RE.opt : RE → Option (Env × St)
  | .bad => none
  | .ok e s => some (e, s)
/-- What code ends with. -/
inductive RX where
  | bad
  | norm (e : Env) (s : St)
  | exit (id : Nat) (e : Env) (s : St)
  | ret (e : Env) (s : St)
def RX.opt : RX → Option (Ex × Env × St)
  | .bad => none
  | .norm e s => some (.norm, e, s)
  | .exit id e s => some (.exit id, e, s)
  | .ret e s => some (.ret, e, s)
def RX.of : Option (Ex × Env × St) → RX
  | none => .bad
  | some (.norm, e, s) => .norm e s
  | some (.exit id, e, s) => .exit id e s
  | some (.ret, e, s) => .ret e s
theorem RX.of_opt (x : Option (Ex × Env × St)) : (RX.of x).opt = x := by
  cases x with
  | none => rfl
  | some x => obtain ⟨e, env, st⟩ := x; cases e <;> rfl
abbrev NX := Call1 → Env → St → RE
abbrev RunX := Code → Env → St → RX
/-- Operations one after another. -/
structure HX where
  run : NX
/-- Code. -/
structure CC where
  run : RunX → Call1 → Env → St → RX

noncomputable def kPut (t : Tmp) (next : NX) (x : RV) (call : Call1) (env : Env) : RE :=
  @Option.rec (Value × St) (fun _ => Tmp → NX → Call1 → Env → RE) (fun _ _ _ _ => .bad)
    (fun p t next call env => @Prod.rec Value St (fun _ => Tmp → NX → Call1 → Env → RE) (fun v st t next call env => next call (envSet env t v) st) p t next call env) x t next call env
noncomputable def kNo (next : NX) (x : RV) (call : Call1) (env : Env) : RE :=
  @Option.rec (Value × St) (fun _ => NX → Call1 → Env → RE) (fun _ _ _ => .bad)
    (fun p next call env => @Prod.rec Value St (fun _ => NX → Call1 → Env → RE) (fun v st next call env => next call env st) p next call env) x next call env
noncomputable def kGuard (dst : Option Tmp) (op : Call1 → Env → St → RV) (next : NX) (w : Option Bool) (call : Call1) (env : Env) (st : St) : RE :=
  match w with
  | some true => match op call env st with
    | some (v, st') => next call (ePut env dst v) st'
    | none => .bad
  | some false => next call (ePut env dst undefV) st
  | none => .bad
noncomputable def cStep (T : Tr TI) (all : List Oper) (o : Oper) (ih : HX) : HX :=
  match cOper T o, ih with
  | ⟨op⟩, ⟨next⟩ => match o.guard with
    | none => match o.dst with
      | some t => ⟨fun call env st => kPut t next (op call env st) call env⟩
      | none => ⟨fun call env st => kNo next (op call env st) call env⟩
    | some _ => ⟨fun call env st => kGuard o.dst op next (eWanted all env o) call env st⟩
noncomputable def cOps (T : Tr TI) (all : List Oper) (l : List Oper) : HX :=
  @List.rec Oper (fun _ => HX) ⟨fun _ env st => .ok env st⟩ (fun o _ ih => cStep T all o ih) l
theorem runOps_cons2 (T : Tr TI) (call : Call1) (ops : List Oper) (o : Oper) (l : List Oper) (env : Env) (st : St) : runOps T call ops (o :: l) env st = (match eWanted ops env o with
      | some true => match eOper T call env o st with
        | some (v, st') => runOps T call ops l (ePut env o.dst v) st'
        | none => none
      | some false => runOps T call ops l (ePut env o.dst undefV) st
      | none => none) := rfl
theorem cOps_run (T : Tr TI) (call : Call1) (all : List Oper) : ∀ (l : List Oper) (env : Env) (st : St), ((cOps T all l).run call env st).opt = runOps T call all l env st
  | [], env, st => rfl
  | o :: l, env, st => by
    have ih := cOps_run T call all l
    have ho := cOper_run T o call env st
    rw [runOps_cons2]
    show ((cStep T all o (cOps T all l)).run call env st).opt = _
    unfold cStep
    generalize cOper T o = q at ho
    generalize cOps T all l = n at ih
    cases q with
    | mk op => cases n with
      | mk next =>
        have ho : op call env st = eOper T call env o st := ho
        have ih : ∀ env st, (next call env st).opt = runOps T call all l env st := ih
        cases hg : o.guard with
        | none =>
          have hw : eWanted all env o = some true := by unfold eWanted; rw [hg]
          rw [hw, ← ho]
          cases hd : o.dst with
          | some t =>
            show (kPut t next (op call env st) call env).opt = _
            cases hop : op call env st with
            | none => simp only [hop]; rfl
            | some p =>
              obtain ⟨v, st'⟩ := p
              simp only [hop]
              exact ih _ _
          | none =>
            show (kNo next (op call env st) call env).opt = _
            cases hop : op call env st with
            | none => simp only [hop]; rfl
            | some p =>
              obtain ⟨v, st'⟩ := p
              simp only [hop]
              exact ih _ _
        | some g =>
          show (kGuard o.dst op next (eWanted all env o) call env st).opt = _
          unfold kGuard
          cases hw : eWanted all env o with
          | none => rfl
          | some b =>
            cases b with
            | false => exact ih _ _
            | true =>
              rw [← ho]
              cases hop : op call env st with
              | none => simp only [hop]; rfl
              | some p =>
                obtain ⟨v, st'⟩ := p
                simp only [hop]
                exact ih _ _

noncomputable def kRgn (x : RE) : RX := @RE.rec (fun _ => RX) .bad (fun e s => .norm e.flush s) x
noncomputable def kDr (x : Option (Env × St)) : RX := @Option.rec (Env × St) (fun _ => RX) .bad (fun p => @Prod.rec Env St (fun _ => RX) (fun e s => .norm e.flush s) p) x
noncomputable def kSeq (ih : RunX) (b : Code) (x : RX) : RX :=
  @RX.rec (fun _ => RunX → Code → RX) (fun _ _ => .bad) (fun e s ih b => ih b e s) (fun id e s _ _ => .exit id e s) (fun e s _ _ => .ret e s) x ih b
noncomputable def kLoop (ih : RunX) (c : Code) (x : RX) : RX :=
  @RX.rec (fun _ => RunX → Code → RX) (fun _ _ => .bad) (fun e s ih c => ih c e s) (fun id e s _ _ => .exit id e s) (fun e s _ _ => .ret e s) x ih c
noncomputable def kBlock (id : Nat) (x : RX) : RX :=
  @RX.rec (fun _ => Nat → RX) (fun _ => .bad) (fun e s _ => .norm e s)
    (fun id' e s id => @Bool.rec (fun _ => Nat → Env → St → RX) (fun id' e s => .exit id' e s) (fun _ e s => .norm e s) (Nat.beq id' id) id' e s) (fun e s _ => .ret e s) x id
noncomputable def vBool {R : Type} (x : Value) (f : Bool → R) (d : R) : R :=
  @Value.rec (fun _ => (Bool → R) → R → R) (fun _ => PUnit) (fun _ => PUnit)
    (fun b f d => f b) (fun _ _ f d => d) (fun _ _ f d => d) (fun _ _ _ f d => d) (fun _ f d => d) (fun _ f d => d) (fun _ _ _ f d => d) (fun _ f d => d) (fun _ f d => d) (fun _ _ _ _ _ f d => d) (fun f d => d) (fun _ _ _ f d => d) (fun f d => d) (fun _ _ f d => d) (fun _ _ f d => d)
    (fun _ _ => PUnit.unit) PUnit.unit (fun _ _ _ _ => PUnit.unit) x f d
noncomputable def kIf (ih : RunX) (a b : Code) (env : Env) (st : St) (t : Bool) : RX :=
  @Bool.rec (fun _ => RunX → Code → Code → Env → St → RX) (fun ih a b env st => ih b env st) (fun ih a b env st => ih a env st) t ih a b env st
noncomputable def kCond (ih : RunX) (a b : Code) (env : Env) (st : St) (x : Option Value) : RX :=
  @Option.rec Value (fun _ => RunX → Code → Code → Env → St → RX) (fun _ _ _ _ _ => .bad) (fun v ih a b env st => vBool v (kIf ih a b env st) .bad) x ih a b env st
noncomputable def rangeX (T : Tr TI) (f : Operand) (ps : Array Tmp) (asg body : Code) (call : Call1) (env : Env) (st : St) : Option (Ex × Env × St) :=
  match eOpd env f with
    | some (.func (.func g) xs cs) => match call (.fn g) (xs.toList ++ (.func (.yield st.nx) #[] #[] :: cs.toList)) (st.new (.loop (Nat.max (psMax ps.toList) (Nat.max (dstMax asg) (dstMax body))) env ps.toList asg body .ready none)) with
      | some (_, st1) => endRF st1 st.nx env
      | none => none
    | _ => none
noncomputable def cCode (T : Tr TI) (c : Code) : CC :=
  match c with
  | .skip => ⟨fun _ _ env st => .norm env st⟩
  | .label _ => ⟨fun _ _ env st => .norm env st⟩
  | .region _ ops draw => match draw with
    | false => match cOps T ops.toList ops.toList with
      | ⟨g⟩ => ⟨fun _ call env st => kRgn (g call env st)⟩
    | true => match cDraw T ops.toList with
      | ⟨g⟩ => ⟨fun _ call env st => kDr (g call env st)⟩
  | .seq a b => ⟨fun ih _ env st => kSeq ih b (ih a env st)⟩
  | .cond x a b => match cOpd x with
    | ⟨g⟩ => ⟨fun ih _ env st => kCond ih a b env st (g env)⟩
  | .block id body => ⟨fun ih _ env st => kBlock id (ih body env st)⟩
  | .loop body => ⟨fun ih _ env st => kLoop ih (.loop body) (ih body env st)⟩
  | .exit id => ⟨fun _ _ env st => .exit id env st⟩
  | .ret => ⟨fun _ _ env st => .ret env st⟩
  | .rangeFunc f ps asg body => ⟨fun _ call env st => RX.of (rangeX T f ps asg body call env st)⟩
  | _ => ⟨fun _ _ _ _ => .bad⟩
theorem cCode_run (T : Tr TI) (F : Tr FI) (H : Hooks) {ihX : RunX} {ih : Run1} (hih : ∀ c env st, (ihX c env st).opt = ih c env st) (c : Code) (env : Env) (st : St) :
    ((cCode T c).run ihX (callW T F H ih) env st).opt = runF T F H ih c env st := by
  cases c
  case skip => rfl
  case label => rfl
  case region id ops draw =>
    cases draw with
    | true =>
      have h := cDraw_run T (callW T F H ih) ops.toList env st
      show ((match cDraw T ops.toList with
        | ⟨g⟩ => (⟨fun _ call env st => kDr (g call env st)⟩ : CC)).run ihX (callW T F H ih) env st).opt = (match runDraw T (callW T F H ih) ops.toList env st with
      | some (env', st') => some (Ex.norm, env'.flush, st')
      | none => none)
      rw [← h]
      generalize cDraw T ops.toList = q
      cases q with
      | mk g =>
        show (kDr (g (callW T F H ih) env st)).opt = (match g (callW T F H ih) env st with
      | some (env', st') => some (Ex.norm, env'.flush, st')
      | none => none)
        cases g (callW T F H ih) env st with
        | none => rfl
        | some p => rfl
    | false =>
      have h := cOps_run T (callW T F H ih) ops.toList ops.toList env st
      show ((match cOps T ops.toList ops.toList with
        | ⟨g⟩ => (⟨fun _ call env st => kRgn (g call env st)⟩ : CC)).run ihX (callW T F H ih) env st).opt = (match runOps T (callW T F H ih) ops.toList ops.toList env st with
      | some (env', st') => some (Ex.norm, env'.flush, st')
      | none => none)
      rw [← h]
      generalize cOps T ops.toList ops.toList = q
      cases q with
      | mk g =>
        show (kRgn (g (callW T F H ih) env st)).opt = (match (g (callW T F H ih) env st).opt with
      | some (env', st') => some (Ex.norm, env'.flush, st')
      | none => none)
        cases g (callW T F H ih) env st <;> rfl
  case seq a b =>
    show (kSeq ihX b (ihX a env st)).opt = (match ih a env st with
    | some (.norm, env', st') => ih b env' st'
    | r => r)
    rw [← hih a env st]
    cases ihX a env st with
    | bad => rfl
    | norm e s => exact hih b e s
    | exit id e s => rfl
    | ret e s => rfl
  case cond x a b =>
    show ((match cOpd x with
    | ⟨g⟩ => (⟨fun ih _ env st => kCond ih a b env st (g env)⟩ : CC)).run ihX (callW T F H ih) env st).opt = (match eOpd env x with
    | some (.bool true) => ih a env st
    | some (.bool false) => ih b env st
    | _ => none)
    rw [← cOpd_get]
    generalize cOpd x = q
    cases q with
    | mk g =>
      show (kCond ihX a b env st (g env)).opt = (match g env with
    | some (.bool true) => ih a env st
    | some (.bool false) => ih b env st
    | _ => none)
      cases g env with
      | none => rfl
      | some v =>
        cases v
        case bool t => cases t with
          | true => exact hih a env st
          | false => exact hih b env st
        all_goals rfl
  case block id body =>
    show (kBlock id (ihX body env st)).opt = (match ih body env st with
    | some (.exit id', env', st') => match Nat.beq id' id with
      | true => some (.norm, env', st')
      | false => some (.exit id', env', st')
    | r => r)
    rw [← hih body env st]
    cases ihX body env st with
    | bad => rfl
    | norm e s => rfl
    | exit id' e s =>
      show (@Bool.rec (fun _ => Nat → Env → St → RX) (fun id' e s => .exit id' e s) (fun _ e s => .norm e s) (Nat.beq id' id) id' e s).opt = (match Nat.beq id' id with
      | true => some (.norm, e, s)
      | false => some (.exit id', e, s))
      cases Nat.beq id' id <;> rfl
    | ret e s => rfl
  case loop body =>
    show (kLoop ihX (.loop body) (ihX body env st)).opt = (match ih body env st with
    | some (.norm, env', st') => ih (.loop body) env' st'
    | r => r)
    rw [← hih body env st]
    cases ihX body env st with
    | bad => rfl
    | norm e s => exact hih _ e s
    | exit id e s => rfl
    | ret e s => rfl
  case rangeFunc f ps asg body => exact RX.of_opt _
  all_goals rfl

/-! Calls. -/
abbrev HookF := Call1 → List Value → St → Option (Value × St)
structure HC where
  h : Option HookF
abbrev HookT := FuncId → HC
noncomputable def hooksOf (hk : HookT) : Hooks := fun call f => match (hk f).h with
  | some k => some (k call)
  | none => none
structure FC where
  run : RunX → List Value → St → RV
structure RC where
  get : Env → St → Option Value
noncomputable def cRes (T : Tr TI) (l : List ResultVar) : RC :=
  match l with
  | [.tmp t] => ⟨fun env _ => envGet env t⟩
  | l => ⟨fun env st => eResults T env st l⟩
theorem cRes_get (T : Tr TI) (l : List ResultVar) (env : Env) (st : St) : (cRes T l).get env st = eResults T env st l := by
  unfold cRes
  split
  · rename_i t
    show envGet env t = _
    rw [envGet_eq]
    show env.get t = (match (match env.get t with
      | some v => some [v]
      | none => none) with
      | some [v] => some v
      | some vs => some (.tuple vs.toArray)
      | none => none)
    cases env.get t <;> rfl
  · rfl
noncomputable def kRes (x : Option Value) (st : St) : RV := kPure x st
noncomputable def kRet (r : Env → St → Option Value) (x : RX) : RV :=
  @RX.rec (fun _ => (Env → St → Option Value) → RV) (fun _ => none) (fun e s r => kPure (r e s) s) (fun _ _ _ _ => none) (fun e s r => kPure (r e s) s) x r
noncomputable def badF : FC := ⟨fun _ _ _ => none⟩
noncomputable def cFn (T : Tr TI) (F : Tr FI) (g : FuncId) : FC :=
  match F.get g with
  | some (fn, m) => match fn.body, cRes T fn.results.toList with
    | some c, ⟨r⟩ => ⟨fun ih args st => kRet r (ih c (envOf m args 0) st)⟩
    | none, _ => badF
  | none => badF
theorem cFn_run (T : Tr TI) (F : Tr FI) {ihX : RunX} {ih : Run1} (hih : ∀ c env st, (ihX c env st).opt = ih c env st) (g : FuncId) (args : List Value) (st : St) : (cFn T F g).run ihX args st = callG T F ih g args st := by
  unfold cFn callG
  cases F.get g with
  | none => rfl
  | some p =>
    obtain ⟨fn, m⟩ := p
    simp only
    have hr := cRes_get T fn.results.toList
    generalize cRes T fn.results.toList = q at hr
    cases q with
    | mk r =>
      have hr : ∀ env st, r env st = eResults T env st fn.results.toList := hr
      cases fn.body with
      | none => rfl
      | some c =>
        simp only
        rw [← hih c (envOf m args 0) st]
        show kRet r (ihX c (envOf m args 0) st) = _
        cases ihX c (envOf m args 0) st with
        | bad => rfl
        | norm e s =>
          show kPure (r e s) s = _
          rw [kPure_eq, hr]; rfl
        | exit id e s => rfl
        | ret e s =>
          show kPure (r e s) s = _
          rw [kPure_eq, hr]; rfl
noncomputable def callTX (T : Tr TI) (F : Tr FI) (ih : RunX) : Call1 := fun g args st =>
  match g with
  | .fn g => (cFn T F g).run ih args st
  | .yield l => yieldG T (fun c env st => (ih c env st).opt) l args st
theorem callTX_eq (T : Tr TI) (F : Tr FI) {ihX : RunX} {ih : Run1} (hih : ∀ c env st, (ihX c env st).opt = ih c env st) : callTX T F ihX = callT T F ih := by
  funext g args st
  have hf : (fun c env st => (ihX c env st).opt) = ih := by funext c env st; exact hih c env st
  cases g with
  | fn g => exact cFn_run T F hih g args st
  | yield l => show yieldG T (fun c env st => (ihX c env st).opt) l args st = _; rw [hf]; rfl
structure KC where
  run : Call1 → RunX → List Value → St → RV
noncomputable def cCall (T : Tr TI) (F : Tr FI) (hk : HookT) (f : FuncId) : KC :=
  match (hk f).h, cFn T F f with
  | some k, _ => ⟨fun call _ args st => k call args st⟩
  | none, ⟨r⟩ => ⟨fun _ ih args st => r ih args st⟩
noncomputable def callX (T : Tr TI) (F : Tr FI) (hk : HookT) (ih : RunX) : Call1 := fun g args st =>
  @Tgt.rec (fun _ => RunX → List Value → St → RV) (fun f ih args st => (cCall T F hk f).run (callTX T F ih) ih args st) (fun l ih args st => yieldG T (fun c env st => (ih c env st).opt) l args st) g ih args st
theorem callX_eq (T : Tr TI) (F : Tr FI) (hk : HookT) {ihX : RunX} {ih : Run1} (hih : ∀ c env st, (ihX c env st).opt = ih c env st) : callX T F hk ihX = callW T F (hooksOf hk) ih := by
  funext g args st
  have hf : (fun c env st => (ihX c env st).opt) = ih := by funext c env st; exact hih c env st
  cases g with
  | fn f =>
    have h1 := cFn_run T F hih f args st
    have h2 := callTX_eq T F hih
    show (cCall T F hk f).run (callTX T F ihX) ihX args st = (match hooksOf hk (callT T F ih) f with
      | some h => h args st
      | none => callG T F ih f args st)
    unfold cCall hooksOf
    rw [← h1, ← h2]
    generalize cFn T F f = q
    cases q with
    | mk r => cases (hk f).h <;> rfl
  | yield l => show yieldG T (fun c env st => (ihX c env st).opt) l args st = _; rw [hf]; rfl
noncomputable def runX (T : Tr TI) (F : Tr FI) (hk : HookT) (n : Nat) : RunX :=
  Nat.rec (motive := fun _ => RunX) (fun _ _ _ => .bad) (fun _ ih c env st => (cCode T c).run ih (callX T F hk ih) env st) n
theorem runX_eq (T : Tr TI) (F : Tr FI) (hk : HookT) : ∀ (n : Nat) (c : Code) (env : Env) (st : St), (runX T F hk n c env st).opt = run T F (hooksOf hk) n c env st
  | 0, _, _, _ => rfl
  | n + 1, c, env, st => by
    have ih := runX_eq T F hk n
    show ((cCode T c).run (runX T F hk n) (callX T F hk (runX T F hk n)) env st).opt = runF T F (hooksOf hk) (run T F (hooksOf hk) n) c env st
    rw [callX_eq T F hk ih]
    exact cCode_run T F (hooksOf hk) ih c env st
/-- A call from outside. -/
theorem callX_run (T : Tr TI) (F : Tr FI) (hk : HookT) (n : Nat) (g : FuncId) (args : List Value) (st : St) : (cFn T F g).run (runX T F hk n) args st = callG T F (run T F (hooksOf hk) n) g args st :=
  cFn_run T F (runX_eq T F hk n) g args st
end Go.Proofs.YtegfafebbnlicaaGreatDoor.Ev
