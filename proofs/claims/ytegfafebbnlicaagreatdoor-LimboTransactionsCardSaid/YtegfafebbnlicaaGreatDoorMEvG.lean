/-
  Calls and regions: what soundness means; an operation of a region.
  Regions that are carried out in the order of the text.
  Code, calls, rounds: the runner is sound (over the drawn regions' soundness).
-/
import Derived.Test.YtegfafebbnlicaaGreatDoorMEvF
import Derived.Test.YtegfafebbnlicaaGreatDoorMEvC
import Derived.OrdersIn
import Derived.RangeFuncLeaves
import Derived.RangeFuncRecord
import Derived.RangeFuncCalls
import Derived.Conc.MuLone
import Derived.LoopNIn
namespace Go.Proofs.YtegfafebbnlicaaGreatDoor.Ev
open Go
set_option linter.unusedVariables false
set_option linter.unusedSimpArgs false

variable {P : Program} {ρ : Ren} {st : St} {w : World}

/-- Everything is let in; r: the loop in whose round the frame is. -/
def Fw (r : Option Nat) : Fence := { Fence.wide with round := r }
theorem fw_fn (r : Option Nat) (f : FuncId) : (Fw r).fn f := trivial
theorem fw_room (r : Option Nat) (n : Nat) : (Fw r).room n := fun _ h => by cases h
theorem fw_depth (r : Option Nat) : (Fw r).depth.isSome = true → 1 ≤ 0 := fun h => by cases h

/-- What a call ends with. -/
def RetR (ρ : Ren) (st : St) (w : World) (v : Value) (st' : St) : Ending → World → Prop :=
  fun e w' => ∃ v', e = .returned v' ∧ ∃ ρ', R Gn ρ' st' w' ∧ Went ρ st w ρ' st' w' ∧ VR ρ' v v'
/-- A function of the program with a body. -/
def HasBody (P : Program) (f : FuncId) : Prop := ∃ fn c, P.funcs[f]? = some fn ∧ (fn.name == "runtime.NumGoroutine") = false ∧ fn.body = some c
/-- The calls are sound. -/
def CallS (P : Program) (call : Call1) : Prop := ∀ g args st v st', call g args st = some (v, st') → ∀ (ρ : Ren) (w : World) (args' : Array Value), R Gn ρ st w → AR ρ args.toArray args' →
  match g with
  | .fn f => HasBody P f ∧ CallsIn (Fw none) 0 P f args' w (RetR ρ st w v st')
  | .yield l => ∃ c, ρ l = some c ∧ ∃ fn tmps asg body, (Instr.yield c args').run P w = .ok (.round c fn tmps asg body) w ∧ RoundIn (Fw none) 0 P c fn tmps asg body w (RetR ρ st w v st')

theorem run_enter {f : FuncId} (h : HasBody P f) (args : Array Value) (w : World) : (callFunc f args).run P w = .ok (.enter f args) w := by
  obtain ⟨fn, c, h1, h2, h3⟩ := h
  have h2' : fn.name ≠ "runtime.NumGoroutine" := by simpa using h2
  simp [callFunc, h1, h2', h3]

theorem extract_one (x : Value) (l : Array Value) : (#[x] ++ l).extract 1 (#[x] ++ l).size = l := by
  apply Array.ext_getElem?
  intro i
  rw [Array.getElem?_extract]
  have hs : (#[x] ++ l).size = l.size + 1 := by simp; omega
  rw [hs, Array.getElem?_append_right (by simp)]
  simp only [List.size_toArray, List.length_cons, List.length_nil]
  by_cases h : i < min (l.size + 1) (l.size + 1) - 1
  · rw [if_pos h]; congr 1; omega
  · rw [if_neg h, Array.getElem?_eq_none (by omega)]

variable {env : Env} {ev : Operand → Value}
/-- What a call of the code comes to. -/
theorem eCallee_sound {T : Tr TI} (hT : TOk P T) (hO : OpdR ρ env ev) {o : Oper} {c : Call} (ho : o.op = .call c) {g : Tgt} {args : List Value} (h : eCallee T env c = some (g, args)) (hb : ∀ b, c.callee ≠ .builtin b) :
    ∃ args' : Array Value, AR ρ args.toArray args' ∧
      (match g with
      | .fn f => HasBody P f → ∀ w, (execOp ev o).run P w = .ok (.enter f args') w
      | .yield l => ∃ c', ρ l = some c' ∧ execOp ev o = Instr.yield c' args') := by
  unfold eCallee at h
  split at h
  case h_2 => cases h
  rename_i xs hxs
  have har := eOpds_arr hO hxs
  split at h
  · rename_i f hcal
    split at h
    · rename_i g0 ys cs hf
      cases h
      have hv := hO _ _ hf
      generalize hq : ev f = q at hv
      cases hv with
      | fn _ hfn _ ys' _ cs' h1 h2 h3 h4 =>
      refine ⟨ys' ++ (c.args.map ev ++ cs'), ?_, ?_⟩
      · have := AR.append (ρ := ρ) ⟨h1, h2⟩ (har.append ⟨h3, h4⟩)
        have e : (ys.toList ++ (xs ++ cs.toList)).toArray = ys ++ (xs.toArray ++ cs) := by apply Array.ext'; simp
        rw [e]; exact this
      · intro hB w
        simp only [execOp, ho, resolve, hcal, hq, Deferred.ofValue, Sem.run_bind, Sem.run_pure, Result.andThen_ok, invoke]
        rw [Array.append_assoc]
        exact run_enter hB _ w
    · rename_i l ys cs hf
      cases h
      have hv := hO _ _ hf
      generalize hq : ev f = q at hv
      cases hv with
      | fn _ hfn => cases hfn
      | yld _ c' hl =>
        refine ⟨c.args.map ev, har, c', hl, ?_⟩
        simp only [execOp, ho, resolve, hcal, hq, Deferred.ofValue, pure_bind, invoke]
        simp
    · rename_i m ys cs hf
      split at h
      case h_2 => cases h
      rename_i t v0 hl
      split at h
      case h_2 => cases h
      rename_i ti hg
      split at h
      case h_2 => cases h
      rename_i f0 hm
      cases h
      have hv := hO _ _ hf
      generalize hq : ev f = q at hv
      cases hv with
      | fn _ hfn _ ys' _ cs' h1 h2 h3 h4 =>
      obtain ⟨y', hy, hs, hr⟩ := AR.single (ρ := ρ) ⟨h1, h2⟩ hl
      cases hr with
      | iface _ _ v0' hv0 =>
      refine ⟨#[v0'] ++ c.args.map ev, ?_, ?_⟩
      · have := (AR.one hv0).append har
        simpa using this
      · intro hB w
        have hys : ys' = #[.iface t v0'] := by
          apply Array.ext_getElem?
          intro i
          cases i with
          | zero => rw [hy]; rfl
          | succ i => rw [Array.getElem?_eq_none (by omega), Array.getElem?_eq_none (by simp)]
        have h0 : (ys' ++ c.args.map ev)[0]? = some (.iface t v0') := by rw [hys, Array.getElem?_append_left (by simp)]; rfl
        have he : (ys' ++ c.args.map ev).extract 1 (ys' ++ c.args.map ev).size = c.args.map ev := by
          rw [hys]; exact extract_one _ _
        have hme := run_method (hT _ _ hg) (methOf_mem _ _ _ hm) v0' w (P.types.size + 99)
        simp only [execOp, ho, resolve, hcal, hq, Deferred.ofValue, Sem.run_bind, Sem.run_pure, Result.andThen_ok, invoke, h0, he, callMethod, run_program]
        rw [show P.types.size + Made.depth = P.types.size + 99 + 1 from rfl, hme]
        simp only [Result.andThen_ok]
        exact run_enter hB _ w
    · cases h
  · rename_i r m hcal
    split at h
    case h_2 => cases h
    rename_i t v0 hf
    split at h
    case h_2 => cases h
    rename_i ti hg
    split at h
    case h_2 => cases h
    rename_i f0 hm
    cases h
    have hv := hO _ _ hf
    generalize hq : ev r = q at hv
    cases hv with
    | iface _ _ v0' hv0 =>
    refine ⟨#[v0'] ++ c.args.map ev, ?_, ?_⟩
    · have := (AR.one hv0).append har
      simpa using this
    · intro hB w
      have h0 : (#[Value.iface t v0'] ++ c.args.map ev)[0]? = some (.iface t v0') := by rw [Array.getElem?_append_left (by simp)]; rfl
      have he : (#[Value.iface t v0'] ++ c.args.map ev).extract 1 (#[Value.iface t v0'] ++ c.args.map ev).size = c.args.map ev := by
        exact extract_one _ _
      have hme := run_method (hT _ _ hg) (methOf_mem _ _ _ hm) v0' w (P.types.size + 99)
      simp only [execOp, ho, resolve, hcal, hq, Sem.run_bind, Sem.run_pure, Result.andThen_ok, invoke, h0, he, callMethod, run_program]
      rw [show P.types.size + Made.depth = P.types.size + 99 + 1 from rfl, hme]
      simp only [Result.andThen_ok]
      exact run_enter hB _ w
  · rename_i b hcal
    exact absurd hcal (hb b)

/-- The tables, and what they say of the program. -/
structure Ok (P : Program) (T : Tr TI) : Prop where
  types : TOk P T
  aggs : AggOk P
  elems : ∀ t ti e sz by_, T.get t = some ti → ti.d = .slice e sz by_ → ∃ te, T.get e = some te ∧ (eCells te.zero).length = sz
  mixed : P.follows .mixedOrders = true

theorem Act.put_size (a : Act) (d : Option Tmp) (v : Value) : (a.put d v).tmps.size = a.tmps.size := by
  cases d <;> simp [Act.put]
theorem Act.put_defers' (a : Act) (d : Option Tmp) (v : Value) : (a.put d v).defers = a.defers := by
  cases d <;> rfl
theorem EnvR.put {env : Env} {a : Act} (h : EnvR ρ env a.tmps) {d : Option Tmp} {v v' : Value} (hv : VR ρ v v') (hd : ∀ t, d = some t → t < a.tmps.size) : EnvR ρ (ePut env d v) (a.put d v').tmps := by
  cases d with
  | none => exact h
  | some t =>
    intro s u hs
    simp only [ePut, Env.get_set] at hs
    by_cases hst : s = t
    · rw [if_pos hst] at hs; cases hs
      exact ⟨v', by simp [Act.put, hst, hd t rfl], hv⟩
    · rw [if_neg hst] at hs
      obtain ⟨u', h1, h2⟩ := h s u hs
      exact ⟨u', by simp [Act.put, Array.getElem?_setIfInBounds_ne (Ne.symm hst), h1], h2⟩

/-- Is the operation one of those that the machine carries out as everywhere? -/
def noDefer (op : Op) : Bool :=
  match op with
  | .defer _ => false
  | _ => true
theorem semAt_of {r : Option Nat} {o : Oper} (h : noDefer o.op = true) (ev : Operand → Value) : o.semAt r ev = execOp ev o :=
  Oper.semAt_eq r ev o (fun c hc => by rw [hc] at h; cases h)

/-- An operation that changes memory, or calls. -/
theorem eAct_wp {T : Tr TI} (hok : Ok P T) {call : Call1} (hcall : CallS P call) {r : Option Nat} (hR : R Gn ρ st w) {a : Act} (hO : OpdR ρ env a.eval) {o : Oper} {v : Value} {st' : St} (h : eAct T call env o st = some (v, st'))
    {K : Act → World → Prop} {Q : Exit → Act → World → Prop} (hK : ∀ v' ρ' w', R Gn ρ' st' w' → Went ρ st w ρ' st' w' → VR ρ' v v' → K (a.put o.dst v') w') : o.wpIn (Fw r) 0 P a w K Q := by
  refine ⟨fun _ _ => trivial, ?_⟩
  have heff : ∀ (h : eEff T env o.op st = some (v, st')), o.uponIn (Fw r) 0 P a K Q ((o.semAt (Fw r).round a.eval).run P w) := by
    intro h
    have hnd : noDefer o.op = true := by
      cases ho : o.op <;> first | rfl | (rw [ho] at h; cases h)
    rw [semAt_of hnd]
    obtain ⟨nx, v', ρ', w', h1, h2, h3, h4, h5⟩ := eEff_sound hok.types hok.elems hR hO h
    rw [h1]
    rcases h2 with rfl | ⟨rfl, rfl⟩
    · exact hK v' ρ' w' h3 h4 h5
    · exact hK undef ρ' w' h3 h4 h5
  unfold eAct at h
  split at h
  · rename_i c ho
    split at h
    · exact heff h
    · rename_i hnb
      split at h
      case h_2 => cases h
      rename_i g args hcal
      rw [semAt_of (by rw [ho]; rfl)]
      obtain ⟨args', har, hg⟩ := eCallee_sound hok.types hO ho hcal (fun b hb => hnb b hb)
      have hc := hcall g args st v st' h ρ w args' hR har
      cases g with
      | fn f =>
        obtain ⟨hB, hC⟩ := hc
        rw [hg hB w]
        refine ⟨(fun h => by cases h), ?_⟩
        refine CallsIn.mono (hC : CallsIn (Fw r) 0 P f args' w _) (fun e w' he => ?_)
        obtain ⟨v', rfl, ρ', h1, h2, h3⟩ := he
        exact hK v' ρ' w' h1 h2 h3
      | yield l =>
        obtain ⟨c1, hl1, hex⟩ := hg
        obtain ⟨c2, hl2, fn, tmps, asg, body, hy, hrd⟩ := hc
        rw [hl1] at hl2; cases hl2
        rw [hex, hy]
        refine ⟨(fun h => by cases h), ?_⟩
        refine RoundIn.mono (hrd : RoundIn (Fw r) 0 P c1 fn tmps asg body w _) (fun e w' he => ?_)
        obtain ⟨v', rfl, ρ', h1, h2, h3⟩ := he
        exact hK v' ρ' w' h1 h2 h3
  · exact heff h
end Go.Proofs.YtegfafebbnlicaaGreatDoor.Ev

namespace Go.Proofs.YtegfafebbnlicaaGreatDoor.Ev
open Go
set_option linter.unusedVariables false
set_option linter.unusedSimpArgs false

variable {P : Program} {ρ : Ren} {st : St} {w : World} {env : Env}

theorem wpIn_value {r : Option Nat} {o : Oper} {a : Act} (hnd : noDefer o.op = true) {v' : Value} {w' : World} (h : (execOp a.eval o).run P w = .ok (.value v') w') {K : Act → World → Prop} {Q : Exit → Act → World → Prop} (hK : K (a.put o.dst v') w') :
    o.wpIn (Fw r) 0 P a w K Q := by
  refine ⟨fun _ _ => trivial, ?_⟩
  rw [semAt_of hnd, h]
  exact hK
theorem class_noDefer {T : Tr TI} {op : Op} (h : classOf T op = 0 ∨ classOf T op = 1 ∨ classOf T op = 2) : noDefer op = true := by
  cases op <;> first | rfl | (simp [classOf] at h)
/-- A fresh block in the world. -/
theorem FreshOp.wp {r : Option Nat} {o : Oper} {a : Act} (hnd : noDefer o.op = true) {fr : Fresh} (h : FreshOp P ρ (execOp a.eval o) fr) {K : Act → World → Prop} {Q : Exit → Act → World → Prop}
    (hK : ∀ (x : Obj) (v' : Value) (d : Nat), (∀ ρ', ρ.le ρ' → ObjR ρ' fr.obj x) → (∀ ρ' b, ρ.le ρ' → ρ' b = some w.heap.size → ρ'.sz w.heap.size = objN x → VR ρ' (fr.val b) v') → K (a.put o.dst v') { w with heap := w.heap.push x, drawn := d }) :
    o.wpIn (Fw r) 0 P a w K Q := by
  obtain ⟨x, mk', d, h1, h2, h3⟩ := h w
  exact wpIn_value hnd h1 (hK x _ d h2 h3)

/-- One operation. -/
theorem eOper_wp {T : Tr TI} (hok : Ok P T) {call : Call1} (hcall : CallS P call) {r : Option Nat} (hR : R Gn ρ st w) {a : Act} (hO : OpdR ρ env a.eval) {o : Oper} {v : Value} {st' : St} (h : eOper T call env o st = some (v, st'))
    {K : Act → World → Prop} {Q : Exit → Act → World → Prop} (hK : ∀ v' ρ' w', R Gn ρ' st' w' → Went ρ st w ρ' st' w' → VR ρ' v v' → K (a.put o.dst v') w') : o.wpIn (Fw r) 0 P a w K Q := by
  unfold eOper at h
  split at h
  · rename_i hc
    split at h
    case h_2 => cases h
    rename_i v0 hv
    cases h
    obtain ⟨v', h1, h2⟩ := ePure_sound hok.types hO hv hc w
    exact wpIn_value (class_noDefer (.inl hc)) h1 (hK v' ρ w hR (Went.refl _ _ _) h2)
  · rename_i hc
    split at h
    case h_2 => cases h
    rename_i v0 hv
    cases h
    obtain ⟨v', h1, h2⟩ := eRead_sound hok.types hok.aggs hR hO hv
    exact wpIn_value (class_noDefer (.inr (.inl hc))) h1 (hK v' ρ w hR (Went.refl _ _ _) h2)
  · rename_i hc
    split at h
    case h_2 => cases h
    rename_i fr hf
    cases h
    refine (eFresh_sound hok.types hO hf).wp (class_noDefer (.inr (.inr hc))) (fun x v' d h1 h2 => ?_)
    obtain ⟨r1, r2⟩ := hR.fresh d h1
    exact hK v' _ _ r1 r2 (h2 _ _ r2.le (Ren.add_at ρ _ _ _) (Ren.add_sz ρ _ _ _))
  · exact eAct_wp hok hcall hR hO h hK

theorem eWanted_sound {ops : Array Oper} {o : Oper} {b : Bool} {a : Act} (h : eWanted ops.toList env o = some b) (hE : EnvR ρ env a.tmps) : Region.wanted o (yielded ops a.tmps) = b := by
  unfold eWanted at h
  unfold Region.wanted
  split at h
  · cases h; rename_i hg; rw [hg]
  · rename_i j want hg
    rw [hg]
    split at h
    case h_2 => cases h
    rename_i oj hoj
    split at h
    case h_2 => cases h
    rename_i t ht
    split at h
    case h_2 => cases h
    rename_i v hv
    obtain ⟨v', h1, h2⟩ := hE t v hv
    have hcore : ((ops[j]?).bind (·.dst)).bind (a.tmps[·]?) = some v' := by
      rw [show ops[j]? = some oj by rw [← Array.getElem?_toList]; exact hoj]
      simp only [Option.bind_some, ht, h1]
    unfold yielded
    simp only [hcore]
    split at h
    · rename_i b0
      cases h2
      cases h
      cases want <;> cases b0 <;> rfl
    · rename_i hnb
      cases h
      cases h2 <;> first | rfl | exact absurd rfl (hnb _)

/-- What is carried on from one state to the next. -/
structure Cy (ρ : Ren) (st : St) (w : World) (a : Act) (ρ' : Ren) (st' : St) (w' : World) (a' : Act) (env' : Env) : Prop where
  r : R Gn ρ' st' w'
  went : Went ρ st w ρ' st' w'
  env : EnvR ρ' env' a'.tmps
  size : a'.tmps.size = a.tmps.size
  defers : a'.defers = a.defers

theorem runOps_cons (T : Tr TI) (call : Call1) (ops : List Oper) (o : Oper) (l : List Oper) (env : Env) (st : St) : runOps T call ops (o :: l) env st = match eWanted ops env o with
      | some true => match eOper T call env o st with
        | some (v, st') => runOps T call ops l (ePut env o.dst v) st'
        | none => none
      | some false => runOps T call ops l (ePut env o.dst undefV) st
      | none => none := rfl
theorem drop_head {α : Type} {l : List α} {i : Nat} {x : α} {xs : List α} (h : l.drop i = x :: xs) : l[i]? = some x ∧ l.drop (i + 1) = xs := by
  constructor
  · have := congrArg (·[0]?) h
    simpa [List.getElem?_drop] using this
  · have := congrArg List.tail h
    simpa using this
theorem runOps_wp {T : Tr TI} (hok : Ok P T) {call : Call1} (hcall : CallS P call) {r : Option Nat} {ops : Array Oper} {Q : Exit → Act → World → Prop} : ∀ (l : List Oper) (i : Nat), ops.toList.drop i = l →
    ∀ (env : Env) (st : St) (env' : Env) (st' : St), runOps T call ops.toList l env st = some (env', st') → ∀ (ρ : Ren) (w : World) (a : Act), R Gn ρ st w → EnvR ρ env a.tmps →
    (∀ o ∈ l, ∀ t, o.dst = some t → t < a.tmps.size) → (∀ ρ' w' a', Cy ρ st w a ρ' st' w' a' env' → Q .normal a' w') → wpOpsIn (Fw r) 0 P ops Q (List.range' i l.length) a w
  | [], i, hd, env, st, env', st', h, ρ, w, a, hR, hE, hdst, hQ => by
    cases h
    exact hQ ρ w a ⟨hR, Went.refl _ _ _, hE, rfl, rfl⟩
  | o :: l, i, hd, env, st, env', st', h, ρ, w, a, hR, hE, hdst, hQ => by
    obtain ⟨h0, h1⟩ := drop_head hd
    have h0' : ops[i]? = some o := by rw [← Array.getElem?_toList]; exact h0
    rw [List.length_cons, List.range'_succ, wpOpsIn]
    simp only [h0']
    rw [runOps_cons] at h
    have hdo : ∀ t, o.dst = some t → t < a.tmps.size := hdst o List.mem_cons_self
    split at h
    · rename_i hw
      split at h
      case h_2 => cases h
      rename_i v st1 hop
      rw [eWanted_sound hw hE, if_pos rfl]
      refine eOper_wp hok hcall hR (opdR hR hE) hop (fun v' ρ1 w1 r1 r2 r3 => ?_)
      refine runOps_wp hok hcall l (i + 1) h1 _ st1 env' st' h ρ1 w1 (a.put o.dst v') r1 ((hE.mono r2.le).put r3 hdo) ?_ ?_
      · intro o' ho' t ht
        rw [Act.put_size]
        exact hdst o' (List.mem_cons_of_mem _ ho') t ht
      · intro ρ' w' a' c
        exact hQ ρ' w' a' ⟨c.r, r2.trans c.went, c.env, by rw [c.size, Act.put_size], by rw [c.defers, Act.put_defers']⟩
    · rename_i hw
      rw [eWanted_sound hw hE]
      simp only [Bool.false_eq_true, if_false]
      refine ⟨fun _ _ => trivial, ?_⟩
      refine runOps_wp hok hcall l (i + 1) h1 _ st env' st' h ρ w (a.put o.dst undef) hR (hE.put undefR hdo) ?_ ?_
      · intro o' ho' t ht
        rw [Act.put_size]
        exact hdst o' (List.mem_cons_of_mem _ ho') t ht
      · intro ρ' w' a' c
        exact hQ ρ' w' a' ⟨c.r, c.went, c.env, by rw [c.size, Act.put_size], by rw [c.defers, Act.put_defers']⟩
    · cases h
end Go.Proofs.YtegfafebbnlicaaGreatDoor.Ev

namespace Go.Proofs.YtegfafebbnlicaaGreatDoor.Ev
open Go
set_option linter.unusedVariables false
set_option linter.unusedSimpArgs false

variable {P : Program} {T : Tr TI}

/-- Marks of loops among the deferred calls: nobody's blocks. -/
inductive Marks (ρ : Ren) (st : St) (w : World) : List Deferred → Prop
  | nil : Marks ρ st w []
  | cons (c : Nat) (ms : List Deferred) (hc : w.heap[c]? = some (.deferred (some []))) (hn : ∀ b o, st.h.get b = some o → ρ b ≠ some c) (hd : ∀ d ∈ ms, d.target ≠ .collected c) (h : Marks ρ st w ms) :
      Marks ρ st w ({ target := .collected c, args := #[] } :: ms)
theorem Marks.went {ρ ρ' : Ren} {st st' : St} {w w' : World} {ms : List Deferred} (h : Marks ρ st w ms) (hW : Went ρ st w ρ' st' w') : Marks ρ' st' w' ms := by
  induction h with
  | nil => exact .nil
  | cons c ms hc hn hd _ ih =>
    refine .cons c ms (hW.frame c _ hc hn) (fun b o hb hbc => ?_) hd ih
    rcases hW.fresh b o c hb hbc with ⟨b0, o0, h1, h2⟩ | h
    · exact hn b0 o0 h1 h2
    · exact absurd (heap_lt hc) (by omega)
theorem Marks.lt {ρ : Ren} {st : St} {w : World} {ms : List Deferred} (h : Marks ρ st w ms) : ∀ d ∈ ms, ∃ c, d.target = .collected c ∧ c < w.heap.size := by
  induction h with
  | nil => intro d hd; cases hd
  | cons c ms hc hn hd _ ih =>
    intro d hd'
    cases hd' with
    | head => exact ⟨c, rfl, heap_lt hc⟩
    | tail _ h => exact ih d h
theorem Marks.append {ρ : Ren} {st : St} {w : World} {ms ns : List Deferred} (h : Marks ρ st w ms) (h' : Marks ρ st w ns) (hd : ∀ d ∈ ms, ∀ e ∈ ns, ∀ c, d.target = .collected c → e.target ≠ .collected c) : Marks ρ st w (ms ++ ns) := by
  induction h with
  | nil => exact h'
  | cons c ms hc hn hd1 _ ih =>
    refine .cons c _ hc hn (fun d hdm => ?_) (ih fun d hm => hd d (List.mem_cons_of_mem _ hm))
    rcases List.mem_append.1 hdm with h | h
    · exact hd1 d h
    · exact hd _ List.mem_cons_self d h c rfl

/-- What is carried on over code. n: blocks from there on are younger than the marks before. -/
structure Cm (ρ : Ren) (st : St) (w : World) (a : Act) (ρ' : Ren) (st' : St) (w' : World) (a' : Act) (env' : Env) : Prop where
  r : R Gn ρ' st' w'
  went : Went ρ st w ρ' st' w'
  env : EnvR ρ' env' a'.tmps
  size : a'.tmps.size = a.tmps.size
  defers : ∃ ms, a'.defers = ms ++ a.defers ∧ Marks ρ' st' w' ms ∧ ∀ d ∈ ms, ∀ c, d.target = .collected c → w.heap.size ≤ c
theorem Cy.cm {ρ ρ' : Ren} {st st' : St} {w w' : World} {a a' : Act} {env' : Env} (h : Cy ρ st w a ρ' st' w' a' env') : Cm ρ st w a ρ' st' w' a' env' :=
  ⟨h.r, h.went, h.env, h.size, [], by simpa using h.defers, .nil, fun d hd => by cases hd⟩
theorem Cm.flush {ρ ρ' : Ren} {st st' : St} {w w' : World} {a a' : Act} {env' : Env} (h : Cm ρ st w a ρ' st' w' a' env') : Cm ρ st w a ρ' st' w' a' env'.flush :=
  ⟨h.r, h.went, h.env.flush, h.size, h.defers⟩
theorem Cm.same {ρ : Ren} {st : St} {w : World} {a : Act} {env : Env} (hR : R Gn ρ st w) (hE : EnvR ρ env a.tmps) : Cm ρ st w a ρ st w a env :=
  ⟨hR, Went.refl _ _ _, hE, rfl, [], rfl, .nil, fun d hd => by cases hd⟩
theorem Cm.trans {ρ ρ' ρ'' : Ren} {st st' st'' : St} {w w' w'' : World} {a a' a'' : Act} {env' env'' : Env} (h : Cm ρ st w a ρ' st' w' a' env') (h' : Cm ρ' st' w' a' ρ'' st'' w'' a'' env'') : Cm ρ st w a ρ'' st'' w'' a'' env'' := by
  obtain ⟨ms, e1, m1, g1⟩ := h.defers
  obtain ⟨ns, e2, m2, g2⟩ := h'.defers
  refine ⟨h'.r, h.went.trans h'.went, h'.env, h'.size.trans h.size, ns ++ ms, by rw [e2, e1, List.append_assoc], m2.append (m1.went h'.went) ?_, ?_⟩
  · intro d hd e he c hc hec
    obtain ⟨c', hc', hlt⟩ := m1.lt e he
    have h1 := g2 d hd c hc
    rw [hec] at hc'; cases hc'
    omega
  · intro d hd c hc
    rcases List.mem_append.1 hd with h | h
    · have := g2 d h c hc
      have := ‹Cm ρ st w a ρ' st' w' a' env'›.went.size
      omega
    · exact g1 d h c hc

def Ex.x : Ex → Exit
  | .norm => .normal
  | .exit id => .exit id
  | .ret => .ret
/-- What code ends with. -/
def PostQ (ρ : Ren) (st : St) (w : World) (a : Act) (e : Ex) (env' : Env) (st' : St) : Exit → Act → World → Prop :=
  fun x a' w' => x = e.x ∧ ∃ ρ', Cm ρ st w a ρ' st' w' a' env'
/-- n: the fuel, which bounds the rounds of loops. -/
def RunS (P : Program) (T : Tr TI) (n : Nat) (run : Run1) : Prop := ∀ c env st e env' st', run c env st = some (e, env', st') → ∀ (r : Option Nat) (ρ : Ren) (w : World) (a : Act),
  codeOk T c r.isSome = true → dstMax c ≤ a.tmps.size → R Gn ρ st w → EnvR ρ env a.tmps → c.wpIn (Fw r) 0 P (PostQ ρ st w a e env' st') a w ∧
    ∀ x, c = .loop x → Code.roundsIn (Fw r) 0 P x (PostQ ρ st w a e env' st') n a w
/-- Drawn regions. -/
def DrawS (P : Program) (T : Tr TI) : Prop := ∀ call, CallS P call → ∀ (ops : Array Oper) env st env' st', runDraw T call ops.toList env st = some (env', st') → rgnOk T ops.toList = true →
  ∀ (id : Nat) (r : Option Nat) (ρ : Ren) (w : World) (a : Act), dstMaxL ops.toList ≤ a.tmps.size → R Gn ρ st w → EnvR ρ env a.tmps → ∀ Q : Exit → Act → World → Prop, (∀ ρ' w' a', Cy ρ st w a ρ' st' w' a' env' → Q .normal a' w') →
  (Code.region id ops true).wpIn (Fw r) 0 P Q a w

theorem dstMaxL_le : ∀ (l : List Oper) (n : Nat), dstMaxL l ≤ n → ∀ o ∈ l, ∀ t, o.dst = some t → t < n
  | [], n, h, o, ho, t, ht => by cases ho
  | x :: l, n, h, o, ho, t, ht => by
    have hd : dstMaxL (x :: l) = match x.dst with | some d => Nat.max (d + 1) (dstMaxL l) | none => dstMaxL l := rfl
    rw [hd] at h
    cases ho with
    | head =>
      rw [ht] at h
      have : t + 1 ≤ Nat.max (t + 1) (dstMaxL l) := Nat.le_max_left _ _
      exact Nat.lt_of_lt_of_le (Nat.lt_succ_self t) (Nat.le_trans this h)
    | tail _ ho =>
      refine dstMaxL_le l n ?_ o ho t ht
      cases hx : x.dst with
      | none => rw [hx] at h; exact h
      | some d =>
        rw [hx] at h
        have : dstMaxL l ≤ Nat.max (d + 1) (dstMaxL l) := Nat.le_max_right _ _
        exact Nat.le_trans this h

theorem max_l {a b n : Nat} (h : Nat.max a b ≤ n) : a ≤ n := Nat.le_trans (Nat.le_max_left _ _) h
theorem max_r {a b n : Nat} (h : Nat.max a b ≤ n) : b ≤ n := Nat.le_trans (Nat.le_max_right _ _) h
/-- A block that nobody names is laid. -/
theorem R.pushed {ρ : Ren} {st : St} {w : World} (hR : R Gn ρ st w) (x : Obj) : R Gn ρ st (w.alloc x) ∧ Went ρ st w ρ st (w.alloc x) := by
  have hold : ∀ (c : Nat) (y : Obj), w.heap[c]? = some y → (w.alloc x).heap[c]? = some y := by
    intro c y hy
    have hlt := heap_lt hy
    show (w.heap.push x)[c]? = some y
    rw [Array.getElem?_push_lt hlt, ← hy, Array.getElem?_eq_getElem hlt]
  have hsz : w.heap.size ≤ (w.alloc x).heap.size := by show _ ≤ (w.heap.push x).size; rw [Array.size_push]; omega
  refine ⟨⟨fun b o hb => ?_, hR.inj, fun b c hc => ⟨(hR.dom b c hc).1, Nat.lt_of_lt_of_le (hR.dom b c hc).2 hsz⟩, hR.glob⟩, ⟨Ren.le_refl _, Nat.le_refl _, hsz, fun c y hy _ => hold c y hy, fun b o c hb hc => .inl ⟨b, o, hb, hc⟩, (fun b c h1 h2 => by rw [h1] at h2; cases h2), rfl, rfl, rfl⟩⟩
  obtain ⟨c, y, h1, h2, h3⟩ := hR.live b o hb
  exact ⟨c, y, h1, hold c y h2, h3⟩
theorem R.loop {ρ : Ren} {st : St} {w : World} (hR : R Gn ρ st w) {b : Nat} {m : Nat} {env : Env} {ps : List Tmp} {asg body : Code} {s : LoopState} {j : Option Code} (h : st.h.get b = some (.loop m env ps asg body s j)) :
    ∃ g L, ρ b = some g ∧ w.heap[g]? = some (.loop L) ∧ m ≤ L.tmps.size ∧ L.params.toList = ps ∧ L.assign = asg ∧ L.body = body ∧ L.state = s ∧ L.pending = j ∧ EnvR ρ env L.tmps ∧ ρ.sz g = 0 := by
  obtain ⟨g, x, hg, hx, ho, hn⟩ := hR.live b _ h
  cases x <;> simp only [ObjR] at ho
  exact ⟨g, _, hg, hx, ho.1, ho.2.1, ho.2.2.1, ho.2.2.2.1, ho.2.2.2.2.1, ho.2.2.2.2.2.1, ho.2.2.2.2.2.2, hn.symm⟩
/-- A loop's record is turned. -/
theorem R.setLoop {ρ : Ren} {st st' : St} {w : World} (hR : R Gn ρ st w) {b : Nat} {s : LoopState} {j : Option Code} (h : st.setLoop b s j = some st') :
    ∃ g L, ρ b = some g ∧ w.heap[g]? = some (.loop L) ∧ R Gn ρ st' (w.putObj g (.loop { L with state := s, pending := j })) ∧ Went ρ st w ρ st' (w.putObj g (.loop { L with state := s, pending := j })) := by
  unfold St.setLoop at h
  split at h
  case h_2 => cases h
  rename_i m env ps asg body s0 j0 hb
  cases h
  obtain ⟨g, L, hg, hx, h1, h2, h3, h4, h5, h6, h7, h8⟩ := hR.loop hb
  refine ⟨g, L, hg, hx, ?_⟩
  exact hR.turn (o' := .loop m env ps asg body s j) (x := .loop { L with state := s, pending := j }) (w' := w.putObj g (.loop { L with state := s, pending := j })) hb hg ⟨h1, h2, h3, h4, rfl, rfl, h7⟩ h8.symm (heap_put hx) (fun k hk => heap_put_other hk) (by simp [World.putObj]) rfl rfl rfl

theorem roundsIn_mono {F : Fence} {n : Nat} {c : Code} {Q Q' : Exit → Act → World → Prop} (hq : ∀ e a w, Q e a w → Q' e a w) : ∀ (m : Nat) (a : Act) (w : World), Code.roundsIn F n P c Q m a w → Code.roundsIn F n P c Q' m a w
  | 0, a, w, h => h.elim
  | m + 1, a, w, h => by
    rw [roundsIn_succ] at h ⊢
    refine wpIn_mono h (fun e a1 w1 h1 => ?_)
    cases e with
    | normal => exact roundsIn_mono hq m a1 w1 h1
    | exit id => exact hq _ _ _ h1
    | goto l => exact hq _ _ _ h1
    | ret => exact hq _ _ _ h1
    | panic c => exact hq _ _ _ h1
    | outgrown => exact hq _ _ _ h1
theorem runF_sound {F : Tr FI} {H : Hooks} (hok : Ok P T) (hD : DrawS P T) {n : Nat} {ih : Run1} (hih : RunS P T n ih) (hcall : CallS P (callW T F H ih)) : RunS P T (n + 1) (runF T F H ih) := by
  intro c env st e env' st' h r ρ w a hc hm hR hE
  refine ⟨?_, ?_⟩
  case refine_2 =>
    rintro x rfl
    simp only [runF] at h
    simp only [codeOk] at hc
    simp only [dstMax] at hm
    rw [roundsIn_succ]
    split at h
    · rename_i env1 st1 hx
      refine wpIn_mono (hih x env st _ env1 st1 hx r ρ w a hc hm hR hE).1 ?_
      rintro ex a1 w1 ⟨rfl, ρ1, c1⟩
      refine roundsIn_mono ?_ n a1 w1 ((hih (.loop x) env1 st1 e env' st' h r ρ1 w1 a1 hc (by rw [c1.size]; exact hm) c1.r c1.env).2 x rfl)
      rintro ex2 a2 w2 ⟨he, ρ2, c2⟩
      exact ⟨he, ρ2, c1.trans c2⟩
    · rename_i hn
      refine wpIn_mono (hih x env st e env' st' h r ρ w a hc hm hR hE).1 ?_
      rintro ex a1 w1 ⟨rfl, ρ1, c1⟩
      cases e with
      | norm => exact absurd h (hn _ _)
      | exit id => exact ⟨rfl, ρ1, c1⟩
      | ret => exact ⟨rfl, ρ1, c1⟩
  case refine_1 =>
  cases c with
  | skip =>
    cases h
    exact wpIn_skip ⟨rfl, ρ, Cm.same hR hE⟩
  | label l =>
    cases h
    exact wpIn_label ⟨rfl, ρ, Cm.same hR hE⟩
  | exit id =>
    cases h
    exact wpIn_exit ⟨rfl, ρ, Cm.same hR hE⟩
  | ret =>
    cases h
    exact wpIn_ret ⟨rfl, ρ, Cm.same hR hE⟩
  | goto l => cases h
  | refuse s => cases h
  | region id ops draw =>
    simp only [runF] at h
    cases draw with
    | false =>
      simp only at h
      split at h
      case h_2 => cases h
      rename_i env1 st1 hr
      obtain ⟨rfl, rfl, rfl⟩ : Ex.norm = e ∧ env1.flush = env' ∧ st1 = st' := by cases h; exact ⟨rfl, rfl, rfl⟩
      refine wpIn_region ?_
      have := runOps_wp (r := r) (Q := PostQ ρ st w a .norm env1.flush st1) hok hcall ops.toList 0 rfl env st env1 st1 hr ρ w a hR hE (dstMaxL_le _ _ hm) (fun ρ' w' a' c => ⟨rfl, ρ', c.cm.flush⟩)
      rw [Array.length_toList] at this
      rw [List.range_eq_range']
      exact this
    | true =>
      simp only at h
      split at h
      case h_2 => cases h
      rename_i env1 st1 hr
      obtain ⟨rfl, rfl, rfl⟩ : Ex.norm = e ∧ env1.flush = env' ∧ st1 = st' := by cases h; exact ⟨rfl, rfl, rfl⟩
      have hrg : rgnOk T ops.toList = true := by simpa [codeOk] using hc
      exact hD _ hcall ops env st env1 st1 hr hrg id r ρ w a hm hR hE _ (fun ρ' w' a' c => ⟨rfl, ρ', c.cm.flush⟩)
  | seq x y =>
    simp only [runF] at h
    simp only [codeOk, Bool.and_eq_true] at hc
    simp only [dstMax] at hm
    refine wpIn_seq ?_
    split at h
    · rename_i env1 st1 hx
      refine wpIn_mono (hih x env st _ env1 st1 hx r ρ w a hc.1 (max_l hm) hR hE).1 ?_
      rintro ex a1 w1 ⟨rfl, ρ1, c1⟩
      refine wpIn_mono (hih y env1 st1 e env' st' h r ρ1 w1 a1 hc.2 (by rw [c1.size]; exact max_r hm) c1.r c1.env).1 ?_
      rintro ex2 a2 w2 ⟨he, ρ2, c2⟩
      exact ⟨he, ρ2, c1.trans c2⟩
    · rename_i hn
      refine wpIn_mono (hih x env st e env' st' h r ρ w a hc.1 (max_l hm) hR hE).1 ?_
      rintro ex a1 w1 ⟨rfl, ρ1, c1⟩
      cases e with
      | norm => exact absurd h (hn _ _)
      | exit id => exact ⟨rfl, ρ1, c1⟩
      | ret => exact ⟨rfl, ρ1, c1⟩
  | cond x y z =>
    simp only [runF] at h
    simp only [codeOk, Bool.and_eq_true] at hc
    simp only [dstMax] at hm
    split at h
    · rename_i hx
      have hv := opdR hR hE _ _ hx
      have hb : a.eval x = .bool true := by generalize a.eval x = q at hv; cases hv; rfl
      exact wpIn_cond_true hb (hih y env st e env' st' h r ρ w a hc.1 (max_l hm) hR hE).1
    · rename_i hx
      have hv := opdR hR hE _ _ hx
      have hb : a.eval x = .bool false := by generalize a.eval x = q at hv; cases hv; rfl
      exact wpIn_cond_false hb (hih z env st e env' st' h r ρ w a hc.2 (max_r hm) hR hE).1
    · cases h
  | block id x =>
    simp only [runF] at h
    simp only [codeOk] at hc
    simp only [dstMax] at hm
    refine wpIn_block ?_
    split at h
    · rename_i id' env1 st1 hx
      refine wpIn_mono (hih x env st _ env1 st1 hx r ρ w a hc hm hR hE).1 ?_
      rintro ex a1 w1 ⟨rfl, ρ1, c1⟩
      show (if id' = id then _ else _)
      split at h
      · rename_i hid
        cases h
        rw [if_pos (beq_iff.1 hid)]
        exact ⟨rfl, ρ1, c1⟩
      · rename_i hid
        cases h
        rw [if_neg (fun hh => by rw [beq_iff.2 hh] at hid; cases hid)]
        exact ⟨rfl, ρ1, c1⟩
    · rename_i hn
      refine wpIn_mono (hih x env st e env' st' h r ρ w a hc hm hR hE).1 ?_
      rintro ex a1 w1 ⟨rfl, ρ1, c1⟩
      cases e with
      | norm => exact ⟨rfl, ρ1, c1⟩
      | exit id' => exact absurd h (hn _ _ _)
      | ret => exact ⟨rfl, ρ1, c1⟩
  | loop x =>
    simp only [runF] at h
    simp only [codeOk] at hc
    simp only [dstMax] at hm
    refine wpIn_loop_rounds (n + 1) ?_
    rw [roundsIn_succ]
    split at h
    · rename_i env1 st1 hx
      refine wpIn_mono (hih x env st _ env1 st1 hx r ρ w a hc hm hR hE).1 ?_
      rintro ex a1 w1 ⟨rfl, ρ1, c1⟩
      refine roundsIn_mono ?_ n a1 w1 ((hih (.loop x) env1 st1 e env' st' h r ρ1 w1 a1 hc (by rw [c1.size]; exact hm) c1.r c1.env).2 x rfl)
      rintro ex2 a2 w2 ⟨he, ρ2, c2⟩
      exact ⟨he, ρ2, c1.trans c2⟩
    · rename_i hn
      refine wpIn_mono (hih x env st e env' st' h r ρ w a hc hm hR hE).1 ?_
      rintro ex a1 w1 ⟨rfl, ρ1, c1⟩
      cases e with
      | norm => exact absurd h (hn _ _)
      | exit id => exact ⟨rfl, ρ1, c1⟩
      | ret => exact ⟨rfl, ρ1, c1⟩
  | scope x => cases h
  | rangeFunc f ps asg body =>
    have hr : r = none := by cases r <;> first | rfl | (cases hc; done)
    subst hr
    simp only [runF] at h
    split at h
    case h_2 => cases h
    rename_i g xs cs hf
    split at h
    case h_2 => cases h
    rename_i v st1 hcl
    unfold endRF at h
    split at h
    case h_2 => cases h
    rename_i m' env1 ps' asg' body' s j hget
    split at h
    case h_1 => cases h
    rename_i hbusy
    split at h
    case h_2 => cases h
    rename_i st2 hset
    have hv := opdR hR hE _ _ hf
    generalize hq : a.eval f = q at hv
    cases hv with
    | fn _ hfn _ ys _ ds h1 h2 h3 h4 =>
    obtain ⟨R1, W1⟩ := hR.pushed (.deferred (some []))
    have hsz1 : (w.alloc (.deferred (some []))).heap.size = w.heap.size + 1 := by show (w.heap.push _).size = _; rw [Array.size_push]
    refine wpIn_rangeFunc (fun fn _ => ?_)
    obtain ⟨L0, hL0⟩ : ∃ L0 : Loop, L0 = { state := .ready, pending := none, fn := fn, tmps := a.tmps, params := ps, assign := asg, body := body, defers := w.heap.size } := ⟨_, rfl⟩
    have hobj : ∀ ρ', ρ.le ρ' → ObjR ρ' (.loop (Nat.max (psMax ps.toList) (Nat.max (dstMax asg) (dstMax body))) env ps.toList asg body .ready none) (.loop L0) := by
      intro ρ' hle
      subst hL0
      exact ⟨hm, rfl, rfl, rfl, rfl, rfl, hE.mono hle⟩
    obtain ⟨R2, W2⟩ := R1.fresh (w.alloc (.deferred (some []))).drawn hobj
    have har : AR (ρ.add st.nx (w.alloc (.deferred (some []))).heap.size (objN (.loop L0))) (xs.toList ++ (.func (.yield st.nx) #[] #[] :: cs.toList)).toArray (ys ++ #[.func (.yield (w.heap.size + 1)) #[] #[]] ++ ds) := by
      have hy : VR (ρ.add st.nx (w.alloc (.deferred (some []))).heap.size (objN (.loop L0))) (.func (.yield st.nx) #[] #[]) (.func (.yield (w.heap.size + 1)) #[] #[]) := .yld _ _ (by rw [Ren.add_at, hsz1])
      have := ((AR.mono W2.le ⟨h1, h2⟩).append (AR.one hy)).append (AR.mono W2.le ⟨h3, h4⟩)
      have e : (xs.toList ++ (.func (.yield st.nx) #[] #[] :: cs.toList)).toArray = xs ++ #[.func (.yield st.nx) #[] #[]] ++ cs := by apply Array.ext'; simp
      rw [e]; exact this
    obtain ⟨hB, hC⟩ := hcall (.fn g) _ _ v st1 hcl _ _ _ R2 har
    have henter := run_enterLoop_outer (P := P) (w := w) fn a.tmps ps asg body
    refine ⟨w.heap.size + 1, [{ target := .collected w.heap.size, args := #[] }], (w.alloc (.deferred (some []))).alloc (.loop L0), { target := .fn (.func g) ds, args := ys ++ #[.func (.yield (w.heap.size + 1)) #[] #[]] }, (w.alloc (.deferred (some []))).alloc (.loop L0), g, ys ++ #[.func (.yield (w.heap.size + 1)) #[] #[]] ++ ds,
      (w.alloc (.deferred (some []))).alloc (.loop L0), ?_, ?_, fun _ _ => trivial, ?_, (fun h => by cases h), ?_⟩
    · rw [hL0]; exact henter
    · have e1 : (rangeCall f (w.heap.size + 1)).args.map a.eval = #[.func (.yield (w.heap.size + 1)) #[] #[]] := by simp [rangeCall, Act.eval]
      simp only [resolve, e1]
      simp only [hq, Deferred.ofValue, Sem.run_pure]
    · simp only [invoke]
      exact run_enter hB _ _
    · refine CallsIn.mono (hC : CallsIn (Fw none) 0 P g _ _ _) (fun e2 w2 he2 => ?_)
      obtain ⟨v', rfl, ρ2, R3, W3, hvr⟩ := he2
      obtain ⟨l2, L, hl2, hL, k1, k2, k3, k4, k5, k6, k7, k8⟩ := R3.loop hget
      have hl : ρ2 st.nx = some (w.heap.size + 1) := by
        have := (W3.le _ _ (Ren.add_at ρ st.nx (w.alloc (.deferred (some []))).heap.size (objN (.loop L0)))).1
        rw [hsz1] at this
        exact this
      rw [hl] at hl2; cases hl2
      have hmark : Marks (ρ.add st.nx (w.alloc (.deferred (some []))).heap.size (objN (.loop L0))) (st.new (.loop (Nat.max (psMax ps.toList) (Nat.max (dstMax asg) (dstMax body))) env ps.toList asg body .ready none)) ((w.alloc (.deferred (some []))).alloc (.loop L0)) [{ target := .collected w.heap.size, args := #[] }] := by
        refine .cons _ _ ?_ ?_ (fun d hd => by cases hd) .nil
        · show ((w.heap.push _).push _)[w.heap.size]? = _
          rw [Array.getElem?_push_lt (by simp)]
          simp
        · intro b o hb hbc
          have hb' : b ≠ st.nx := by
            intro he
            subst he
            rw [Ren.add_at, hsz1] at hbc
            have := Option.some.inj hbc
            omega
          rw [Ren.add_ne ρ hb'] at hbc
          exact absurd (hR.dom b _ hbc).2 (Nat.lt_irrefl _)
      have hne : L.state ≠ .busy := by
        rw [k5]
        rintro rfl
        cases hbusy
      have hend := run_endLoop (P := P) hL hne
      obtain ⟨g3, L3, hg3, hL3, R4, W4⟩ := R3.setLoop hset
      rw [hl] at hg3; cases hg3
      rw [hL] at hL3; cases hL3
      rw [show ({ L with state := .exhausted, pending := j } : Loop) = { L with state := .exhausted } by rw [← k6]] at R4 W4
      have hcm : Cm ρ st w a ρ2 st2 (w2.putObj (w.heap.size + 1) (.loop { L with state := .exhausted })) { a with defers := [{ target := .collected w.heap.size, args := #[] }] ++ a.defers } env :=
        ⟨R4, ((W1.trans W2).trans W3).trans W4, (hE.mono W2.le).mono (Ren.le_trans W3.le W4.le), rfl, _, rfl, (hmark.went W3).went W4, fun d hd c hc => by
          cases hd with
          | head => cases hc; exact Nat.le_refl _
          | tail _ h => cases h⟩
      obtain ⟨W, hW⟩ : ∃ W, w2.putObj (w.heap.size + 1) (.loop { L with state := .exhausted }) = W := ⟨_, rfl⟩
      rw [hW] at hend hcm
      rw [k6] at hend
      refine ⟨j, W, hend, ?_⟩
      unfold jumpEx at h
      split at h
      · cases h
        exact ⟨rfl, ρ2, hcm⟩
      · split at h
        · cases h
          exact wpIn_ret ⟨rfl, ρ2, hcm⟩
        · cases h
          exact wpIn_exit ⟨rfl, ρ2, hcm⟩
        · cases h
end Go.Proofs.YtegfafebbnlicaaGreatDoor.Ev
