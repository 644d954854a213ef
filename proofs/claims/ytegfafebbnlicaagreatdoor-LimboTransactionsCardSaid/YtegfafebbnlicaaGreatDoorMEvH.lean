/-
  Calls and rounds are sound; the runner with any fuel is.
  Drawn regions: what the checks say, and the trace of the run in the text's order.
  Drawn regions: the masks, the static checks, the trace.
-/
import Derived.Test.YtegfafebbnlicaaGreatDoorMEvG
namespace Go.Proofs.YtegfafebbnlicaaGreatDoor.Ev
open Go
set_option linter.unusedVariables false
set_option linter.unusedSimpArgs false

variable {P : Program} {T : Tr TI}

/-- The table of functions. -/
def FOk (P : Program) (T : Tr TI) (F : Tr FI) : Prop := ∀ g fn m, F.get g = some (fn, m) → P.funcs[g]? = some fn ∧ (fn.name == "runtime.NumGoroutine") = false ∧ ∀ c, fn.body = some c → codeOk T c false = true ∧ dstMax c ≤ fn.ntmps
/-- Functions that are answered by other means. -/
def HookOk (P : Program) (H : Hooks) : Prop := ∀ call, CallS P call → ∀ f h, H call f = some h → ∀ args st v st', h args st = some (v, st') → ∀ (ρ : Ren) (w : World) (args' : Array Value), R Gn ρ st w → AR ρ args.toArray args' →
  HasBody P f ∧ CallsIn (Fw none) 0 P f args' w (RetR ρ st w v st')

/-- A block that nobody names is turned. -/
theorem R.other {ρ : Ren} {st : St} {w : World} (hR : R Gn ρ st w) {c : Nat} (hn : ∀ b o, st.h.get b = some o → ρ b ≠ some c) (x : Obj) : R Gn ρ st (w.putObj c x) where
  live := fun b o hb => let ⟨g, y, h1, h2, h3⟩ := hR.live b o hb; ⟨g, y, h1, by
    rw [← h2]; exact heap_put_other (fun he => by subst he; exact hn b o hb h1), h3⟩
  inj := hR.inj
  dom := fun b g hg => ⟨(hR.dom b g hg).1, by have := (hR.dom b g hg).2; simpa [World.putObj] using this⟩
  glob := hR.glob
theorem Marks.other {ρ : Ren} {st : St} {w : World} {ms : List Deferred} (h : Marks ρ st w ms) {c : Nat} (hd : ∀ d ∈ ms, d.target ≠ .collected c) (x : Obj) : Marks ρ st (w.putObj c x) ms := by
  induction h with
  | nil => exact .nil
  | cons c' ms hc hn hd' _ ih =>
    refine .cons c' ms ?_ hn hd' (ih fun d hm => hd d (List.mem_cons_of_mem _ hm))
    rw [← hc]
    exact heap_put_other (fun he => by subst he; exact hd _ List.mem_cons_self rfl)

theorem envOf_cons (q : Nat) (v : Value) (l : List Value) (i : Nat) : envOf q (v :: l) i = (envOf q l (i + 1)).set i v := rfl
theorem envOf_get (q : Nat) : ∀ (l : List Value) (i m : Nat), (envOf q l i).get m = if i ≤ m ∧ m < i + l.length then l[m - i]? else none
  | [], i, m => by rw [if_neg (by simp)]; exact Env.get_none q m
  | v :: l, i, m => by
    rw [envOf_cons, Env.get_set, envOf_get q l (i + 1) m]
    simp only [List.length_cons]
    by_cases h : m = i
    · subst h; rw [if_pos rfl, if_pos (by omega), Nat.sub_self]; rfl
    · rw [if_neg h]
      by_cases h2 : i + 1 ≤ m ∧ m < i + 1 + l.length
      · rw [if_pos h2, if_pos (by omega), show m - i = (m - (i + 1)) + 1 by omega]; rfl
      · rw [if_neg h2, if_neg (by omega)]
theorem envOf_R {q : Nat} {ρ : Ren} {args : List Value} {args' rest : Array Value} (h : AR ρ args.toArray args') : EnvR ρ (envOf q args 0) (args' ++ rest) := by
  intro t v ht
  rw [envOf_get] at ht
  split at ht
  · rename_i hlt
    obtain ⟨y, hy, hr⟩ := h.get (i := t) (x := v) (by simpa using ht)
    refine ⟨y, ?_, hr⟩
    have hs : t < args'.size := by have := h.1; simp at this; omega
    rw [Array.getElem?_append_left hs]; exact hy
  · cases ht

/-! ### Results -/
theorem run_asAddr {a : Addr} (w : World) : (asAddr (.pointer (some a))).run P w = .ok a w := by simp [asAddr]
def resultSem (tmps : Array Value) : ResultVar → Sem Value
  | .tmp t => pure (tmps.getD t undef)
  | .cell a t => do loadVar t (← asAddr (tmps.getD a undef))
theorem eResult_sound (hT : TOk P T) {ρ : Ren} {st : St} {w : World} (hR : R Gn ρ st w) {env : Env} {tmps : Array Value} (hE : EnvR ρ env tmps) {r : ResultVar} {v : Value} (h : eResult T env st r = some v) :
    ∃ v', (resultSem tmps r).run P w = .ok v' w ∧ VR ρ v v' := by
  cases r with
  | tmp t =>
    obtain ⟨v', h1, h2⟩ := hE t v h
    exact ⟨v', by simp [resultSem, Array.getD_eq_getD_getElem?, h1], h2⟩
  | cell a t =>
    simp only [eResult] at h
    split at h
    case h_2 => cases h
    rename_i ti u ht hu
    obtain ⟨u', h1, h2⟩ := hE a u hu
    obtain ⟨v', h3, h4⟩ := eLoad_sound (hT _ _ ht) hR h h2
    refine ⟨v', ?_, h4⟩
    have hd : tmps.getD a undef = u' := by simp [Array.getD_eq_getD_getElem?, h1]
    unfold eLoad at h
    split at h
    case h_2 => cases h
    cases h2 with
    | ptr b c o hb =>
      simp only [resultSem, hd, Sem.run_bind, run_asAddr, Result.andThen_ok]
      simp only [Instr.loadAt, Instr.sureAddr, Sem.run_bind, Sem.run_pure, Result.andThen_ok] at h3
      exact h3
theorem eResultL_cons (env : Env) (st : St) (r : ResultVar) (l : List ResultVar) : eResultL T env st (r :: l) = match eResult T env st r with
      | some v => match eResultL T env st l with
        | some vs => some (v :: vs)
        | none => none
      | none => none := rfl
theorem eResultL_sound (hT : TOk P T) {ρ : Ren} {st : St} {w : World} (hR : R Gn ρ st w) {env : Env} {tmps : Array Value} (hE : EnvR ρ env tmps) : ∀ (l : List ResultVar) (vs : List Value), eResultL T env st l = some vs →
    ∃ vs', (l.mapM (resultSem tmps)).run P w = .ok vs' w ∧ AR ρ vs.toArray vs'.toArray
  | [], vs, h => by cases h; exact ⟨[], by simp, AR.nil ρ⟩
  | r :: l, vs, h => by
    rw [eResultL_cons] at h
    split at h
    case h_2 => cases h
    rename_i v hv
    split at h
    case h_2 => cases h
    rename_i vs1 hvs
    cases h
    obtain ⟨v', h1, h2⟩ := eResult_sound hT hR hE hv
    obtain ⟨vs', h3, h4⟩ := eResultL_sound hT hR hE l vs1 hvs
    refine ⟨v' :: vs', ?_, AR.cons h2 h4⟩
    rw [List.mapM_cons]
    simp only [Sem.run_bind, h1, Result.andThen_ok, h3, Sem.run_pure]
theorem eResults_sound (hT : TOk P T) {ρ : Ren} {st : St} {w : World} (hR : R Gn ρ st w) {env : Env} {tmps : Array Value} (hE : EnvR ρ env tmps) {fn : Func} {v : Value} (h : eResults T env st fn.results.toList = some v) :
    ∃ v', (results fn tmps).run P w = .ok v' w ∧ VR ρ v v' := by
  unfold eResults at h
  have hres : results fn tmps = (do let vs ← fn.results.mapM (resultSem tmps); pure (if h : vs.size = 1 then vs[0] else .tuple vs)) := by
    unfold results
    congr 1
  have hmap : ∀ vs', (fn.results.toList.mapM (resultSem tmps)).run P w = .ok vs' w → (fn.results.mapM (resultSem tmps)).run P w = .ok vs'.toArray w := by
    intro vs' h
    rw [Array.mapM_eq_mapM_toList, map_eq_pure_bind, Sem.run_bind, h, Result.andThen_ok, Sem.run_pure]
  split at h
  · rename_i v0 hl
    cases h
    obtain ⟨vs', h1, h2⟩ := eResultL_sound hT hR hE _ _ hl
    have hlen : vs'.length = 1 := by have := h2.1; simpa using this.symm
    obtain ⟨y, rfl⟩ := List.length_eq_one_iff.1 hlen
    refine ⟨y, ?_, h2.of_list.1⟩
    rw [hres]
    simp only [Sem.run_bind, hmap _ h1, Result.andThen_ok, Sem.run_pure]
    rfl
  · rename_i vs hne hl
    cases h
    obtain ⟨vs', h1, h2⟩ := eResultL_sound hT hR hE _ _ hl
    refine ⟨.tuple vs'.toArray, ?_, .tup _ _ h2.1 h2.2⟩
    rw [hres]
    simp only [Sem.run_bind, hmap _ h1, Result.andThen_ok, Sem.run_pure]
    have hsz : vs'.toArray.size ≠ 1 := by
      intro hh
      have h3 := h2.1
      rw [hh] at h3
      have h3' : vs.length = 1 := by simpa using h3
      obtain ⟨y, rfl⟩ := List.length_eq_one_iff.1 h3'
      exact hne y rfl
    rw [dif_neg hsz]
  · cases h

/-- The marks are taken, the results handed over. -/
theorem leavesM (hT : TOk P T) {fn : Func} {v : Value} {env : Env} {tmps : Array Value} {ρ ρ' : Ren} {st st' : St} {w : World} (hE : EnvR ρ' env tmps) (hv : eResults T env st' fn.results.toList = some v) : ∀ (ms : List Deferred) (w' : World), R Gn ρ' st' w' → Went ρ st w ρ' st' w' →
    Marks ρ' st' w' ms → (∀ d ∈ ms, ∀ c, d.target = .collected c → w.heap.size ≤ c) → LeavesInM (Fw none) 0 P fn tmps (RetR ρ st w v st') ms .returning w'
  | [], w', hR, hW, hM, hge => by
    obtain ⟨v', h1, h2⟩ := eResults_sound hT hR hE hv
    exact ⟨v', h1, v', rfl, ρ', hR, hW, h2⟩
  | d :: ms, w', hR, hW, hM, hge => by
    cases hM with
    | cons c _ hc hn hd hM =>
      refine ⟨(fun h => by cases h), .inl ⟨c, w'.putObj c (.deferred none), rfl, run_takeDeferred hc, ?_⟩⟩
      have hcge := hge _ List.mem_cons_self c rfl
      refine leavesM hT hE hv ms _ (hR.other hn _) ?_ (hM.other hd _) (fun d' hm => hge d' (List.mem_cons_of_mem _ hm))
      exact { le := hW.le, nx := hW.nx, size := by simpa [World.putObj] using hW.size,
              frame := fun k x hx hnk => by
                have := hW.frame k x hx hnk
                rw [← this]
                exact heap_put_other (by have := heap_lt hx; omega)
              fresh := hW.fresh, new := hW.new, os := hW.os, tape := hW.tape, output := hW.output }

theorem callG_sound {F : Tr FI} (hok : Ok P T) (hF : FOk P T F) {n : Nat} {ih : Run1} (hih : RunS P T n ih) {g : FuncId} {args : List Value} {st st' : St} {v : Value} (h : callG T F ih g args st = some (v, st')) {ρ : Ren} {w : World} {args' : Array Value}
    (hR : R Gn ρ st w) (har : AR ρ args.toArray args') : HasBody P g ∧ CallsIn (Fw none) 0 P g args' w (RetR ρ st w v st') := by
  unfold callG at h
  split at h
  case h_2 => cases h
  rename_i fn m hfn
  split at h
  case h_2 => cases h
  rename_i c hb
  split at h
  case h_2 => cases h
  rename_i e env' st1 hrun
  obtain ⟨hf, hname, hcode⟩ := hF g fn m hfn
  obtain ⟨hc, hm⟩ := hcode c hb
  refine ⟨⟨fn, c, hf, hname, hb⟩, ?_⟩
  split at h
  · cases h
  rename_i hnx
  split at h
  case h_2 => cases h
  rename_i v0 hv
  cases h
  refine callsIn_of_wp_marks hf hb trivial ?_
  have hsz : dstMax c ≤ (args' ++ Array.replicate (fn.ntmps - args'.size) undef).size := by simp; omega
  refine wpIn_mono (hih c _ st e env' st' hrun none ρ w { tmps := args' ++ Array.replicate (fn.ntmps - args'.size) undef, defers := [] } hc hsz hR (envOf_R har)).1 ?_
  rintro x a' w' ⟨rfl, ρ', c1⟩
  obtain ⟨ms, hms, hM, hge⟩ := c1.defers
  have hl := leavesM (P := P) hok.types c1.env hv ms w' c1.r c1.went hM hge
  have hms' : a'.defers = ms := by rw [hms]; simp
  rw [← hms'] at hl
  cases e with
  | norm => exact hl
  | ret => exact hl
  | exit id => exact absurd rfl (hnx id)

theorem setPs_cons (p : Tmp) (ps : List Tmp) (vs : List Value) (env : Env) : setPs (p :: ps) vs env = match vs with
      | [] => none
      | v :: vs => setPs ps vs (env.set p v) := rfl
theorem setPs_sound {ρ : Ren} : ∀ (ps : List Tmp) (vs vs' : List Value) (env env' : Env) (tmps : Array Value), setPs ps vs env = some env' → AR ρ vs.toArray vs'.toArray → EnvR ρ env tmps → psMax ps ≤ tmps.size →
    ps.length = vs'.length ∧ EnvR ρ env' ((ps.zip vs').foldl (fun tmps (p : Tmp × Value) => tmps.setIfInBounds p.1 p.2) tmps) ∧ ((ps.zip vs').foldl (fun tmps (p : Tmp × Value) => tmps.setIfInBounds p.1 p.2) tmps).size = tmps.size
  | [], vs, vs', env, env', tmps, h, har, hE, hm => by
    cases vs with
    | nil =>
      cases h
      have : vs' = [] := List.length_eq_zero_iff.1 (by have := har.1; simpa using this.symm)
      subst this
      exact ⟨rfl, hE, rfl⟩
    | cons v vs => cases h
  | p :: ps, [], vs', env, env', tmps, h, har, hE, hm => by cases h
  | p :: ps, v :: vs, [], env, env', tmps, h, har, hE, hm => by have := har.1; simp at this
  | p :: ps, v :: vs, v' :: vs', env, env', tmps, h, har, hE, hm => by
    obtain ⟨hv, har'⟩ := har.of_list
    rw [setPs_cons] at h
    have hp : p + 1 ≤ tmps.size := Nat.le_trans (Nat.le_max_left _ _) hm
    have hps : psMax ps ≤ tmps.size := Nat.le_trans (Nat.le_max_right _ _) hm
    have hE' : EnvR ρ (env.set p v) (tmps.setIfInBounds p v') := by
      have := EnvR.put (a := { tmps := tmps, defers := [] }) hE (d := some p) hv (fun t ht => by cases ht; exact hp)
      exact this
    obtain ⟨h1, h2, h3⟩ := setPs_sound ps vs vs' (env.set p v) env' (tmps.setIfInBounds p v') h har' hE' (by simpa using hps)
    refine ⟨by simp [h1], ?_, ?_⟩
    · rw [List.zip_cons_cons, List.foldl_cons]; exact h2
    · rw [List.zip_cons_cons, List.foldl_cons, h3]; simp

theorem yieldG_sound {n : Nat} {ih : Run1} (hih : RunS P T n ih) {l : Nat} {args : List Value} {st st' : St} {v : Value} (h : yieldG T ih l args st = some (v, st')) {ρ : Ren} {w : World} {args' : Array Value}
    (hR : R Gn ρ st w) (har : AR ρ args.toArray args') :
    ∃ c, ρ l = some c ∧ ∃ fn tmps asg body, (Instr.yield c args').run P w = .ok (.round c fn tmps asg body) w ∧ RoundIn (Fw none) 0 P c fn tmps asg body w (RetR ρ st w v st') := by
  unfold yieldG at h
  split at h
  case h_2 => cases h
  rename_i m env ps asg body j0 hget
  split at h
  case h_2 => cases h
  rename_i ha hb hmm
  split at h
  case h_2 => cases h
  rename_i env1 hps
  split at h
  case h_2 => cases h
  rename_i env2 st1 hasg
  split at h
  case h_2 => cases h
  rename_i _ _ _ _ _ j hget1
  split at h
  case h_2 => cases h
  rename_i st2 hset2
  obtain ⟨c, L, hc, hL, k1, k2, k3, k4, k5, k6, k7, k8⟩ := hR.loop hget
  have hmx := ble_iff.1 hmm
  have hpm : psMax ps ≤ L.tmps.size := Nat.le_trans (max_l hmx) k1
  have ham : dstMax asg ≤ L.tmps.size := Nat.le_trans (max_l (max_r hmx)) k1
  have hbm : dstMax body ≤ L.tmps.size := Nat.le_trans (max_r (max_r hmx)) k1
  obtain ⟨e1, e2, e3⟩ := setPs_sound ps args args'.toList env env1 L.tmps hps (by simpa using har) k7 hpm
  have hpsz : args'.size = L.params.size := by
    rw [← Array.length_toList, ← Array.length_toList, k2]; exact e1.symm
  have hfold : ((L.params.zip args').foldl (fun tmps (p : Tmp × Value) => tmps.setIfInBounds p.1 p.2) L.tmps) = ((ps.zip args'.toList).foldl (fun tmps (p : Tmp × Value) => tmps.setIfInBounds p.1 p.2) L.tmps) := by
    rw [← Array.foldl_toList, Array.toList_zip, k2]
  have hyield := run_yield (P := P) hL hpsz
  refine ⟨c, hc, L.fn, _, L.assign, L.body, hyield, ?_⟩
  rw [k3, k4]
  refine roundIn_of_wpIn trivial ?_
  show asg.wpIn (Fw (some c)) 0 P _ _ w
  obtain ⟨tm, htm⟩ : ∃ tm, tm = ((ps.zip args'.toList).foldl (fun tmps (p : Tmp × Value) => tmps.setIfInBounds p.1 p.2) L.tmps) := ⟨_, rfl⟩
  have htmps : (Array.foldl (fun tmps x => match x with | (t, a) => tmps.setIfInBounds t a) L.tmps (L.params.zip args')) = tm := by
    rw [htm, ← hfold]
  rw [htmps]
  rw [← htm] at e2 e3
  refine wpIn_mono (hih asg env1 st .norm env2 st1 hasg (some c) ρ w { tmps := tm, defers := [] } ha (by rw [e3]; exact ham) hR e2).1 ?_
  rintro x a1 w1 ⟨rfl, ρ1, c1⟩
  have hc1 : ρ1 l = some c := (c1.went.le _ _ hc).1
  obtain ⟨g1, L1, hg1, hL1, q1, q2, q3, q4, q5, q6, q7, q8⟩ := c1.r.loop hget1
  rw [hc1] at hg1; cases hg1
  have hbegin := run_beginRound (P := P) hL1 q5
  obtain ⟨g2, L2, hg2, hL2, R2, W2⟩ := c1.r.setLoop hset2
  rw [hc1] at hg2; cases hg2
  rw [hL1] at hL2; cases hL2
  rw [show ({ L1 with state := .busy, pending := j } : Loop) = { L1 with state := .busy } by rw [← q6]] at R2 W2
  refine ⟨_, hbegin, ?_⟩
  show body.wpIn (Fw (some c)) 0 P _ a1 _
  have hsz1 : dstMax body ≤ a1.tmps.size := by rw [c1.size]; show _ ≤ tm.size; rw [e3]; exact hbm
  have hfin : ∀ (e : Ex) (env3 : Env) (st3 : St), ih body env2 st2 = some (e, env3, st3) → ∀ (s : LoopState) (jj : Option Code) (st4 : St), st3.setLoop l s jj = some st4 → (s = if jj.isNone then .ready else .done) →
      ∀ (a3 : Act) (w3 : World) (ρ3 : Ren), Cm ρ1 st2 (w1.putObj c (.loop { L1 with state := .busy })) a1 ρ3 st3 w3 a3 env3 → v = .bool jj.isNone → st' = st4 →
      ∃ v' w', (Instr.endRound c jj).run P w3 = .ok v' w' ∧ RetR ρ st w v st' (.returned v') w' := by
    intro e env3 st3 hbody s jj st4 hset hs a3 w3 ρ3 c3 hv hst
    subst hst
    obtain ⟨g4, L4, hg4, hL4, R4, W4⟩ := c3.r.setLoop hset
    have hc3 : ρ3 l = some c := (c3.went.le _ _ hc1).1
    rw [hc3] at hg4; cases hg4
    refine ⟨_, _, run_endRound jj hL4, .bool jj.isNone, rfl, ρ3, ?_, ?_, by rw [hv]; exact .bool _⟩
    · rw [← hs]; exact R4
    · rw [← hs]; exact ((c1.went.trans W2).trans c3.went).trans W4
  split at h
  · rename_i env3 st3 hbody
    split at h
    case h_2 => cases h
    rename_i st4 hset
    cases h
    refine wpIn_mono (hih body env2 st2 .norm env3 st3 hbody (some c) ρ1 _ a1 hb hsz1 R2 c1.env).1 ?_
    rintro x a3 w3 ⟨rfl, ρ3, c3⟩
    exact hfin .norm env3 st3 hbody .ready none st' hset rfl a3 w3 ρ3 c3 rfl rfl
  · rename_i env3 st3 hbody
    split at h
    case h_2 => cases h
    rename_i st4 hset
    cases h
    refine wpIn_mono (hih body env2 st2 .ret env3 st3 hbody (some c) ρ1 _ a1 hb hsz1 R2 c1.env).1 ?_
    rintro x a3 w3 ⟨rfl, ρ3, c3⟩
    exact hfin .ret env3 st3 hbody .done (some .ret) st' hset rfl a3 w3 ρ3 c3 rfl rfl
  · rename_i id env3 st3 hbody
    split at h
    case h_2 => cases h
    rename_i st4 hset
    cases h
    refine wpIn_mono (hih body env2 st2 (.exit id) env3 st3 hbody (some c) ρ1 _ a1 hb hsz1 R2 c1.env).1 ?_
    rintro x a3 w3 ⟨rfl, ρ3, c3⟩
    exact hfin (.exit id) env3 st3 hbody .done (some (.exit id)) st' hset rfl a3 w3 ρ3 c3 rfl rfl
  · cases h

theorem callT_sound {F : Tr FI} (hok : Ok P T) (hF : FOk P T F) {n : Nat} {ih : Run1} (hih : RunS P T n ih) : CallS P (callT T F ih) := by
  intro g args st v st' h ρ w args' hR har
  cases g with
  | fn f => exact callG_sound hok hF hih h hR har
  | yield l => exact yieldG_sound hih h hR har
theorem callW_sound {F : Tr FI} {H : Hooks} (hok : Ok P T) (hF : FOk P T F) (hH : HookOk P H) {n : Nat} {ih : Run1} (hih : RunS P T n ih) : CallS P (callW T F H ih) := by
  intro g args st v st' h ρ w args' hR har
  cases g with
  | fn f =>
    simp only [callW] at h
    split at h
    · rename_i hk hhk
      exact hH _ (callT_sound hok hF hih) f hk hhk args st v st' h ρ w args' hR har
    · exact callG_sound hok hF hih h hR har
  | yield l => exact yieldG_sound hih h hR har
/-- The runner is sound. -/
theorem run_sound {F : Tr FI} {H : Hooks} (hok : Ok P T) (hD : DrawS P T) (hF : FOk P T F) (hH : HookOk P H) : ∀ n, RunS P T n (run T F H n)
  | 0 => fun c env st e env' st' h => by cases h
  | n + 1 => runF_sound hok hD (run_sound hok hD hF hH n) (callW_sound hok hF hH (run_sound hok hD hF hH n))
end Go.Proofs.YtegfafebbnlicaaGreatDoor.Ev

namespace Go.Proofs.YtegfafebbnlicaaGreatDoor.Ev
open Go
set_option linter.unusedVariables false
set_option linter.unusedSimpArgs false

variable {P : Program} {T : Tr TI}

/-! ### The same operands, the same outcome -/
section
variable {env env2 : Env}
theorem eOpds_congr : ∀ (l : List Operand), (∀ x ∈ l, eOpd env x = eOpd env2 x) → eOpds env l = eOpds env2 l
  | [], _ => rfl
  | x :: l, h => by rw [eOpds_cons, eOpds_cons, h x List.mem_cons_self, eOpds_congr l fun y hy => h y (List.mem_cons_of_mem _ hy)]
theorem eParts_congr : ∀ (l : List (Nat × Operand)), (∀ x ∈ l, eOpd env x.2 = eOpd env2 x.2) → eParts env l = eParts env2 l
  | [], _ => rfl
  | x :: l, h => by rw [eParts_cons, eParts_cons, h x List.mem_cons_self, eParts_congr l fun y hy => h y (List.mem_cons_of_mem _ hy)]
theorem eOpt_congr (x : Option Operand) (h : ∀ y, x = some y → eOpd env y = eOpd env2 y) : eOpt env x = eOpt env2 x := by
  cases x with
  | none => rfl
  | some y => simp only [eOpt, h y rfl]
theorem ePure_congr {op : Op} (h : ∀ x ∈ op.operands, eOpd env x = eOpd env2 x) : ePure T env op = ePure T env2 op := by
  cases op <;> simp only [ePure] <;> simp only [Op.operands] at h
  case move x => rw [h x (by simp)]
  case assign x => rw [h x (by simp)]
  case pick c a b => rw [h c (by simp), h a (by simp), h b (by simp)]
  case build t ps => rw [eParts_congr ps.toList fun x hx => h x.2 (by simp; exact ⟨x.1, by simpa using hx⟩)]
  case nilCheck x => rw [h x (by simp)]
  case binOp op t x y yt => rw [h x (by simp), h y (by simp)]
  case unOp op t x => rw [h x (by simp)]
  case convert s d x => rw [h x (by simp)]
  case makeInterface t x => rw [h x (by simp)]
  case makeFunc fn first captured => rw [eOpds_congr first.toList fun x hx => h x (by simp at hx ⊢; exact .inl hx), eOpds_congr captured.toList fun x hx => h x (by simp at hx ⊢; exact .inr hx)]
  case slice t x lo hi mx => rw [h x (by simp), eOpt_congr lo fun y hy => h y (by simp [hy]), eOpt_congr hi fun y hy => h y (by simp [hy]), eOpt_congr mx fun y hy => h y (by simp [hy])]
  case fieldAddr t x f => rw [h x (by simp)]
  case field t x f => rw [h x (by simp)]
  case indexAddr t x i => rw [h x (by simp), h i (by simp)]
  case index t x i => rw [h x (by simp), h i (by simp)]
  case extract x i => rw [h x (by simp)]
  case call c => rw [eOpds_congr c.args.toList fun x hx => h x (by simp at hx; simp [Call.operands, hx])]
theorem list1 {l : Array Operand} {x : Operand} (h : l.toList = [x]) : x ∈ l := by
  have : x ∈ l.toList := by rw [h]; simp
  simpa using this
theorem list2 {l : Array Operand} {x y : Operand} (h : l.toList = [x, y]) : x ∈ l ∧ y ∈ l := by
  have h1 : x ∈ l.toList := by rw [h]; simp
  have h2 : y ∈ l.toList := by rw [h]; simp
  exact ⟨by simpa using h1, by simpa using h2⟩
theorem eRead_congr {op : Op} (h : ∀ x ∈ op.operands, eOpd env x = eOpd env2 x) (st : St) : eRead T env op st = eRead T env2 op st := by
  cases op <;> simp only [eRead] <;> simp only [Op.operands] at h
  case load t x => rw [h x (by simp)]
  case lookup t x k ok => rw [h x (by simp), h k (by simp)]
  case binOp op t x y yt => rw [h x (by simp), h y (by simp)]
  case convert s d x => rw [h x (by simp)]
  case call c =>
    split
    · rename_i x t ts _ hargs _
      rw [h x (by simp [Call.operands, list1 hargs])]
    · rfl
theorem eFresh_congr {op : Op} (h : ∀ x ∈ op.operands, eOpd env x = eOpd env2 x) : eFresh T env op = eFresh T env2 op := by
  cases op <;> simp only [eFresh] <;> simp only [Op.operands] at h
  case box t x => rw [h x (by simp)]
  case buildSlice t n ps => rw [eParts_congr ps.toList fun x hx => h x.2 (by simp; exact ⟨x.1, by simpa using hx⟩)]
  case makeSlice t l c => rw [h l (by simp), h c (by simp)]
  case convert s d x => rw [h x (by simp)]
theorem eEff_congr {op : Op} (h : ∀ x ∈ op.operands, eOpd env x = eOpd env2 x) (st : St) : eEff T env op st = eEff T env2 op st := by
  cases op <;> simp only [eEff] <;> simp only [Op.operands] at h
  case store t x y => rw [h x (by simp), h y (by simp)]
  case mapUpdate t m k v => rw [h m (by simp), h k (by simp), h v (by simp)]
  case mapEntry t m k => rw [h m (by simp), h k (by simp)]
  case range t x => rw [h x (by simp)]
  case next it s => rw [h it (by simp)]
  case entry it => rw [h it (by simp)]
  case entryStore t m s v => rw [h m (by simp), h s (by simp), h v (by simp)]
  case call c =>
    split
    · rename_i x y t t' _ hargs _
      rw [h x (by simp [Call.operands, (list2 hargs).1]), h y (by simp [Call.operands, (list2 hargs).2])]
    · rename_i x y t ts _ hargs _
      rw [h x (by simp [Call.operands, (list2 hargs).1]), h y (by simp [Call.operands, (list2 hargs).2])]
    · rename_i x y t ts _ hargs _
      rw [h x (by simp [Call.operands, (list2 hargs).1]), h y (by simp [Call.operands, (list2 hargs).2])]
    · rename_i x t ts _ hargs _
      rw [h x (by simp [Call.operands, list1 hargs])]
    · rfl
theorem eCallee_congr {c : Call} (h : ∀ x ∈ (Op.call c).operands, eOpd env x = eOpd env2 x) : eCallee T env c = eCallee T env2 c := by
  simp only [Op.operands] at h
  unfold eCallee
  rw [eOpds_congr c.args.toList fun x hx => h x (by simp at hx; simp [Call.operands, hx])]
  split
  · split
    · rename_i f hf
      rw [h f (by simp [Call.operands, hf])]
    · rename_i r m hf
      rw [h r (by simp [Call.operands, hf])]
    · rfl
  · rfl
theorem eAct_congr {call : Call1} {o : Oper} (h : ∀ x ∈ o.op.operands, eOpd env x = eOpd env2 x) (st : St) : eAct T call env o st = eAct T call env2 o st := by
  unfold eAct
  cases ho : o.op <;> simp only <;> (try (rw [ho] at h; exact eEff_congr h st))
  rename_i c
  rw [ho] at h
  rw [eEff_congr h st, eCallee_congr h]
end

/-! ### Some temporaries of an environment -/
noncomputable def restr (e : Env) (ts : List Tmp) : Env := ts.foldr (fun t acc => match e.get t with | some v => acc.set t v | none => acc) (.none 0)
theorem restr_get (e : Env) : ∀ (ts : List Tmp) (t : Tmp), (restr e ts).get t = if t ∈ ts then e.get t else none
  | [], t => by simp [restr, Env.get_none]
  | x :: ts, t => by
    have ih := restr_get e ts t
    show (match e.get x with | some v => (restr e ts).set x v | none => restr e ts).get t = _
    cases hx : e.get x with
    | none =>
      simp only [ih, List.mem_cons]
      by_cases h : t = x
      · subst h; simp [hx]
      · simp [h]
    | some v =>
      simp only [Env.get_set, List.mem_cons]
      by_cases h : t = x
      · subst h; simp [hx]
      · simp only [h, if_false, false_or, ih]
theorem restr_opd {e : Env} {ts : List Tmp} {x : Operand} (h : ∀ t, x = .tmp t → t ∈ ts) : eOpd (restr e ts) x = eOpd e x := by
  cases x with
  | tmp t => simp only [eOpd]; rw [restr_get, if_pos (h t rfl)]
  | const v => rfl
  | global g => rfl
  | func f => rfl
theorem mem_tmpsOf {l : List Operand} {t : Tmp} (h : .tmp t ∈ l) : t ∈ tmpsOf l := by
  unfold tmpsOf
  exact List.mem_filterMap.2 ⟨.tmp t, h, rfl⟩

/-! ### Values that are the same -/
theorem eSameP_eq {x y : Value} (h : eSameP x y = true) : x = y := by
  unfold eSameP at h
  split at h
  · rename_i a b
    cases a <;> cases b <;> first | rfl | (cases h; done)
  · split at h
    · rename_i hk
      have := of_decide_eq_true hk
      subst this
      rw [eEqI_eq] at h
      rw [of_decide_eq_true h]
    · cases h
  · rfl
  · split at h
    · rename_i hb
      rw [beq_iff.1 hb, beq_iff.1 h]
    · cases h
  · split at h
    · rename_i hb
      rw [beq_iff.1 hb, beq_iff.1 h]
    · cases h
  · split at h
    · rename_i h1 h2 h3
      rw [beq_iff.1 h1, beq_iff.1 h2, beq_iff.1 h3, beq_iff.1 h]
    · cases h
  · split at h
    · rename_i h1 h2 h3 h4
      rw [beq_iff.1 h1, beq_iff.1 h2, beq_iff.1 h3, beq_iff.1 h4, beq_iff.1 h]
    · cases h
  · rfl
  · rw [beq_iff.1 h]
  · rfl
  · rfl
  · cases h
theorem eSame0_eq {x y : Value} (h : eSame0 x y = true) : x = y := by
  unfold eSame0 at h
  split at h
  · split at h
    · rename_i hb
      rw [beq_iff.1 hb, eSameP_eq h]
    · cases h
  · exact eSameP_eq h
theorem eSameL_cons (x : Value) (a : List Value) (y : Value) (b : List Value) : eSameL (x :: a) (y :: b) = match eSame0 x y with
        | true => eSameL a b
        | false => false := rfl
theorem eSameL_eq : ∀ (a b : List Value), eSameL a b = true → a = b
  | [], [], _ => rfl
  | [], _ :: _, h => by cases h
  | _ :: _, [], h => by cases h
  | x :: a, y :: b, h => by
    rw [eSameL_cons] at h
    split at h
    · rename_i h0
      rw [eSame0_eq h0, eSameL_eq a b h]
    · cases h
theorem eSame_eq {x y : Value} (h : eSame x y = true) : x = y := by
  unfold eSame at h
  split at h
  · rw [Array.ext' (eSameL_eq _ _ h)]
  · rw [Array.ext' (eSameL_eq _ _ h)]
  · split at h
    · rename_i hb
      rw [beq_iff.1 hb, eSame0_eq h]
    · cases h
  · rw [eqBytes_eq] at h
    have := eq_of_beq h
    congr 1
    apply ByteArray.ext
    exact Array.ext' this
  · exact eSame0_eq h
end Go.Proofs.YtegfafebbnlicaaGreatDoor.Ev

namespace Go.Proofs.YtegfafebbnlicaaGreatDoor.Ev
open Go
set_option linter.unusedVariables false
set_option linter.unusedSimpArgs false

variable {P : Program} {T : Tr TI}

/-! ### Masks -/
theorem bindsB_eq (e : Edge) : bindsB e = Region.binds .any e := by
  unfold bindsB Region.binds
  cases e.ground <;> rfl
/-- What stands ahead of a listed operation is listed. -/
def Cl (L : List Oper) (li : Nat → Bool) : Prop := ∀ (i : Nat) o, li i = true → L[i]? = some o → ∀ n ∈ onsOf o, li n = true
theorem edgeBits_cons (masks : List Nat) (e : Edge) (l : List Edge) : edgeBits masks (e :: l) = match bindsB e with
    | true => Nat.lor (Nat.lor (Nat.pow 2 e.on) (maskAt masks e.on)) (edgeBits masks l)
    | false => edgeBits masks l := rfl
theorem testBit_lor (a b k : Nat) : Nat.testBit (Nat.lor a b) k = (Nat.testBit a k || Nat.testBit b k) := Nat.testBit_or a b k
theorem edgeBits_sound {L : List Oper} {li : Nat → Bool} {masks : List Nat} (hm : ∀ n k, li n = true → Nat.testBit (maskAt masks n) k = true → li k = true) : ∀ (l : List Edge), (∀ e ∈ l, bindsB e = true → li e.on = true) →
    ∀ k, Nat.testBit (edgeBits masks l) k = true → li k = true
  | [], _, k, h => by
    have : edgeBits masks [] = 0 := rfl
    rw [this, Nat.zero_testBit] at h; cases h
  | e :: l, hl, k, h => by
    rw [edgeBits_cons] at h
    split at h
    · rename_i hb
      have h1 := hl e List.mem_cons_self hb
      rw [testBit_lor, testBit_lor, Bool.or_eq_true, Bool.or_eq_true] at h
      rcases h with (h | h) | h
      · have : Nat.testBit (2 ^ e.on) k = true := h
        rw [Nat.testBit_two_pow] at this
        have hk := of_decide_eq_true this
        subst hk; exact h1
      · exact hm e.on k h1 h
      · exact edgeBits_sound (L := L) hm l (fun e' he' => hl e' (List.mem_cons_of_mem _ he')) k h
    · exact edgeBits_sound (L := L) hm l (fun e' he' => hl e' (List.mem_cons_of_mem _ he')) k h
theorem masksOf_cons (o : Oper) (l : List Oper) (acc : List Nat) : masksOf (o :: l) acc = masksOf l (acc ++ [edgeBits acc o.after.toList]) := rfl
theorem mem_onsOf {o : Oper} {e : Edge} (he : e ∈ o.after.toList) (hb : bindsB e = true) : e.on ∈ onsOf o := by
  unfold onsOf
  exact List.mem_filterMap.2 ⟨e, he, by rw [hb]⟩
theorem masksOf_sound {L : List Oper} {li : Nat → Bool} (hcl : Cl L li) : ∀ (l : List Oper) (acc : List Nat), L.drop acc.length = l →
    (∀ (n m : Nat) (o : Oper), acc[n]? = some m → L[n]? = some o → (∀ k ∈ onsOf o, li k = true) → ∀ k, Nat.testBit m k = true → li k = true) →
    ∀ (n m : Nat) (o : Oper), (masksOf l acc)[n]? = some m → L[n]? = some o → (∀ k ∈ onsOf o, li k = true) → ∀ k, Nat.testBit m k = true → li k = true
  | [], acc, _, hacc => hacc
  | o :: l, acc, hd, hacc => by
    obtain ⟨h0, h1⟩ := drop_head hd
    rw [masksOf_cons]
    refine masksOf_sound hcl l _ (by simpa using h1) ?_
    intro n m o' hn ho' hon k hk
    rw [List.getElem?_append] at hn
    split at hn
    · exact hacc n m o' hn ho' hon k hk
    · rename_i hlt
      have hn0 : n = acc.length := by
        rcases Nat.lt_or_ge (n - acc.length) 1 with h' | h'
        · omega
        · rw [List.getElem?_eq_none (by simpa using h')] at hn; cases hn
      subst hn0
      rw [Nat.sub_self] at hn
      cases hn
      rw [h0] at ho'; cases ho'
      refine edgeBits_sound (L := L) (li := li) ?_ o.after.toList (fun e he hb => hon _ (mem_onsOf he hb)) k hk
      intro q k' hq hk'
      unfold maskAt at hk'
      split at hk'
      · rename_i mq hmq
        cases hoq : L[q]? with
        | none =>
          have : acc.length ≤ L.length := by
            rcases Nat.lt_or_ge L.length acc.length with h' | h'
            · rw [List.drop_eq_nil_of_le (by omega)] at hd; cases hd
            · exact h'
          rw [List.getElem?_eq_none_iff] at hoq
          rw [List.getElem?_eq_none (by omega)] at hmq; cases hmq
        | some oq => exact hacc q mq oq hmq hoq (fun n hn => hcl q oq hq hoq n hn) k' hk'
      · rw [Nat.zero_testBit] at hk'; cases hk'
/-- What the mask of an operation names is listed as soon as what stands directly ahead of it is. -/
theorem mask_listed {L : List Oper} {li : Nat → Bool} (hcl : Cl L li) {j : Nat} {o : Oper} (ho : L[j]? = some o) (hon : ∀ k ∈ onsOf o, li k = true) {k : Nat} (hk : Nat.testBit (maskAt (masksOf L []) j) k = true) : li k = true := by
  unfold maskAt at hk
  split at hk
  · rename_i m hm
    exact masksOf_sound hcl L [] rfl (fun n m o hn => by simp at hn) j m o hm ho hon k hk
  · rw [Nat.zero_testBit] at hk; cases hk

/-! ### The static checks -/
structure Static (T : Tr TI) (L : List Oper) : Prop where
  back : ∀ (j : Nat) o, L[j]? = some o → ∀ n ∈ onsOf o, n < j
  effs : ∀ (i j : Nat) oi oj, i < j → L[i]? = some oi → L[j]? = some oj → 3 ≤ classOf T oj.op → 2 ≤ classOf T oi.op → Nat.testBit (maskAt (masksOf L []) j) i = true
  dsts : ∀ (i j : Nat) oi oj t, i < j → L[i]? = some oi → L[j]? = some oj → oi.dst = some t → oj.dst ≠ some t
  after : ∀ (i j : Nat) oi oj t, i < j → L[i]? = some oi → L[j]? = some oj → oi.dst = some t → t ∈ looksL L oj → Nat.testBit (maskAt (masksOf L []) j) i = true
  ahead : ∀ (i j : Nat) oi oj t, i < j → L[i]? = some oi → L[j]? = some oj → oj.dst = some t → t ∈ looksL L oi → Nat.testBit (maskAt (masksOf L []) j) i = true
theorem lt_of_get {α : Type} {l : List α} {i : Nat} {x : α} (h : l[i]? = some x) : i < l.length := by
  rcases Nat.lt_or_ge i l.length with h' | h'
  · exact h'
  · rw [List.getElem?_eq_none h'] at h; cases h
theorem static_of {L : List Oper} (h : rgnOk T L = true) : Static T L := by
  unfold rgnOk at h
  rw [List.all_eq_true] at h
  have hj : ∀ (j : Nat) oj, L[j]? = some oj → (∀ n ∈ onsOf oj, n < j) ∧ ∀ i oi, i < j → L[i]? = some oi → pairOk T L i j oi oj = true := by
    intro j oj hoj
    have := h j (List.mem_range.2 (lt_of_get hoj))
    rw [hoj] at this
    simp only [Bool.and_eq_true] at this
    refine ⟨fun n hn => ?_, fun i oi hij hoi => ?_⟩
    · have := List.all_eq_true.1 this.1 n hn
      exact ble_iff.1 this
    · have := List.all_eq_true.1 this.2 i (List.mem_range.2 hij)
      rw [hoi] at this
      exact this
  have hp : ∀ (i j : Nat) oi oj, i < j → L[i]? = some oi → L[j]? = some oj → pairOk T L i j oi oj = true := fun i j oi oj hij hoi hoj => (hj j oj hoj).2 i oi hij hoi
  refine ⟨fun j o ho => (hj j o ho).1, ?_, ?_, ?_, ?_⟩
  · intro i j oi oj hij hoi hoj hcj hci
    have := hp i j oi oj hij hoi hoj
    simp only [pairOk, Bool.and_eq_true, Bool.or_eq_true, Bool.not_eq_true'] at this
    rcases this.1.1 with (h | h) | h
    · rw [show Nat.ble 3 (classOf T oj.op) = true from ble_iff.2 hcj] at h; cases h
    · rw [show Nat.ble 2 (classOf T oi.op) = true from ble_iff.2 hci] at h; cases h
    · exact h
  · intro i j oi oj t hij hoi hoj ht hh
    have := hp i j oi oj hij hoi hoj
    simp only [pairOk, ht, hh, Bool.and_eq_true] at this
    have := this.1.2.1
    rw [Nat.beq_refl] at this
    cases this
  · intro i j oi oj t hij hoi hoj ht hl
    have := hp i j oi oj hij hoi hoj
    simp only [pairOk, ht, Bool.and_eq_true, Bool.or_eq_true, Bool.not_eq_true'] at this
    rcases this.1.2.2 with h | h
    · rw [List.contains_iff_mem.2 hl] at h; cases h
    · exact h
  · intro i j oi oj t hij hoi hoj ht hl
    have := hp i j oi oj hij hoi hoj
    simp only [pairOk, ht, Bool.and_eq_true, Bool.or_eq_true, Bool.not_eq_true'] at this
    rcases this.2 with h | h
    · rw [List.contains_iff_mem.2 hl] at h; cases h
    · exact h

/-! ### The trace -/
structure StepD (T : Tr TI) (call : Call1) (L : List Oper) (nx : Nat) (j : Nat) (o : Oper) (e : Env) (s t : St) (v : Value) (b : Bool) (e' : Env) (s' t' : St) : Prop where
  wanted : eWanted L e o = some b
  env : e' = ePut e o.dst v
  skip : b = false → v = undefV
  low : classOf T o.op = 0 → s' = s ∧ t' = t ∧ (b = true → ePure T e o.op = some v)
  read : classOf T o.op = 1 → s' = s ∧ t' = t ∧ (b = true → eRead T e o.op s = some v)
  fresh : classOf T o.op = 2 → s' = s ∧ (b = false → t' = t) ∧ (b = true → ∃ fr, eFresh T e o.op = some fr ∧ v = fr.val (nx + j) ∧ t' = ⟨t.h.set (nx + j) fr.obj, t.nx⟩)
  eff : 3 ≤ classOf T o.op → s' = t' ∧ (b = false → t' = t) ∧ (b = true → eAct T call e o t = some (v, t'))

structure Trace (T : Tr TI) (call : Call1) (L : List Oper) (nx : Nat) (i n : Nat) where
  E : Nat → Env
  S : Nat → St
  U : Nat → St
  V : Nat → Value
  W : Nat → Bool
  step : ∀ j o, i ≤ j → j < i + n → L[j]? = some o → StepD T call L nx j o (E j) (S j) (U j) (V j) (W j) (E (j + 1)) (S (j + 1)) (U (j + 1))

theorem runD_cons (call : Call1) (L : List Oper) (nx : Nat) (o : Oper) (l : List Oper) (i : Nat) (env : Env) (s t : St) (ss : List St) (rs : List Rd) :
    runD T call L nx (o :: l) i env s t ss rs = match eWanted L env o with
      | none => none
      | some wn => match classOf T o.op with
        | 0 => match wn with
          | true => match ePure T env o.op with
            | some v => runD T call L nx l (i + 1) (ePut env o.dst v) s t ss rs
            | none => none
          | false => runD T call L nx l (i + 1) (ePut env o.dst undefV) s t ss rs
        | 1 => match wn with
          | true => match eRead T env o.op s with
            | some v => runD T call L nx l (i + 1) (ePut env o.dst v) s t ss (rs ++ [(i, env, o.op, v)])
            | none => none
          | false => runD T call L nx l (i + 1) (ePut env o.dst undefV) s t ss rs
        | 2 => match wn with
          | true => match eFresh T env o.op with
            | some fr => runD T call L nx l (i + 1) (ePut env o.dst (fr.val (Nat.add nx i))) s ⟨t.h.set (Nat.add nx i) fr.obj, t.nx⟩ ss rs
            | none => none
          | false => runD T call L nx l (i + 1) (ePut env o.dst undefV) s t ss rs
        | _ => match wn with
          | true => match eAct T call env o t with
            | some (v, t') => runD T call L nx l (i + 1) (ePut env o.dst v) t' t' (ss ++ [t']) rs
            | none => none
          | false => runD T call L nx l (i + 1) (ePut env o.dst undefV) t t (ss ++ [t]) rs := rfl

/-- What the run in the text's order leaves: a trace, the states behind the changes, the reads. -/
theorem runD_trace (call : Call1) (L : List Oper) (nx : Nat) : ∀ (l : List Oper) (i : Nat) (e : Env) (s t : St) (ss : List St) (rs : List Rd) (eF : Env) (tF : St) (ssF : List St) (rsF : List Rd), L.drop i = l →
    runD T call L nx l i e s t ss rs = some (eF, tF, ssF, rsF) →
    ∃ tr : Trace T call L nx i l.length, tr.E i = e ∧ tr.S i = s ∧ tr.U i = t ∧ tr.E (i + l.length) = eF ∧ tr.U (i + l.length) = tF ∧
      ssF = ss ++ ((List.range' i l.length).filter (isEff T L)).map (fun j => tr.S (j + 1)) ∧
      (∀ r ∈ rs, r ∈ rsF) ∧ (∀ j o, i ≤ j → j < i + l.length → L[j]? = some o → classOf T o.op = 1 → tr.W j = true → (j, tr.E j, o.op, tr.V j) ∈ rsF)
  | [], i, e, s, t, ss, rs, eF, tF, ssF, rsF, hd, h => by
    cases h
    refine ⟨⟨fun _ => e, fun _ => s, fun _ => t, fun _ => undefV, fun _ => false, fun j o h1 h2 => absurd h2 (by simp; omega)⟩, rfl, rfl, rfl, rfl, rfl, by simp, fun r hr => hr, fun j o h1 h2 => absurd h2 (by simp; omega)⟩
  | o :: l, i, e, s, t, ss, rs, eF, tF, ssF, rsF, hd, h => by
    obtain ⟨h0, h1⟩ := drop_head hd
    rw [runD_cons] at h
    split at h
    · cases h
    rename_i b hw
    /- one step more in front of a trace -/
    have hfront : ∀ (v : Value) (s' t' : St) (rs' : List Rd), StepD T call L nx i o e s t v b (ePut e o.dst v) s' t' → (classOf T o.op = 1 → b = true → (i, e, o.op, v) ∈ rs') → (∀ r ∈ rs, r ∈ rs') →
        ∀ ss', (ss' = ss ++ if isEff T L i = true then [s'] else []) → runD T call L nx l (i + 1) (ePut e o.dst v) s' t' ss' rs' = some (eF, tF, ssF, rsF) →
        ∃ tr : Trace T call L nx i (o :: l).length, tr.E i = e ∧ tr.S i = s ∧ tr.U i = t ∧ tr.E (i + (o :: l).length) = eF ∧ tr.U (i + (o :: l).length) = tF ∧
          ssF = ss ++ ((List.range' i (o :: l).length).filter (isEff T L)).map (fun j => tr.S (j + 1)) ∧
          (∀ r ∈ rs, r ∈ rsF) ∧ (∀ j o', i ≤ j → j < i + (o :: l).length → L[j]? = some o' → classOf T o'.op = 1 → tr.W j = true → (j, tr.E j, o'.op, tr.V j) ∈ rsF) := by
      intro v s' t' rs' hst hrd hsub ss' hss hrun
      obtain ⟨tr, e1, e2, e3, e4, e5, e6, e7, e8⟩ := runD_trace call L nx l (i + 1) _ s' t' ss' rs' eF tF ssF rsF h1 hrun
      have hlen : i + (o :: l).length = i + 1 + l.length := by simp; omega
      refine ⟨⟨fun j => if j = i then e else tr.E j, fun j => if j = i then s else tr.S j, fun j => if j = i then t else tr.U j, fun j => if j = i then v else tr.V j, fun j => if j = i then b else tr.W j, ?_⟩, ?_, ?_, ?_, ?_, ?_, ?_, ?_, ?_⟩
      · intro j o' hij hj ho'
        by_cases hji : j = i
        · subst hji
          rw [h0] at ho'; cases ho'
          simp only [if_true, if_neg (show j + 1 ≠ j by omega), e1, e2, e3]
          exact hst
        · simp only [if_neg hji, if_neg (show j + 1 ≠ i by omega)]
          exact tr.step j o' (by omega) (by omega) ho'
      · simp
      · simp
      · simp
      · simp only [hlen]; rw [if_neg (by omega)]; exact e4
      · simp only [hlen]; rw [if_neg (by omega)]; exact e5
      · show ssF = ss ++ ((List.range' i (l.length + 1)).filter (isEff T L)).map (fun j => if j + 1 = i then s else tr.S (j + 1))
        rw [e6, hss, List.range'_succ, List.filter_cons]
        have hm : ((List.range' (i + 1) l.length).filter (isEff T L)).map (fun j => tr.S (j + 1)) = ((List.range' (i + 1) l.length).filter (isEff T L)).map (fun j => if j + 1 = i then s else tr.S (j + 1)) := by
          apply List.map_congr_left
          intro j hj
          have := List.mem_range'_1.1 (List.mem_filter.1 hj).1
          rw [if_neg (by omega)]
        rw [hm]
        split
        · simp only [List.map_cons, if_neg (show i + 1 ≠ i by omega), e2, List.append_assoc, List.singleton_append]
        · simp
      · exact fun r hr => e7 r (hsub r hr)
      · intro j o' hij hj ho' hc hwj
        by_cases hji : j = i
        · subst hji
          rw [h0] at ho'; cases ho'
          simp only [if_true] at hwj ⊢
          exact e7 _ (hrd hc hwj)
        · simp only [if_neg hji] at hwj ⊢
          exact e8 j o' (by omega) (by omega) ho' hc hwj
    have hne : ∀ k, classOf T o.op = k → k < 3 → isEff T L i = false := by
      intro k hk hlt
      unfold isEff
      rw [h0]
      simp only
      cases hb : Nat.ble 3 (classOf T o.op) with
      | false => rfl
      | true => have := ble_iff.1 hb; omega
    split at h
    · rename_i hc
      have hx := hne 0 hc (by omega)
      split at h
      · split at h
        case h_2 => cases h
        rename_i v hv
        exact hfront v s t rs ⟨hw, rfl, (fun h => by cases h), fun _ => ⟨rfl, rfl, fun _ => hv⟩, (fun h => by omega), (fun h => by omega), (fun h => by omega)⟩ (fun h => by omega) (fun r hr => hr) ss (by simp [hx]) h
      · exact hfront undefV s t rs ⟨hw, rfl, fun _ => rfl, fun _ => ⟨rfl, rfl, (fun h => by cases h)⟩, (fun h => by omega), (fun h => by omega), (fun h => by omega)⟩ (fun h => by omega) (fun r hr => hr) ss (by simp [hx]) h
    · rename_i hc
      have hx := hne 1 hc (by omega)
      split at h
      · split at h
        case h_2 => cases h
        rename_i v hv
        exact hfront v s t (rs ++ [(i, e, o.op, v)]) ⟨hw, rfl, (fun h => by cases h), (fun h => by omega), fun _ => ⟨rfl, rfl, fun _ => hv⟩, (fun h => by omega), (fun h => by omega)⟩ (fun _ _ => by simp) (fun r hr => by simp [hr]) ss (by simp [hx]) h
      · exact hfront undefV s t rs ⟨hw, rfl, fun _ => rfl, (fun h => by omega), fun _ => ⟨rfl, rfl, (fun h => by cases h)⟩, (fun h => by omega), (fun h => by omega)⟩ (fun _ h => by cases h) (fun r hr => hr) ss (by simp [hx]) h
    · rename_i hc
      have hx := hne 2 hc (by omega)
      split at h
      · split at h
        case h_2 => cases h
        rename_i fr hf
        exact hfront _ s _ rs ⟨hw, rfl, (fun h => by cases h), (fun h => by omega), (fun h => by omega), fun _ => ⟨rfl, (fun h => by cases h), fun _ => ⟨fr, hf, rfl, rfl⟩⟩, (fun h => by omega)⟩ (fun h => by omega) (fun r hr => hr) ss (by simp [hx]) h
      · exact hfront undefV s t rs ⟨hw, rfl, fun _ => rfl, (fun h => by omega), (fun h => by omega), fun _ => ⟨rfl, fun _ => rfl, (fun h => by cases h)⟩, (fun h => by omega)⟩ (fun h => by omega) (fun r hr => hr) ss (by simp [hx]) h
    · rename_i n0 n1 n2
      have hc : 3 ≤ classOf T o.op := by
        rcases Nat.lt_or_ge (classOf T o.op) 3 with h' | h'
        · exfalso
          have : classOf T o.op = 0 ∨ classOf T o.op = 1 ∨ classOf T o.op = 2 := by omega
          rcases this with h | h | h
          · exact n0 h
          · exact n1 h
          · exact n2 h
        · exact h'
      have hx : isEff T L i = true := by
        unfold isEff
        rw [h0]
        exact ble_iff.2 hc
      split at h
      · split at h
        case h_2 => cases h
        rename_i v t' hv
        exact hfront v t' t' rs ⟨hw, rfl, (fun h => by cases h), (fun h => by omega), (fun h => by omega), (fun h => by omega), fun _ => ⟨rfl, (fun h => by cases h), fun _ => hv⟩⟩ (fun h => by omega) (fun r hr => hr) _ (by simp [hx]) h
      · exact hfront undefV t t rs ⟨hw, rfl, fun _ => rfl, (fun h => by omega), (fun h => by omega), (fun h => by omega), fun _ => ⟨rfl, fun _ => rfl, (fun h => by cases h)⟩⟩ (fun h => by omega) (fun r hr => hr) _ (by simp [hx]) h
end Go.Proofs.YtegfafebbnlicaaGreatDoor.Ev
