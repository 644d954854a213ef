/-
  Begin, awake and mod, reckoned by the kernel.
-/
import Derived.Test.YtegfafebbnlicaaGreatDoorMLsA
namespace Go.Proofs.YtegfafebbnlicaaGreatDoor.Ev
open Go
set_option linter.unusedVariables false
set_option linter.unusedSimpArgs false

/-! ### Blocks that are the same, told by a Bool -/
noncomputable def sameAt (c : Tr Value) (n : Nat) (l : List Value) : Nat → Bool :=
  @List.rec Value (fun _ => Nat → Bool) (fun o => Nat.beq o n) (fun v _ ih o => match c.get o with
    | some v' => match eSame v' v with
      | true => ih (o + 1)
      | false => false
    | none => false) l
theorem sameAt_cons (c : Tr Value) (n : Nat) (v : Value) (l : List Value) (o : Nat) : sameAt c n (v :: l) o = match c.get o with
    | some v' => match eSame v' v with
      | true => sameAt c n l (o + 1)
      | false => false
    | none => false := rfl
theorem sameAt_spec (c : Tr Value) (n : Nat) : ∀ (l : List Value) (o : Nat), sameAt c n l o = true → n = o + l.length ∧ loadL c l.length o = some l
  | [], o, h => by
    have h : Nat.beq o n = true := h
    exact ⟨(beq_iff.1 h).symm, rfl⟩
  | v :: l, o, h => by
    rw [sameAt_cons] at h
    split at h
    case h_2 => cases h
    rename_i v' hv
    split at h
    case h_2 => cases h
    rename_i he
    obtain ⟨h1, h2⟩ := sameAt_spec c n l (o + 1) h
    refine ⟨by simp only [List.length_cons]; omega, ?_⟩
    show loadL c (l.length + 1) o = _
    rw [loadL_succ, hv, h2, eSame_eq he]
noncomputable def eqBool (a b : Bool) : Bool := match a with
  | true => b
  | false => eNot b
noncomputable def lSame (o : Option EObj) (x : LObj) : Bool :=
  match o, x with
  | some (.cells t n u c), .cells t' n' u' l => match Nat.beq t t', Nat.beq n n', eqBool u u' with
    | true, true, true => sameAt c n l 0
    | _, _, _ => false
  | some (.map [] cl), .map [] cl' => Nat.beq cl cl'
  | _, _ => false
theorem eqBool_eq {a b : Bool} (h : eqBool a b = true) : a = b := by
  cases a <;> cases b <;> first | rfl | cases h
theorem lSame_spec {o : Option EObj} {x : LObj} (h : lSame o x = true) : viewO o = some x := by
  unfold lSame at h
  split at h
  · split at h
    case h_2 => cases h
    rename_i h1 h2 h3
    obtain ⟨h4, h5⟩ := sameAt_spec _ _ _ _ h
    have h1 := beq_iff.1 h1; have h2 := beq_iff.1 h2; have h3 := eqBool_eq h3
    subst h1; subst h2; subst h3
    unfold viewO
    simp only
    rw [h4, Nat.zero_add, h5]
  · rw [beq_iff.1 h]; rfl
  · cases h
noncomputable def samesB (h : Tr EObj) (l : List (Nat × LObj)) : Bool := @List.rec (Nat × LObj) (fun _ => Bool) true (fun p _ ih => match lSame (h.get p.1) p.2 with
  | true => ih
  | false => false) l
theorem samesB_spec {h : Tr EObj} : ∀ {l : List (Nat × LObj)}, samesB h l = true → viewsO h l = somesO l
  | [], _ => rfl
  | q :: l, e => by
    have e : (match lSame (h.get q.1) q.2 with
      | true => samesB h l
      | false => false) = true := e
    split at e
    case h_2 => cases e
    rename_i hq
    show viewO (h.get q.1) :: viewsO h l = some q.2 :: somesO l
    rw [lSame_spec hq, samesB_spec e]

/-! ### Begin, awake, mod -/
noncomputable def lit1 : List (Nat × LObj) := (lit0 0 0).drop 2
noncomputable def lit2 (t w : TypeId) : List (Nat × LObj) := (lit0 t w).take 2
theorem lit_eq (t w : TypeId) : lit0 t w = lit2 t w ++ lit1 := rfl
theorem viewsO_append (h : Tr EObj) : ∀ (l m : List (Nat × LObj)), viewsO h (l ++ m) = viewsO h l ++ viewsO h m
  | [], m => rfl
  | p :: l, m => by show viewO (h.get p.1) :: viewsO h (l ++ m) = _; rw [viewsO_append h l m]; rfl
noncomputable def lzBeg (slot : Int) (c u : Bool) (pt nt : TypeId) : Option (Option Value × Option Value × Option Value × Option Value × List (Option LObj) × Bool × Bool) :=
  match lzA slot c u pt nt with
  | some (env, st) => some (env.get 0, env.get 1, env.get 2, env.get 7, viewsO st.h (lit2 pt nt), samesB st.h lit1, Nat.ble st.nx nx0)
  | none => none
theorem lz_begin (slot : Int) (c u : Bool) (pt nt : TypeId) : lzBeg slot c u pt nt = some (some (.int .i64 slot), some (.bool c), some (.bool u), some v70, somesO (lit2 pt nt), true, true) := by kernel_rfl
theorem lz_begin_inv (slot : Int) (c u : Bool) (pt nt : TypeId) : ∃ env st, lzA slot c u pt nt = some (env, st) ∧ (env.get 0 = some (.int .i64 slot) ∧ env.get 1 = some (.bool c) ∧ env.get 2 = some (.bool u) ∧ env.get 7 = some v70) ∧ viewsO st.h (lit0 pt nt) = somesO (lit0 pt nt) ∧ st.nx ≤ nx0 := by
  have h := lz_begin slot c u pt nt
  unfold lzBeg at h
  split at h
  case h_2 => cases h
  rename_i env st hA
  refine ⟨env, st, hA, ?_⟩
  have h := Option.some.inj h
  simp only [Prod.mk.injEq] at h
  obtain ⟨h0, h1, h2, h3, h4, h5, h6⟩ := h
  refine ⟨⟨h0, h1, h2, h3⟩, ?_, ble_iff.1 h6⟩
  rw [lit_eq, viewsO_append, h4, samesB_spec h5]
  unfold somesO
  rw [List.map_append]
noncomputable def lzAw (slot : Int) (c u : Bool) (pt nt : TypeId) : Option (Option Value × Option Value × Option Value × Option Value × St) :=
  match lzB slot c u pt nt with
  | some (env, st) => some (env.get 0, env.get 1, env.get 2, env.get 7, st)
  | none => none
theorem lz_awake (slot : Int) (c u : Bool) (pt nt : TypeId) : lzAw slot c u pt nt = some (some (.int .i64 slot), some (.bool c), some (.bool u), some v70, S0 pt nt) := by kernel_rfl
theorem lz_awake_inv (slot : Int) (c u : Bool) (pt nt : TypeId) : ∃ env, lzB slot c u pt nt = some (env, S0 pt nt) ∧ env.get 0 = some (.int .i64 slot) ∧ env.get 1 = some (.bool c) ∧ env.get 2 = some (.bool u) ∧ env.get 7 = some v70 := by
  have h := lz_awake slot c u pt nt
  unfold lzAw at h
  split at h
  case h_2 => cases h
  rename_i env st hA
  have h := Option.some.inj h
  simp only [Prod.mk.injEq] at h
  obtain ⟨h0, h1, h2, h3, rfl⟩ := h
  exact ⟨env, hA, h0, h1, h2, h3⟩
noncomputable def lzMo (slot : Int) (c u : Bool) (st : St) : Option (Option Value × Option Value × Option Value × Option Value × St) :=
  match ih2R m3C (env1 slot c u) st with
  | some (.norm, e, s) => some (e.get 1, e.get 2, e.get 7, e.get 8, s)
  | _ => none
theorem lz_mod (slot : Int) (c u : Bool) (st : St) : lzMo slot c u st = some (some (.bool c), some (.bool u), some v70, some (.int .i64 (modX slot)), st) := by kernel_rfl
theorem lz_mod_inv (slot : Int) (c u : Bool) (st : St) : ∃ env, ih2R m3C (env1 slot c u) st = some (.norm, env, st) ∧ env.get 1 = some (.bool c) ∧ env.get 2 = some (.bool u) ∧ env.get 7 = some v70 ∧ env.get 8 = some (.int .i64 (modX slot)) := by
  have h := lz_mod slot c u st
  unfold lzMo at h
  split at h
  case h_2 => cases h
  rename_i env s hA
  have h := Option.some.inj h
  simp only [Prod.mk.injEq] at h
  obtain ⟨h0, h1, h2, h3, rfl⟩ := h
  exact ⟨env, hA, h0, h1, h2, h3⟩
theorem modX_lt (slot : Int) : ∃ i : Nat, i < 40 ∧ modX slot = .ofNat i := by
  have h1 : -40 < Int.tmod slot 40 := Int.lt_tmod_of_pos slot (by omega)
  have h2 : Int.tmod slot 40 < 40 := Int.tmod_lt_of_pos slot (by omega)
  have e : modX slot = Int.tmod (Int.tmod slot 40 + 40) 40 := by
    unfold modX
    rw [eWrap_eq]
    show Int.tmod (IntKind.i64.wrap (Int.tmod slot 40 + 40)) 40 = _
    congr 1
    generalize Int.tmod slot 40 = r at h1 h2
    show (if decide ((r + 40) % 18446744073709551616 ≥ 9223372036854775808) = true then (r + 40) % 18446744073709551616 - 18446744073709551616 else (r + 40) % 18446744073709551616) = r + 40
    rw [show (r + 40) % 18446744073709551616 = r + 40 by omega]
    have e3 : decide (r + 40 ≥ 9223372036854775808) = false := by simp; omega
    rw [e3]
    rfl
  generalize Int.tmod slot 40 = r at h1 h2 e
  have h3 : Int.tmod (r + 40) 40 < 40 := Int.tmod_lt_of_pos _ (by omega)
  have h4 : 0 ≤ Int.tmod (r + 40) 40 := Int.tmod_nonneg _ (by omega)
  refine ⟨(Int.tmod (r + 40) 40).toNat, by omega, ?_⟩
  rw [e]
  show _ = (((r + 40).tmod 40).toNat : Int)
  omega
end Go.Proofs.YtegfafebbnlicaaGreatDoor.Ev
