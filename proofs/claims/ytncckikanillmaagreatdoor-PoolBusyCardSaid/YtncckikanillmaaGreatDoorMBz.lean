/-
  PoolBusy: its code in pieces, awake as a hook.
-/
import Derived.Test.YtncckikanillmaaGreatDoorMKaw
namespace Go.Proofs.YtncckikanillmaaGreatDoor.Ev
open Go Go.RowKit
set_option linter.unusedVariables false
set_option linter.unusedSimpArgs false

/-! ### awake as a hook -/
noncomputable def awakeH (args : List Value) (st : St) : Option (Value × St) :=
  match args with
  | [] => match glOk st with
    | some _ => some (.bool true, st)
    | none => none
  | _ => none
theorem awakeH_sound {args : List Value} {st st' : St} {v : Value} (h : awakeH args st = some (v, st')) {ρ : Ren} {w : World} {args' : Array Value} (hR : R Gn ρ st w) (har : AR ρ args.toArray args') :
    HasBody Tryz.prog 5 ∧ CallsIn (Fw none) 0 Tryz.prog 5 args' w (RetR ρ st w v st') := by
  unfold awakeH at h
  split at h
  case h_2 => cases h
  split at h
  case h_2 => cases h
  rename_i tu hg
  obtain ⟨t, u⟩ := tu
  cases h
  refine ⟨⟨_, _, Tryz.func5, rfl, rfl⟩, ?_⟩
  show CallsIn Fence.wide 0 _ _ _ _ _
  rw [callsIn_wide]
  have ha : args' = #[] := Array.eq_empty_of_size_eq_zero (by have := har.1; simpa using this.symm)
  subst ha
  refine (callG_true hkOk (awake_run t u) (glOk_holds hR hg)).mono ?_
  rintro e w' ⟨rfl, hb⟩
  exact ⟨_, rfl, ρ, R.below hR hb, Went.below hR hb, .bool true⟩
noncomputable def hk2 : HookT := fun f => ifFn f 5 (fun _ => awakeH) (hk f)
theorem hk2Ok : HookOk Tryz.prog (hooksOf hk2) := by
  intro call hcall f h hf args st v st' hv ρ w args' hR har
  unfold hooksOf at hf
  cases hh : (hk2 f).h with
  | none => rw [hh] at hf; cases hf
  | some k =>
    rw [hh] at hf; cases hf
    rcases ifFn_some hh with ⟨rfl, rfl⟩ | hh
    · exact awakeH_sound hv hR har
    · exact hkOk call hcall f (k call) (by unfold hooksOf; rw [hh]) args st v st' hv ρ w args' hR har
noncomputable def ih2 : RunX := runX TT FT hk2 100000000
noncomputable def ih2R : Run1 := run TT FT (hooksOf hk2) 100000000
theorem ih2_opt (c : Code) (env : Env) (st : St) : (ih2 c env st).opt = ih2R c env st := runX_eq TT FT hk2 100000000 c env st
theorem ih2S : RunS Tryz.prog TT 100000000 ih2R := run_sound evOk (drawS evOk) evF hk2Ok 100000000

/-! ### Code item by item -/
noncomputable def runN (ih : RunX) (n : Nat) : Code → Env → St → Option (Env × St) :=
  @Nat.rec (fun _ => Code → Env → St → Option (Env × St)) (fun _ env st => some (env, st))
    (fun _ rec c env st => match c with
      | .seq a b => match ih a env st with
        | .norm e s => rec b e s
        | _ => none
      | _ => none) n
def dropN : Nat → Code → Code
  | 0, c => c
  | n + 1, .seq _ b => dropN n b
  | _ + 1, c => c
theorem runN_succ (ih : RunX) (n : Nat) (a b : Code) (env : Env) (st : St) : runN ih (n + 1) (.seq a b) env st = match ih a env st with
        | .norm e s => runN ih n b e s
        | _ => none := rfl
theorem runN_sound {P : Program} {T : Tr TI} {ihX : RunX} {ih : Run1} {m : Nat} (hx : ∀ c env st, (ihX c env st).opt = ih c env st) (hih : RunS P T m ih) (r : Option Nat) :
    ∀ (n : Nat) (c : Code) (env : Env) (st : St) (env' : Env) (st' : St), runN ihX n c env st = some (env', st') → ∀ (ρ : Ren) (w : World) (a : Act), codeOk T c r.isSome = true → dstMax c ≤ a.tmps.size → R Gn ρ st w → EnvR ρ env a.tmps →
    ∀ Q : Exit → Act → World → Prop, (∀ ρ' w' a', Cm ρ st w a ρ' st' w' a' env' → codeOk T (dropN n c) r.isSome = true → dstMax (dropN n c) ≤ a'.tmps.size → (dropN n c).wpIn (Fw r) 0 P Q a' w') → c.wpIn (Fw r) 0 P Q a w
  | 0, c, env, st, env', st', h, ρ, w, a, hc, hm, hR, hE, Q, hQ => by
    cases h
    exact hQ ρ w a (Cm.same hR hE) hc hm
  | n + 1, c, env, st, env', st', h, ρ, w, a, hc, hm, hR, hE, Q, hQ => by
    cases c
    case seq x y =>
      rw [runN_succ] at h
      cases hxx : ihX x env st with
      | norm e s =>
        rw [hxx] at h
        have hrun := hx x env st
        rw [hxx] at hrun
        simp only [codeOk, Bool.and_eq_true] at hc
        simp only [dstMax] at hm
        refine wpIn_seq ?_
        refine wpIn_mono (hih x env st .norm e s hrun.symm r ρ w a hc.1 (max_l hm) hR hE).1 ?_
        rintro ex a1 w1 ⟨rfl, ρ1, c1⟩
        exact runN_sound hx hih r n y e s env' st' h ρ1 w1 a1 hc.2 (by rw [c1.size]; exact max_r hm) c1.r c1.env Q (fun ρ' w' a' c2 h1 h2 => hQ ρ' w' a' (c1.trans c2) h1 h2)
      | bad => rw [hxx] at h; cases h
      | exit id e s => rw [hxx] at h; cases h
      | ret e s => rw [hxx] at h; cases h
    all_goals exact absurd h (by intro h; cases h)

/-! ### PoolBusy -/
noncomputable def busyC : Code := match Tryz.f4.body with
  | some c => c
  | none => .skip
noncomputable def busyM : Nat := match FT.get 4 with
  | some (_, m) => m
  | none => 0
noncomputable def busyA (t : Nat) (u : Bool) (other : Int) (pt nt : TypeId) : Option (Env × St) := runN ih2 13 busyC (envOf busyM [.int .i64 (.ofNat t), .int .i64 other, .bool u] 0) (st0 pt nt)
noncomputable def envM (v7 v9 v11 : Value) (other : Int) : Env := ((((Env.none busyM).set 1 (.int .i64 other)).set 7 v7).set 9 v9).set 11 v11
noncomputable def envK (v7 v9 v11 : Value) (r : Int) : Env := ((((Env.none busyM).set 22 (.int .i64 r)).set 7 v7).set 9 v9).set 11 v11
/-- The rest, from the remainder on. -/
noncomputable def busyT (v7 v9 v11 : Value) (st : St) (r : Int) : Option (TypeId × TypeId) :=
  match ih2 (dropN 14 busyC) (envK v7 v9 v11 r) st with
  | .ret e s => match eResults TT e s Tryz.f4.results.toList with
    | some (.bool true) => glOk s
    | _ => none
  | _ => none
noncomputable def rems : List Int := [.negSucc 6, .negSucc 5, .negSucc 4, .negSucc 3, .negSucc 2, .negSucc 1, .negSucc 0, .ofNat 0, .ofNat 1, .ofNat 2, .ofNat 3, .ofNat 4, .ofNat 5, .ofNat 6, .ofNat 7]
noncomputable def mapR {α : Type} (f : Int → α) (l : List Int) : List α := @List.rec Int (fun _ => List α) [] (fun r _ ih => f r :: ih) l
theorem mapR_eq {α : Type} (f : Int → α) : ∀ l, mapR f l = l.map f
  | [] => rfl
  | r :: l => by show f r :: mapR f l = _; rw [mapR_eq f l]; rfl
noncomputable def busyOk (t : Nat) (u : Bool) (other : Int) (pt nt : TypeId) : Option (Value × List (Option (TypeId × TypeId))) :=
  match busyA t u other pt nt with
  | some (env, st) => match env.get 7, env.get 9, env.get 11, env.get 1 with
    | some v7, some v9, some v11, some v1 => some (v1, mapR (busyT v7 v9 v11 st) rems)
    | _, _, _, _ => none
  | none => none
/-- What the kernel finds. -/
def busyGood (other : Int) (pt nt : TypeId) : Option (Value × List (Option (TypeId × TypeId))) :=
  some (.int .i64 other, [some (pt, nt), some (pt, nt), some (pt, nt), some (pt, nt), some (pt, nt), some (pt, nt), some (pt, nt), some (pt, nt), some (pt, nt), some (pt, nt), some (pt, nt), some (pt, nt), some (pt, nt), some (pt, nt), some (pt, nt)])
theorem rem_mem (x : Int) : Int.tmod x 8 ∈ rems := by
  have h1 : -8 < Int.tmod x 8 := Int.lt_tmod_of_pos x (by omega)
  have h2 : Int.tmod x 8 < 8 := Int.tmod_lt_of_pos x (by omega)
  generalize Int.tmod x 8 = r at h1 h2
  have : r = -7 ∨ r = -6 ∨ r = -5 ∨ r = -4 ∨ r = -3 ∨ r = -2 ∨ r = -1 ∨ r = 0 ∨ r = 1 ∨ r = 2 ∨ r = 3 ∨ r = 4 ∨ r = 5 ∨ r = 6 ∨ r = 7 := by omega
  unfold rems
  rcases this with rfl | rfl | rfl | rfl | rfl | rfl | rfl | rfl | rfl | rfl | rfl | rfl | rfl | rfl | rfl <;> simp <;> decide
noncomputable def m1C : Code := match dropN 13 busyC with
    | .seq a _ => a
    | c => c
theorem busyM1 (v7 v9 v11 : Value) (other : Int) (st : St) : ∃ env', ih2R m1C (envM v7 v9 v11 other) st = some (.norm, env', st) ∧ env'.get 7 = some v7 ∧ env'.get 9 = some v9 ∧ env'.get 11 = some v11 ∧ env'.get 22 = some (.int .i64 (Int.tmod other 8)) :=
  ⟨_, rfl, rfl, rfl, rfl, rfl⟩
end Go.Proofs.YtncckikanillmaaGreatDoor.Ev
