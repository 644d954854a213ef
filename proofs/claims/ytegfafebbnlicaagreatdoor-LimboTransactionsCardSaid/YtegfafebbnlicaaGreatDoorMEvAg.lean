/-
  The arrays of integers that the program compares.
-/
import Derived.Test.YtegfafebbnlicaaGreatDoorMEvI
import Derived.Test.YtegfafebbnlicaaGreatDoorProg
import Derived.ChangeKeysEq
namespace Go.Proofs.YtegfafebbnlicaaGreatDoor.Ev
open Go
set_option linter.unusedVariables false
set_option linter.unusedSimpArgs false

theorem eqItems_flat {e : TypeId} {q : IntKind} (hu : Tryz.prog.underlying e = some (.int q)) (hp : Tryz.prog.plainKey e = true) (w : World) : ∀ (a b : List Value) (r : Bool), eEqFlat a b = some r → ∀ (a0 b0 : List Value), a0.length = b0.length →
    (Op.eqItems 9999 e 1 (a0 ++ a).toArray (b0 ++ b).toArray (List.range' a0.length a.length)).run Tryz.prog w = .ok r w
  | [], [], r, h, a0, b0, hl => by cases h; simp [Op.eqItems]
  | [], _ :: _, r, h, a0, b0, hl => by cases h
  | _ :: _, [], r, h, a0, b0, hl => by cases h
  | x :: a, y :: b, r, h, a0, b0, hl => by
    rw [eEqFlat_cons] at h
    split at h
    case h_2 => cases h
    rename_i k m k' n
    split at h
    case h_2 => cases h
    rename_i hk
    have hk := of_decide_eq_true hk
    subst hk
    split at h
    case h_2 => cases h
    rename_i r' hr'
    cases h
    have p1 : (part e (a0 ++ .int k m :: a).toArray (a0.length * 1)).run Tryz.prog w = .ok (.int k m) w := by
      refine run_part_plain w hp ?_
      rw [Nat.mul_one]; simp
    have p2 : (part e (b0 ++ .int k n :: b).toArray (a0.length * 1)).run Tryz.prog w = .ok (.int k n) w := by
      refine run_part_plain w hp ?_
      rw [Nat.mul_one, hl]; simp
    have he : ∀ (w : World), (Op.equalIn 9999 e (.int k m) (.int k n)).run Tryz.prog w = .ok (m == n) w := fun w => run_equalIn_int w 9998 e k q m n hu
    have ih := eqItems_flat hu hp w a b r' hr' (a0 ++ [.int k m]) (b0 ++ [.int k n]) (by simp [hl])
    rw [List.length_cons, List.range'_succ, Op.eqItems]
    simp only [Sem.run_bind, p1, p2, Result.andThen_ok, he]
    rw [List.append_assoc, List.append_assoc, List.singleton_append, List.singleton_append, List.length_append] at ih
    cases hm : (m == n) with
    | true =>
      have : eEqI m n = true := by rw [eEqI_eq]; exact decide_eq_true (by simpa using hm)
      rw [this]
      simpa using ih
    | false =>
      have : eEqI m n = false := by rw [eEqI_eq]; exact decide_eq_false (by simpa using hm)
      rw [this]
      simp [Sem.run_pure]
/-- Fields of integers that lie one after another. -/
def fieldB (P : Program) (i : Nat) (f : Field) : Bool := Nat.beq f.offset i && f.name != "_" && P.plainKey f.type && (match P.underlying f.type with
  | some (.int _) => true
  | _ => false)
def fieldsOkB (P : Program) : List Field → Nat → Bool
  | [], _ => true
  | f :: fs, i => fieldB P i f && fieldsOkB P fs (i + 1)
theorem eqFields_flat {P : Program} (w : World) : ∀ (fs : List Field) (a b : List Value) (r : Bool), eEqFlat a b = some r → fs.length = a.length → ∀ (a0 b0 : List Value), a0.length = b0.length → fieldsOkB P fs a0.length = true →
    (Op.eqFields 9999 (a0 ++ a).toArray (b0 ++ b).toArray fs).run P w = .ok r w
  | [], [], [], r, h, _, a0, b0, hl, _ => by cases h; simp [Op.eqFields]
  | [], [], _ :: _, r, h, _, a0, b0, hl, _ => by cases h
  | _, _ :: _, [], r, h, _, a0, b0, hl, _ => by cases h
  | [], _ :: _, _ :: _, r, h, hn, a0, b0, hl, _ => by simp at hn
  | _ :: _, [], _, r, h, hn, a0, b0, hl, _ => by simp at hn
  | f :: fs, x :: a, y :: b, r, h, hn, a0, b0, hl, hf => by
    rw [eEqFlat_cons] at h
    split at h
    case h_2 => cases h
    rename_i k m k' n
    split at h
    case h_2 => cases h
    rename_i hk
    have hk := of_decide_eq_true hk
    subst hk
    split at h
    case h_2 => cases h
    rename_i r' hr'
    cases h
    unfold fieldsOkB at hf
    rw [Bool.and_eq_true] at hf
    obtain ⟨hf1, hf2⟩ := hf
    unfold fieldB at hf1
    simp only [Bool.and_eq_true] at hf1
    obtain ⟨⟨⟨g1, g2⟩, g3⟩, g4⟩ := hf1
    have g1 := beq_iff.1 g1
    have g2 : f.name ≠ "_" := by simpa using g2
    obtain ⟨q, hq⟩ : ∃ q, P.underlying f.type = some (.int q) := by
      split at g4
      · rename_i q hq; exact ⟨q, hq⟩
      · cases g4
    have p1 : (part f.type (a0 ++ .int k m :: a).toArray f.offset).run P w = .ok (.int k m) w := by
      refine run_part_plain w g3 ?_
      rw [g1]; simp
    have p2 : (part f.type (b0 ++ .int k n :: b).toArray f.offset).run P w = .ok (.int k n) w := by
      refine run_part_plain w g3 ?_
      rw [g1, hl]; simp
    have he : ∀ (w : World), (Op.equalIn 9999 f.type (.int k m) (.int k n)).run P w = .ok (m == n) w := fun w => run_equalIn_int w 9998 f.type k q m n hq
    have ih := eqFields_flat (P := P) w fs a b r' hr' (by simpa using hn) (a0 ++ [.int k m]) (b0 ++ [.int k n]) (by simp [hl]) (by simpa using hf2)
    unfold Op.eqFields
    rw [if_pos g2]
    simp only [Sem.run_bind, p1, p2, Result.andThen_ok, he]
    rw [List.append_assoc, List.append_assoc, List.singleton_append, List.singleton_append] at ih
    cases hm : (m == n) with
    | true =>
      have : eEqI m n = true := by rw [eEqI_eq]; exact decide_eq_true (by simpa using hm)
      rw [this]
      simpa using ih
    | false =>
      have : eEqI m n = false := by rw [eEqI_eq]; exact decide_eq_false (by simpa using hm)
      rw [this]
      simp [Sem.run_pure]
theorem aggStruct {P : Program} {t : TypeId} {n : Nat} (hu : P.underlying t = some (.struct (P.fieldsOf t))) (hs : P.stoodInHeld t = false) (hf : fieldsOkB P (P.fieldsOf t).toList 0 = true) (hn : (P.fieldsOf t).toList.length = n)
    {a b : List Value} {r : Bool} (ha : a.length = n) (h : eEqFlat a b = some r) (w : World) : (Op.equal t (.agg a.toArray) (.agg b.toArray)).run P w = .ok r w := by
  show (Op.equalIn 10000 _ _ _).run _ _ = _
  rw [run_equalIn_struct w 9999 _ _ _ hu hs]
  exact eqFields_flat w _ a b r h (by rw [hn, ha]) [] [] rfl hf
theorem isAggT_cons (t : TypeId) (x : TypeId × Nat) (l : List (TypeId × Nat)) (n : Nat) : isAggT t (x :: l) n = match Nat.beq x.1 t, Nat.beq x.2 n with
    | true, true => true
    | _, _ => isAggT t l n := rfl
theorem aggOk : AggOk Tryz.prog := by
  intro t a b r ha hb h w
  have hone : ∀ n, isAggT t aggTs n = true → (t = 355 ∧ n = 8) ∨ (t = 178 ∧ n = 3) := by
    intro n hn
    unfold aggTs at hn
    rw [isAggT_cons] at hn
    split at hn
    · rename_i h1 h2
      exact .inl ⟨(beq_iff.1 h1).symm, (beq_iff.1 h2).symm⟩
    · rw [isAggT_cons] at hn
      split at hn
      · rename_i h1 h2
        exact .inr ⟨(beq_iff.1 h1).symm, (beq_iff.1 h2).symm⟩
      · cases hn
  rcases hone _ ha with ⟨rfl, h8⟩ | ⟨rfl, h8⟩
  · refine ⟨by kernel_rfl, ?_⟩
    obtain ⟨i, hi⟩ : ∃ i, Tryz.prog.info? 29 = some i := Option.isSome_iff_exists.1 (by kernel_rfl)
    have hu : Tryz.prog.underlying 355 = some (.array 8 29) := by kernel_rfl
    have hc : Tryz.prog.cellsOf 29 = 1 := by kernel_rfl
    show (Op.equalIn 10000 _ _ _).run _ _ = _
    rw [run_equalIn_array w 9999 _ _ hu hi, hc, List.range_eq_range']
    have := eqItems_flat (e := 29) (q := .u64) (by kernel_rfl) (by kernel_rfl) w a b r h [] [] rfl
    rw [h8] at this
    exact this
  · exact ⟨by kernel_rfl, aggStruct (by kernel_rfl) (by kernel_rfl) (by kernel_rfl) (by kernel_rfl) h8 h w⟩
end Go.Proofs.YtegfafebbnlicaaGreatDoor.Ev
