/-
  The glue: the evaluator's runs hold in the world; awake as a hook; code run item by item.
-/
import Derived.Test.YtegfafebbnlicaaGreatDoorMRn0
import Derived.Test.YtegfafebbnlicaaGreatDoorMEvTt
import Derived.Test.YtegfafebbnlicaaGreatDoorMEvTf
import Derived.Test.YtegfafebbnlicaaGreatDoorMEvAg
namespace Go.Proofs.YtegfafebbnlicaaGreatDoor.Ev
open Go Go.RowKit
set_option linter.unusedVariables false
set_option linter.unusedSimpArgs false

theorem evOk : Ok Tryz.prog TT := ⟨(tOk_of rfl tAll).1, aggOk, (tOk_of rfl tAll).2, by kernel_rfl⟩
theorem evF : FOk Tryz.prog TT FT := fOk_of fAll
theorem call_sound {k : HookT} (hH : HookOk Tryz.prog (hooksOf k)) {n : Nat} {g : FuncId} {args : List Value} {st st' : St} {v : Value} (h : (cFn TT FT g).run (runX TT FT k n) args st = some (v, st')) {ρ : Ren} {w : World} {args' : Array Value} (hR : R Gn ρ st w) (har : AR ρ args.toArray args') :
    Calls Tryz.prog g args' w (RetR ρ st w v st') := by
  rw [callX_run] at h
  have := (callG_sound evOk evF (run_sound evOk (drawS evOk) evF hH n) h hR har).2
  have : CallsIn Fence.wide 0 Tryz.prog g args' w (RetR ρ st w v st') := this
  rwa [callsIn_wide] at this

/-! ### The variables of the package level -/
noncomputable def pays : List Value := [.int .i64 (.ofNat 3), .int .i64 (.ofNat 7), .int .i64 (.ofNat 15), .int .i64 (.ofNat 31), .int .i64 (.ofNat 60)]
noncomputable def nibs : List Value := [.int .u32 (.ofNat 0), .int .u32 (.ofNat 274646895), .int .u32 (.ofNat 549293790), .int .u32 (.ofNat 820201905), .int .u32 (.ofNat 1098587580), .int .u32 (.ofNat 1361435347), .int .u32 (.ofNat 1640403810), .int .u32 (.ofNat 1905808397), .int .u32 (.ofNat 2197175160), .int .u32 (.ofNat 2460548119), .int .u32 (.ofNat 2722870694), .int .u32 (.ofNat 2987750089), .int .u32 (.ofNat 3280807620), .int .u32 (.ofNat 3553878443), .int .u32 (.ofNat 3811616794), .int .u32 (.ofNat 4084100981)]
/-- The cells from a place on are these numbers. -/
noncomputable def sameC (l : List Value) (c : Tr Value) : Nat → Bool :=
  @List.rec Value (fun _ => Nat → Bool) (fun _ => true) (fun v _ ih o => match c.get o with
    | some x => match eSameP x v with
      | true => ih (Nat.succ o)
      | false => false
    | none => false) l
theorem sameC_spec : ∀ (l : List Value) (c : Tr Value) (o : Nat), sameC l c o = true → ∀ i v, l[i]? = some v → c.get (o + i) = some v
  | [], c, o, h, i, v, hv => by simp at hv
  | x :: l, c, o, h, i, v, hv => by
    have h0 : (match c.get o with
    | some y => match eSameP y x with
      | true => sameC l c (Nat.succ o)
      | false => false
    | none => false) = true := h
    clear h
    split at h0
    case h_2 => cases h0
    rename_i y hy
    split at h0
    case h_2 => cases h0
    rename_i hs
    have hs := eSameP_eq hs
    subst hs
    cases i with
    | zero => cases hv; exact hy
    | succ i =>
      have := sameC_spec l c (o + 1) h0 i v (by simpa using hv)
      rw [← this]; congr 1; omega
noncomputable def isTab (n : Nat) (l : List Value) (o : Option EObj) : Option TypeId :=
  match o with
  | some (.cells t n' false c) => match Nat.beq n' n with
    | true => match sameC l c 0 with
      | true => some t
      | false => none
    | false => none
  | _ => none
/-- The types of the variables' blocks, if they hold what they should. -/
noncomputable def glOk (st : St) : Option (TypeId × TypeId) :=
  match isTab 5 pays (st.h.get 0) with
  | some t => match isTab 16 nibs (st.h.get 1) with
    | some u => some (t, u)
    | none => none
  | none => none
/-- A world's block that holds these numbers. -/
def HoldsG (w : World) (g t : Nat) (l : List Value) : Prop := ∃ arr : Array Value, w.heap[g]? = some (.cells arr t (0, 0)) ∧ arr.toList = l
theorem isTab_holds {ρ : Ren} {st : St} {w : World} (hR : R Gn ρ st w) {g t : Nat} {l : List Value} (hg : g < Gn) (hl : ∀ v ∈ l, ∃ k n, v = .int k n) (h : isTab l.length l (st.h.get g) = some t) : HoldsG w g t l := by
  unfold isTab at h
  split at h
  case h_2 => cases h
  rename_i t' n' c hb
  split at h
  case h_2 => cases h
  rename_i h2
  split at h
  case h_2 => cases h
  rename_i h
  cases ‹some _ = some _›
  have h2 := beq_iff.1 h2
  subst h2
  obtain ⟨G, arr, fr, hG, hw, _, _, hu, hc, _⟩ := hR.cells hb
  rw [hR.glob g hg] at hG; cases hG
  obtain ⟨hsz, rfl⟩ := hu rfl
  refine ⟨arr, hw, ?_⟩
  apply List.ext_getElem?
  intro i
  by_cases hi : i < l.length
  · obtain ⟨v, v', e1, e2, e3⟩ := hc i hi
    have e4 := sameC_spec l c 0 h i l[i] (List.getElem?_eq_getElem hi)
    rw [Nat.zero_add, e1] at e4
    cases e4
    obtain ⟨k, n, hk⟩ := hl l[i] (List.getElem_mem hi)
    rw [List.getElem?_eq_getElem hi, Array.getElem?_toList, e2]
    rw [hk] at e3 ⊢
    cases e3; rfl
  · rw [List.getElem?_eq_none (l := arr.toList) (by rw [Array.length_toList]; omega), List.getElem?_eq_none (l := l) (by omega)]
theorem pays_int : ∀ v ∈ pays, ∃ k n, v = .int k n := by
  intro v hv
  simp only [pays, List.mem_cons, List.not_mem_nil, or_false] at hv
  rcases hv with rfl | rfl | rfl | rfl | rfl <;> exact ⟨_, _, rfl⟩
theorem nibs_int : ∀ v ∈ nibs, ∃ k n, v = .int k n := by
  intro v hv
  simp only [nibs, List.mem_cons, List.not_mem_nil, or_false] at hv
  rcases hv with rfl | rfl | rfl | rfl | rfl | rfl | rfl | rfl | rfl | rfl | rfl | rfl | rfl | rfl | rfl | rfl <;> exact ⟨_, _, rfl⟩
/-- The world in which the variables lie. -/
structure GOk (w : World) (t u : TypeId) : Prop where
  size : Gn ≤ w.heap.size
  pay : HoldsG w 0 t pays
  nib : HoldsG w 1 u nibs
theorem glOk_holds {ρ : Ren} {st : St} {w : World} {t u : TypeId} (hR : R Gn ρ st w) (h : glOk st = some (t, u)) : GOk w t u := by
  unfold glOk at h
  split at h
  case h_2 => cases h
  rename_i t' h1
  split at h
  case h_2 => cases h
  rename_i u' h2
  cases h
  refine ⟨?_, isTab_holds hR (by decide) pays_int h1, isTab_holds hR (by decide) nibs_int h2⟩
  have := (hR.dom _ _ (hR.glob (Gn - 1) (by decide))).2
  have e : Gn - 1 + 1 = Gn := by decide
  omega
def renG (w : World) : Ren := ⟨fun b => if b < Gn then some b else none, fun c => match w.heap[c]? with
  | some x => objN x
  | none => 0⟩
theorem st0_get {t u : TypeId} (b : Nat) (o : EObj) (h : (st0 t u).h.get b = some o) : (b = 1 ∧ o = .cells u 16 false (ofL nibs)) ∨ (b = 0 ∧ o = .cells t 5 false (ofL pays)) := by
  unfold st0 at h
  simp only [Tr.get_set] at h
  split at h
  · rename_i hb; cases h; exact .inl ⟨hb, rfl⟩
  · split at h
    · rename_i hb; cases h; exact .inr ⟨hb, rfl⟩
    · rw [Tr.get_nil] at h; cases h
theorem objG {w : World} {g t : Nat} {l : List Value} (hl : ∀ v ∈ l, ∃ k n, v = .int k n) (h : HoldsG w g t l) (ρ : Ren) : ∃ x, w.heap[g]? = some x ∧ ObjR ρ (.cells t l.length false (ofL l)) x ∧ objN x = (renG w).sz g := by
  obtain ⟨arr, hw, ha⟩ := h
  have hsz : arr.size = l.length := by rw [← ha, Array.length_toList]
  refine ⟨_, hw, ⟨rfl, fun i _ hh => by omega, by omega, fun _ => ⟨hsz, rfl⟩, fun i hi => ?_⟩, ?_⟩
  · refine ⟨l[i], l[i], by rw [ofL_get, List.getElem?_eq_getElem hi], ?_, ?_⟩
    · rw [← Array.getElem?_toList, ha, List.getElem?_eq_getElem hi]
    · obtain ⟨k, n, hk⟩ := hl l[i] (List.getElem_mem hi)
      rw [hk]; exact .int _ _
  · show _ = (match w.heap[g]? with
  | some x => objN x
  | none => 0)
    rw [hw]
theorem R_start {w : World} {t u : TypeId} (h : GOk w t u) : R Gn (renG w) (st0 t u) w where
  live := fun b o hb => by
    rcases st0_get b o hb with ⟨rfl, rfl⟩ | ⟨rfl, rfl⟩
    · obtain ⟨x, h1, h2, h3⟩ := objG nibs_int h.nib (renG w)
      exact ⟨_, x, rfl, h1, h2, h3⟩
    · obtain ⟨x, h1, h2, h3⟩ := objG pays_int h.pay (renG w)
      exact ⟨_, x, rfl, h1, h2, h3⟩
  inj := fun b b' o o' c hb hb' hc hc' => by
    simp only [renG] at hc hc'
    split at hc
    · split at hc'
      · cases hc; cases hc'; rfl
      · cases hc'
    · cases hc
  dom := fun b c hc => by
    simp only [renG] at hc
    split at hc
    · cases hc
      rename_i hlt
      have : Gn ≤ (st0 t u).nx := by show 4 ≤ 8; decide
      exact ⟨Nat.lt_of_lt_of_le hlt this, Nat.lt_of_lt_of_le hlt h.size⟩
    · cases hc
  glob := fun g hg => by simp only [renG]; rw [if_pos hg]
/-- What a run from the variables alone leaves: every block, if the variables are as they were. -/
theorem below_start {w w' : World} {t u : TypeId} (h : GOk w t u) {ρ' : Ren} {st' : St} (hR : R Gn ρ' st' w') (hW : Went (renG w) (st0 t u) w ρ' st' w') (hg : glOk st' = some (t, u)) : Below w.heap.size w w' := by
  have h2 := glOk_holds hR hg
  refine ⟨hW.os, hW.tape, hW.output, hW.size, fun k hk => ?_⟩
  have hx : w.heap[k]? = some w.heap[k] := Array.getElem?_eq_getElem hk
  by_cases e1 : k = 1
  · subst e1
    obtain ⟨a, h3, h4⟩ := h.nib; obtain ⟨a', h5, h6⟩ := h2.nib
    rw [h3, h5, Array.toList_inj.1 (h4.trans h6.symm)]
  · by_cases e2 : k = 0
    · subst e2
      obtain ⟨a, h3, h4⟩ := h.pay; obtain ⟨a', h5, h6⟩ := h2.pay
      rw [h3, h5, Array.toList_inj.1 (h4.trans h6.symm)]
    · rw [hx]
      refine hW.frame k _ hx fun b o hb hc => ?_
      simp only [renG] at hc
      split at hc
      · cases hc
        rcases st0_get _ _ hb with ⟨e, _⟩ | ⟨e, _⟩
        · exact e1 e
        · exact e2 e
      · cases hc
/-- A call without arguments from the variables alone that hands back true. -/
noncomputable def trueG (x : Option (Value × St)) : Option (TypeId × TypeId) :=
  match x with
  | some (.bool true, st) => glOk st
  | _ => none
theorem callG_true {k : HookT} (hH : HookOk Tryz.prog (hooksOf k)) {n : Nat} {g : FuncId} {t u : TypeId} (h : trueG ((cFn TT FT g).run (runX TT FT k n) [] (st0 t u)) = some (t, u)) {w : World} (hw : GOk w t u) :
    Calls Tryz.prog g #[] w fun e w' => e = .returned (.bool true) ∧ Below w.heap.size w w' := by
  unfold trueG at h
  split at h
  case h_2 => cases h
  rename_i st' hs
  refine (call_sound hH hs (R_start hw) (AR.nil _)).mono ?_
  rintro e w' ⟨v', rfl, ρ', h1, h2, h3⟩
  cases h3
  exact ⟨rfl, below_start hw h1 h2 h⟩
end Go.Proofs.YtegfafebbnlicaaGreatDoor.Ev
