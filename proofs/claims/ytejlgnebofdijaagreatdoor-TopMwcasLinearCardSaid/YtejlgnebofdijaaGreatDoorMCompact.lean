/-
  slices.Compact of words.
-/
import Derived.Test.YtejlgnebofdijaaGreatDoorMSortA
import Derived.Lib.SliceRun
namespace Go.Proofs.YtejlgnebofdijaaGreatDoor.Dv
open Go.RowKit
set_option linter.unusedVariables false

/-- Is the element at i kept? -/
def kept (l : List Nat) (i : Nat) : Bool := decide (i = 0) || !(l.getD i 0 == l.getD (i - 1) 0)
/-- What is kept of the first m elements. -/
def dd (l : List Nat) (m : Nat) : List Nat := ((List.range m).filter (kept l)).map (fun i => l.getD i 0)
theorem dd_succ (l : List Nat) (m : Nat) : dd l (m + 1) = dd l m ++ if kept l m then [l.getD m 0] else [] := by
  unfold dd
  rw [List.range_succ, List.filter_append, List.map_append]
  by_cases h : kept l m <;> simp [h]
theorem dd_all (l : List Nat) (m : Nat) (h : ∀ i, i < m → kept l i = true) : dd l m = (List.range m).map (fun i => l.getD i 0) := by
  unfold dd
  rw [List.filter_eq_self.2 (fun i hi => h i (by simpa using hi))]
theorem dd_le (l : List Nat) (m : Nat) : (dd l m).length ≤ m := by
  unfold dd
  rw [List.length_map]
  have := List.length_filter_le (kept l) (List.range m)
  simpa using this
theorem mem_dd (l : List Nat) (x : Nat) : x ∈ dd l l.length ↔ x ∈ l := by
  have key : ∀ m, m ≤ l.length → ∀ i, i < m → l.getD i 0 ∈ dd l m := by
    intro m hm
    induction m with
    | zero => intro i hi; omega
    | succ m ih =>
      intro i hi
      rw [dd_succ]
      rcases Nat.lt_or_ge i m with h | h
      · exact List.mem_append_left _ (ih (by omega) i h)
      · obtain rfl : i = m := by omega
        by_cases hk : kept l i = true
        · rw [if_pos hk]; simp
        · rw [if_neg hk, List.append_nil]
          have h1 : ¬ i = 0 ∧ l.getD i 0 = l.getD (i - 1) 0 := by
            unfold kept at hk
            simp only [Bool.or_eq_true, decide_eq_true_eq, Bool.not_eq_true', beq_eq_false_iff_ne, not_or] at hk
            exact ⟨hk.1, by simpa using hk.2⟩
          rw [h1.2]
          exact ih (by omega) (i - 1) (by omega)
  constructor
  · intro h
    unfold dd at h
    obtain ⟨i, hi, rfl⟩ := List.mem_map.1 h
    have := (List.mem_filter.1 hi).1
    have hi' : i < l.length := by simpa using this
    simp [List.getD, hi']
  · intro h
    obtain ⟨i, hi, rfl⟩ := List.getElem_of_mem h
    have := key l.length (Nat.le_refl _) i hi
    simpa [List.getD, hi] using this

theorem Row.setCells {b : Nat} {e : TypeId} {n : Nat} {f : Nat → Value} (vs : List Value) : ∀ {w : World} {o : Nat}, Row w b e n f → n ≤ o → Row (w.setCells b o vs) b e n f := by
  induction vs with
  | nil => exact fun h _ => h
  | cons v r ih =>
    intro w o h ho
    exact ih ((h.set o v).congr (fun x hx => by rw [if_neg (by omega)])) (by omega)
theorem Only.setCells {F : Nat → Prop} {a : World} {b : Nat} (hb : F b) (vs : List Value) : ∀ {w : World} {o : Nat}, Only F a w → Only F a (w.setCells b o vs) := by
  induction vs with
  | nil => exact fun h => h
  | cons v r ih => exact fun h => ih (h.set hb v)

/-- The cells on the way: the first k are those of dd l m, those from m - 1 on are as they were. -/
def CmRow (w wr : World) (g n : Nat) (l : List Nat) (m : Nat) : Prop :=
  ∃ f : Nat → Nat, Row wr g 48 n (fun x => u64 (f x)) ∧ (∀ j, j < (dd l m).length → f j = (dd l m).getD j 0) ∧ (∀ j, m - 1 ≤ j → f j = l.getD j 0) ∧ Only (fun b => b = g) w wr

def CoRel (w : World) (g : Nat) (l : List Nat) (i : Value) (wr : World) : Prop :=
  ∃ k : Nat, 1 ≤ k ∧ k ≤ l.length ∧ i = .int .i64 (k : Nat) ∧ Row wr g 48 l.length (fun x => u64 (l.getD x 0)) ∧ Only (fun b => b = g) w wr ∧ ∀ i, i < k → kept l i = true
def CiRel (w : World) (g : Nat) (l : List Nat) (K : Nat) (k k2 : Value) (wr : World) : Prop :=
  ∃ q : Nat, 1 ≤ q ∧ K + q ≤ l.length ∧ k2 = .int .i64 (q : Nat) ∧ k = .int .i64 ((dd l (K + q)).length : Nat) ∧ (dd l (K + q)).length ≤ K + q - 1 ∧ CmRow w wr g l.length l (K + q)

theorem zeroU64 (w : World) : (zeroValue 48).run Tryz.prog w = .ok (.int .u64 0) w := by kernel_rfl

theorem dd_getD_snoc {l : List Nat} {m j : Nat} {v : Nat} : (l ++ [v]).getD j m = if j < l.length then l.getD j m else if j = l.length then v else m := by
  unfold List.getD
  rcases Nat.lt_or_ge j l.length with h | h
  · rw [if_pos h, List.getElem?_append_left h]
  · rw [if_neg (by omega), List.getElem?_append_right h]
    by_cases e : j = l.length
    · rw [if_pos e, e]; simp
    · rw [if_neg e, List.getElem?_eq_none (by simp; omega)]; rfl

set_option maxRecDepth 8000 in
theorem compact_any {w : World} {g c : Nat} {l : List Nat} (hrow : Row w g 48 l.length (fun x => u64 (l.getD x 0))) (hn : 1 ≤ l.length) (hn2 : l.length ≤ 1000000) (hc : l.length ≤ c) :
    Calls Tryz.prog 50 #[.slice (some ⟨g, 0, none⟩) l.length c] w fun e w' => e = .returned (.slice (some ⟨g, 0, none⟩) (dd l l.length).length c) ∧
      Row w' g 48 (dd l l.length).length (fun x => u64 ((dd l l.length).getD x 0)) ∧ Only (fun b => b = g) w w' := by
  have k0 : ∀ i, i < 1 → kept l i = true := fun i hi => by
    have e : i = 0 := by omega
    subst e; rfl
  by_cases h2 : l.length < 2
  · have e1 : l.length = 1 := by omega
    have e2 : dd l l.length = (List.range l.length).map (fun i => l.getD i 0) := dd_all l _ (fun i hi => k0 i (by omega))
    have e3 : (dd l l.length).length = l.length := by rw [e2]; simp
    have hr2 : Row w g 48 (dd l l.length).length (fun x => u64 ((dd l l.length).getD x 0)) := by
      rw [e3]
      refine hrow.congr (fun x hx => ?_)
      rw [e2]; simp [List.getD, hx]
    rw [e3] at hr2 ⊢
    have HR := Lib.hid hr2
    have b1 : (l.length : Int) < 2 := by omega
    have d1 : decide (l.length < 2) = true := decide_eq_true h2
    have d2 : decide ((l.length : Int) < 2) = true := decide_eq_true b1
    clear hrow e1 e2 e3 hr2 k0
    go_enter Tryz.func50, Tryz.ntmps50
    go_wp2_with fail
    go_returns
    exact ⟨rfl, HR.out, Only.refl _ _⟩
  · have b1 : ¬ (l.length : Int) < 2 := by omega
    have d1 : decide (l.length < 2) = false := decide_eq_false h2
    have d2 : decide ((l.length : Int) < 2) = false := decide_eq_false b1
    have b2 : (l.length : Int) ≤ 1000000 := by omega
    have HR := Lib.hid hrow
    obtain ⟨n, hN⟩ : ∃ n, n = l.length := ⟨_, rfl⟩
    clear hrow
    go_enter Tryz.func50, Tryz.ntmps50
    go_wp2_with fail
    go_loopw [3, 4, 5] (fun i _ _ wr => CoRel w g l i wr) (fun i _ _ _ => l.length - (intOf i).toNat)
    case atStart => exact ⟨1, by omega, by omega, rfl, HR.out, Only.refl _ _, k0⟩
    case round =>
      obtain ⟨k, hk1, hk, rfl, hr, ho, hkp⟩ := hrel
      by_cases hlt : k < l.length
      · have hlt2 : (k : Int) < l.length := by omega
        have c1 := hr.cell k hlt
        have c2 := hr.cell (k - 1) (by omega)
        have w1 : IntKind.i64.wrap ((k : Int) - 1) = (k : Int) - 1 := IntWalk.i64_in _ (by omega)
        have w2 : (0 : Int) ≤ (k : Int) - 1 := by omega
        have w3 : ((k : Int) - 1).toNat = k - 1 := by omega
        have w4 : (k : Int) - 1 < l.length := by omega
        by_cases hkk : kept l k = true
        · have hne : ¬ l.getD k 0 = l.getD (k - 1) 0 := by
            unfold kept at hkk
            simp only [Bool.or_eq_true, decide_eq_true_eq, Bool.not_eq_true', beq_eq_false_iff_ne] at hkk
            rcases hkk with h | h
            · omega
            · exact h
          have G := fun nq => Lib.hid (show CoRel w g l (.int .i64 ((k + 1 : Nat) : Int)) (wr.drewN nq) from ⟨k + 1, by omega, by omega, rfl, hr.of_block rfl, ho.drewN _, fun i hi => by
            by_cases e : i = k
            · rw [e]; exact hkk
            · exact hkp i (by omega)⟩)
          generalize l.getD k 0 = x at c1 hne
          generalize l.getD (k - 1) 0 = y at c2 hne
          have d5 : ((x : Int) == (y : Int)) = false := by simp; omega
          clear hr ho hkp hkk hne
          unfold u64 at *
          go_wp2_with fail
          go_quiet (fail)
          clear w1 w2 w3 w4
          go_wp2_with fail
          go_roundw
          case rel => simpa using (G _).out
          case measure => simp [intOf]; omega
        · have hee : l.getD k 0 = l.getD (k - 1) 0 := by
            unfold kept at hkk
            simp only [Bool.or_eq_true, decide_eq_true_eq, Bool.not_eq_true', beq_eq_false_iff_ne, not_or] at hkk
            simpa using hkk.2
          have hd1 : dd l (k + 1) = (List.range k).map (fun i => l.getD i 0) := by
            rw [dd_succ, if_neg hkk, List.append_nil]
            exact dd_all l k hkp
          have hd2 : (dd l (k + 1)).length = k := by rw [hd1]; simp
          have G := fun nq => Lib.hid (show CiRel w g l k (.int .i64 (k : Nat)) (.int .i64 (1 : Nat)) (wr.drewN nq) from ⟨1, by omega, by omega, rfl, by rw [hd2], by rw [hd2]; omega, fun x => l.getD x 0, hr.of_block rfl, fun j hj => by
            rw [hd1]; rw [hd2] at hj; simp [List.getD, hj], fun _ _ => rfl, ho.drewN _⟩)
          have d5 : (((l.getD k 0 : Nat) : Int) == ((l.getD (k - 1) 0 : Nat) : Int)) = true := by rw [hee]; simp
          generalize l.getD k 0 = x at c1 d5
          generalize l.getD (k - 1) 0 = y at c2 d5
          have d6 : ¬ c = k := by omega
          have b5 : (k : Int) ≤ l.length := by omega
          have b6 : (k : Int) ≤ c := by omega
          clear hr ho hkp hkk hee hd1 hd2
          unfold u64 at *
          go_wp2_with fail
          go_quiet (fail)
          clear w1 w2 w3 w4
          go_wp2_with fail
          go_loopw [3, 5] (fun kv k2 wr => CiRel w g l k kv k2 wr) (fun _ k2 _ => l.length - (intOf k2).toNat)
          case atStart => exact (G _).out
          case round =>
            obtain ⟨q, hq1, hq, rfl, rfl, hkq, f, hrf, hf1, hf2, hof⟩ := hrel
            obtain ⟨kk, hkk⟩ : ∃ kk, kk = (dd l (k + q)).length := ⟨_, rfl⟩
            rw [← hkk] at hf1 hkq ⊢
            have c3 : wr.cell? ⟨g, k + (q - 1), none⟩ = some (.int .u64 (f (k + (q - 1)))) := hrf.cell _ (by omega)
            rw [hf2 (k + (q - 1)) (by omega)] at c3
            by_cases hlt3 : k + q < l.length
            · have c4 : wr.cell? ⟨g, k + q, none⟩ = some (.int .u64 (f (k + q))) := hrf.cell _ (by omega)
              rw [hf2 (k + q) (by omega)] at c4
              have c5 : wr.cell? ⟨g, kk, none⟩ = some (.int .u64 (f kk)) := hrf.cell _ (by omega)
              have f5 : wr.frozen? ⟨g, kk, none⟩ = false := hrf.free _
              have w1 : IntKind.i64.wrap ((q : Int) - 1) = (q : Int) - 1 := IntWalk.i64_in _ (by omega)
              have w2 : (0 : Int) ≤ (q : Int) - 1 := by omega
              have w3 : ((q : Int) - 1).toNat = q - 1 := by omega
              have w4 : (q : Int) - 1 < ((l.length - k : Nat) : Int) := by omega
              have w5 : (q : Int) < ((l.length - k : Nat) : Int) := by omega
              have w6 : decide (q < l.length - k) = true := decide_eq_true (by omega)
              have ek : (k + q) - 1 = k + (q - 1) := by omega
              have b7 : (kk : Int) < l.length := by omega
              by_cases hkp : kept l (k + q) = true
              · have hne : ¬ l.getD (k + q) 0 = l.getD (k + (q - 1)) 0 := by
                  unfold kept at hkp
                  simp only [Bool.or_eq_true, decide_eq_true_eq, Bool.not_eq_true', beq_eq_false_iff_ne] at hkp
                  rw [ek] at hkp
                  rcases hkp with h | h
                  · omega
                  · exact h
                have hds : dd l (k + (q + 1)) = dd l (k + q) ++ [l.getD (k + q) 0] := by rw [← Nat.add_assoc, dd_succ, if_pos hkp]
                have hdl : (dd l (k + (q + 1))).length = kk + 1 := by rw [hds, List.length_append, hkk]; rfl
                have G2 := fun nq => Lib.hid (show CiRel w g l k (.int .i64 ((kk + 1 : Nat) : Int)) (.int .i64 ((q + 1 : Nat) : Int)) ((wr.drewN nq).setCell ⟨g, kk, none⟩ (.int .u64 (l.getD (k + q) 0))) from
                  ⟨q + 1, by omega, by omega, rfl, by rw [hdl], by rw [hdl]; omega, fun x => if x = kk then l.getD (k + q) 0 else f x,
                    ((show Row (wr.drewN nq) g 48 l.length (fun x => u64 (f x)) from hrf.of_block rfl).set kk _).congr (fun x hx => by
                      dsimp only
                      by_cases e : x = kk
                      · rw [if_pos e, if_pos e]; rfl
                      · rw [if_neg e, if_neg e]),
                    fun j hj => by
                      rw [hdl] at hj
                      dsimp only
                      rw [hds, dd_getD_snoc, ← hkk]
                      by_cases e : j = kk
                      · rw [if_pos e, if_neg (by omega), if_pos e]
                      · rw [if_neg e, if_pos (by omega)]; exact hf1 j (by omega),
                    fun j hj => by
                      dsimp only
                      rw [if_neg (by omega)]; exact hf2 j (by omega),
                    (hof.drewN nq).set rfl _⟩)
                generalize l.getD (k + q) 0 = x at c4 hne G2
                generalize l.getD (k + (q - 1)) 0 = y at c3 hne
                have d7 : ((x : Int) != (y : Int)) = true := by simp; omega
                generalize f kk = z at c5
                clear hrf hf1 hf2 hof hkp hne hds hdl hkk ek
                go_wp2_with fail
                go_quiet (fail)
                clear w1 w2 w3 w4
                go_wp2_with fail
                go_roundw
                case rel => simpa using (G2 _).out
                case measure => simp [intOf]; omega
              · have hee : l.getD (k + q) 0 = l.getD (k + (q - 1)) 0 := by
                  unfold kept at hkp
                  simp only [Bool.or_eq_true, decide_eq_true_eq, Bool.not_eq_true', beq_eq_false_iff_ne, not_or] at hkp
                  rw [ek] at hkp
                  simpa using hkp.2
                have hds : dd l (k + (q + 1)) = dd l (k + q) := by rw [← Nat.add_assoc, dd_succ, if_neg hkp, List.append_nil]
                have G2 := fun nq => Lib.hid (show CiRel w g l k (.int .i64 (kk : Nat)) (.int .i64 ((q + 1 : Nat) : Int)) (wr.drewN nq) from
                  ⟨q + 1, by omega, by omega, rfl, by rw [hds, hkk], by rw [hds, ← hkk]; omega, f, hrf.of_block rfl, fun j hj => by
                      rw [hds, ← hkk] at hj
                      rw [hds]; exact hf1 j hj, fun j hj => hf2 j (by omega), hof.drewN nq⟩)
                have d7 : (((l.getD (k + q) 0 : Nat) : Int) != ((l.getD (k + (q - 1)) 0 : Nat) : Int)) = false := by rw [hee]; simp
                generalize l.getD (k + q) 0 = x at c4 d7
                generalize l.getD (k + (q - 1)) 0 = y at c3 d7
                generalize f kk = z at c5
                clear hrf hf1 hf2 hof hkp hee hds hkk ek
                go_wp2_with fail
                go_quiet (fail)
                clear w1 w2 w3 w4
                go_wp2_with fail
                go_roundw
                case rel => simpa using (G2 _).out
                case measure => simp [intOf]; omega
            · have hend : k + q = l.length := by omega
              have w5 : ¬ (q : Int) < ((l.length - k : Nat) : Int) := by omega
              have w6 : decide (q < l.length - k) = false := decide_eq_false (by omega)
              have hcl : ∀ ty, (Builtin.clear_ #[70] ty #[.slice (some ⟨g, kk, none⟩) (l.length - kk) (c - kk)]).run Tryz.prog wr = .ok (.tuple #[]) (wr.setCells g kk (List.replicate (l.length - kk) (.int .u64 0))) :=
                fun ty => Lib.run_clear_slice wr 70 48 ty (.int .u64 0) Tryz.underlying70 zeroU64 rfl rfl g kk _ _ (by omega) (fun j hj => by rw [hrf.cell _ (by omega)]; rfl) (fun j hj => hrf.free _)
              have hrk : Row wr g 48 kk (fun x => u64 (f x)) := by
                obtain ⟨cc, h1, h2, h3⟩ := hrf
                exact ⟨cc, h1, by omega, fun x hx => h3 x (by omega)⟩
              have G2 := Lib.hid (show Row (wr.setCells g kk (List.replicate (l.length - kk) (.int .u64 0))) g 48 (dd l l.length).length (fun x => u64 ((dd l l.length).getD x 0)) from by
                rw [hend] at hkk hf1
                rw [← hkk]
                exact (hrk.setCells _ (Nat.le_refl _)).congr (fun x hx => by rw [hf1 x hx]))
              have G3 := Lib.hid (Only.setCells (F := fun b => b = g) (b := g) rfl (List.replicate (l.length - kk) (Value.int .u64 0)) (o := kk) hof)
              rw [hend] at hkk
              have HK := Lib.hid hkk
              have d8 : ¬ c = kk := by omega
              have b7 : (kk : Int) < l.length := by omega
              have b8 : (kk : Int) ≤ c := by omega
              clear hrf hf1 hf2 hof hkk hrk hend c3 w5
              go_wp2_with fail
              go_returns
              exact ⟨by rw [← HK.out]; rfl, G2.out, G3.out⟩
      · obtain rfl : k = l.length := by omega
        have e2 : dd l l.length = (List.range l.length).map (fun i => l.getD i 0) := dd_all l _ hkp
        have e3 : (dd l l.length).length = l.length := by rw [e2]; simp
        have HR2 := Lib.hid (show Row wr g 48 (dd l l.length).length (fun x => u64 ((dd l l.length).getD x 0)) by
          rw [e3]
          refine hr.congr (fun x hx => ?_)
          rw [e2]; simp [List.getD, hx])
        have HO := Lib.hid ho; have HE := Lib.hid e3
        clear hr ho hkp e2 e3 hlt
        go_wp2_with fail
        go_returns
        exact ⟨by rw [HE.out]; rfl, HR2.out, HO.out⟩
end Go.Proofs.YtejlgnebofdijaaGreatDoor.Dv
