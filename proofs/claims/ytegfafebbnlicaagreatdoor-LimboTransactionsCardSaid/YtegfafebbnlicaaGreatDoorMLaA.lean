/-
  LimboTransactions: from the kernel's runs to the world.
  LimboTransactions, whatever its arguments.
-/
import Derived.Test.YtegfafebbnlicaaGreatDoorMLzA
import Derived.Test.YtegfafebbnlicaaGreatDoorMLb
import Derived.Test.YtegfafebbnlicaaGreatDoorMLk0
import Derived.Test.YtegfafebbnlicaaGreatDoorMLk1
import Derived.Test.YtegfafebbnlicaaGreatDoorMLk2
import Derived.Test.YtegfafebbnlicaaGreatDoorMLk3
import Derived.Test.YtegfafebbnlicaaGreatDoorMLk4
import Derived.Test.YtegfafebbnlicaaGreatDoorMLk5
import Derived.Test.YtegfafebbnlicaaGreatDoorMLk6
import Derived.Test.YtegfafebbnlicaaGreatDoorMLk7
namespace Go.Proofs.YtegfafebbnlicaaGreatDoor.Ev
open Go Go.RowKit
set_option linter.unusedVariables false
set_option linter.unusedSimpArgs false

theorem lzFT : FT.get 3 = some (Tryz.f3, lzM) := by kernel_rfl
theorem lzBody : Tryz.f3.body = some lzC := by kernel_rfl
theorem lzDrop3 : dropN 3 lzC = .seq m3C (dropN 4 lzC) := by kernel_rfl
theorem lzD23 : dropN 1 (dropN 2 lzC) = dropN 3 lzC := by kernel_rfl
theorem lzD46 : dropN 2 (dropN 4 lzC) = dropN 6 lzC := by kernel_rfl
theorem lzD69 : dropN 3 (dropN 6 lzC) = dropN 9 lzC := by kernel_rfl

theorem lzF_inv {ih : RunX} {v8 v9 v11 : Value} {st : St} {c : Bool} {q : TypeId × TypeId} (h : lzF ih v8 v9 v11 st c = some q) : ∃ e s, ih (dropN 9 lzC) (env4 v8 v9 v11 c) st = .ret e s ∧ eResults TT e s Tryz.f3.results.toList = some (.bool true) ∧ glOk s = some q := by
  unfold lzF at h
  generalize ih (dropN 9 lzC) (env4 v8 v9 v11 c) st = x at h ⊢
  cases x with
  | ret e s =>
    simp only at h
    refine ⟨e, s, rfl, ?_⟩
    generalize eResults TT e s Tryz.f3.results.toList = y at h ⊢
    split at h
    · exact ⟨rfl, h⟩
    · cases h
  | bad => cases h
  | norm e s => cases h
  | exit id e s => cases h
theorem lzU_inv {ih : RunX} {v8 v9 v10 : Value} {st : St} {c u : Bool} {q : TypeId × TypeId} (h : lzU ih v8 v9 v10 st c u = some (some (.bool c), some v70, some q, some q)) :
    ∃ e s w8 w9 w11, runN ih2 3 (dropN 6 lzC) (env3 v8 v9 v10 c u) st = some (e, s) ∧ e.get 1 = some (.bool c) ∧ e.get 7 = some v70 ∧ e.get 8 = some w8 ∧ e.get 9 = some w9 ∧ e.get 11 = some w11 ∧ lzF ih w8 w9 w11 s c = some q := by
  unfold lzU at h
  split at h
  case h_2 => cases h
  rename_i e s hr
  split at h
  case h_2 => cases h
  rename_i w8 w9 w11 h8 h9 h11
  have h := Option.some.inj h
  simp only [Prod.mk.injEq] at h
  obtain ⟨a1, a2, a3, a4⟩ := h
  refine ⟨e, s, w8, w9, w11, hr, a1, a2, h8, h9, h11, ?_⟩
  cases c
  · exact a3
  · exact a4
theorem lzI_inv {pt nt : TypeId} {i : Nat} {c u : Bool} (h : lzI pt nt i c u = lzGood pt nt c u) :
    ∃ e s w8 w9 w10, runN ih2 2 (dropN 4 lzC) (env2 i c u) (S0 pt nt) = some (e, s) ∧ e.get 1 = some (.bool c) ∧ e.get 2 = some (.bool u) ∧ e.get 7 = some v70 ∧ e.get 8 = some w8 ∧ e.get 9 = some w9 ∧ e.get 10 = some w10 ∧ lzU ih2 w8 w9 w10 s c false = some (some (.bool c), some v70, some (pt, nt), some (pt, nt)) ∧ lzU ih3 w8 w9 w10 s c true = some (some (.bool c), some v70, some (pt, nt), some (pt, nt)) := by
  unfold lzI lzGood at h
  split at h
  case h_2 => cases h
  rename_i e s hr
  split at h
  case h_2 => cases h
  rename_i w8 w9 w10 h8 h9 h10
  have h := Option.some.inj h
  simp only [Prod.mk.injEq] at h
  obtain ⟨a1, a2, a3, a4, a5⟩ := h
  exact ⟨e, s, w8, w9, w10, hr, a1, a2, a3, h8, h9, h10, a4, a5⟩
theorem Marks.cut {ρ : Ren} {st : St} {w : World} {ms : List Deferred} {l : List (Nat × LObj)} {nx : Nat} (h : Marks ρ st w ms) (hv : viewsO st.h l = somesO l) : Marks ρ (mkS l nx) w ms := by
  induction h with
  | nil => exact .nil
  | cons c ms hc hn hd h ih =>
    refine .cons c ms hc (fun b o hb => ?_) hd ih
    obtain ⟨x, hx, rfl⟩ := mkH_get l b o hb
    obtain ⟨o', e, _⟩ := viewO_obj (ρ := ρ) (X := .map #[] 0) (viewsO_mem hv _ hx)
    exact hn b o' e
theorem Cm.cut {ρ ρ' : Ren} {st st' : St} {w w' : World} {a a' : Act} {env env' : Env} {l : List (Nat × LObj)} {nx : Nat} (h : Cm ρ st w a ρ' st' w' a' env) (hv : viewsO st'.h l = somesO l) (hn : st'.nx ≤ nx) (hE : EnvR ρ' env' a'.tmps) : Cm ρ st w a ρ' (mkS l nx) w' a' env' := by
  obtain ⟨ms, h1, h2, h3⟩ := h.defers
  exact ⟨h.r.cut hv hn, h.went.cut hv hn, hE, h.size, ms, h1, h2.cut hv, h3⟩
theorem lz_in0 {ihX : RunX} {ih : Run1} {m : Nat} (hx : ∀ c env st, (ihX c env st).opt = ih c env st) (hih : RunS Tryz.prog TT m ih) {w : World} {pt nt : TypeId} (hw : GOk w pt nt) (slot : Int) (c u : Bool) (i : Nat) (hmod : modX slot = .ofNat i)
    {e3 : Env} {s3 : St} {w8 w9 w10 : Value} (hr3 : runN ih2 2 (dropN 4 lzC) (env2 i c u) (S0 pt nt) = some (e3, s3)) (k1 : e3.get 1 = some (.bool c)) (k2 : e3.get 2 = some (.bool u)) (k7 : e3.get 7 = some v70) (k8 : e3.get 8 = some w8) (k9 : e3.get 9 = some w9) (k10 : e3.get 10 = some w10)
    (hU : lzU ihX w8 w9 w10 s3 c u = some (some (.bool c), some v70, some (pt, nt), some (pt, nt))) :
    Calls Tryz.prog 3 #[.int .i64 slot, .bool c, .bool u] w fun e w' => e = .returned (.bool true) ∧ Below w.heap.size w w' := by
  rw [← callsIn_wide]
  obtain ⟨envA, stA, hA, ⟨p0, p1, p2, p7⟩, hview, hnx⟩ := lz_begin_inv slot c u pt nt
  obtain ⟨envB, hB, q0, q1, q2, q7⟩ := lz_awake_inv slot c u pt nt
  obtain ⟨envC, hC, r1, r2, r7, r8⟩ := lz_mod_inv slot c u (S0 pt nt)
  obtain ⟨e5, s5, x8, x9, x11, hr5, g1, g7, g8, g9, g11, hF⟩ := lzU_inv hU
  obtain ⟨e6, s6, hrun, hres, hgl⟩ := lzF_inv hF
  rw [hmod] at r8

  suffices hs : CallsIn (Fw none) 0 Tryz.prog 3 #[.int .i64 slot, .bool c, .bool u] w (RetR (renG w) (st0 pt nt) w (.bool true) s6) by
    refine CallsIn.mono hs ?_
    rintro e w' ⟨v', rfl, _, hR', hW', hv⟩
    cases hv; exact ⟨rfl, below_start hw hR' hW' hgl⟩
  obtain ⟨hf, hname, hcode⟩ := evF _ _ _ lzFT
  obtain ⟨hc, hm⟩ := hcode _ lzBody
  refine callsIn_of_wp_marks hf lzBody trivial ?_
  have har : AR (renG w) [Value.int .i64 slot, .bool c, .bool u].toArray #[.int .i64 slot, .bool c, .bool u] := ((AR.one (VR.int .i64 slot)).push (VR.bool c)).push (VR.bool u)
  obtain ⟨a0, ha0⟩ : ∃ a0 : Act, a0 = { tmps := #[Value.int .i64 slot, .bool c, .bool u] ++ Array.replicate (Tryz.f3.ntmps - #[Value.int .i64 slot, .bool c, .bool u].size) undef, defers := [] } := ⟨_, rfl⟩
  have hsz : dstMax lzC ≤ a0.tmps.size := by
    rw [ha0, Array.size_append, Array.size_replicate]
    refine Nat.le_trans hm ?_
    show _ ≤ 3 + (_ - 3)
    omega
  have hE0 : EnvR (renG w) (envOf lzM [Value.int .i64 slot, .bool c, .bool u] 0) a0.tmps := by rw [ha0]; exact envOf_R har
  rw [← ha0]
  have hd0 : a0.defers = [] := by rw [ha0]
  clear ha0
  have hc' : codeOk TT lzC (Option.isSome (none : Option Nat)) = true := by rw [Option.isSome_none]; exact hc
  -- Begin
  refine runN_sound ih2_opt ih2S none 2 lzC _ _ envA stA hA (renG w) w _ hc' hsz (R_start hw) hE0 _ ?_
  intro ρ1 w1 a1 c1 hc1 hm1
  have hR1 : R Gn ρ1 (S0 pt nt) w1 := c1.r.cut hview hnx
  have hE1 : EnvR ρ1 (env1 slot c u) a1.tmps := by
    intro k v hk
    unfold env1 at hk
    simp only [Env.get_set, Env.get_none] at hk
    split at hk
    · rename_i e; cases hk; rw [e]; exact c1.env _ _ p7
    · split at hk
      · rename_i e; cases hk; rw [e]; exact c1.env _ _ p0
      · split at hk
        · rename_i e; cases hk; rw [e]; exact c1.env _ _ p1
        · split at hk
          · rename_i e; cases hk; rw [e]; exact c1.env _ _ p2
          · cases hk
  have d1 : Cm (renG w) (st0 pt nt) w a0 ρ1 (S0 pt nt) w1 a1 (env1 slot c u) := c1.cut hview hnx hE1
  -- awake
  refine runN_sound ih2_opt ih2S none 1 (dropN 2 lzC) _ _ envB (S0 pt nt) hB ρ1 w1 a1 hc1 hm1 hR1 hE1 _ ?_
  intro ρ2 w2 a2 c2 hc2 hm2
  rw [lzD23] at hc2 hm2 ⊢
  have hE2 : EnvR ρ2 (env1 slot c u) a2.tmps := by
    intro k v hk
    unfold env1 at hk
    simp only [Env.get_set, Env.get_none] at hk
    split at hk
    · rename_i e; cases hk; rw [e]; exact c2.env _ _ q7
    · split at hk
      · rename_i e; cases hk; rw [e]; exact c2.env _ _ q0
      · split at hk
        · rename_i e; cases hk; rw [e]; exact c2.env _ _ q1
        · split at hk
          · rename_i e; cases hk; rw [e]; exact c2.env _ _ q2
          · cases hk
  -- mod
  rw [lzDrop3] at hc2 hm2 ⊢
  simp only [codeOk, Bool.and_eq_true] at hc2
  simp only [dstMax] at hm2
  refine wpIn_seq ?_
  refine wpIn_mono (ih2S m3C _ (S0 pt nt) .norm envC (S0 pt nt) hC none ρ2 w2 a2 hc2.1 (max_l hm2) c2.r hE2).1 ?_
  rintro ex a3 w3 ⟨rfl, ρ3, c3⟩
  have hE3 : EnvR ρ3 (env2 i c u) a3.tmps := by
    intro k v hk
    unfold env2 at hk
    simp only [Env.get_set, Env.get_none] at hk
    split at hk
    · rename_i e; cases hk; rw [e]; exact c3.env _ _ r7
    · split at hk
      · rename_i e; cases hk; rw [e]; exact c3.env _ _ r8
      · split at hk
        · rename_i e; cases hk; rw [e]; exact c3.env _ _ r1
        · split at hk
          · rename_i e; cases hk; rw [e]; exact c3.env _ _ r2
          · cases hk
  -- the block
  refine runN_sound ih2_opt ih2S none 2 (dropN 4 lzC) _ _ e3 s3 hr3 ρ3 w3 a3 hc2.2 (by rw [c3.size]; exact max_r hm2) c3.r hE3 _ ?_
  intro ρ4 w4 a4 c4 hc4 hm4
  rw [lzD46] at hc4 hm4 ⊢
  have hE4 : EnvR ρ4 (env3 w8 w9 w10 c u) a4.tmps := by
    intro k v hk
    unfold env3 at hk
    simp only [Env.get_set, Env.get_none] at hk
    split at hk
    · rename_i e; cases hk; rw [e]; exact c4.env _ _ k7
    · split at hk
      · rename_i e; cases hk; rw [e]; exact c4.env _ _ k8
      · split at hk
        · rename_i e; cases hk; rw [e]; exact c4.env _ _ k9
        · split at hk
          · rename_i e; cases hk; rw [e]; exact c4.env _ _ k10
          · split at hk
            · rename_i e; cases hk; rw [e]; exact c4.env _ _ k2
            · split at hk
              · rename_i e; cases hk; rw [e]; exact c4.env _ _ k1
              · cases hk
  -- the transaction
  refine runN_sound ih2_opt ih2S none 3 (dropN 6 lzC) _ _ e5 s5 hr5 ρ4 w4 a4 hc4 hm4 c4.r hE4 _ ?_
  intro ρ5 w5 a5 c5 hc5 hm5
  rw [lzD69] at hc5 hm5 ⊢
  have hE5 : EnvR ρ5 (env4 x8 x9 x11 c) a5.tmps := by
    intro k v hk
    unfold env4 at hk
    simp only [Env.get_set, Env.get_none] at hk
    split at hk
    · rename_i e; cases hk; rw [e]; exact c5.env _ _ g7
    · split at hk
      · rename_i e; cases hk; rw [e]; exact c5.env _ _ g8
      · split at hk
        · rename_i e; cases hk; rw [e]; exact c5.env _ _ g9
        · split at hk
          · rename_i e; cases hk; rw [e]; exact c5.env _ _ g11
          · split at hk
            · rename_i e; cases hk; rw [e]; exact c5.env _ _ g1
            · cases hk
  have hrun2 : ih (dropN 9 lzC) (env4 x8 x9 x11 c) s5 = some (.ret, e6, s6) := by rw [← hx, hrun]; rfl
  refine wpIn_mono (hih _ _ s5 .ret e6 s6 hrun2 none ρ5 w5 a5 hc5 hm5 c5.r hE5).1 ?_
  rintro x a6 w6 ⟨rfl, ρ6, c6⟩
  have cc := ((((d1.trans c2).trans c3).trans c4).trans c5).trans c6
  obtain ⟨ms, hms, hMk, hge⟩ := cc.defers
  have hl := leavesM (P := Tryz.prog) evOk.types cc.env hres ms w6 cc.r cc.went hMk hge
  have hms' : a6.defers = ms := by rw [hms, hd0]; simp
  rw [← hms'] at hl
  exact hl
theorem lz_in {w : World} {pt nt : TypeId} (hw : GOk w pt nt) (slot : Int) (c u : Bool) (hk : ∀ i, i < 40 → lzI pt nt i c u = lzGood pt nt c u) :
    Calls Tryz.prog 3 #[.int .i64 slot, .bool c, .bool u] w fun e w' => e = .returned (.bool true) ∧ Below w.heap.size w w' := by
  obtain ⟨i, hi, hmod⟩ := modX_lt slot
  obtain ⟨e3, s3, w8, w9, w10, hr3, k1, k2, k7, k8, k9, k10, hUf, hUt⟩ := lzI_inv (hk i hi)
  cases u
  · exact lz_in0 ih2_opt ih2S hw slot c false i hmod hr3 k1 k2 k7 k8 k9 k10 hUf
  · exact lz_in0 ih3_opt ih3S hw slot c true i hmod hr3 k1 k2 k7 k8 k9 k10 hUt
end Go.Proofs.YtegfafebbnlicaaGreatDoor.Ev

namespace Go.Proofs.YtegfafebbnlicaaGreatDoor.Ev
open Go Go.RowKit
set_option linter.unusedVariables false

theorem lz_all (pt nt : TypeId) (c u : Bool) (i : Nat) (h : i < 40) : lzI pt nt i c u = lzGood pt nt c u :=
  match i, h with
  | 0, _ => lz_run0 pt nt c u
  | 1, _ => lz_run1 pt nt c u
  | 2, _ => lz_run2 pt nt c u
  | 3, _ => lz_run3 pt nt c u
  | 4, _ => lz_run4 pt nt c u
  | 5, _ => lz_run5 pt nt c u
  | 6, _ => lz_run6 pt nt c u
  | 7, _ => lz_run7 pt nt c u
  | 8, _ => lz_run8 pt nt c u
  | 9, _ => lz_run9 pt nt c u
  | 10, _ => lz_run10 pt nt c u
  | 11, _ => lz_run11 pt nt c u
  | 12, _ => lz_run12 pt nt c u
  | 13, _ => lz_run13 pt nt c u
  | 14, _ => lz_run14 pt nt c u
  | 15, _ => lz_run15 pt nt c u
  | 16, _ => lz_run16 pt nt c u
  | 17, _ => lz_run17 pt nt c u
  | 18, _ => lz_run18 pt nt c u
  | 19, _ => lz_run19 pt nt c u
  | 20, _ => lz_run20 pt nt c u
  | 21, _ => lz_run21 pt nt c u
  | 22, _ => lz_run22 pt nt c u
  | 23, _ => lz_run23 pt nt c u
  | 24, _ => lz_run24 pt nt c u
  | 25, _ => lz_run25 pt nt c u
  | 26, _ => lz_run26 pt nt c u
  | 27, _ => lz_run27 pt nt c u
  | 28, _ => lz_run28 pt nt c u
  | 29, _ => lz_run29 pt nt c u
  | 30, _ => lz_run30 pt nt c u
  | 31, _ => lz_run31 pt nt c u
  | 32, _ => lz_run32 pt nt c u
  | 33, _ => lz_run33 pt nt c u
  | 34, _ => lz_run34 pt nt c u
  | 35, _ => lz_run35 pt nt c u
  | 36, _ => lz_run36 pt nt c u
  | 37, _ => lz_run37 pt nt c u
  | 38, _ => lz_run38 pt nt c u
  | 39, _ => lz_run39 pt nt c u
  | n + 40, h => absurd h (by omega)
theorem lz_any {w : World} {pt nt : TypeId} (hw : GOk w pt nt) (slot : Int) (c u : Bool) :
    Calls Tryz.prog 3 #[.int .i64 slot, .bool c, .bool u] w fun e w' => e = .returned (.bool true) ∧ Below w.heap.size w w' :=
  lz_in hw slot c u fun i hi => lz_all pt nt c u i hi
/-! ### The listed variables -/
theorem laid_block {P : Program} {w : World} : ∀ {l : List (String × DataW Unit)} {ps : List MemPlace}, DataW.LaidVars P w l ps → ∀ n d, (n, d) ∈ l →
    ∃ g cs, P.globalNamed n = some g ∧ w.var? P n = some cs ∧ ∀ i, i < cs.size → MemPlace.cell g i ∈ ps
  | [], _, _, _, _, hm => by cases hm
  | (n', d') :: r, ps, h, n, d, hm => by
    obtain ⟨g, t, cs, fuel, p, q, h1, h2, h3, h4, h5, h6⟩ := h
    rcases List.mem_cons.1 hm with e | e
    · cases e
      refine ⟨g, cs, h1, h3, fun i hi => ?_⟩
      rw [h6]
      refine List.mem_append.2 (.inl (List.mem_append.2 (.inl ?_)))
      simp [MemPlace.row, hi]
    · obtain ⟨g', cs', a, b, c⟩ := laid_block h5 n d e
      exact ⟨g', cs', a, b, fun i hi => by rw [h6]; exact List.mem_append.2 (.inr (c i hi))⟩
theorem holds_of {P : Program} {W : World} {l : List (String × DataW Unit)} (h : laidMet P l W) {name : String} {g : Nat} {d : DataW Unit} (hg : P.globalNamed name = some g) (hm : (name, d) ∈ l) :
    ∃ cs, W.var? P name = some cs ∧ g < W.heap.size ∧ (0 < cs.size → ∃ t, W.heap[g]? = some (.cells cs t (0, 0))) := by
  obtain ⟨ps, hv, _, hc⟩ := h
  obtain ⟨g', cs, h1, h2, h3⟩ := laid_block hv name d hm
  rw [hg] at h1; cases h1
  have h4 := h2
  unfold World.var? at h4
  rw [hg] at h4
  simp only [Option.bind_some] at h4
  split at h4
  case h_2 => cases h4
  rename_i cs' t' fr' hb
  cases h4
  refine ⟨cs, h2, heap_lt hb, fun hpos => ?_⟩
  obtain ⟨⟨c, t, hh⟩, _⟩ := hc g 0 (h3 0 hpos)
  rw [hb] at hh
  cases hh
  exact ⟨_, hb⟩
end Go.Proofs.YtegfafebbnlicaaGreatDoor.Ev
