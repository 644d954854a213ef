/-
  The law TopMwcas: the walk.
-/
import Derived.Test.YtjoipeojenfiiaaGreatDoorMTop3
import Derived.Deep.CutBlock
import Derived.Deep.DeepCutAuto
namespace Go.Proofs.YtjoipeojenfiiaaGreatDoor.Dv
open Go.RowKit
set_option linter.unusedVariables false

/-- The loop that makes the entries. -/
def EsRel (w : World) (n : Nat) (v i : Value) (wl : World) : Prop := ∃ k : Nat, k ≤ n ∧ i = .int .i64 (k : Nat) ∧ wl.ownsRow w.heap.size 36 4 v k (encells ((mainEs n).take k)) ∧ Below w.heap.size w wl
def TmPost (W : World) (e : Ending) (w' : World) : Prop := e = .returned (.bool true) ∧ Below W.heap.size W w'
/-- The operations that are handed in. -/
def Helps (w : World) (ha : Option Addr) (hn : Nat) : Prop := ∀ i, i < hn → ∃ (hb ho : Nat) (wa : Option Addr) (wn wc : Nat) (af : Bool) (th : Int), ha = some ⟨hb, ho, none⟩ ∧ w.cell? ⟨hb, ho + i * 3, none⟩ = some (.slice wa wn wc) ∧ w.cell? ⟨hb, ho + i * 3 + 1, none⟩ = some (.bool af) ∧ w.cell? ⟨hb, ho + i * 3 + 2, none⟩ = some (.int .i64 th) ∧ (-9223372036854775808 ≤ th ∧ th ≤ 9223372036854775807) ∧ Chs w wa wn
/-- The numbers that are handed in. -/
def Nums (w : World) (pa : Option Addr) (zs : List Int) : Prop := ∀ j z, zs[j]? = some z → -9223372036854775808 ≤ z ∧ z ≤ 9223372036854775807 ∧ ∃ b o, pa = some ⟨b, o, none⟩ ∧ w.cell? ⟨b, o + j, none⟩ = some (.int .i64 z)

def TpCut (W : World) (A : DAd) (n p0 o0 X : Nat) (F : Nat → Option Role) (v : Value) (wl : World) : Prop :=
  ∃ (N : Nat) (m : MS) (G : Nat → Option Role) (B : MAd) (g cap : Nat), v = .slice (some ⟨g, 0, none⟩) N cap ∧ TpSt W A n N N m p0 o0 X F G B (.slice (some ⟨g, 0, none⟩) N cap) wl
def FlRel (n : Nat) (b : Bool) (c i : Value) : Prop := ∃ j : Nat, j ≤ 8 ∧ i = .int .i64 (j : Nat) ∧ c = .int .i64 (cnt n b j : Nat)
/-- The loop that prepares the other operations. -/
def TpRel (W : World) (A : DAd) (n hn p0 o0 X : Nat) (F : Nat → Option Role) (v i : Value) (wl : World) : Prop :=
  ∃ (j N : Nat) (m : MS) (G : Nat → Option Role) (B : MAd), j ≤ 2 ∧ j ≤ hn ∧ N ≤ j + 1 ∧ i = .int .i64 (j : Nat) ∧ TpSt W A n N N m p0 o0 X F G B v wl

theorem mod_pos (a : Int) (m : Nat) (hm : 0 < m) : ∃ r : Int, ∃ t : Nat, a.tmod m = r ∧ -(m : Int) < r ∧ r < m ∧ (r + m).tmod m = t ∧ (r + m) % m = t ∧ t < m := by
  have h1 := Int.tmod_lt_of_pos a (show (0 : Int) < m by omega)
  have h2 := Int.lt_tmod_of_pos a (show (0 : Int) < m by omega)
  obtain ⟨r, hr⟩ : ∃ r, r = a.tmod m := ⟨_, rfl⟩
  rw [← hr] at h1 h2
  have h3 := Int.emod_nonneg (r + m) (show (m : Int) ≠ 0 by omega)
  have h4 := Int.emod_lt_of_pos (r + m) (show (0 : Int) < m by omega)
  refine ⟨r, ((r + m) % m).toNat, hr.symm, h2, h1, ?_, by omega, by omega⟩
  rw [Int.tmod_eq_emod_of_nonneg (by omega)]
  omega

set_option maxHeartbeats 4000000 in
set_option maxRecDepth 8000 in
theorem topmwcas_any {W : World} {T : Nat → Nat} (hT : NTab W T) {ha pa ca sa : Option Addr} {hn hc pc cn cc sn sc : Nat} {zs : List Int} {after again : Int} (hh : Helps W ha hn) (hp : Nums W pa zs) (hpc : zs.length ≤ pc) (hpm : pc ≤ 140737488351232) (hch : Chs W ca cn) (hcc : cn ≤ cc) (hcm : cc ≤ 140737488351232) (hca : ca = none → cn = 0)
    (hpa : pa = none → pc = 0) (hhn : hn ≤ 140737488351232)
    (haf : -9223372036854775808 ≤ after ∧ after ≤ 9223372036854775807) (hag : -9223372036854775808 ≤ again ∧ again ≤ 9223372036854775807) :
    Calls Tryz.prog 3 #[.slice ha hn hc, .slice pa zs.length pc, .agg #[.int .i64 after, .int .i64 again, .slice ca cn cc, .slice sa sn sc]] W (TmPost W) := by
  obtain ⟨r1, n1, e1, r1a, r1b, e2, e3, n1b⟩ := mod_pos again 5 (by omega)
  obtain ⟨r2, n2, e4, r2a, r2b, e5, e6, n2b⟩ := mod_pos after 200 (by omega)
  replace e1 : again.tmod 5 = r1 := e1
  replace e2 : (r1 + 5).tmod 5 = n1 := e2
  replace e3 : (r1 + 5) % 5 = n1 := e3
  replace e4 : after.tmod 200 = r2 := e4
  replace e5 : (r2 + 200).tmod 200 = n2 := e5
  replace e6 : (r2 + 200) % 200 = n2 := e6
  replace r1a : -5 < r1 := r1a
  replace r1b : r1 < 5 := r1b
  replace r2a : -200 < r2 := r2a
  replace r2b : r2 < 200 := r2b
  obtain ⟨n, hnn⟩ : ∃ n, n = 2 + n1 := ⟨_, rfl⟩
  have e7 : (2 : Int) + n1 = n := by omega
  have hn26 : 2 ≤ n ∧ n ≤ 6 := by omega
  have HNN := Lib.hid hn26
  have n2' : (2 : Int) ≤ n := by omega
  have n6' : (n : Int) ≤ 6 := by omega
  clear hnn hn26
  have HT := Lib.hid hT; have HH := Lib.hid hh; have HP := Lib.hid hp; have HCH := Lib.hid hch; have HPC := Lib.hid (And.intro hpc hpm); have HCC := Lib.hid (And.intro hcc hcm); have HCA := Lib.hid hca; have HPA := Lib.hid hpa
  have E4 := Lib.hid (And.intro e4 (And.intro e5 e6)); have R2 := Lib.hid (And.intro r2a (And.intro r2b n2b))
  have HSU := Lib.hid (fun (w : World) (vb : Nat) (h : NTab w T) (hv : Seen w vb 0 ((List.range 8).map u64)) => setup_any h hv)
  clear hT hh hp hch hpc hpm hcc hcm hca hpa e4 e5 e6 r2a r2b n2b
  go_enter Tryz.func3, Tryz.ntmps3
  go_wp2_with fail
  have hbv : Below W.heap.size W ((W.alloc (.cells #[.int .i64 after, .int .i64 again, .slice ca cn cc, .slice sa sn sc] 26)).alloc (.cells #[.int .u64 0, .int .u64 1, .int .u64 2, .int .u64 3, .int .u64 4, .int .u64 5, .int .u64 6, .int .u64 7] 31)) := below_alloc (below_alloc (Below.refl _ _))
  have hfb := ha10 W (.cells #[.int .i64 after, .int .i64 again, .slice ca cn cc, .slice sa sn sc] 26) (.cells #[.int .u64 0, .int .u64 1, .int .u64 2, .int .u64 3, .int .u64 4, .int .u64 5, .int .u64 6, .int .u64 7] 31)
  have hvb := ha11 W (.cells #[.int .i64 after, .int .i64 again, .slice ca cn cc, .slice sa sn sc] 26) (.cells #[.int .u64 0, .int .u64 1, .int .u64 2, .int .u64 3, .int .u64 4, .int .u64 5, .int .u64 6, .int .u64 7] 31)
  obtain ⟨W0, hW0⟩ : ∃ W0, W0 = ((W.alloc (.cells #[.int .i64 after, .int .i64 again, .slice ca cn cc, .slice sa sn sc] 26)).alloc (.cells #[.int .u64 0, .int .u64 1, .int .u64 2, .int .u64 3, .int .u64 4, .int .u64 5, .int .u64 6, .int .u64 7] 31)) := ⟨_, rfl⟩
  rw [← hW0] at hbv hfb hvb ⊢
  have hse : Seen W0 (W.heap.size + 1) 0 ((List.range 8).map u64) := by
    intro j u hj
    rw [Nat.zero_add, cell_block hvb]
    have hj8 := (List.getElem?_eq_some_iff.1 hj).1
    have : j < 8 := by simpa using hj8
    have h8 : j = 0 ∨ j = 1 ∨ j = 2 ∨ j = 3 ∨ j = 4 ∨ j = 5 ∨ j = 6 ∨ j = 7 := by omega
    rcases h8 with rfl | rfl | rfl | rfl | rfl | rfl | rfl | rfl <;> exact hj
  have HBV := Lib.hid hbv; have HFB := Lib.hid hfb; have HSE := Lib.hid hse
  clear hbv hfb hvb hse hW0
  refine (HSU.out _ _ (HT.out.below HBV.out (Nat.le_refl _)) HSE.out).mono ?_
  rintro e W1 ⟨A, B0, F0, G0, rfl, hmw0, hb0, hlo0, hnb0⟩
  have hbW1 := hb0
  have hfb1 : W1.heap[W.heap.size]? = some (.cells #[.int .i64 after, .int .i64 again, .slice ca cn cc, .slice sa sn sc] 26 (0, 0)) := (hb0.block _ (heap_lt HFB.out)).trans HFB.out
  have hlo1 : ∀ b, F0 b ≠ none ∨ G0 b ≠ none → W0.heap.size ≤ b := hlo0
  have HMW0 := Lib.hid hmw0; have HBW1 := Lib.hid hbW1; have HFB1 := Lib.hid hfb1; have HLO1 := Lib.hid hlo1; have HNB0 := Lib.hid hnb0
  clear hmw0 hb0 hlo0 hnb0 hbW1 hfb1 hlo1 HSU HSE
  unfold ptr at *
  go_wp2_with fail
  go_loopw [10, 37] (fun v i wl => EsRel W1 n v i wl) (fun _ i _ => n - (intOf i).toNat)
  case atStart => exact ⟨0, by omega, rfl, World.ownsRow_nil _ _ _ _, Below.refl _ _⟩
  case round =>
    obtain ⟨k, hk, rfl, hown, hbel⟩ := hrel
    by_cases hlt : k < n
    · have hlt2 : (k : Int) < n := by omega
      obtain ⟨j, hj⟩ : ∃ j, j = n - 1 - k := ⟨_, rfl⟩
      have ej : (n : Int) - 1 - k = j := by omega
      have hj6 : j < 6 := by have := HNN.out; omega
      have bj : (j : Int) < 6 := by omega
      have HOF := Lib.hid (off_any (w := wr) (i := j) (by omega))
      have HDN := Lib.hid (dnew_any (w := wr) (i := j) (by omega))
      obtain ⟨va, vc, hv⟩ := own_slice hown
      subst hv
      have htk := mainEs_take hlt
      rw [← hj] at htk
      have HTK := Lib.hid htk; have HOW := Lib.hid hown; have HB := Lib.hid hbel
      have hk6 : k ≤ 6 := by have := HNN.out; omega
      clear hown hbel htk hj
      go_wp2_with fail
      refine HOF.out.mono ?_
      rintro e w1 ⟨rfl, rfl⟩
      go_wp2_with fail
      refine HDN.out.mono ?_
      rintro e w1 ⟨rfl, rfl⟩
      go_wp2_with (at_builtin; refine wpList_own1 elEntries rfl _ _ rfl HOW.out rfl rfl ?c1 rfl ?c2 ?c3 ?c4 ?c5 ?_)
      case c1 => rfl
      case c2 => exact ⟨rfl, rfl, rfl, rfl⟩
      case c3 => unfold maxLen; omega
      case c4 => omega
      case c5 => exact HB.out.size
      intro g4 cap4 w4 hop4 hgr4 hg4
      have G := Lib.hid (show EsRel W1 n (.slice (some ⟨g4, 0, none⟩) (k + 1) cap4) (.int .i64 ((k + 1 : Nat) : Int)) w4 from ⟨k + 1, by omega, rfl, by rw [HTK.out, encells_snoc]; exact hop4, below_grown HB.out hgr4 HB.out.size (fun b hb => (HOW.out.lt b hb).1)⟩)
      clear hop4 hgr4 hg4
      go_wp2_with fail
      go_roundw
      case rel => simpa using G.out
      case measure => simp [intOf]; omega
    · obtain rfl : k = n := by omega
      have htk : (mainEs k).take k = mainEs k := List.take_of_length_le (by rw [mainEs_len]; exact Nat.le_refl _)
      rw [htk] at hown
      obtain ⟨g, cap, hv, hcap⟩ : ∃ g cap, u10 = .slice (some ⟨g, 0, none⟩) k cap ∧ k ≤ cap := by
        rcases hown.2 with ⟨_, e⟩ | ⟨g, cap, cur, e, _, _, hc, _⟩
        · have := HNN.out; omega
        · exact ⟨g, cap, e, hc⟩
      subst hv
      obtain ⟨hmwr, mvr⟩ := HMW0.out.below hbel
      have hbg := begin_mw hmwr (by omega) HNB0.out (t := 0) (by omega) (set_ok.1.calm 0) (mainEs_new HNN.out) (seen_own hown) (ecap := cap) (by rw [mainEs_len]; exact hcap) (fun k hk => absurd hk (by omega)) rfl
      rw [mainEs_len] at hbg
      have HBG := Lib.hid hbg
      have HBR := Lib.hid (HBW1.out.trans (hbel.mono HBW1.out.size)); have HBE := Lib.hid hbel
      have qk : ¬ ((k : Int) < k) := by omega
      clear hbg hmwr mvr hown htk hbel hcap hk hlt
      unfold ptr at HBG
      go_wp2_with fail
      refine HBG.out.mono ?_
      rintro e W2 ⟨ord, B1, G1, rfl, hmw1, hord, hnb1, hp1, hoi1, hmv1⟩
      have hlo2 := HLO1.out
      have hst := TpSt.first HMW0.out HBW1.out hlo2 HNB0.out HNN.out (w1 := W2) hmw1 hord hnb1 hp1 (MMoved.trans (HMW0.out.below HBE.out).2 hmv1)
      have hcl : Below W0.heap.size W0 W2 := (below_mmoved HBR.out hlo2 hmv1).1
      have HST := Lib.hid hst; have HCL := Lib.hid hcl; have HP1 := Lib.hid hp1
      clear hmw1 hord hnb1 hp1 hoi1 hmv1 hlo2 hst hcl HBG
      have HRE := Lib.hid (show TpRel W0 A k hn B0.p (B1.o 0) W2.heap.size F0 (.slice (some ⟨W2.heap.size, 0, none⟩) 1 1) (.int .i64 (0 : Nat)) _ from ⟨0, 1, _, _, _, by omega, by omega, by omega, rfl, HST.out⟩)
      clear HST
      obtain ⟨X, hX⟩ : ∃ X, X = W2.heap.size := ⟨_, rfl⟩
      have HX := Lib.hid hX
      obtain ⟨o0, ho0⟩ : ∃ o0, o0 = B1.o 0 := ⟨_, rfl⟩
      obtain ⟨p0, hp0⟩ : ∃ p0, p0 = B0.p := ⟨_, rfl⟩
      unfold ptr mach at *
      go_upto_block 2 with fail
      rw [← hX, ← ho0, ← hp0] at HRE
      rw [← ho0, ← hp0]
      clear hX ho0 hp0
      go_cut [14] (fun v wx => TpCut W0 A k p0 o0 X F0 v wx)
      case first =>
        go_wp2_with fail
        go_loopw [14, 15] (fun v i wl => TpRel W0 A k hn p0 o0 X F0 v i wl) (fun _ i _ => 2 - (intOf i).toNat)
        case atStart => rw [← HX.out]; exact HRE.out
        case round =>
          obtain ⟨j, N, m, G, B, hj2, hjn, hNj, rfl, hst⟩ := hrel
          by_cases hlt : j < hn ∧ j < 2
          · obtain ⟨l1, l2⟩ := hlt
            have l1' : (j : Int) < hn := by omega
            have l2' : (j : Int) < 2 := by omega
            obtain ⟨hb, ho, wa, wn, wc, af, th, hha, c0, c1, c2, hth, hchs⟩ := HH.out j l1
            subst hha
            have hbl : hb < W.heap.size := World.block_lt_of_cell? _ _ c0
            have hbl0 : hb < W0.heap.size := Nat.lt_of_lt_of_le hbl HBV.out.size
            have k0 := ((hst.bel.cell (p := ⟨hb, ho + j * 3, none⟩) hbl0).trans (HBV.out.cell hbl)).trans c0
            have k1 := ((hst.bel.cell (p := ⟨hb, ho + j * 3 + 1, none⟩) hbl0).trans (HBV.out.cell hbl)).trans c1
            have k2 := ((hst.bel.cell (p := ⟨hb, ho + j * 3 + 2, none⟩) hbl0).trans (HBV.out.cell hbl)).trans c2
            have HHE := Lib.hid (helper_any (wc := wc) (af := af) hst.mw (by omega) hst.nb (by rw [hst.dev]; exact set_ok.1.L) (by rw [hst.dev]; exact set_ok.1.calm) HNN.out ((hchs.below HBV.out (Nat.le_refl _)).below hst.bel (Nat.le_refl _)) hst.b1 (hst.b2 N (Nat.le_refl _)) hth)
            have HST := Lib.hid hst
            have hBp := hst.p
            rw [hBp] at HHE
            clear hst c0 c1 c2 hchs hbl
            unfold ptr at HHE
            go_wp2_with fail
            refine HHE.out.mono ?_
            rintro e w3 (⟨rfl, hb3⟩ | ⟨o, rfl, hnew⟩)
            · have G2 := Lib.hid (show TpRel W0 A k hn p0 o0 X F0 u14 (.int .i64 ((j + 1 : Nat) : Int)) w3 from ⟨j + 1, N, m, G, B, by omega, by omega, by omega, rfl, HST.out.below hb3⟩)
              clear hb3
              go_wp2_with fail
              go_roundw
              case rel => simpa using G2.out
              case measure => simp [intOf]; omega
            · obtain ⟨m', G', B', hst', rfl⟩ := HST.out.new HNN.out (by omega) hnew
              have HST2 := Lib.hid hst'
              clear hst' hnew
              have hN3 : N ≤ 2 := by omega
              unfold ptr
              obtain ⟨o', hoo⟩ : ∃ o', o' = B'.o N := ⟨_, rfl⟩
              rw [← hoo]
              have HOO := Lib.hid hoo
              clear hoo
              go_wp2_with (at_builtin; refine wpList_own1 elMachs rfl _ _ rfl HST2.out.own rfl rfl ?c1 rfl ?c2 ?c3 ?c4 ?c5 ?_)
              case c1 => rfl
              case c2 => rfl
              case c3 => unfold maxLen; omega
              case c4 => omega
              case c5 => exact HST2.out.x.2
              intro g4 cap4 w4 hop4 hgr4 hg4
              have G2 := Lib.hid (show TpRel W0 A k hn p0 o0 X F0 (.slice (some ⟨g4, 0, none⟩) (N + 1) cap4) (.int .i64 ((j + 1 : Nat) : Int)) w4 from ⟨j + 1, N + 1, m', G', B', by omega, by omega, by omega, rfl, HST2.out.app (by unfold mach; rw [← HOO.out]; exact hop4) hgr4 hg4⟩)
              clear hop4 hgr4 hg4
              go_wp2_with fail
              go_roundw
              case rel => simpa using G2.out
              case measure => simp [intOf]; omega
          · obtain ⟨g', cap', hv⟩ : ∃ g' cap', u14 = .slice (some ⟨g', 0, none⟩) N cap' := by
              rcases hst.own.2 with ⟨_, e⟩ | ⟨g', cap', cur, e, _⟩
              · have := hst.sz; omega
              · exact ⟨g', cap', e⟩
            subst hv
            have G2 := Lib.hid (show TpCut W0 A k p0 o0 X F0 (.slice (some ⟨g', 0, none⟩) N cap') wr from ⟨N, m, G, B, g', cap', rfl, hst⟩)
            clear hst
            by_cases l1 : j < hn
            · have l1' : (j : Int) < hn := by omega
              have l2' : ¬ (j : Int) < 2 := by omega
              have d1 : decide ((j : Int) < hn) = true := decide_eq_true l1'
              have d1' : decide (j < hn) = true := decide_eq_true l1
              have d2 : decide ((j : Int) < 2) = false := decide_eq_false l2'
              go_wp2_with fail
              go_meet
              exact G2.out
            · have l1' : ¬ (j : Int) < hn := by omega
              have d1 : decide ((j : Int) < hn) = false := decide_eq_false l1'
              have d1' : decide (j < hn) = false := decide_eq_false l1
              go_wp2_with fail
              go_meet
              exact G2.out
      case rest =>
        obtain ⟨N, m, G, B, g', cap', rfl, hst⟩ := hcut
        obtain ⟨W3, rfl⟩ : ∃ W3, W3 = wc := ⟨_, rfl⟩
        have HST := Lib.hid hst
        have hpl : (zs.length : Int) ≤ pc := by have := HPC.out; omega
        have hpm : (pc : Int) ≤ 140737488351232 := by have := HPC.out; omega
        clear hst HRE HCL HX
        go_upto_if 97 with fail
        go_cut [1] (fun v wx => (∃ ys, v = .slice pa ys.length pc ∧ Nums W pa ys ∧ ys.length ≤ 300) ∧ wx = W3)
        case first =>
          by_cases h3 : 300 < zs.length
          · have d1 : (300 : Int) < zs.length := by omega
            have d2 : (300 : Int) ≤ pc := by omega
            obtain ⟨a, rfl⟩ : ∃ a, pa = some a := by
              cases pa with
              | none => have := HPA.out rfl; omega
              | some a => exact ⟨a, rfl⟩
            have G2 := Lib.hid (show ∃ ys : List Int, (.slice (some a) 300 pc : Value) = .slice (some a) ys.length pc ∧ Nums W (some a) ys ∧ ys.length ≤ 300 from ⟨zs.take 300, by rw [List.length_take]; congr 1; omega, fun j z hz => HP.out j z (by rw [List.getElem?_take] at hz; split at hz; exact hz; cases hz), by rw [List.length_take]; omega⟩)
            clear h3
            go_wp2_with fail
            go_meet
            exact ⟨G2.out, rfl⟩
          · have d1 : ¬ (300 : Int) < zs.length := by omega
            have G2 := Lib.hid (show ∃ ys : List Int, (.slice pa zs.length pc : Value) = .slice pa ys.length pc ∧ Nums W pa ys ∧ ys.length ≤ 300 from ⟨zs, rfl, HP.out, by omega⟩)
            clear h3
            go_wp2_with fail
            go_meet
            exact ⟨G2.out, rfl⟩
        case rest =>
          obtain ⟨⟨ys, rfl, hnum, hl⟩, hw⟩ := hcut
          rw [hw]
          clear hw
          have HNU := Lib.hid hnum; have HYL := Lib.hid hl
          obtain ⟨e4, e5, e6⟩ := E4.out
          obtain ⟨r2a, r2b, n2b⟩ := R2.out
          have hfb3 : W3.heap[W.heap.size]? = some (.cells #[.int .i64 after, .int .i64 again, .slice ca cn cc, .slice sa sn sc] 26 (0, 0)) := (HST.out.bel.block _ (heap_lt HFB.out)).trans HFB.out
          have f0 : W3.cell? ⟨W.heap.size, 0, none⟩ = some (.int .i64 after) := (cell_block hfb3).trans rfl
          have HAR := Lib.hid (arm_dev HST.out.mw.dev n2 (by omega) (by rw [HST.out.dev]; exact set_ok.1.off))
          clear hnum hl hfb3
          unfold ptr Dv.i64 at HAR
          go_wp2_with fail
          refine HAR.out.mono ?_
          rintro e W4 ⟨rfl, hd4, hm4⟩
          obtain ⟨m4, hmw4, htb4, hI4, hr4, hM4, hex4, hb4⟩ := HST.out.armed HNN.out (HT.out.below HBV.out (Nat.le_refl _)) hd4 hm4
          have hlow : ∀ b, b < W0.heap.size → F0 b = none ∧ G b = none := fun b hb => by
            constructor
            · cases e : F0 b with
              | none => rfl
              | some q => have := HST.out.lo b (.inl (by rw [e]; simp)); omega
            · cases e : G b with
              | none => rfl
              | some q => have := HST.out.lo b (.inr (by rw [e]; simp)); omega
          have hpk : Picks W4 F0 G pa ys := fun j z hz => by
            obtain ⟨z1, z2, b, o, hpa, hc⟩ := HNU.out j z hz
            have hbl : b < W.heap.size := World.block_lt_of_cell? _ _ hc
            have hbl0 : b < W0.heap.size := Nat.lt_of_lt_of_le hbl HBV.out.size
            refine ⟨z1, z2, b, o, hpa, ?_, (hlow b hbl0).1, (hlow b hbl0).2⟩
            rw [hb4.cell (p := ⟨b, o + j, none⟩) hbl0, HBV.out.cell (p := ⟨b, o + j, none⟩) hbl]
            exact hc
          have HRU := Lib.hid (run_sch (mc := cap') hmw4 htb4 hI4 hr4 hM4 (pc := pc) hpk HYL.out hex4)
          have HB4 := Lib.hid hb4
          clear hd4 hm4 hmw4 htb4 hI4 hr4 hM4 hex4 hb4 hlow hpk HAR f0 e4 e5 e6 r2a r2b n2b
          go_wp2_with fail
          refine HRU.out.mono ?_
          rintro e W5 ⟨v5, m5, F5, G5, rfl, hmw5, mv5, hI5, hex5⟩
          obtain ⟨hb5, hlo5⟩ := below_mmoved HB4.out HST.out.lo mv5
          have h0N : 0 < N := by have := HST.out.sz; omega
          have HEN := Lib.hid (ended_mw hmw5 h0N)
          have HER := Lib.hid (operr_mw hmw5 h0N)
          have hok := fun h1 h2 => opok_mw hmw5 h0N h1 h2 (hI5.main.1 (hI5.main.2 h1 h2)).2
          have ho0 := HST.out.o
          rw [ho0] at HEN HER hok
          obtain ⟨en, hen⟩ : ∃ en, en = (m5.op 0).ended := ⟨_, rfl⟩
          obtain ⟨er, her⟩ : ∃ er, er = (m5.op 0).err := ⟨_, rfl⟩
          rw [← hen] at HEN hok
          rw [← her] at HER hok
          have HOK := Lib.hid hok; have HMW5 := Lib.hid hmw5; have HI5 := Lib.hid hI5; have HB5 := Lib.hid hb5; have HEE := Lib.hid (And.intro hen her)
          clear hmw5 mv5 hI5 hex5 hb5 hlo5 hok ho0 hen her HRU h0N
          unfold ptr at HEN HER HOK
          go_upto_region 25 with fail
          go_cut [17] (fun v wx => v = .bool (en && decide (er = 0)) ∧ wx = W5)
          case first =>
            cases en with
            | false =>
              go_wp2_with fail
              refine HEN.out.mono ?_
              rintro e w' ⟨rfl, rfl⟩
              go_wp2_with fail
              go_meet
              exact ⟨rfl, rfl⟩
            | true =>
              by_cases he : er = 0
              · have d1 : ((er : Int) == 0) = true := by rw [beq_iff_eq]; omega
                have d2 : (true && decide (er = 0)) = true := by rw [decide_eq_true he]; rfl
                have HD := Lib.hid d2
                clear he d2
                go_wp2_with fail
                refine HEN.out.mono ?_
                rintro e w' ⟨rfl, rfl⟩
                go_wp2_with fail
                refine HER.out.mono ?_
                rintro e w' ⟨rfl, rfl⟩
                go_wp2_with fail
                go_meet
                exact ⟨by rw [HD.out], rfl⟩
              · have d1 : ((er : Int) == 0) = false := beq_eq_false_iff_ne.2 (by omega)
                have d2 : (true && decide (er = 0)) = false := by rw [decide_eq_false he]; rfl
                have HD := Lib.hid d2
                clear he d2
                go_wp2_with fail
                refine HEN.out.mono ?_
                rintro e w' ⟨rfl, rfl⟩
                go_wp2_with fail
                refine HER.out.mono ?_
                rintro e w' ⟨rfl, rfl⟩
                go_wp2_with fail
                go_meet
                exact ⟨by rw [HD.out], rfl⟩
          case rest =>
            obtain ⟨rfl, hw⟩ := hcut
            rw [hw]
            clear hw HEN HER
            obtain ⟨eb, heb⟩ : ∃ eb, eb = (en && decide (er = 0)) := ⟨_, rfl⟩
            rw [← heb]
            have HEB := Lib.hid heb
            clear heb
            go_upto_region 26 with fail
            go_cut [122] (fun v wx => v = .bool false ∧ wx = W5)
            case first =>
              cases eb with
              | false =>
                go_wp2_with fail
                go_meet
                exact ⟨rfl, rfl⟩
              | true =>
                have h2 : en = true ∧ er = 0 := by
                  have := HEB.out.symm
                  rw [Bool.and_eq_true] at this
                  exact ⟨this.1, of_decide_eq_true this.2⟩
                have HO2 := Lib.hid (HOK.out h2.1 h2.2)
                clear h2
                go_wp2_with fail
                refine HO2.out.mono ?_
                rintro e w' ⟨rfl, rfl⟩
                go_wp2_with fail
                go_meet
                exact ⟨rfl, rfl⟩
            case rest =>
              obtain ⟨rfl, hw⟩ := hcut
              rw [hw]
              clear hw HOK
              have HSH := Lib.hid (short_any (w := W5) (cn := cn) (cc := cc) HCC.out.1 HCC.out.2 HCA.out)
              have hfb5 : W5.heap[W.heap.size]? = some (.cells #[.int .i64 after, .int .i64 again, .slice ca cn cc, .slice sa sn sc] 26 (0, 0)) := (HB5.out.block _ (heap_lt HFB.out)).trans HFB.out
              have f2 : W5.cell? ⟨W.heap.size, 2, none⟩ = some (.slice ca cn cc) := (cell_block hfb5).trans rfl
              clear hfb5
              go_wp2_with fail
              refine HSH.out.mono ?_
              rintro e w' ⟨rfl, kk, cc', rfl, hkk⟩
              have hch5 := (((HCH.out.below HBV.out (Nat.le_refl _)).below HB5.out (Nat.le_refl _)).le hkk)
              have HCR := Lib.hid (crash_dev (cc := cc') HMW5.out.dev hch5)
              clear hch5 hkk f2 HSH
              unfold ptr at HCR
              go_wp2_with fail
              refine HCR.out.mono ?_
              rintro e W6 ⟨v, c, rfl, hcut, A2, F6, rfl, hd6, hb6, hF6⟩
              obtain ⟨D, hok, hde, b, hbe, hval⟩ := HI5.out.crashed hcut
              rw [← HEE.out.1, ← HEE.out.2, ← HEB.out] at hbe
              have hL2 : (m5.dev.after c).L = 40 := HI5.out.L
              have hx2 : (m5.dev.after c).ex = 0 := rfl
              obtain ⟨s2, hs2⟩ : ∃ s2, s2 = m5.dev.after c := ⟨_, rfl⟩
              rw [← hs2] at hd6 hok hde hval hL2 hx2
              have hT6 : NTab W6 T := (HT.out.below HBV.out (Nat.le_refl _)).below (HB5.out.trans (hb6.mono HB5.out.size)) (Nat.le_refl _)
              have HOP := Lib.hid (open_any hd6 hT6 hok.L hde)
              have HOKR := Lib.hid hok; have HDE := Lib.hid hde; have HVA := Lib.hid hval; have HBE2 := Lib.hid hbe; have HLX := Lib.hid (And.intro hL2 hx2); have HT6 := Lib.hid hT6; have HB6 := Lib.hid hb6; have HF6 := Lib.hid hF6
              clear hcut hok hde hbe hval hL2 hx2 hs2 hT6 hd6 hb6 hF6 HCR HMW5 HI5 HEE HEB
              unfold ptr at HOP ⊢
              go_wp2_with fail
              refine HOP.out.mono ?_
              rintro e W7 ⟨B7, G7, rfl, hmw7, hb7, hG7, hnb7⟩
              have HRC := Lib.hid (recover_mw hmw7 (HT6.out.below hb7 (Nat.le_refl _)) (t := 3) (by omega) HOKR.out hnb7 HDE.out (by rw [HLX.out.2]; omega))
              have HB7 := Lib.hid (HB6.out.trans (hb7.mono HB6.out.size))
              have HLO7 := Lib.hid (show ∀ q, F6 q ≠ none ∨ G7 q ≠ none → W5.heap.size ≤ q from fun q hq => by
                rcases hq with hq | hq
                · exact (HF6.out q hq).resolve_left (fun h => h)
                · have := hG7 q hq; have := HB6.out.size; omega)
              clear hmw7 hb7 hG7 hnb7 HOP
              unfold ptr at HRC ⊢
              go_wp2_with fail
              refine HRC.out.mono ?_
              rintro e W8 ⟨nn, rfl, F8, G8, hmw8, mv8⟩
              obtain ⟨hb8, _⟩ := below_mmoved HB7.out HLO7.out mv8
              have hd8 : Dev W8 A2 (recs s2 3 D 8) F8 := hmw8.dev
              have hca := recs_calm HOKR.out 8 (by omega)
              have HFO := Lib.hid (found_any hd8 hca.1.off (hca.2.1.trans HLX.out.1) (fun j hj => (HVA.out j hj).1))
              have HB8 := Lib.hid hb8
              clear hmw8 mv8 hd8 hca hb8 HRC
              unfold ptr at HFO
              go_wp2_with fail
              refine HFO.out.mono ?_
              rintro e W9 ⟨g9, c9, rfl, hse9, hb9⟩
              have hce : ∀ j, j < 8 → W9.cell? ⟨g9, j, none⟩ = some (.int .u64 (newV k b j : Nat)) := by
                intro j hj
                have h1 := hse9 j (Dv.u64 (newV k b j)) (by
                  unfold uc vals
                  rw [List.getElem?_map, List.getElem?_map, List.getElem?_range hj]
                  exact congrArg (fun z => some (Dv.u64 z)) (HVA.out j hj).2)
                rw [Nat.zero_add] at h1
                exact h1
              have GEN := Lib.hid (show TmPost W (.returned (.bool true)) W9 from ⟨rfl, HBV.out.trans ((HB5.out.trans ((HB8.out.trans (hb9.mono HB8.out.size)).mono HB5.out.size)).mono HBV.out.size)⟩)
              have HCE := Lib.hid hce
              clear hse9 hb9 hce HFO
              go_wp2_with fail
              go_loop [20, 149] (fun c i => FlRel k b c i) (fun _ i => 8 - (intOf i).toNat)
              case atStart => exact ⟨0, by omega, rfl, by unfold cnt; cases b <;> simp⟩
              case round =>
                obtain ⟨j, hj8, rfl, rfl⟩ := hrel
                by_cases hlt : j < 8
                · have hlt2 : (j : Int) < 8 := by omega
                  have c1 := HCE.out j hlt
                  by_cases hbj : b = true ∧ j < k
                  · have hx : newV k b j = 100 + j := by unfold newV; rw [if_pos hbj]
                    have hcn : cnt k b (j + 1) = cnt k b j + 1 := by unfold cnt; rw [if_pos hbj.1, if_pos hbj.1]; omega
                    rw [hx] at c1
                    have hx2 : ((100 + j : Nat) : Int) = 100 + (j : Int) := by omega
                    rw [hx2] at c1
                    have HDN := Lib.hid (dnew_any (w := W9) (i := j) (by omega))
                    rw [hx2] at HDN
                    have hjk : (j : Int) < k := by have := hbj.2; omega
                    have dj : decide ((j : Int) < k) = true := decide_eq_true hjk
                    have dj2 : decide (j < k) = true := decide_eq_true hbj.2
                    have dx : ((100 + (j : Int)) == (j : Int)) = false := beq_eq_false_iff_ne.2 (by omega)
                    have hc6 : cnt k b j ≤ 8 := by unfold cnt; split <;> omega
                    obtain ⟨q, hq⟩ : ∃ q, q = cnt k b j := ⟨_, rfl⟩
                    rw [← hq] at hcn hc6 ⊢
                    have G2 := Lib.hid (show FlRel k b (.int .i64 ((q + 1 : Nat) : Int)) (.int .i64 ((j + 1 : Nat) : Int)) from ⟨j + 1, by omega, rfl, by rw [hcn]⟩)
                    clear hbj hx hcn hx2 hq
                    go_wp2_with fail
                    refine HDN.out.mono ?_
                    rintro e w' ⟨rfl, rfl⟩
                    go_wp2_with fail
                    go_round
                    case rel => simpa using G2.out
                    case measure => simp [intOf]; omega
                  · have hx : newV k b j = j := by unfold newV; rw [if_neg hbj]
                    have hcn : cnt k b (j + 1) = cnt k b j := by
                      unfold cnt
                      split
                      · rename_i hb; have : ¬ j < k := fun h => hbj ⟨hb, h⟩; omega
                      · rfl
                    rw [hx] at c1
                    have hc6 : cnt k b j ≤ 8 := by unfold cnt; split <;> omega
                    obtain ⟨q, hq⟩ : ∃ q, q = cnt k b j := ⟨_, rfl⟩
                    rw [← hq] at hcn hc6 ⊢
                    have G2 := Lib.hid (show FlRel k b (.int .i64 (q : Nat)) (.int .i64 ((j + 1 : Nat) : Int)) from ⟨j + 1, by omega, rfl, by rw [hcn]⟩)
                    have hq8 : (q : Int) ≤ 8 := by omega
                    clear hbj hx hcn hq
                    go_wp2_with fail
                    go_round
                    case rel => simpa using G2.out
                    case measure => simp [intOf]; omega
                · obtain rfl : j = 8 := by omega
                  have d8 : ¬ ((8 : Int) < 8) := by decide
                  have hn26 := HNN.out
                  cases b with
                  | true =>
                    have hcn : cnt k true 8 = k := by unfold cnt; simp; omega
                    rw [hcn]
                    have dk : ((k : Int) == (k : Int)) = true := by simp
                    clear hcn hn26
                    go_wp2_with fail
                    go_returns
                    exact GEN.out
                  | false =>
                    have hcn : cnt k false 8 = 0 := by unfold cnt; simp
                    rw [hcn]
                    have hebf : eb = false := by
                      cases eb with
                      | false => rfl
                      | true => have := HBE2.out rfl; cases this
                    subst hebf
                    have dk : ((0 : Int) == (k : Int)) = false := beq_eq_false_iff_ne.2 (by omega)
                    have dk2 : ¬ (0 : Int) = k := by omega
                    clear hcn hn26
                    go_wp2_with fail
                    go_returns
                    exact GEN.out
end Go.Proofs.YtjoipeojenfiiaaGreatDoor.Dv
