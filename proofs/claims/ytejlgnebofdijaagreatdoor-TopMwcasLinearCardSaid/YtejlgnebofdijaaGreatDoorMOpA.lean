/-
  Open, Free of the package mwcas.
  Open, Free of the package mwcas: the walks.
  Format of the package mwcas.
  A device that is not armed executes every valid instruction; the plain effect of Recover.
  Recover of the package mwcas: the walk.
-/
import Derived.Test.YtejlgnebofdijaaGreatDoorMOp2
import Derived.Test.YtejlgnebofdijaaGreatDoorMMw5
import Derived.Test.YtejlgnebofdijaaGreatDoorMMop9
namespace Go.Proofs.YtejlgnebofdijaaGreatDoor.Dv
open Go.RowKit
set_option linter.unusedVariables false
attribute [local go_sem ↓] Go.wp_at_zero Go.wp_at_succ

/-- Descriptor k holds the entries es; none: it is unused. -/
def Desc (T : Nat → Nat) (Lr S : Nat) (val : Nat → Nat) (k : Nat) (es : List En) : Prop :=
  (es = [] ∧ val (32 * k) = unusedW) ∨ (EsOk Lr S es ∧ val (32 * k) = sst es.length (crcW T (ewords es)) ∧ ∀ i x, (ewords es)[i]? = some x → val (32 * k + 8 + i) = x)
theorem read_desc {w : World} {Lr S k fn : Nat} {first cap : Array Value} {val : Nat → Nat} {T : Nat → Nat} {es : List En} (hl : Loads w fn first cap S val) (hT : NTab w T) (hS : 256 * k + 256 ≤ S) (hd : Desc T Lr S val k es) :
    Calls Tryz.prog 55 #[rgn Lr S, .func (.func fn) first cap, u64 (256 * k)] w (RdPost w es) := by
  have e8 : 256 * k / 8 = 32 * k := by omega
  rcases hd with ⟨rfl, hv⟩ | ⟨he, hv, hw⟩
  · refine (read_unused hl (by omega) (by omega) (by rw [e8]; exact hv)).mono ?_
    rintro e w' ⟨rfl, hb⟩
    exact ⟨none, 0, 0, .slice none 0 0, rfl, World.ownsRow_nil _ _ _ _, hb⟩
  · refine (read_succ hl hT (by omega) hS he (by rw [e8]; exact hv) (fun i x hx => by rw [e8]; exact hw i x hx)).mono ?_
    rintro e w' ⟨ea, en, ec, vw, rfl, ho, hb⟩
    have : phs es = 3 := by
      unfold phs
      rw [if_neg]
      intro e
      have := he.n
      rw [e] at this
      simp at this
    exact ⟨ea, en, ec, vw, by rw [this]; rfl, ho, hb⟩

theorem all_desc {w : World} {S fn : Nat} {first cap : Array Value} {val : Nat → Nat} {T : Nat → Nat} {D : Nat → List En} (hl : Loads w fn first cap S val) (hT : NTab w T) (hS : 6144 ≤ S) (hd : ∀ k, k < 24 → Desc T 96 S val k (D k)) :
    Calls Tryz.prog 25 #[rgn 96 S, .func (.func fn) first cap] w (AlPost w D 24) := by
  refine all_any (Lr := 96) (by omega) hl.small (fun w1 k hb hk => ?_)
  exact read_desc (hl.below hb) (hT.below hb (Nat.le_refl _)) (by omega) (hd k hk)

def opz : OpS := ⟨0, 0, [], [], [], 0, 0, [], false, false, false, 0, none, 0, 0⟩
/-- A pool without operations. -/
def ms0 (s : DSt) : MS := ⟨s, none, fun _ => false, fun _ => opz⟩
def bools24 : Array Value := madeCells (Value.bool false).cells 24
theorem bools24_get {x : Nat} (h : x < 24) : bools24[x]? = some (.bool false) := by
  unfold bools24 madeCells
  rw [Array.getElem?_map, Array.getElem?_range, if_pos h]
  simp [Value.cells, Nat.mod_one]
def OpenPost (w : World) (A : DAd) (s : DSt) (F : Nat → Option Role) (e : Ending) (w' : World) : Prop :=
  ∃ B G, e = .returned (.tuple #[ptr B.p, .int .i64 0]) ∧ MW w' A B 96 0 (ms0 s) F G ∧ Below w.heap.size w w' ∧ (∀ b, G b ≠ none → w.heap.size ≤ b) ∧ B.nb = 24

theorem open_mw {w w' : World} {A : DAd} {s : DSt} {F : Nat → Option Role} (h : Dev w A s F) (hb : Below w.heap.size w w') {p bz : Nat} (hs : 96 ≤ s.L) (hne : p ≠ bz) (hp : w.heap.size ≤ p) (hz : w.heap.size ≤ bz)
    (hpb : w'.heap[p]? = some (.cells #[ptr A.d, .int .i64 0, .int .i64 96, .int .u64 ((64 * s.L : Nat) : Int), .slice (some ⟨bz, 0, none⟩) 24 24, .pointer none] 95 (0, 0)))
    (hbb : w'.heap[bz]? = some (.cells bools24 4 (0, 0))) :
    OpenPost w A s F (.returned (.tuple #[ptr p, .int .i64 0])) w' := by
  have fn : ∀ b, w.heap.size ≤ b → F b = none := fun b hb => by
    cases e : F b with
    | none => rfl
    | some q => have := h.lt b (by rw [e]; simp); omega
  refine ⟨⟨p, bz, 24, fun _ => 0, fun _ => 0, fun _ => 0, fun _ => 0, fun _ => 0, fun _ => 0, fun _ => 0⟩, upd (upd (fun _ => none) p (some (0, 0))) bz (some (1, 0)), rfl, ?_, hb, ?_, rfl⟩
  · refine { dev := h.below hb, pool := ?_, busy := ?_, op := fun i hi => by omega, en := fun i hi => by omega, ord := fun i hi => by omega, se := fun i hi => by omega, gp := ?_, gb := upd_same _ _ _, go := fun i hi => by omega, ge := fun i hi => by omega, gr := fun i hi => by omega, gs := fun i hi => by omega, gf := ?_, ok := fun i hi => by omega, cur := fun c hc => (by cases hc), small := ?_ }
    · refine row_of_cells hpb (fun x hx => ?_)
      have : x = 0 ∨ x = 1 ∨ x = 2 ∨ x = 3 ∨ x = 4 ∨ x = 5 := by omega
      rcases this with rfl | rfl | rfl | rfl | rfl | rfl <;> rfl
    · refine row_of_cells hbb (fun x hx => ?_)
      exact bools24_get hx
    · dsimp only
      rw [upd_ne _ _ hne, upd_same]
    · intro b hgb
      by_cases e1 : b = bz
      · subst e1; exact ⟨fn _ hz, heap_lt hbb⟩
      · rw [upd_ne _ _ e1] at hgb
        by_cases e2 : b = p
        · subst e2; exact ⟨fn _ hp, heap_lt hpb⟩
        · rw [upd_ne _ _ e2] at hgb
          exact absurd rfl hgb
    · exact ⟨by omega, by dsimp only; omega, by omega, hs⟩
  · intro b hgb
    by_cases e1 : b = bz
    · omega
    · rw [upd_ne _ _ e1] at hgb
      by_cases e2 : b = p
      · omega
      · rw [upd_ne _ _ e2] at hgb
        exact absurd rfl hgb
end Go.Proofs.YtejlgnebofdijaaGreatDoor.Dv

namespace Go.Proofs.YtejlgnebofdijaaGreatDoor.Dv
open Go.RowKit
set_option linter.unusedVariables false
attribute [local go_sem ↓] Go.wp_at_zero Go.wp_at_succ

theorem infoBool : (Tryz.prog.info? 4).map (fun i => (i.zero, i.size, i.bytes)) = some (some (.bool false), 1, 1) := by kernel_rfl
theorem made_bools : madeCells (Value.bool false).cells 24 = bools24 := rfl

def FrRel2 (n : Nat) (c i : Value) : Prop := ∃ k : Nat, k ≤ n ∧ i = .int .i64 (k : Nat) ∧ c = .int .i64 (k : Nat)
theorem free_mw {w : World} {A : DAd} {B : MAd} {Lr N : Nat} {m : MS} {F G : Nat → Option Role} (h : MW w A B Lr N m F G) (hf : ∀ k, k < B.nb → m.busy k = false) :
    Calls Tryz.prog 29 #[ptr B.p] w fun r w' => r = .returned (.int .i64 B.nb) ∧ w = w' := by
  have c4 : w.cell? ⟨B.p, 4, none⟩ = some (.slice (some ⟨B.busy, 0, none⟩) B.nb B.nb) := h.pool.cell 4 (by omega)
  have hb : ∀ k, k < B.nb → w.cell? ⟨B.busy, k, none⟩ = some (.bool false) := fun k hk => by rw [h.busy.cell k hk, hf k hk]
  have b1 : (B.nb : Int) ≤ 1000 := by have := h.small; omega
  have HB := Lib.hid hb
  obtain ⟨n, hn⟩ : ∃ n, n = B.nb := ⟨_, rfl⟩
  rw [← hn] at HB b1 c4 ⊢
  clear h hf hb hn
  unfold ptr
  go_enter Tryz.func29, Tryz.ntmps29
  go_wp2_with fail
  go_loop [3, 13] (fun c i => FrRel2 n c i) (fun _ i => n - (intOf i).toNat)
  case atStart => exact ⟨0, by omega, rfl, rfl⟩
  case round =>
    obtain ⟨k, hk, rfl, rfl⟩ := hrel
    by_cases hlt : k < n
    · have hlt2 : (k : Int) < n := by omega
      have c1 := HB.out k hlt
      clear hk
      go_wp2_with fail
      go_round
      case rel => exact ⟨k + 1, by omega, rfl, rfl⟩
      case measure => simp [intOf]; omega
    · obtain rfl : k = n := by omega
      go_wp2_with fail
      go_returns
      exact ⟨rfl, rfl⟩

set_option maxHeartbeats 4000000 in
set_option maxRecDepth 8000 in
theorem open_any {w : World} {A : DAd} {s : DSt} {F : Nat → Option Role} {T : Nat → Nat} {D : Nat → List En} (h : Dev w A s F) (hT : NTab w T) (hs : 96 ≤ s.L) (hd : ∀ k, k < 24 → Desc T 96 (64 * s.L) s.cur k (D k)) :
    Calls Tryz.prog 7 #[ptr A.d, .int .i64 0, .int .i64 96] w (OpenPost w A s F) := by
  have hL := h.ok.lines
  have HSZ := size_dev h
  have H := Lib.hid h; have HT := Lib.hid hT; have HD := Lib.hid hd
  obtain ⟨S, hS⟩ : ∃ S, S = 64 * s.L := ⟨_, rfl⟩
  rw [show s.L * 64 = S by omega] at HSZ
  rw [← hS] at HD
  have HS := Lib.hid hS
  have HZ := Lib.hid HSZ
  have b1 : (S : Int) ≤ 262144 := by omega
  have b2 : (6144 : Int) ≤ S := by omega
  have HV := Lib.hid (fun w1 => rvalid_any (w := w1) (Lr := 96) (S := S) (by omega) (by omega) (by omega))
  have HLI := Lib.hid hs
  have HC := Lib.hid (fun w1 => count_any (w := w1) (Lr := 96) (S := S) (by omega))
  have HFD := Lib.hid (show 6144 ≤ S ∧ S ≤ 1000000 ∧ S % 8 = 0 by omega)
  clear h hT hd hS HSZ hL hs
  unfold rgn ptr Dv.i64 at *
  go_enter Tryz.func7, Tryz.ntmps7
  go_wp2_with fail
  refine HZ.out.mono ?_
  rintro e w1 ⟨rfl, rfl⟩
  go_wp2_with fail
  refine (HV.out _).mono ?_
  rintro e W2 ⟨rfl, hb2⟩
  have hR2 : RgAt W2 w.heap.size 96 S := by
    refine RgAt.below (a := w.alloc (.cells #[.int .i64 0, .int .i64 96, .int .u64 S] 75)) ?_ hb2
    have hn := heap_alloc_new w (.cells #[.int .i64 0, .int .i64 96, .int .u64 S] 75)
    exact ⟨(cell_block hn).trans rfl, (cell_block hn).trans rfl, (cell_block hn).trans rfl⟩
  have hbw : Below w.heap.size w W2 := (below_alloc (Below.refl _ w)).trans (hb2.mono (by simp))
  have HB2 := Lib.hid hbw; have HR2 := Lib.hid hR2
  have HCU := Lib.hid (current_dev (H.out.below hbw))
  clear hb2 hR2 hbw
  unfold ptr at HCU
  go_wp2_with fail
  refine HCU.out.mono ?_
  rintro e W3 ⟨v, rfl, ⟨g, rfl, hrow, hgl⟩, hb3⟩
  rw [← HS.out] at hrow
  have HB3 := Lib.hid (HB2.out.trans (hb3.mono HB2.out.size)); have HR3 := Lib.hid (HR2.out.below hb3)
  have HROW := Lib.hid hrow
  rw [← HS.out]
  clear hb3 hrow hgl
  go_upto_region 8 with fail
  obtain ⟨W4, hW4⟩ : ∃ W4, W4 = W3.alloc (.cells #[.slice (some ⟨g, 0, none⟩) S S] 23) := ⟨_, rfl⟩
  have hb4 : Below W3.heap.size W3 W4 := by rw [hW4]; exact below_alloc (Below.refl _ _)
  have hc4 : W4.cell? ⟨W3.heap.size, 0, none⟩ = some (.slice (some ⟨g, 0, none⟩) S S) := by rw [hW4]; exact (cell_block (heap_alloc_new _ _)).trans rfl
  rw [← hW4]
  have HLO := loads_open hc4 (HROW.out.of_block (hb4.block _ HROW.out.lt)) (cur_lt (s := s) H.out.ok) HFD.out.2.2 HFD.out.2.1
  have HB4 := Lib.hid (HB3.out.trans (hb4.mono HB3.out.size)); have HR4 := Lib.hid (HR3.out.below hb4)
  have HAL := Lib.hid (all_desc HLO (HT.out.below HB4.out (Nat.le_refl _)) HFD.out.1 HD.out)
  clear HLO hb4 hc4 hW4
  unfold ptr rgn at HAL
  obtain ⟨r0, r1, r2⟩ := id HR4.out
  go_wp2_with fail
  refine HAL.out.mono ?_
  rintro e W5 ⟨ve, vw, v, rfl, hrec⟩
  have HB5 := Lib.hid (HB4.out.trans (hrec.bel.mono HB4.out.size)); have HR5 := Lib.hid (HR4.out.below hrec.bel)
  obtain ⟨ra, rc, hv⟩ := own_slice hrec.own
  subst hv
  clear hrec r0 r1 r2
  go_upto_region 11 with fail
  obtain ⟨r0, r1, r2⟩ := id HR5.out
  have HR0 := Lib.hid (Below.refl W5.heap.size W5)
  have HCC := Lib.hid (fun w1 (hb : Below W5.heap.size W5 w1) => (show Calls Tryz.prog 18 #[.agg #[.int .i64 0, .int .i64 96, .int .u64 S]] w1 (fun e w' => e = .returned (.int .i64 24) ∧ Below W5.heap.size W5 w') from (HC.out w1).mono (fun e w' h => ⟨by rw [h.1]; rfl, hb.trans (h.2.mono hb.size)⟩)))
  have HH := Lib.hid (show Dev W5 A s F from H.out.below HB5.out)
  obtain ⟨i, hi, hz, hsz, hby⟩ := info_parts infoBool
  have hmk := fun V => run_make (P := Tryz.prog) V 92 4 i _ Tryz.underlying92 hi hz .i64 .i64 24 24 (by omega) (Int.le_refl _) (by rw [hby]; omega) (by omega)
  simp only [show (24 : Int).toNat = 24 from rfl, hsz, Nat.mul_one, made_bools] at hmk
  clear HC HV HZ HCU HAL hi hz hsz hby
  go_region_held3 (fun w' => w'.cell? ⟨w.heap.size, 0, none⟩ = some (.int .i64 0) ∧ w'.cell? ⟨w.heap.size, 1, none⟩ = some (.int .i64 96) ∧ w'.cell? ⟨w.heap.size, 2, none⟩ = some (.int .u64 S))
    (exact RgAt.below HR5.out (by repeat (first | assumption | exact HR0.out | apply below_alloc | apply below_drew | apply below_setc | exact Nat.le_refl _ | exact Below.size (by assumption))))
    (first
      | (go_at_call 18; refine (HCC.out _ (by repeat (first | assumption | exact HR0.out | apply below_alloc | apply below_drew))).mono ?_; rintro e V1 ⟨rfl, hb1⟩))
  obtain ⟨V2, hV2⟩ : ∃ V2, V2 = V1.alloc (.cells bools24 4) := ⟨_, rfl⟩
  have hbz : Below w.heap.size w (V2.alloc (.cells #[.pointer (some ⟨A.d, 0, none⟩), .int .i64 0, .int .i64 96, .int .u64 S, .slice (some ⟨V1.heap.size, 0, none⟩) 24 24, .pointer none] 95)) := by
    rw [hV2]
    exact below_alloc (below_alloc (HB5.out.trans (hb1.mono HB5.out.size)))
  have hz2 : V2.heap.size = V1.heap.size + 1 := by rw [hV2]; simp
  have hw1 : w.heap.size ≤ V1.heap.size := Nat.le_trans HB5.out.size hb1.size
  have G := Lib.hid (open_mw H.out hbz (p := V2.heap.size) (bz := V1.heap.size) HLI.out (by omega) (by omega) hw1 (by rw [heap_alloc_new, ← HS.out]; rfl) (by rw [heap_alloc_lt (by omega), hV2]; exact heap_alloc_new _ _))
  rw [hz2, hV2] at G
  clear hV2 hbz hz2 hw1
  unfold ptr at G
  go_wp2_with fail
  go_returns
  exact G.out
end Go.Proofs.YtejlgnebofdijaaGreatDoor.Dv

namespace Go.Proofs.YtejlgnebofdijaaGreatDoor.Dv
open Go.RowKit
set_option linter.unusedVariables false

/-- The stores of Format, the first k. -/
def fmtl (k : Nat) : List (Nat × Nat) := (List.range k).map (fun k => (256 * k, unusedW))
theorem fmtl_succ (k : Nat) : fmtl (k + 1) = fmtl k ++ [(256 * k, unusedW)] := by unfold fmtl; rw [List.range_succ, List.map_append]; rfl
theorem fmtl_length (k : Nat) : (fmtl k).length = k := by simp [fmtl]
theorem fmtl_up : Up ((fmtl 24).map (fun p => line p.1)) := by
  intro i j hij hj
  have hg : ∀ i, i < 24 → ((fmtl 24).map (fun p => line p.1)).getD i 0 = 256 * i := by decide +kernel
  have hj : j < 24 := by simpa [fmtl] using hj
  rw [hg i (by omega), hg j hj]
  omega
theorem fmtl_lt : ∀ p ∈ fmtl 24, p.1 < 18446744073709551616 ∧ p.2 < 18446744073709551616 := by decide +kernel

def FoRel (W : World) (v i : Value) (wr : World) : Prop := ∃ k : Nat, k ≤ 24 ∧ i = .int .i64 (k : Nat) ∧ wr.ownsRow W.heap.size 66 2 v k (wcells (fmtl k)) ∧ Below W.heap.size W wr
def FoPost (w : World) (A : DAd) (F : Nat → Option Role) (s : DSt) (t : Nat) (e : Ending) (w' : World) : Prop := e = .returned (i64 ((s.runs t (prog (fmtl 24))).err t)) ∧ Went w A F (s.runs t (prog (fmtl 24))) w'

set_option maxHeartbeats 4000000 in
set_option maxRecDepth 8000 in
theorem format_any {w : World} {A : DAd} {s : DSt} {F : Nat → Option Role} (h : Dev w A s F) {t : Nat} (ht : t < 8) (he : s.err t = 0) (hL : 96 ≤ s.L) (hex : s.ex + 100 ≤ 1000000) :
    Calls Tryz.prog 5 #[mthr (A.t t), .int .i64 0, .int .i64 96] w (FoPost w A F s t) := by
  have hl := h.ok.lines
  have HTS := tsize_dev h ht
  obtain ⟨S, hS⟩ : ∃ S, S = s.L * 64 := ⟨_, rfl⟩
  rw [← hS] at HTS
  have HZ := Lib.hid HTS
  have H := Lib.hid h
  have b1 : (S : Int) ≤ 262144 := by omega
  have b2 : (2048 : Int) ≤ S := by omega
  have HV := Lib.hid (fun w1 => rvalid_any (w := w1) (Lr := 96) (S := S) (by omega) (by omega) (by omega))
  have HC := Lib.hid (fun w1 => count_any (w := w1) (Lr := 96) (S := S) (by omega))
  have HAT := Lib.hid (fun w1 k (hk : k ≤ 1000000) => at_any (w := w1) (Lr := 96) (S := S) (k := k) hk)
  have HE0 := Lib.hid he
  clear HTS h hS hL hl he
  unfold rgn ptr Dv.i64 mthr at *
  go_enter Tryz.func5, Tryz.ntmps5
  go_wp2_with fail
  refine HZ.out.mono ?_
  rintro e w1 ⟨rfl, rfl⟩
  go_wp2_with fail
  refine (HV.out _).mono ?_
  rintro e W2 ⟨rfl, hb2⟩
  have hR2 : RgAt W2 w.heap.size 96 S := by
    refine RgAt.below (a := w.alloc (.cells #[.int .i64 0, .int .i64 96, .int .u64 S] 75)) ?_ hb2
    have hn := heap_alloc_new w (.cells #[.int .i64 0, .int .i64 96, .int .u64 S] 75)
    exact ⟨(cell_block hn).trans rfl, (cell_block hn).trans rfl, (cell_block hn).trans rfl⟩
  have hbw : Below w.heap.size w W2 := (below_alloc (Below.refl _ w)).trans (hb2.mono (by simp))
  have HB2 := Lib.hid hbw; have HR2 := Lib.hid hR2
  have HER := err_dev (H.out.below hbw) ht
  rw [HE0.out] at HER
  have HER2 := Lib.hid HER
  clear hb2 hbw hR2 HER
  unfold ptr at HER2
  go_wp2_with fail
  refine HER2.out.mono ?_
  rintro e w1 ⟨rfl, rfl⟩
  obtain ⟨r0, r1, r2⟩ := id HR2.out
  go_wp2_with fail
  refine (HC.out _).mono ?_
  rintro e W3 ⟨rfl, hb3⟩
  have HB3 := Lib.hid (HB2.out.trans (hb3.mono HB2.out.size)); have HR3 := Lib.hid (HR2.out.below hb3)
  clear hb3 r0 r1 r2
  go_wp2_with fail
  go_loopw [9, 28] (fun v i wr => FoRel W3 v i wr) (fun _ i _ => 24 - (intOf i).toNat)
  case atStart => exact ⟨0, by omega, rfl, World.ownsRow_nil _ _ _ _, Below.refl _ _⟩
  case round =>
    obtain ⟨k, hk, rfl, hown, hbel⟩ := hrel
    by_cases hlt : k < 24
    · have hlt2 : (k : Int) < 24 := by omega
      have hlt3 : (k : Int) < ((96 / 4 : Nat) : Int) := by omega
      obtain ⟨r0, r1, r2⟩ := id (HR3.out.below hbel)
      obtain ⟨ra, rc, hv⟩ := own_slice hown
      subst hv
      have HO := Lib.hid hown; have HB := Lib.hid hbel
      have HAT2 := Lib.hid (HAT.out wr k (by omega))
      clear hown hbel
      go_wp2_with fail
      refine HAT2.out.mono ?_
      rintro e w4 ⟨rfl, hb4⟩
      have hown2 := own_below HO.out hb4
      have HO2 := Lib.hid hown2; have HB4 := Lib.hid (HB.out.trans (hb4.mono HB.out.size))
      clear hb4 hown2 r0 r1 r2 HAT2
      unfold Dv.u64
      go_wp2_with (at_builtin; refine wpList_own1 elWrites rfl _ _ rfl HO2.out rfl rfl ?c1 rfl ?c2 ?c3 ?c4 ?c5 ?_)
      case c1 => rfl
      case c2 => exact ⟨rfl, rfl⟩
      case c3 => unfold maxLen; omega
      case c4 => omega
      case c5 => exact HB4.out.size
      intro g4 cap4 w5 hop5 hgr5 hg5
      have G := Lib.hid (show FoRel W3 (.slice (some ⟨g4, 0, none⟩) (k + 1) cap4) (.int .i64 ((k + 1 : Nat) : Int)) w5 from ⟨k + 1, by omega, rfl, by rw [fmtl_succ, wcells_snoc]; exact hop5, below_grown HB4.out hgr5 HB4.out.size (fun b hb => (HO2.out.lt b hb).1)⟩)
      clear hop5 hgr5 hg5
      go_wp2_with fail
      go_roundw
      case rel => simpa using G.out
      case measure => simp [intOf]; omega
    · obtain rfl : k = 24 := by omega
      obtain ⟨g, cap, hv⟩ : ∃ g cap, u9 = .slice (some ⟨g, 0, none⟩) 24 cap := by
        rcases hown.2 with ⟨_, e⟩ | ⟨g, cap, cur, e, _⟩
        · omega
        · exact ⟨g, cap, e⟩
      subst hv
      have hseen : Seen wr g 0 (wcells (fmtl 24)) := fun j u hj => by
        have := hown.cells (g := g) rfl j u hj
        rw [Addr.add_lit] at this
        exact this
      have hst := stores_any (c := cap) hseen (by rw [fmtl_length]; omega) (by rw [fmtl_length]; omega) (fun p hp => (fmtl_lt p hp).1) fmtl_up
      rw [fmtl_length] at hst
      have HST := Lib.hid hst; have HB := Lib.hid (HB3.out.trans (hbel.mono HB3.out.size))
      clear hown hbel hseen hst hk hlt
      have d1 : ¬ ((24 : Int) < ((96 / 4 : Nat) : Int)) := by decide
      go_wp2_with fail
      refine HST.out.mono ?_
      rintro e w6 ⟨g6, cap6, rfl, hown6, hb6⟩
      have hbw6 : Below w.heap.size w w6 := HB.out.trans (hb6.mono HB.out.size)
      have hsn : Seen w6 g6 0 (icells (prog (fmtl 24))) := fun j u hj => by
        have := hown6.cells (g := g6) rfl j u hj
        rw [Addr.add_lit] at this
        exact this
      have hfn : F g6 = none := by
        cases e : F g6 with
        | none => rfl
        | some q => have := H.out.lt g6 (by rw [e]; simp); have := (hown6.lt g6 rfl).1; have := HB.out.size; omega
      have hrun := run_dev (c := cap6) (H.out.below hbw6) ht hsn hfn (prog_ok fmtl_lt) (by rw [prog_length, fmtl_length]; have := plines_le (fmtl 24); rw [fmtl_length] at this; omega)
      have HRU := Lib.hid hrun; have HBW6 := Lib.hid hbw6
      clear hown6 hb6 hbw6 hsn hfn hrun
      unfold mthr ptr at HRU
      go_wp2_with fail
      refine HRU.out.mono ?_
      rintro e w7 ⟨rfl, F', hd7, hm7⟩
      have GG := Lib.hid (show FoPost w A F s t (.returned (Dv.i64 ((s.runs t (prog (fmtl 24))).err t))) w7 from ⟨rfl, F', hd7, (show Moved F F w w6 from ⟨Only.of_below HBW6.out, fun _ _ => rfl⟩).trans hm7⟩)
      clear hd7 hm7
      unfold Dv.i64 at *
      go_wp2_with fail
      go_returns
      exact GG.out
end Go.Proofs.YtejlgnebofdijaaGreatDoor.Dv

namespace Go.Proofs.YtejlgnebofdijaaGreatDoor.Dv
open Go.RowKit
set_option linter.unusedVariables false

/-- The power is on and stays on, and thread t has no error. -/
structure Calm (s : DSt) (t : Nat) : Prop where
  off : s.off = false
  armed : s.armed = false
  err : s.err t = 0
theorem cnt_calm {s : DSt} {t : Nat} (h : Calm s t) : s.cnt t true = (s.ctl false false s.left (s.ex + 1), true) := by
  unfold DSt.cnt
  rw [h.off, h.armed]
  simp
/-- The instruction is valid. -/
def Ins.Fit (L : Nat) (x : Ins) : Prop := (x.op = 1 → x.off % 8 = 0 ∧ x.off < L * 64) ∧ (x.op = 2 → x.off < L * 64)
theorem exec_calm {s : DSt} {t : Nat} (h : Calm s t) {x : Ins} (hx : x.Fit s.L) : Calm (s.exec t x) t ∧ Eqv (s.exec t x) (s.did t x) ∧ (s.exec t x).ex = s.ex + 1 := by
  have hc := cnt_calm h
  have hq : Eqv (s.ctl false false s.left (s.ex + 1)) s := ⟨rfl, rfl, rfl, rfl, rfl⟩
  unfold DSt.exec DSt.did
  by_cases e1 : x.op = 1
  · rw [if_pos e1, if_pos e1]
    have hw : s.word x.off = true := by unfold DSt.word; simp; exact hx.1 e1
    unfold DSt.store
    rw [hw, hc]
    exact ⟨⟨rfl, rfl, h.err⟩, hq.write _ _, rfl⟩
  · rw [if_neg e1, if_neg e1]
    by_cases e2 : x.op = 2
    · rw [if_pos e2, if_pos e2]
      unfold DSt.flush
      rw [decide_eq_true (hx.2 e2), hc]
      exact ⟨⟨rfl, rfl, h.err⟩, hq.flushed _ _, rfl⟩
    · rw [if_neg e2, if_neg e2]
      unfold DSt.fence
      rw [hc]
      exact ⟨⟨rfl, rfl, h.err⟩, hq.fenced _, rfl⟩
theorem did_L (s : DSt) (t : Nat) (x : Ins) : (s.did t x).L = s.L := by
  unfold DSt.did
  split
  · rfl
  · split <;> rfl
theorem runs_calm {t : Nat} : ∀ (l : List Ins) {s : DSt} (h : Calm s t) (hl : ∀ x ∈ l, x.Fit s.L), Calm (s.runs t l) t ∧ (s.runs t l).L = s.L ∧ (s.runs t l).ex = s.ex + l.length
  | [], s, h, _ => ⟨h, rfl, rfl⟩
  | x :: l, s, h, hl => by
    obtain ⟨h1, h2, h3⟩ := exec_calm h (hl x List.mem_cons_self)
    have hL : (s.exec t x).L = s.L := exec_L _ _ _
    obtain ⟨a, b, c⟩ := runs_calm l h1 (fun y hy => by rw [hL]; exact hl y (List.mem_cons_of_mem _ hy))
    refine ⟨a, b.trans hL, ?_⟩
    rw [List.length_cons]
    have : (s.runs t (x :: l)).ex = ((s.exec t x).runs t l).ex := rfl
    rw [this, c, h3]
    omega
/-- The words that a program of stores leaves. -/
theorem runs_cur {t : Nat} : ∀ (l : List Ins) {s : DSt} (h : Calm s t) (hl : ∀ x ∈ l, x.Fit s.L) (y : Nat), (s.runs t l).cur y = l.foldl (fun v x => if x.op = 1 ∧ y = x.off / 8 then x.val else v) (s.cur y)
  | [], s, h, _, y => rfl
  | x :: l, s, h, hl, y => by
    obtain ⟨h1, h2, h3⟩ := exec_calm h (hl x List.mem_cons_self)
    have hL : (s.exec t x).L = s.L := exec_L _ _ _
    have := runs_cur l h1 (fun z hz => by rw [hL]; exact hl z (List.mem_cons_of_mem _ hz)) y
    have e : (s.runs t (x :: l)).cur y = ((s.exec t x).runs t l).cur y := rfl
    rw [e, this, List.foldl_cons, h2.cur, DSt.did_cur (fun e => (hl x List.mem_cons_self).1 e |>.1)]

theorem prog_fit {L : Nat} {l : List (Nat × Nat)} (h : ∀ p ∈ l, p.1 % 8 = 0 ∧ p.1 < L * 64) : ∀ x ∈ prog l, x.Fit L := by
  intro x hx
  rcases prog_mem hx with ⟨p, hp, rfl⟩ | ⟨y, hy, rfl⟩ | rfl
  · exact ⟨fun _ => h p hp, fun e => by cases e⟩
  · refine ⟨fun e => (by cases e), fun _ => ?_⟩
    obtain ⟨p, hp, hpy⟩ := mem_plines.1 hy
    have := h p hp
    rw [← hpy]
    unfold line
    dsimp only
    omega
  · exact ⟨fun e => (by cases e), fun e => by cases e⟩
/-- A program's effect on a word. -/
theorem prog_fold (l : List (Nat × Nat)) (y v : Nat) : (prog l).foldl (fun v x => if x.op = 1 ∧ y = x.off / 8 then x.val else v) v = l.foldl (fun v p => if y = p.1 / 8 then p.2 else v) v := by
  have h1 : ∀ (l : List (Nat × Nat)) v, (sins l).foldl (fun v x => if x.op = 1 ∧ y = x.off / 8 then x.val else v) v = l.foldl (fun v p => if y = p.1 / 8 then p.2 else v) v := by
    intro l
    induction l with
    | nil => intro v; rfl
    | cons a l ih =>
      intro v
      show (sins l).foldl _ _ = _
      rw [ih]
      simp
  have h2 : ∀ (l : List Nat) v, (fins l).foldl (fun v x => if x.op = 1 ∧ y = x.off / 8 then x.val else v) v = v := by
    intro l
    induction l with
    | nil => intro v; rfl
    | cons a l ih =>
      intro v
      show (fins l).foldl _ _ = _
      rw [ih]
      simp
  rw [prog_eq, List.foldl_append, List.foldl_append, h1, h2]
  simp

/-! ### Recover -/
def recPr (es : List En) (k : Nat) : List Ins := prog (ewr es) ++ prog [(256 * k, unusedW)]
/-- The device when the first k descriptors have been treated. -/
def recs (s : DSt) (t : Nat) (D : Nat → List En) : Nat → DSt
  | 0 => s
  | k + 1 => if D k = [] then recs s t D k else (recs s t D k).runs t (recPr (D k) k)
structure RecOk (s : DSt) (t : Nat) (D : Nat → List En) : Prop where
  calm : Calm s t
  L : 96 ≤ s.L
  len : ∀ k, k < 24 → (D k).length ≤ 6
  off : ∀ k, k < 24 → ∀ p ∈ ewr (D k), p.1 % 8 = 0 ∧ p.1 < s.L * 64
  val : ∀ k, k < 24 → ∀ p ∈ ewr (D k), p.1 < 18446744073709551616 ∧ p.2 < 18446744073709551616
  up : ∀ k, k < 24 → Up ((ewr (D k)).map (fun p => line p.1))
theorem recPr_fit {s : DSt} {t : Nat} {D : Nat → List En} (h : RecOk s t D) {k : Nat} (hk : k < 24) : ∀ x ∈ recPr (D k) k, x.Fit s.L := by
  intro x hx
  unfold recPr at hx
  rw [List.mem_append] at hx
  rcases hx with hx | hx
  · exact prog_fit (h.off k hk) x hx
  · refine prog_fit (l := [(256 * k, unusedW)]) (fun p hp => ?_) x hx
    simp at hp
    subst hp
    have := h.L
    dsimp only
    omega
theorem recPr_length {s : DSt} {t : Nat} {D : Nat → List En} (h : RecOk s t D) {k : Nat} (hk : k < 24) : (recPr (D k) k).length ≤ 20 := by
  unfold recPr
  rw [List.length_append, prog_length, prog_length]
  have h1 := plines_le (ewr (D k))
  have h2 := plines_le [(256 * k, unusedW)]
  have h3 : (ewr (D k)).length = (D k).length := by simp [ewr]
  have h4 := h.len k hk
  have h5 : [(256 * k, unusedW)].length = 1 := rfl
  omega
theorem recs_calm {s : DSt} {t : Nat} {D : Nat → List En} (h : RecOk s t D) : ∀ k, k ≤ 24 → Calm (recs s t D k) t ∧ (recs s t D k).L = s.L ∧ (recs s t D k).ex ≤ s.ex + 20 * k := by
  intro k
  induction k with
  | zero => intro _; exact ⟨h.calm, rfl, Nat.le_refl _⟩
  | succ k ih =>
    intro hk
    obtain ⟨a, b, c⟩ := ih (by omega)
    unfold recs
    split
    · exact ⟨a, b, by omega⟩
    · obtain ⟨a', b', c'⟩ := runs_calm (recPr (D k) k) a (by rw [b]; exact recPr_fit h (by omega))
      have := recPr_length h (show k < 24 by omega)
      exact ⟨a', b'.trans b, by omega⟩
end Go.Proofs.YtejlgnebofdijaaGreatDoor.Dv

namespace Go.Proofs.YtejlgnebofdijaaGreatDoor.Dv
open Go.RowKit
set_option linter.unusedVariables false
attribute [local go_sem ↓] Go.wp_at_zero Go.wp_at_succ

theorem rcells_get {D : Nat → List En} {ve vw : Nat → Value} : ∀ {n k : Nat}, k < n → (rcells D ve vw n)[3 * k]? = some (.int .u8 (phs (D k))) ∧ (rcells D ve vw n)[3 * k + 1]? = some (ve k) ∧ (rcells D ve vw n)[3 * k + 2]? = some (vw k) := by
  have hlen : ∀ n, (rcells D ve vw n).length = 3 * n := by
    intro n
    induction n with
    | zero => rfl
    | succ n ih => rw [rcells_succ, List.length_append, ih]; simp; omega
  intro n
  induction n with
  | zero => intro k hk; omega
  | succ n ih =>
    intro k hk
    rw [rcells_succ]
    by_cases e : k = n
    · subst e
      have hl := hlen k
      refine ⟨?_, ?_, ?_⟩
      · rw [List.getElem?_append_right (by omega), hl]; simp
      · rw [List.getElem?_append_right (by omega), hl, show 3 * k + 1 - 3 * k = 1 by omega]; rfl
      · rw [List.getElem?_append_right (by omega), hl, show 3 * k + 2 - 3 * k = 2 by omega]; rfl
    · have hl := hlen n
      obtain ⟨a, b, c⟩ := ih (k := k) (by omega)
      refine ⟨?_, ?_, ?_⟩
      · rw [List.getElem?_append_left (by omega)]; exact a
      · rw [List.getElem?_append_left (by omega)]; exact b
      · rw [List.getElem?_append_left (by omega)]; exact c

def RcPost (w : World) (A : DAd) (B : MAd) (F G : Nat → Option Role) (s : DSt) (e : Ending) (w' : World) : Prop := ∃ n : Nat, e = .returned (.tuple #[.int .i64 n, .int .i64 0]) ∧ MWent w A B 96 0 F G (ms0 s) w'
theorem seen_own {w : World} {B g n cap : Nat} {e : TypeId} {z : Nat} {xs : List Value} (h : w.ownsRow B e z (.slice (some ⟨g, 0, none⟩) n cap) n xs) : Seen w g 0 xs := fun j u hj => by
  have := h.cells (g := g) rfl j u hj
  rw [Addr.add_lit] at this
  exact this
/-- What Stores leaves, seen from X. -/
def StPost (X w1 : World) (l : List (Nat × Nat)) (e : Ending) (w' : World) : Prop :=
  ∃ g cap, e = .returned (.slice (some ⟨g, 0, none⟩) (prog l).length cap) ∧ Seen w' g 0 (icells (prog l)) ∧ g < w'.heap.size ∧ Below X.heap.size X w' ∧ Hid (Below w1.heap.size w1 w')
theorem st_b {X w1 : World} {b c n : Nat} {l : List (Nat × Nat)} (hb : Below X.heap.size X w1) (hs : Seen w1 b 0 (wcells l)) (hn : 1 ≤ l.length) (hn2 : l.length ≤ 24) (hl : ∀ p ∈ l, p.1 < 18446744073709551616) (hu : Up (l.map (fun p => line p.1))) (hnn : n = l.length) :
    Calls Tryz.prog 20 #[.slice (some ⟨b, 0, none⟩) n c] w1 (StPost X w1 l) := by
  rw [hnn]
  refine (stores_any (c := c) hs hn hn2 hl hu).mono ?_
  rintro e w' ⟨g, cap, rfl, ho, hb'⟩
  exact ⟨g, cap, rfl, seen_own ho, (ho.lt g rfl).2, hb.trans (hb'.mono hb.size), Lib.hid hb'⟩
/-- Behind the region that makes the program of a descriptor. -/
def RcCut (X : World) (l : List Ins) (p : Value) (w' : World) : Prop := ∃ g cap, p = .slice (some ⟨g, 0, none⟩) l.length cap ∧ Seen w' g 0 (icells l) ∧ X.heap.size ≤ g ∧ Below X.heap.size X w'
def PoolAt (w : World) (p bx S : Nat) (v : Value) : Prop := w.cell? ⟨bx, 2, none⟩ = some v ∧ w.cell? ⟨p, 1, none⟩ = some (.int .i64 0) ∧ w.cell? ⟨p, 2, none⟩ = some (.int .i64 96) ∧ w.cell? ⟨p, 3, none⟩ = some (.int .u64 S)
theorem PoolAt.below {a w : World} {p bx S : Nat} {v : Value} (h : PoolAt a p bx S v) (hb : Below a.heap.size a w) : PoolAt w p bx S v := by
  have hl := World.block_lt_of_cell? _ _ h.1
  have hl2 := World.block_lt_of_cell? _ _ h.2.1
  exact ⟨(hb.cell (show (Addr.mk bx 2 none).block < _ from hl)).trans h.1, (hb.cell (show (Addr.mk p 1 none).block < _ from hl2)).trans h.2.1, (hb.cell (show (Addr.mk p 2 none).block < _ from hl2)).trans h.2.2.1, (hb.cell (show (Addr.mk p 3 none).block < _ from hl2)).trans h.2.2.2⟩
/-- The loop of Recover. -/
def RcRel (W : World) (A : DAd) (B : MAd) (F G : Nat → Option Role) (s : DSt) (t : Nat) (D : Nat → List En) (n i : Value) (wr : World) : Prop :=
  ∃ (k c : Nat), k ≤ 24 ∧ c ≤ k ∧ i = .int .i64 (k : Nat) ∧ n = .int .i64 (c : Nat) ∧ MWent W A B 96 0 F G (ms0 (recs s t D k)) wr

set_option maxHeartbeats 4000000 in
set_option maxRecDepth 8000 in
theorem recover_mw {w : World} {A : DAd} {B : MAd} {s : DSt} {F G : Nat → Option Role} {T : Nat → Nat} {t : Nat} {D : Nat → List En} (h : MW w A B 96 0 (ms0 s) F G) (hT : NTab w T) (ht : t < 8) (hok : RecOk s t D) (hnb : B.nb = 24)
    (hd : ∀ k, k < 24 → Desc T 96 (64 * s.L) s.cur k (D k)) (hex : s.ex + 600 ≤ 1000000) :
    Calls Tryz.prog 9 #[ptr B.p, .int .i64 t] w (RcPost w A B F G (recs s t D 24)) := by
  have hsm := h.dev.ok.lines
  have hsm : 1 ≤ s.L ∧ s.L ≤ 4096 := hsm
  have c0 : w.cell? ⟨B.p, 0, none⟩ = some (.pointer (some ⟨A.d, 0, none⟩)) := h.pool.cell 0 (by omega)
  have c4 : w.cell? ⟨B.p, 4, none⟩ = some (.slice (some ⟨B.busy, 0, none⟩) 24 24) := by rw [← hnb]; exact h.pool.cell 4 (by omega)
  have HTH := Lib.hid (thread_dev h.dev ht)
  have HER := err_dev h.dev ht
  have he0 : (ms0 s).dev.err t = 0 := hok.calm.err
  rw [he0] at HER
  have HER2 := Lib.hid HER
  have HFR := fun n => free_mw (h.drewN n) (fun k hk => rfl)
  rw [hnb] at HFR
  have HFR2 := Lib.hid HFR
  have H := Lib.hid h; have HT := Lib.hid hT; have HOK := Lib.hid hok; have HD := Lib.hid hd; have HNB := Lib.hid hnb
  have ht2 : (t : Int) < 8 := by omega
  have d1 : decide ((t : Int) < 0) = false := by simp
  have d2 : decide ((8 : Int) ≤ t) = false := by simp; omega
  have HSM := Lib.hid hsm
  clear h hT hok hd hnb he0 HER HFR hsm
  unfold ptr at *
  go_enter Tryz.func9, Tryz.ntmps9
  go_wp2_with fail
  refine HTH.out.mono ?_
  rintro e w1 ⟨rfl, rfl⟩
  go_wp2_with fail
  refine HER2.out.mono ?_
  rintro e w1 ⟨rfl, rfl⟩
  go_wp2_with fail
  go_quiet ((go_at_call 29; exact quiet_same (HFR2.out _)))
  obtain ⟨W0, hW0⟩ : ∃ W0, W0 = w.drewN nq := ⟨_, rfl⟩
  rw [← hW0]
  have h0 : MW W0 A B 96 0 (ms0 s) F G := by rw [hW0]; exact H.out.drewN nq
  have hb0 : Below w.heap.size w W0 := by rw [hW0]; exact below_drewN (Below.refl _ _)
  have mv0 : MMoved F G F G w W0 := (H.out.below hb0).2
  have r1 : W0.cell? ⟨B.p, 1, none⟩ = some (.int .i64 0) := h0.pool.cell 1 (by omega)
  have r2 : W0.cell? ⟨B.p, 2, none⟩ = some (.int .i64 96) := h0.pool.cell 2 (by omega)
  have r3 : W0.cell? ⟨B.p, 3, none⟩ = some (.int .u64 ((64 * s.L : Nat) : Int)) := h0.pool.cell 3 (by omega)
  obtain ⟨S, hS⟩ : ∃ S, S = 64 * s.L := ⟨_, rfl⟩
  rw [← hS] at r3
  have HL0 := loads_dev h0.dev ht HOK.out.calm.off
  have e1 : (ms0 s).dev = s := rfl
  rw [e1, ← hS] at HL0
  have HDS := HD.out
  rw [← hS] at HDS
  have HAL := Lib.hid (all_desc HL0 (HT.out.below hb0 (Nat.le_refl _)) (by rw [hS]; have := HOK.out.L; omega) HDS)
  have H0 := Lib.hid h0; have MV0 := Lib.hid mv0; have HS := Lib.hid hS
  clear hW0 h0 mv0 hb0 HL0 hS e1 HDS c0 c4
  unfold ptr rgn at HAL
  go_wp2_with fail
  refine HAL.out.mono ?_
  rintro e W ⟨ve, vw, v, rfl, hrec⟩
  obtain ⟨h1, mv1⟩ := H0.out.below hrec.bel
  have HER3 := err_dev h1.dev ht
  have he3 : (ms0 s).dev.err t = 0 := HOK.out.calm.err
  rw [he3] at HER3
  have HER4 := Lib.hid HER3
  obtain ⟨g, cap, hv⟩ : ∃ g cap, v = .slice (some ⟨g, 0, none⟩) 24 cap := by
    rcases hrec.own.2 with ⟨_, e⟩ | ⟨g, cap, cur, e, _⟩
    · omega
    · exact ⟨g, cap, e⟩
  subst hv
  have H1 := Lib.hid h1; have HREC := Lib.hid hrec; have MV1 := Lib.hid (MV0.out.trans mv1)
  clear HER3 he3 hrec h1 mv1 r1 r2 r3
  unfold ptr at HER4
  go_wp2_with fail
  refine HER4.out.mono ?_
  rintro e w1 ⟨rfl, rfl⟩
  go_wp2_with fail
  go_loopw [11, 64] (fun n i wr => RcRel W A B F G s t D n i wr) (fun _ i _ => 24 - (intOf i).toNat)
  case atStart => exact ⟨0, 0, by omega, by omega, rfl, rfl, F, G, H1.out, MMoved.refl _ _ _⟩
  case round =>
    obtain ⟨k, c, hk, hck, rfl, rfl, F1, G1, hmw, hmv⟩ := hrel
    by_cases hlt : k < 24
    · have hlt2 : (k : Int) < 24 := by omega
      have hz1 := HREC.out.bel.size
      have hgl := HREC.out.own.lt g rfl
      have norole : ∀ b, W0.heap.size ≤ b → F b = none ∧ G b = none := fun b hb => by
        constructor
        · cases e : F b with
          | none => rfl
          | some q => have := H0.out.dev.lt b (by rw [e]; simp); omega
        · cases e : G b with
          | none => rfl
          | some q => have := (H0.out.gf b (by rw [e]; simp)).2; omega
      have hsame : ∀ b, W0.heap.size ≤ b → b < W.heap.size → wr.heap[b]? = W.heap[b]? := fun b hb hb2 => hmv.only.block b hb2 (by rw [(norole b hb).1, (norole b hb).2]; simp)
      have hrs : Seen wr g 0 (rcells D ve vw 24) := (seen_own HREC.out.own).of_block (hsame g hgl.1 hgl.2)
      obtain ⟨q1, q2, q3⟩ := rcells_get (D := D) (ve := ve) (vw := vw) hlt
      have k1 : wr.cell? ⟨g, k * 3, none⟩ = some (.int .u8 (phs (D k))) := by have := hrs _ _ q1; rw [Nat.zero_add, Nat.mul_comm] at this; exact this
      have k2 : wr.cell? ⟨g, k * 3 + 1, none⟩ = some (ve k) := by have := hrs _ _ q2; rw [Nat.zero_add, Nat.mul_comm] at this; exact this
      have k3 : wr.cell? ⟨g, k * 3 + 2, none⟩ = some (vw k) := by have := hrs _ _ q3; rw [Nat.zero_add, Nat.mul_comm] at this; exact this
      obtain ⟨va, vn, vc, hve⟩ := HREC.out.sl k hlt
      obtain ⟨wa, wc, hvw⟩ := own_slice (HREC.out.row k hlt)
      rw [hve] at k2
      rw [hvw] at k3
      have hrow := HREC.out.row k hlt
      rw [hvw] at hrow
      by_cases hDk : D k = []
      · have hph : phs (D k) = 1 := by unfold phs; rw [if_pos hDk]
        rw [hph] at k1
        obtain ⟨X, hX⟩ : ∃ X, X = wr.alloc (.cells #[.int .u8 (1 : Nat), .slice va vn vc, .slice wa (D k).length wc] 101) := ⟨_, rfl⟩
        obtain ⟨h5, mv5⟩ := hmw.below (w' := X) (by rw [hX]; exact below_alloc (Below.refl _ _))
        have G := Lib.hid (show RcRel W A B F G s t D (.int .i64 (c : Nat)) (.int .i64 ((k + 1 : Nat) : Int)) X from ⟨k + 1, c, by omega, by omega, rfl, rfl, F1, G1, by
          have : recs s t D (k + 1) = recs s t D k := by show (if D k = [] then _ else _) = _; rw [if_pos hDk]
          rw [this]; exact h5, hmv.trans mv5⟩)
        rw [hX] at G
        clear hrow hve hvw hrs q1 q2 q3 hgl hz1 norole hsame hmw hmv h5 mv5 hX hph hDk
        go_wp2_with fail
        go_roundw
        case rel => simpa using G.out
        case measure => simp [intOf]; omega
      · have hph : phs (D k) = 3 := by unfold phs; rw [if_neg hDk]
        rw [hph] at k1
        obtain ⟨l, hl⟩ : ∃ l, l = ewr (D k) := ⟨_, rfl⟩
        have hll : l.length = (D k).length := by rw [hl]; simp [ewr]
        have hn1 : 1 ≤ (D k).length := by
          rcases Nat.eq_zero_or_pos (D k).length with e | e
          · exact absurd (List.length_eq_zero_iff.1 e) hDk
          · exact e
        have hn6 := HOK.out.len k hlt
        obtain ⟨gw, rfl⟩ : ∃ gw, wa = some ⟨gw, 0, none⟩ := by
          rcases hrow.2 with ⟨_, e⟩ | ⟨g, cap, cur, e, _⟩
          · omega
          · simp only [Value.slice.injEq] at e; exact ⟨g, e.1⟩
        have hgw := hrow.lt gw rfl
        have hsw : Seen wr gw 0 (wcells l) := by rw [hl]; exact (seen_own hrow).of_block (hsame gw hgw.1 hgw.2)
        obtain ⟨X, hX⟩ : ∃ X, X = wr.alloc (.cells #[.int .u8 3, .slice va vn vc, .slice (some ⟨gw, 0, none⟩) (D k).length wc] 101) := ⟨_, rfl⟩
        have hbX : Below wr.heap.size wr X := by rw [hX]; exact below_alloc (Below.refl _ _)
        have hXb : X.heap[wr.heap.size]? = some (.cells #[.int .u8 3, .slice va vn vc, .slice (some ⟨gw, 0, none⟩) (D k).length wc] 101 (0, 0)) := by rw [hX]; exact heap_alloc_new _ _
        obtain ⟨h5, mv5⟩ := hmw.below hbX
        have hPA : PoolAt X B.p wr.heap.size S (.slice (some ⟨gw, 0, none⟩) (D k).length wc) := by
          refine ⟨(cell_block hXb).trans rfl, h5.pool.cell 1 (by omega), h5.pool.cell 2 (by omega), ?_⟩
          have := h5.pool.cell 3 (by omega)
          have e2 : (ms0 (recs s t D k)).dev.L = s.L := (recs_calm HOK.out k (by omega)).2.1
          rw [this]
          unfold pfun
          rw [e2, HS.out]
          rfl
        have hswX := hsw.below hbX (Nat.le_refl _)
        have hst1 : ∀ w1, Below X.heap.size X w1 → Calls Tryz.prog 20 #[.slice (some ⟨gw, 0, none⟩) (D k).length wc] w1 (StPost X w1 l) := fun w1 hb =>
          st_b hb (hswX.below hb (Nat.le_refl _)) (by omega) (by omega) (fun p hp => (HOK.out.val k hlt p (by rw [← hl]; exact hp)).1) (by rw [hl]; exact HOK.out.up k hlt) hll.symm
        have hst2 : ∀ V : World, Below X.heap.size X V → Calls Tryz.prog 20 #[.slice (some ⟨V.heap.size, 0, none⟩) 1 1] (V.alloc (.cells #[.int .u64 ((256 * k : Nat) : Int), .int .u64 unusedW] 66)) (StPost X (V.alloc (.cells #[.int .u64 ((256 * k : Nat) : Int), .int .u64 unusedW] 66)) [(256 * k, unusedW)]) := fun V hb =>
          st_b (l := [(256 * k, unusedW)]) (below_alloc hb) (seen_new1 V (256 * k) unusedW) (by simp) (by simp) (fun p hp => by simp at hp; rw [hp]; dsimp only; omega) (up_one _) rfl
        have hat : ∀ w1, Below X.heap.size X w1 → Calls Tryz.prog 19 #[.agg #[.int .i64 0, .int .i64 96, .int .u64 S], .int .i64 k] w1 fun e w' => e = .returned (.int .u64 ((256 * k : Nat) : Int)) ∧ Below X.heap.size X w' ∧ Hid (Below w1.heap.size w1 w') := fun w1 hb =>
          (at_any (w := w1) (Lr := 96) (S := S) (k := k) (by omega)).mono (fun e w' hh => ⟨hh.1, hb.trans (hh.2.mono hb.size), Lib.hid hh.2⟩)
        have HPA := Lib.hid hPA; have HST1 := Lib.hid hst1; have HST2 := Lib.hid hst2; have HAT := Lib.hid hat; have HX0 := Lib.hid (Below.refl X.heap.size X); have H5 := Lib.hid h5; have MV5 := Lib.hid (hmv.trans mv5)
        have HLE := Lib.hid hl; have HN6 := Lib.hid (And.intro hn1 hn6); have HLL := Lib.hid hll; have HX := Lib.hid hX; have HDK := Lib.hid hDk
        obtain ⟨j2, j3, j4, j5⟩ := id hPA
        have j1 : X.cell? ⟨wr.heap.size, 0, none⟩ = some (.int .u8 3) := (cell_block hXb).trans rfl
        clear hrow hve hvw hrs q1 q2 q3 hgl hz1 norole hsame hmw hmv h5 mv5 hX hph hDk hPA hst1 hst2 hat hl hll hn1 hn6 hgw hsw hbX hXb hswX
        go_upto_region 19 with fail
        rw [← HX.out]
        clear k1 k2 k3
        go_upto_region 20 with fail
        go_cut [14] (fun p wx => RcCut X (recPr (D k) k) p wx)
        case first =>
          go_region_held3 (fun w' => w'.cell? ⟨wr.heap.size, 2, none⟩ = some (.slice (some ⟨gw, 0, none⟩) (D k).length wc) ∧ w'.cell? ⟨B.p, 1, none⟩ = some (.int .i64 0) ∧ w'.cell? ⟨B.p, 2, none⟩ = some (.int .i64 96) ∧ w'.cell? ⟨B.p, 3, none⟩ = some (.int .u64 S))
            (exact PoolAt.below HPA.out (by repeat (first | assumption | exact HX0.out | apply below_alloc | apply below_drew)))
            (first
              | (go_at_call_of 20 (Value.slice (some ⟨gw, 0, none⟩) (D k).length wc); refine (HST1.out _ (by repeat (first | assumption | exact HX0.out | apply below_alloc | apply below_drew))).mono ?_; rintro e V1 ⟨g1, cap1, rfl, hs1, hg1, hX1, HB1⟩)
              | (go_at_call 19; refine (HAT.out _ (by repeat (first | assumption | exact HX0.out | apply below_alloc | apply below_drew))).mono ?_; rintro e V2 ⟨rfl, hX2, HB2⟩)
              | (go_at_call 20; refine (HST2.out _ (by assumption)).mono ?_; rintro e V3 ⟨g3, cap3, rfl, hs3, hg3, hX3, HB3⟩)
              | (go_at_call 30; refine (thenp_any (((hs1.below HB2.out (Nat.le_refl _)).below (below_alloc (Below.refl _ V2)) (Nat.le_refl _)).below HB3.out (Nat.le_refl _)) hs3 (by rw [prog_length]; omega) (by rw [prog_length]; omega) (by rw [prog_length, prog_length]; have := plines_le l; have := plines_le [(256 * k, unusedW)]; have := HN6.out; have := HLL.out; simp at *; omega)).mono ?_; rintro e V4 ⟨g4, cap4, rfl, hown4, hb4⟩; have hX4 := hX3.trans (hb4.mono hX3.size)))
          go_wp2_with fail
          go_meet
          have e1 : (recPr (D k) k).length = (prog l).length + (prog [(256 * k, unusedW)]).length := by unfold recPr; rw [List.length_append, HLE.out]
          have e2 : recPr (D k) k = prog l ++ prog [(256 * k, unusedW)] := by unfold recPr; rw [HLE.out]
          refine ⟨g4, cap4, by rw [e1], by rw [e2]; exact seen_own hown4, ?_, hX4⟩
          have := (hown4.lt g4 rfl).1
          have := hX3.size
          omega
        case rest =>
          obtain ⟨g4, cap4, rfl, hs4, hg4, hbc⟩ := hcut
          obtain ⟨h6, mv6⟩ := H5.out.below hbc
          have hfn : F1 g4 = none := by
            cases e : F1 g4 with
            | none => rfl
            | some q => have := H5.out.dev.lt g4 (by rw [e]; simp); omega
          have hcal := recs_calm HOK.out k (by omega)
          have hcal1 := recs_calm HOK.out (k + 1) (by omega)
          have hrs : recs s t D (k + 1) = (recs s t D k).runs t (recPr (D k) k) := by show (if D k = [] then _ else _) = _; rw [if_neg HDK.out]
          have hlen := recPr_length HOK.out hlt
          have hpok : ∀ x ∈ recPr (D k) k, x.Ok := by
            intro x hx
            unfold recPr at hx
            rw [List.mem_append] at hx
            rcases hx with hx | hx
            · exact prog_ok (HOK.out.val k hlt) x hx
            · refine prog_ok (l := [(256 * k, unusedW)]) (fun p hp => ?_) x hx
              simp at hp
              subst hp
              exact ⟨by dsimp only; omega, by unfold unusedW; dsimp only; omega⟩
          have hrun := run_dev (c := cap4) h6.dev ht hs4 hfn hpok (by have : (ms0 (recs s t D k)).dev.ex ≤ s.ex + 20 * k := hcal.2.2; omega)
          have e3 : (ms0 (recs s t D k)).dev = recs s t D k := rfl
          rw [e3, ← hrs, hcal1.1.err] at hrun
          have HRU := Lib.hid hrun; have H6 := Lib.hid h6; have MV6 := Lib.hid (MV5.out.trans mv6); have HLT : Hid ((recs s t D (k + 1)).L = (recs s t D k).L) := Lib.hid (hcal1.2.1.trans hcal.2.1.symm)
          clear hs4 hg4 hbc h6 mv6 hfn hcal hcal1 hrs hlen hpok hrun e3 j1 j2 j3 j4 j5
          unfold mthr ptr Dv.i64 at HRU
          go_wp2_with fail
          refine HRU.out.mono ?_
          rintro e w7 ⟨rfl, F7, hd7, hm7⟩
          obtain ⟨h7, mv7⟩ := H6.out.moved hd7 hm7 HLT.out
          have G := Lib.hid (show RcRel W A B F G s t D (.int .i64 ((c + 1 : Nat) : Int)) (.int .i64 ((k + 1 : Nat) : Int)) w7 from ⟨k + 1, c + 1, by omega, by omega, rfl, rfl, F7, G1, h7, MV6.out.trans mv7⟩)
          have hc2 : (c : Int) ≤ 24 := by omega
          clear hd7 hm7 h7 mv7
          go_wp2_with fail
          go_roundw
          case rel => simpa using G.out
          case measure => simp [intOf]; omega
    · obtain rfl : k = 24 := by omega
      have d8 : ¬ ((24 : Int) < 24) := by decide
      have c5 : wr.cell? ⟨B.p, 5, none⟩ = some (.pointer none) := hmw.pool.cell 5 (by omega)
      have f5 := hmw.pool.free 5
      obtain ⟨h9, mv9⟩ := hmw.setP (c := none) (fun _ e => by cases e)
      have G := Lib.hid (show RcPost w A B F G (recs s t D 24) (.returned (.tuple #[.int .i64 c, .int .i64 0])) (wr.setCell ⟨B.p, 5, none⟩ (.pointer none)) from ⟨c, rfl, F1, G1, h9, (MV1.out.trans hmv).trans mv9⟩)
      clear hmw hmv h9 mv9
      go_wp2_with fail
      go_returns
      exact G.out
end Go.Proofs.YtejlgnebofdijaaGreatDoor.Dv
