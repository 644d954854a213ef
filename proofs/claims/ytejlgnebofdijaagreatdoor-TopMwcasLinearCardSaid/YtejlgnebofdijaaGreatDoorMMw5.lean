/-
  read of the package mwcas, of a descriptor that is decided: the walk.
-/
import Derived.Test.YtejlgnebofdijaaGreatDoorMMw4
namespace Go.Proofs.YtejlgnebofdijaaGreatDoor.Dv
open Go.RowKit
set_option linter.unusedVariables false

set_option maxHeartbeats 4000000 in
set_option maxRecDepth 100000 in
theorem read_succ {w : World} {Lr S at0 fn : Nat} {first cap : Array Value} {val : Nat → Nat} {T : Nat → Nat} {es : List En} (hl : Loads w fn first cap S val) (hT : NTab w T) (h8 : at0 % 8 = 0) (hS : at0 + 256 ≤ S) (he : EsOk Lr S es)
    (hv : val (at0 / 8) = sst es.length (crcW T (ewords es))) (hw : ∀ i x, (ewords es)[i]? = some x → val (at0 / 8 + 8 + i) = x) :
    Calls Tryz.prog 55 #[rgn Lr S, .func (.func fn) first cap, u64 at0] w fun e w' => ∃ ea en ec vw, e = .returned (.tuple #[.agg #[.int .u8 3, .slice ea en ec, vw], .bool true]) ∧
      w'.ownsRow w.heap.size 66 2 vw es.length (wcells (ewr es)) ∧ Below w.heap.size w w' := by
  have hcall := hl.call
  have hsm := hl.small
  have hn := he.n
  have hg := fun w' hb => hl.get w' at0 hb h8 (by omega)
  rw [hv] at hg
  have HG := Lib.hid hg
  have HL := Lib.hid hl; have HE := Lib.hid he; have HW := Lib.hid hw; have HT := Lib.hid hT
  have hcl := crcW_lt hT (ewords es)
  have hwl := ewords_length es
  obtain ⟨ws, hws⟩ : ∃ ws, ws = ewords es := ⟨_, rfl⟩
  rw [← hws] at hcl hwl HW HG
  have HWS := Lib.hid hws
  obtain ⟨C, hC⟩ : ∃ C, C = crcW T ws := ⟨_, rfl⟩
  rw [← hC] at hcl HG
  have HC := Lib.hid hC
  obtain ⟨n, hnn⟩ : ∃ n, n = es.length := ⟨_, rfl⟩
  rw [← hnn] at hwl hn HG
  have HN := Lib.hid hnn
  have hst := sst_lt (n := n) (c := C) hn.2 hcl
  have hsn := status_n (n := n) (c := C) hn.2
  have hse := sst_ne (n := n) (c := C) hn.1 hn.2
  obtain ⟨st, hstt⟩ : ∃ st, st = sst n C := ⟨_, rfl⟩
  rw [← hstt] at hst hsn hse HG
  have HSTT := Lib.hid hstt
  have e1 := u64_and_nat (st / 256) 255 (by omega) (by omega)
  rw [hsn] at e1
  have q1 : ((st / 256 : Nat) : Int) = (st : Int) / 256 := by omega
  have q2 : ((255 : Nat) : Int) = 255 := rfl
  rw [q1, q2] at e1
  have d1 : ((st : Int) == 1836515329) = false := beq_eq_false_iff_ne.2 (by unfold unusedW at hse; omega)
  have b1 : (st : Int) < 18446744073709551616 := by omega
  have b2 : (1 : Int) ≤ n := by omega
  have b3 : (n : Int) ≤ 6 := by omega
  have d2 : decide ((n : Int) < 1) = false := decide_eq_false (by omega)
  have d3 : decide ((6 : Int) < n) = false := decide_eq_false (by omega)
  have b4 : (at0 : Int) + 256 ≤ 1000000 := by omega
  clear hl hg hv he hw hT hws hC hnn hstt hsn hse q1 q2
  unfold rgn u64 at *
  go_enter Tryz.func55, Tryz.ntmps55
  go_wp2_with fail
  refine (HG.out _ (below_alloc (below_alloc (Below.refl _ _)))).mono ?_
  rintro e w' ⟨rfl, rfl⟩
  go_wp2_with fail
  obtain ⟨W, hW⟩ : ∃ W, W = (w.alloc (.cells #[.int .i64 0, .int .i64 Lr, .int .u64 S] 75)).alloc (.cells #[.int .u8 0, .slice none 0 0, .slice none 0 0] 101) := ⟨_, rfl⟩
  have hWb : Below w.heap.size w W := by rw [hW]; exact below_alloc (below_alloc (Below.refl _ _))
  have hWr : W.heap[w.heap.size]? = some (.cells #[.int .i64 0, .int .i64 Lr, .int .u64 S] 75 (0, 0)) := by rw [hW, heap_alloc_lt (by simp)]; exact heap_alloc_new _ _
  have hWd : W.heap[w.heap.size + 1]? = some (.cells #[.int .u8 0, .slice none 0 0, .slice none 0 0] 101 (0, 0)) := by
    rw [hW]
    have := heap_alloc_new (w.alloc (.cells #[.int .i64 0, .int .i64 Lr, .int .u64 S] 75)) (.cells #[.int .u8 0, .slice none 0 0, .slice none 0 0] 101)
    simpa using this
  have hWs : W.heap.size = w.heap.size + 2 := by rw [hW]; simp
  rw [← hW]
  have HWB := Lib.hid hWb; have HWR := Lib.hid hWr; have HWD := Lib.hid hWd; have HWZ := Lib.hid hWs
  have HLW := Lib.hid (HL.out.below hWb)
  clear hW hWb hWr hWd hWs HG
  have b5 : (n : Int) * 3 ≤ 18 := by omega
  have hwl2 : (ws.length : Int) = (n : Int) * 3 := by omega
  have HWL := Lib.hid hwl2; have HWL1 := Lib.hid hwl
  clear hwl2 hwl
  go_loopw [10, 11, 36] (fun v _ i wr => R1Rel W ws v i wr) (fun _ _ i _ => ws.length - (intOf i).toNat)
  case atStart => exact ⟨0, by omega, rfl, World.ownsRow_nil _ _ _ _, Below.refl _ _⟩
  case round =>
    obtain ⟨k, hk, rfl, hown, hbel⟩ := hrel
    have hwl := HWL1.out
    by_cases hlt : k < ws.length
    · have hlt2 : (k : Int) < (n : Int) * 3 := by omega
      obtain ⟨x, hx⟩ : ∃ x, x = ws[k] := ⟨_, rfl⟩
      have hgk : ws[k]? = some x := by rw [hx]; exact List.getElem?_eq_getElem hlt
      have htk : ws.take (k + 1) = ws.take k ++ [x] := by rw [List.take_add_one, hgk]; rfl
      have hvx := HW.out k x hgk
      have hld := HLW.out.get wr (at0 + 64 + k * 8) hbel (by omega) (by omega)
      rw [show (at0 + 64 + k * 8) / 8 = at0 / 8 + 8 + k by omega, hvx] at hld
      have ec : ((at0 + 64 + k * 8 : Nat) : Int) = (at0 : Int) + 64 + (k : Int) * 8 := by omega
      unfold u64 at hld
      rw [ec] at hld
      have HLD := Lib.hid hld; have HTK := Lib.hid htk; have HO := Lib.hid hown; have HB := Lib.hid hbel
      clear hld htk hgk hx hvx hown hbel ec hwl
      go_wp2_with fail
      refine HLD.out.mono ?_
      rintro e w' ⟨rfl, rfl⟩
      go_wp2_with (at_builtin; refine wpList_own1 elWords rfl _ _ rfl HO.out rfl rfl ?c1 rfl ?c2 ?c3 ?c4 ?c5 ?_)
      case c1 => rfl
      case c2 => rfl
      case c3 => unfold maxLen; have := HWL1.out; omega
      case c4 => have := HWL1.out; omega
      case c5 => exact HB.out.size
      intro g4 cap4 w4 hop4 hgr4 hg4
      have hb4 : Below W.heap.size W w4 := HB.out.grown hgr4 HB.out.size (fun b hb => (HO.out.lt b hb).1)
      have G := Lib.hid (show R1Rel W ws (.slice (some ⟨g4, 0, none⟩) (k + 1) cap4) (.int .u64 ((k + 1 : Nat) : Int)) w4 from ⟨k + 1, by omega, rfl, by rw [HTK.out, uc_snoc]; exact hop4, hb4⟩)
      clear hop4 hgr4 hg4 hb4
      go_wp2_with fail
      go_roundw
      case rel => simpa using G.out
      case measure => simp [intOf]; omega
    · obtain rfl : k = ws.length := by omega
      rw [List.take_length] at hown
      have d5 : ¬ ((ws.length : Int) < (n : Int) * 3) := by omega
      obtain ⟨gw, cw, rfl⟩ : ∃ gw cw, u10 = .slice (some ⟨gw, 0, none⟩) ws.length cw := by
        rcases hown.2 with ⟨_, e⟩ | ⟨g, cap, cur, e, _⟩
        · omega
        · exact ⟨g, cap, e⟩
      have hgw := (hown.lt gw rfl).2
      have hseen : Seen wr gw 0 (ws.map u64) := fun j u hj => by
        have := hown.cells (g := gw) rfl j u hj
        rw [Addr.add_lit] at this
        exact this
      have hbw : Below w.heap.size w wr := HWB.out.trans (hbel.mono HWB.out.size)
      have hsu := succeeded_any (c := cw) (HT.out.below hbw (Nat.le_refl _)) hseen (by rw [HWS.out]; exact ewords_lt HE.out hsm) (by omega)
      rw [show ws.length / 3 = n by omega, ← HC.out, ← HSTT.out] at hsu
      have HSU := Lib.hid hsu; have HSE := Lib.hid hseen; have HB := Lib.hid hbel; have HBW := Lib.hid hbw
      have hst2 : R2Rel wr es (.int .i64 (0 : Nat)) (wr.alloc (.cells #[.int .u8 3, .slice none 0 0, .slice none 0 0] 101)) :=
        ⟨0, _, _, by omega, rfl, heap_alloc_new _ _, World.ownsRow_nil _ _ _ _, World.ownsRow_nil _ _ _ _, below_alloc (Below.refl _ _)⟩
      have HST2 := Lib.hid hst2
      have hR1 : wr.heap[w.heap.size]? = some (.cells #[.int .i64 0, .int .i64 Lr, .int .u64 S] 75 (0, 0)) := (hbel.block _ (by rw [HWZ.out]; omega)).trans HWR.out
      have hR2 : wr.heap[w.heap.size + 1]? = some (.cells #[.int .u8 0, .slice none 0 0, .slice none 0 0] 101 (0, 0)) := (hbel.block _ (by rw [HWZ.out]; omega)).trans HWD.out
      have HR1 := Lib.hid hR1; have HR2 := Lib.hid hR2
      have b6 : (ws.length : Int) ≤ 18 := by omega
      clear hown hbel hseen hbw hsu hst2 hR1 hR2 hlt hk hwl
      unfold u64 at HSU
      go_wp2_with fail
      refine HSU.out.mono ?_
      rintro e w' ⟨rfl, rfl⟩
      go_wp2_with fail
      obtain ⟨wo, rfl⟩ : ∃ wo : World, wo = wr := ⟨_, rfl⟩
      go_loopw [14, 15] (fun i _ wl => R2Rel wo es i wl) (fun i _ _ => ws.length - (intOf i).toNat)
      case atStart => exact HST2.out
      case round =>
        obtain ⟨j, ve, vw, hj, rfl, hd, hoe, how, hbl⟩ := hrel
        have hnn := HN.out
        by_cases hlt : j < es.length
        · have hwl := HWL1.out
          obtain ⟨J, hJ⟩ : ∃ J, J = 3 * j := ⟨_, rfl⟩
          rw [← hJ]
          have b8 : (J : Int) < ws.length := by omega
          have HJ := Lib.hid hJ
          have ENV := Lib.hid (show R2Env wo Lr S w.heap.size gw es from ⟨hsm, HE.out, by rw [← HWS.out]; exact HSE.out, hgw, HR1.out⟩)
          have HD := Lib.hid hd; have HOE := Lib.hid hoe; have HOW := Lib.hid how; have HBL := Lib.hid hbl
          clear hd hoe how hbl hnn hj hwl hJ
          have HWE := HWS
          go_upto_block 3 with fail
          refine wp_ends ?_
          rw [HWS.out, HJ.out]
          refine block3 ENV.out hlt HD.out HOE.out HOW.out HBL.out ?_
          intro _ _ _ _ _ _ _ _ _ _ _ _ _ _ _ _ _ _ _ _ _ _ _ _ _ _ _ _ _ _ _ _ _ _ _ _ _ _ _ _ _ _ _ _ _ _ _ _ _ _ _ _ _ _ _ _ _ _ _ _ _ _ _ _ _ _ _ _ w4 hr4
          have G := Lib.hid hr4
          clear hr4
          rw [← HWE.out, ← HJ.out]
          go_wp2_with fail
          have g := G.out
          rw [show ((3 * (j + 1) : Nat) : Int) = (J : Int) + 3 by have := HJ.out; omega] at g
          refine ⟨?_, ?_⟩
          · first
              | exact g
              | ((repeat apply Exists.intro); exact ⟨g, rfl⟩)
          · simp [intOf]; omega
        · obtain ⟨ea, ec, rfl⟩ := own_slice hoe
          obtain ⟨wa, wc, rfl⟩ := own_slice how
          obtain rfl : j = es.length := by omega
          have hwl := HWL1.out
          have d6 : ¬ (((3 * es.length : Nat) : Int) < ws.length) := by omega
          have d7 : decide (3 * es.length < ws.length) = false := decide_eq_false (by omega)
          have k1 : wr.cell? ⟨wo.heap.size, 0, none⟩ = some (.int .u8 3) := (cell_block hd).trans rfl
          have k2 : wr.cell? ⟨wo.heap.size, 1, none⟩ = some (.slice ea es.length ec) := (cell_block hd).trans rfl
          have k3 : wr.cell? ⟨wo.heap.size, 2, none⟩ = some (.slice wa es.length wc) := (cell_block hd).trans rfl
          have hdr : wr.heap[w.heap.size + 1]? = some (.cells #[.int .u8 0, .slice none 0 0, .slice none 0 0] 101 (0, 0)) := (hbl.block _ (heap_lt HR2.out)).trans HR2.out
          have k4 : wr.cell? ⟨w.heap.size + 1, 0, none⟩ = some (.int .u8 0) := (cell_block hdr).trans rfl
          have k5 : wr.cell? ⟨w.heap.size + 1, 1, none⟩ = some (.slice none 0 0) := (cell_block hdr).trans rfl
          have k6 : wr.cell? ⟨w.heap.size + 1, 2, none⟩ = some (.slice none 0 0) := (cell_block hdr).trans rfl
          have k7 : wr.frozen? ⟨w.heap.size + 1, 0, none⟩ = false := free_block hdr
          have k8 : wr.frozen? ⟨w.heap.size + 1, 1, none⟩ = false := free_block hdr
          have k9 : wr.frozen? ⟨w.heap.size + 1, 2, none⟩ = false := free_block hdr
          have hlt2 := heap_lt HR2.out
          rw [List.take_length] at how
          have how2 := (((how.kept (grownBy_set wr (w.heap.size + 1) 0 (.int .u8 3)) (.inr (by have := own_cells_ne how hdr (by decide); exact fun e => this e.symm))).kept (grownBy_set _ (w.heap.size + 1) 1 (.slice ea es.length ec)) (.inr (by have := own_cells_ne how hdr (by decide); exact fun e => this e.symm))).kept (grownBy_set _ (w.heap.size + 1) 2 (.slice wa es.length wc)) (.inr (by have := own_cells_ne how hdr (by decide); exact fun e => this e.symm)))
          have hbw : Below w.heap.size w wr := HBW.out.trans (hbl.mono (by omega))
          have hbz : Below w.heap.size w (((wr.setCell ⟨w.heap.size + 1, 0, none⟩ (.int .u8 3)).setCell ⟨w.heap.size + 1, 1, none⟩ (.slice ea es.length ec)).setCell ⟨w.heap.size + 1, 2, none⟩ (.slice wa es.length wc)) :=
            ((hbw.setCell (p := ⟨w.heap.size + 1, 0, none⟩) (by simp) _).setCell (p := ⟨w.heap.size + 1, 1, none⟩) (by simp) _).setCell (p := ⟨w.heap.size + 1, 2, none⟩) (by simp) _
          have G1 := Lib.hid (how2.mono (show w.heap.size ≤ wo.heap.size + 1 by omega)); have G2 := Lib.hid hbz
          clear hdr hlt2 how how2 hbw hbz hd hoe hbl hwl hnn hlt hj
          clear HL HE HT HW HWS HC HN HSTT HWB HWR HWD HWZ HLW HWL HWL1 HSE HB HBW HR1 HR2 HSU HST2 hcl hn hst e1 d1 d2 d3 hcall b1 b2 b3 b4 b5 d5 hgw
          go_wp2_with fail
          refine bodyPost_ret (v := .tuple #[.agg #[.int .u8 3, .slice ea es.length ec, .slice wa es.length wc], .bool true]) ?_ rfl ?_
          · simp [results, Tryz.results55, go_sem, k4, k5, k6]
          · exact ⟨_, _, _, _, rfl, G1.out, G2.out⟩
end Go.Proofs.YtejlgnebofdijaaGreatDoor.Dv
