/-
  The law TopMwcasLinear: the walk.
-/
import Derived.Test.YtejlgnebofdijaaGreatDoorMCxA
import Derived.Test.YtejlgnebofdijaaGreatDoorMCr14
namespace Go.Proofs.YtejlgnebofdijaaGreatDoor.Dv
open Go.RowKit
open Ln (Cl Ev HC Hi Run HOk hist up up_same up_ne)
set_option linter.unusedVariables false

set_option maxHeartbeats 20000000 in
set_option maxRecDepth 1000000 in
theorem topLinear_any {W : World} {T : Nat → Nat} {ca pa : Option Addr} {cn cc pc z0 z1 : Nat} {rc : Nat → RC} {zs : List Nat} (hT : NTab W T) (hP : PTab W) (hc : CArg W ca cn rc) (hp : PArg W pa zs) (hcc : cn ≤ cc ∧ cc ≤ maxLen) (hpc : zs.length ≤ pc ∧ pc ≤ maxLen) (hca : ca = none → cc = 0) (hpa : pa = none → pc = 0) (hz : z0 < 65536 ∧ z1 < 65536) (hrc : ∀ i, (rc i).Ok) :
    Calls Tryz.prog 3 #[.slice ca cn cc, .slice pa zs.length pc, .agg #[.int .u16 z0, .int .u16 z1]] W (TlPost W) := by
  have hbV : Below W.heap.size W (W.alloc (.cells #[.int .u16 z0, .int .u16 z1] 25)) := below_alloc (Below.refl _ _)
  obtain ⟨W0, hW0⟩ : ∃ W0, W0 = W.alloc (.cells #[.int .u16 z0, .int .u16 z1] 25) := ⟨_, rfl⟩
  rw [← hW0] at hbV
  have HN := Lib.hid (show Calls Tryz.prog 4 #[.int .i64 110] W0 fun r w' => ∃ v, r = .returned (.tuple #[v, .int .i64 0]) ∧ Made W0 (fun _ => False) (fresh 110 (fun _ => 0)) v w' from new_dev (L := 110) (by omega))
  have HRC := Lib.hid hrc
  have HT := Lib.hid (hT.below hbV (Nat.le_refl _)); have HBV := Lib.hid hbV; have HP := Lib.hid hP; have HC := Lib.hid hc; have HPA := Lib.hid hp; have HCC := Lib.hid hcc; have HPC := Lib.hid hpc; have HCN := Lib.hid hca; have HPN := Lib.hid hpa; have HZ := Lib.hid hz; have HW0 := Lib.hid hW0
  clear hT hP hc hp hcc hpc hca hpa hz hW0 hbV
  go_enter Tryz.func3, Tryz.ntmps3
  go_upto_region 1 with fail
  rw [← HW0.out]
  go_wp2_with fail
  refine HN.out.mono ?_
  rintro e W1 ⟨v, rfl, A, F, rfl, hd, hb, hF⟩
  have hF2 : ∀ k, F k ≠ none → W0.heap.size ≤ k := fun k hk => (hF k hk).resolve_left (fun h => h)
  have HD := Lib.hid hd; have HB := Lib.hid hb; have HF := Lib.hid hF2
  have HTH := Lib.hid (thread_dev hd (i := 0) (by omega))
  have HFM := Lib.hid (show Calls Tryz.prog 5 #[mthr (A.t 0), .int .i64 0, .int .i64 96] W1 (fun e w' => e = .returned (.int .i64 0) ∧ Went W1 A F setF w') from
    (format_any hd (t := 0) (by omega) rfl (by show 96 ≤ 110; omega) (by show 0 + 100 ≤ _; omega)).mono (fun e w' (h : FoPost W1 A F set0 0 e w') => by
      obtain ⟨rfl, h2⟩ := h
      refine ⟨?_, h2⟩
      have : (set0.runs 0 (prog (fmtl 24))).err 0 = 0 := (setF_ok.calm 0).err
      rw [this]
      rfl))
  clear hd hb hF hF2 HN
  unfold ptr mthr at *
  go_wp2_with fail
  refine HTH.out.mono ?_
  rintro e w1 ⟨rfl, rfl⟩
  go_wp2_with fail
  refine HFM.out.mono ?_
  rintro e w2 ⟨rfl, F2, hd2, hm2⟩
  obtain ⟨hb2, hF2⟩ := below_moved HB.out HF.out hm2
  have HOP := Lib.hid (open_any hd2 (HT.out.below hb2 (Nat.le_refl _)) (by rw [setF_ok.L]; omega) setF_desc)
  have HB2 := Lib.hid hb2; have HF2 := Lib.hid hF2
  clear hd2 hm2 hb2 hF2 HFM HTH HD HB HF
  unfold ptr at HOP
  go_wp2_with fail
  refine HOP.out.mono ?_
  rintro e w3 ⟨B, G, rfl, hmw, hb3, hG, hnb⟩
  unfold ptr
  have HMW := Lib.hid hmw; have HB3 := Lib.hid (HB2.out.trans (hb3.mono HB2.out.size)); have HNB := Lib.hid hnb
  have HLO := Lib.hid (show ∀ b, F2 b ≠ none ∨ G b ≠ none → W0.heap.size ≤ b from fun b hb => by
    rcases hb with h | h
    · exact HF2.out b h
    · have := hG b h; have := HB2.out.size; omega)
  clear hmw hb3 hG hnb HOP HF2 HB2
  go_upto_region 7 with (fail)
  go_cut [0] (fun v wc => ClCut w3 rc v wc)
  case first =>
    obtain ⟨hcc1, hcc2⟩ := HCC.out
    have i1 : (cn : Int) ≤ cc := by omega
    by_cases h6 : cn ≤ 6
    · have d1 : (cn : Int) ≤ 6 := by omega
      have d2 : min (cn : Int) 6 = cn := by omega
      obtain ⟨g, cap, w5, hrun, hrow, hx1, hx2, hgr, hg⟩ := calls_append (w := w3.alloc (.cells #[.int .u8 0, .bool false, .int .u8 0, .int .u8 2, .int .u8 0, .bool true, .int .u8 0, .int .u8 0] 37)) (k := cn) (cc := cc) (g0 := w3.heap.size) (HC.out.below (HBV.out.trans ((below_alloc HB3.out (o := .cells #[.int .u8 0, .bool false, .int .u8 0, .int .u8 2, .int .u8 0, .bool true, .int .u8 0, .int .u8 0] 37)).mono HBV.out.size)) (Nat.le_refl _)) (by omega) (by omega) (by omega) (heap_alloc_new _ _)
      have hb5 : Below w3.heap.size w3 w5 := below_grown (below_alloc (Below.refl _ _)) hgr (by simp) (fun b hb => by cases hb; exact Nat.le_refl _)
      have GG := Lib.hid (show ClCut w3 rc (.slice (some ⟨g, 0, none⟩) (2 + cn) cap) w5 from ⟨cn, g, cap, by omega, rfl, hrow, hx1, hx2, hb5, by rcases hg with h | h; omega; simp at h; omega⟩)
      clear hrow hx1 hx2 hgr hg hb5 h6
      go_wp2_with (at_builtin; refine wpList_append_run rfl _ _ _ rfl _ _ _ _ rfl rfl hrun ?_)
      go_meet
      exact GG.out
    · have d1 : (6 : Int) < cn := by omega
      have d2 : min (cn : Int) 6 = 6 := by omega
      have d3 : (6 : Int) ≤ cc := by omega
      obtain ⟨a, rfl⟩ : ∃ a, ca = some a := by
        cases ca with
        | none => have := HCN.out rfl; omega
        | some a => exact ⟨a, rfl⟩
      obtain ⟨g, cap, w5, hrun, hrow, hx1, hx2, hgr, hg⟩ := calls_append (w := w3.alloc (.cells #[.int .u8 0, .bool false, .int .u8 0, .int .u8 2, .int .u8 0, .bool true, .int .u8 0, .int .u8 0] 37)) (k := 6) (cc := cc) (g0 := w3.heap.size) (HC.out.below (HBV.out.trans ((below_alloc HB3.out (o := .cells #[.int .u8 0, .bool false, .int .u8 0, .int .u8 2, .int .u8 0, .bool true, .int .u8 0, .int .u8 0] 37)).mono HBV.out.size)) (Nat.le_refl _)) (by omega) (by omega) (by omega) (heap_alloc_new _ _)
      have hb5 : Below w3.heap.size w3 w5 := below_grown (below_alloc (Below.refl _ _)) hgr (by simp) (fun b hb => by cases hb; exact Nat.le_refl _)
      have GG := Lib.hid (show ClCut w3 rc (.slice (some ⟨g, 0, none⟩) (2 + 6) cap) w5 from ⟨6, g, cap, by omega, rfl, hrow, hx1, hx2, hb5, by rcases hg with h | h; omega; simp at h; omega⟩)
      clear hrow hx1 hx2 hgr hg hb5 h6
      go_wp2_with (at_builtin; refine wpList_append_run rfl _ _ _ rfl _ _ _ _ rfl rfl hrun ?_)
      go_meet
      exact GG.out
  case rest =>
    obtain ⟨k, kb, kc, hk6, rfl, hrow, hkc1, hkc2, hbc, hkb⟩ := hcut
    have hcw := cw_start HMW.out HNB.out HB3.out HLO.out HT.out hbc hkb hrow ⟨hkc1, hkc2⟩ HRC.out hk6
    have HCW := Lib.hid hcw
    obtain ⟨V0, rfl⟩ : ∃ V0, V0 = wc := ⟨_, rfl⟩
    have hwbl : V0.heap.size < (V0.alloc (.cells #[.pointer (some ⟨A.d, 0, none⟩), .pointer (some ⟨B.p, 0, none⟩), .slice (some ⟨kb, 0, none⟩) (2 + k) kc, .int .i64 0, .nilIface, .nilIface, .nilIface, .int .i64 0, .int .i64 0, .int .i64 0, .slice none 0 0] 45)).heap.size := by simp
    have hk6' : (k : Int) ≤ 6 := by omega
    clear hcw hrow hbc hkb HMW HNB HB3 HLO
    go_upto_region 9 with (fail)
    obtain ⟨V5, hV5⟩ : ∃ V5, V5 = V0.alloc (.cells #[.pointer (some ⟨A.d, 0, none⟩), .pointer (some ⟨B.p, 0, none⟩), .slice (some ⟨kb, 0, none⟩) (2 + k) kc, .int .i64 0, .nilIface, .nilIface, .nilIface, .int .i64 0, .int .i64 0, .int .i64 0, .slice none 0 0] 45) := ⟨_, rfl⟩
    obtain ⟨wb, hwb⟩ : ∃ wb, wb = V0.heap.size := ⟨_, rfl⟩
    rw [← hV5, ← hwb] at HCW hwbl
    rw [← hV5, ← hwb]
    clear hV5 hwb
    go_cut [1] (fun v wc => PkCut W pa pc V5 v wc)
    case first =>
      obtain ⟨hpc1, hpc2⟩ := HPC.out
      have i1 : (zs.length : Int) ≤ pc := by omega
      by_cases h4 : zs.length ≤ 400
      · have d1 : (zs.length : Int) ≤ 400 := by omega
        have d2 : min (zs.length : Int) 400 = zs.length := by omega
        have GG := Lib.hid (show PkCut W pa pc V5 (.slice pa zs.length pc) V5 from ⟨rfl, zs, rfl, HPA.out, h4, hpc1⟩)
        clear h4
        go_wp2_with fail
        go_meet
        exact GG.out
      · have d1 : (400 : Int) < zs.length := by omega
        have d2 : min (zs.length : Int) 400 = 400 := by omega
        have d3 : (400 : Int) ≤ pc := by omega
        obtain ⟨a, rfl⟩ : ∃ a, pa = some a := by
          cases pa with
          | none => have := HPN.out rfl; omega
          | some a => exact ⟨a, rfl⟩
        have hl : (zs.take 400).length = 400 := by rw [List.length_take]; omega
        have GG := Lib.hid (show PkCut W (some a) pc V5 (.slice (some a) 400 pc) V5 from ⟨rfl, zs.take 400, by rw [hl], fun j z hz => HPA.out j z (by rw [List.getElem?_take] at hz; split at hz; exact hz; cases hz), by omega, by omega⟩)
        clear h4 hl
        go_wp2_with fail
        go_meet
        exact GG.out
    case rest =>
      obtain ⟨hwc, ys, rfl, hys, hy4, hypc⟩ := hcut
      rw [hwc]
      clear hwc
      have HYS := Lib.hid hys
      have hyI : (ys.length : Int) ≤ pc := by omega
      have hy4I : (ys.length : Int) ≤ 400 := by omega
      have HREL := Lib.hid (show PkRel (2 + k) T W0 wb kb kc ys.length (.int .i64 (0 : Nat)) V5 from ⟨0, _, Nat.zero_le _, rfl, HCW.out, Nat.zero_le _, by show setF.ex ≤ _; have := setF_ok.ex; omega⟩)
      clear HCW hys
      go_wp2_with fail
      go_loopw [66] (fun i wl => PkRel (2 + k) T W0 wb kb kc ys.length i wl) (fun i _ => ys.length - (intOf i).toNat)
      case atStart => exact HREL.out
      case round =>
        obtain ⟨j, s, hj, rfl, hcw, hcr, hexj⟩ := hrel
        clear HREL
        by_cases hjl : j < ys.length
        · have hjl2 : (j : Int) < ys.length := by omega
          obtain ⟨x, hx⟩ : ∃ x, x = ys[j] := ⟨_, rfl⟩
          obtain ⟨hx256, pb, po, rfl, hpc0⟩ := HYS.out j x (by rw [hx]; exact List.getElem?_eq_getElem hjl)
          have hbW := HBV.out.trans (hcw.ch.bel.mono HBV.out.size)
          have p0 : wr.cell? ⟨pb, po + j, none⟩ = some (.int .u8 x) := (hbW.cell (p := ⟨pb, po + j, none⟩) (World.block_lt_of_cell? _ _ hpc0)).trans hpc0
          have hzb : W0.heap[W.heap.size]? = some (.cells #[.int .u16 z0, .int .u16 z1] 25 (0, 0)) := by rw [HW0.out]; exact heap_alloc_new _ _
          have hzb2 := (hcw.ch.bel.block _ (heap_lt hzb)).trans hzb
          have q0 : wr.cell? ⟨W.heap.size, 0, none⟩ = some (.int .u16 z0) := (cell_block hzb2).trans rfl
          have q1 : wr.cell? ⟨W.heap.size, 1, none⟩ = some (.int .u16 z1) := (cell_block hzb2).trans rfl
          obtain ⟨hz0, hz1⟩ := HZ.out
          have z0I : (z0 : Int) < 65536 := by omega
          have z1I : (z1 : Int) < 65536 := by omega
          have xI : (x : Int) < 256 := by omega
          have HCW := Lib.hid hcw; have HXX := Lib.hid hx; have HBW := Lib.hid hbW
          clear hcw hx hpc0 hbW hzb hzb2
          obtain ⟨qq, hqq⟩ : ∃ qq, qq = z0 % 500 := ⟨_, rfl⟩
          have eqq : (z0 : Int) % 500 = (qq : Int) := by omega
          clear hqq
          go_upto_if 76 with (fail)
          go_cut [] (fun wc => CrCut (2 + k) T W0 wb kb kc j wc)
          case first =>
            by_cases hcr2 : j = qq
            · have d1 : ((j : Int) == (qq : Int)) = true := by rw [hcr2]; simp
              have hjl3 : j < ys.length := hjl
              obtain ⟨pd, l, vv, od, nw, hlk, hnu⟩ := HCW.out.lk
              have HLK := Lib.hid hlk
              have HOKD := Lib.hid HCW.out.ch.mw.dev.ok
              have c0 : wr.cell? ⟨wb, 0, none⟩ = some (.pointer (some ⟨s.A.d, 0, none⟩)) := HCW.out.ch.row.cell 0 (by omega)
              have hWW : W.heap.size < W0.heap.size := by rw [HW0.out]; simp
              have hwb0 := HCW.out.ch.lo2.1
              have hcbl : W.heap.size < wr.heap.size := Nat.lt_of_lt_of_le hWW HCW.out.ch.bel.size
              have hu1 : 0 ≤ IntKind.u8.wrap (z1 : Int) ∧ IntKind.u8.wrap (z1 : Int) < 256 := by rw [IntKind.wrap_u8]; omega
              have hu2 : 0 ≤ IntKind.u8.wrap ((z1 : Int) / 256) ∧ IntKind.u8.wrap ((z1 : Int) / 256) < 256 := by rw [IntKind.wrap_u8]; omega
              have HCRA := Lib.hid (show Calls Tryz.prog 8 #[.pointer (some ⟨s.A.d, 0, none⟩), .slice (some ⟨wr.heap.size, 0, none⟩) 2 2] (wr.alloc (.cells #[.int .u8 (IntKind.u8.wrap (z1 : Int)), .int .u8 (IntKind.u8.wrap ((z1 : Int) / 256))] 5)).drew (L14Post wb W.heap.size z1 (fun a2 w' => ∃ (A2 : DAd) (F2 : Nat → Option Role) (m : Nat → Nat), A2.d = a2 ∧ s.m.dev.Cut m ∧ CrI (2 + k) W0 wb kb (setf (cwf (2 + k) kb kc s) 0 (ptr A2.d)) s.rc s.ev s.evv A2 (s.m.dev.after m) F2 w')) from by
                have hb : Below wr.heap.size wr (wr.alloc (.cells #[.int .u8 (IntKind.u8.wrap (z1 : Int)), .int .u8 (IntKind.u8.wrap ((z1 : Int) / 256))] 5)).drew := below_drew (below_alloc (Below.refl _ wr))
                have hN : (wr.alloc (.cells #[.int .u8 (IntKind.u8.wrap (z1 : Int)), .int .u8 (IntKind.u8.wrap ((z1 : Int) / 256))] 5)).drew.heap[wr.heap.size]? = some (.cells #[.int .u8 (IntKind.u8.wrap (z1 : Int)), .int .u8 (IntKind.u8.wrap ((z1 : Int) / 256))] 5 (0, 0)) := heap_alloc_new wr _
                refine (crash_dev (ca := some ⟨wr.heap.size, 0, none⟩) (cn := 2) (cc := 2) (HCW.out.ch.below hb).mw.dev ⟨by omega, fun _ => ⟨_, 0, rfl, fun x hx => ?_⟩⟩).mono ?_
                · have hx2 : x = 0 ∨ x = 1 := by omega
                  rcases hx2 with rfl | rfl
                  · exact ⟨(IntKind.u8.wrap (z1 : Int)).toNat, by omega, by rw [cell_block hN, Int.toNat_of_nonneg hu1.1]; rfl⟩
                  · exact ⟨(IntKind.u8.wrap ((z1 : Int) / 256)).toNat, by omega, by rw [cell_block hN, Int.toNat_of_nonneg hu2.1]; rfl⟩
                · rintro e w' ⟨v, m, rfl, hcut, hm⟩
                  have hb3 : Below wr.heap.size wr w' := by
                    obtain ⟨_, _, _, _, hb3, _⟩ := hm
                    exact hb.trans (hb3.mono hb.size)
                  obtain ⟨A2, F2, rfl, hi⟩ := CrI.crash HCW.out.ch hb hm
                  exact ⟨A2.d, rfl, ⟨_, hi.cr.row.cell 0 (by omega)⟩, hi.cr.row.free 0, (hb3.cell (p := ⟨W.heap.size, 1, none⟩) hcbl).trans q1, Lib.hid ⟨A2, F2, m, rfl, hcut, hi.set 0 _⟩⟩)
              clear hcr2 hlk hnu p0 hu1 hu2
              go_upto_region 14 with (fail)
              refine wp_ends ?_
              refine regL14 c0 q1 hz1 (by omega) HCRA.out ?_
              intro a2 wc _ _ _ _ _ _ _ _ _ _ _ _ _ _ _ _ hp
              obtain ⟨A2, F2, m, rfl, hcutm, hi⟩ := hp
              obtain ⟨D, hok, hde, l', v', hl'⟩ := HLK.out.crashed HOKD.out hcutm (t := 0)
              have hL2 : (s.m.dev.after m).L = 110 := HLK.out.li.L
              have hx2 : (s.m.dev.after m).ex = 0 := rfl
              obtain ⟨s2, hs2⟩ : ∃ s2, s2 = s.m.dev.after m := ⟨_, rfl⟩
              rw [← hs2] at hi hok hde hl' hL2 hx2
              have HRO := Lib.hid hok; have HDE := Lib.hid hde; have HL' := Lib.hid hl'; have HLX := Lib.hid (And.intro hL2 hx2)
              obtain ⟨ea, ec, hevv⟩ := own_slice hi.cr.evs
              have hel1 : s.ev.length ≤ 416 := HCW.out.evl
              have v10 : wc.cell? ⟨wb, 10, none⟩ = some (.slice ea s.ev.length ec) := by rw [← hevv]; exact hi.cr.row.cell 10 (by omega)
              obtain ⟨V, hV⟩ : ∃ V, V = wc.alloc (.cells #[.int .i64 0, .bool false, .bool true, .int .u64 0, .bool false, .int .i64 0, .bool false] 52) := ⟨_, rfl⟩
              have hbV : Below wc.heap.size wc V := by rw [hV]; exact below_alloc (Below.refl _ _)
              have hN : V.heap[wc.heap.size]? = some (.cells #[.int .i64 0, .bool false, .bool true, .int .u64 0, .bool false, .int .i64 0, .bool false] 52 (0, 0)) := by rw [hV]; exact heap_alloc_new _ _
              have hiV := hi.below hbV
              have hown := hiV.cr.evs
              rw [hevv] at hown
              obtain ⟨g4, cap4, w4, hrun, how, hgr, hg4⟩ := append_own2 elCEv hown ⟨wc.heap.size, 0, none⟩ 1 1 (evc .crash) (by rfl) (fun j u hj => by rw [Addr.add_lit, Nat.zero_add, cell_block hN]; rw [← hj]; exact Array.getElem?_toList.symm) (by
                unfold evc
                repeat (first | exact List.forall_mem_nil _ | refine List.forall_mem_cons.2 ⟨rfl, ?_⟩)) (by omega) (by unfold maxLen; omega) (by omega) hiV.cr.bel.size
              have hi4 := hiV.push (e := .crash) how (by rw [hevv]; exact hgr) (by rw [hevv]; exact hg4)
              have hrow4 : Row w4 wb 45 11 _ := hiV.cr.row.of_block (hgr.block _ hiV.cr.row.lt (by rw [← hevv]; exact (row_own_ne hiV.cr.row hiV.cr.evs (by decide)).symm))
              have e10 := hrow4.cell 10 (by omega)
              have f10 := hrow4.free 10
              have HI4 := Lib.hid hi4
              have HVV := Lib.hid hV
              have hwl := hi.cr.row.lt
              have hel2 : (s.ev.length : Int) ≤ 416 := by omega
              clear hcutm hok hde hl' hL2 hx2 hs2 hi hevv hbV hN hiV hown how hgr hg4 hi4 hrow4 hV hel1 c0 HCRA HLK HOKD hWW hwb0 hcbl
              go_upto_region 15 with (fail)
              go_cut [] (fun wc => CbCut (2 + k) W0 wb kb kc s A2 s2 F2 wc)
              case first =>
                go_wp2_with (at_builtin; rw [← HVV.out]; refine wpList_append_run rfl _ _ _ rfl _ _ _ _ rfl rfl hrun ?_)
                go_meet
                exact ⟨_, HI4.out⟩
              case rest =>
                obtain ⟨evv, hi5⟩ := hcut
                have u4 := hi5.cr.row.cell 4 (by omega)
                have u5 := hi5.cr.row.cell 5 (by omega)
                have u6 := hi5.cr.row.cell 6 (by omega)
                have z4 := hi5.cr.row.free 4
                have z5 := hi5.cr.row.free 5
                have z6 := hi5.cr.row.free 6
                have HI5 := Lib.hid hi5
                clear hi5 HI4 HVV e10 f10 hrun v10
                go_upto_region 16 with (fail)
                go_cut [] (fun wc => CcCut (2 + k) W0 wb kb kc s A2 s2 F2 evv wc)
                case first =>
                  go_wp2_with fail
                  go_meet
                  exact ((HI5.out.set 4 .nilIface).set 5 .nilIface).set 6 .nilIface
                case rest =>
                  have hi6 : CrI (2 + k) W0 wb kb (setf (setf (setf (setf (setf (cwf (2 + k) kb kc s) 0 (ptr A2.d)) 10 evv) 4 .nilIface) 5 .nilIface) 6 .nilIface) s.rc (s.ev ++ [.crash]) evv A2 s2 F2 wc := hcut
                  have c0 : wc.cell? ⟨wb, 0, none⟩ = some (.pointer (some ⟨A2.d, 0, none⟩)) := hi6.cr.row.cell 0 (by omega)
                  have HOP := Lib.hid (open_any hi6.dev (HT.out.below hi6.cr.bel (Nat.le_refl _)) HRO.out.L HDE.out)
                  have HI6 := Lib.hid hi6
                  have hwl6 := hi6.cr.row.lt
                  clear hi6 hcut HI5 u4 u5 u6 z4 z5 z6
                  unfold ptr at HOP
                  go_wp2_with fail
                  refine HOP.out.mono ?_
                  rintro e w7 ⟨B7, G7, rfl, hmw7, hb7, hG7, hnb7⟩
                  have hj7 := HI6.out.pool hmw7 hb7 hG7 hnb7
                  have e1 := hj7.cr.row.cell 1 (by omega)
                  have f1 := hj7.cr.row.free 1
                  have hj8 := hj7.set 1 (ptr B7.p)
                  obtain ⟨w8, hw8⟩ : ∃ w8, w8 = w7.setCell ⟨wb, 1, none⟩ (.pointer (some ⟨B7.p, 0, none⟩)) := ⟨_, rfl⟩
                  have hj8' : CrJ (2 + k) W0 wb kb (setf (setf (setf (setf (setf (setf (cwf (2 + k) kb kc s) 0 (ptr A2.d)) 10 evv) 4 .nilIface) 5 .nilIface) 6 .nilIface) 1 (ptr B7.p)) s.rc (s.ev ++ [.crash]) evv A2 B7 (ms0 s2) F2 G7 w8 := by rw [hw8]; exact hj8
                  have c1 : w8.cell? ⟨wb, 1, none⟩ = some (.pointer (some ⟨B7.p, 0, none⟩)) := hj8'.cr.row.cell 1 (by omega)
                  have HRC := Lib.hid (recover_mw hj8'.mw (HT.out.below hj8'.cr.bel (Nat.le_refl _)) (t := 0) (by omega) HRO.out hnb7 HDE.out (by rw [HLX.out.2]; omega))
                  have HJ8 := Lib.hid hj8'; have HW8 := Lib.hid hw8
                  clear hmw7 hb7 hG7 hnb7 hj7 hj8 hj8' hw8 HOP HI6 c0
                  unfold ptr at HRC ⊢
                  go_upto_if 119 with (fail)
                  rw [← HW8.out]
                  go_wp2_with fail
                  refine HRC.out.mono ?_
                  rintro e w9 ⟨nn, rfl, hp9⟩
                  obtain ⟨F9, G9, hj9⟩ := HJ8.out.recovered hp9
                  have hca := recs_calm HRO.out 24 (by omega)
                  have GG := Lib.hid (show CrCut (2 + k) T W0 wb kb kc j w9 from ⟨_, hj9.cw HCW.out HT.out HL'.out (by omega) (fun y hy => by
                    rcases x11 hy with rfl | rfl | rfl | rfl | rfl | rfl | rfl | rfl | rfl | rfl | rfl <;> rfl), by
                    show crs (s.ev ++ [.crash]) ≤ j + 1
                    rw [crs_append]
                    have : crs [Ev.crash] = 1 := rfl
                    omega, by
                    show (recs s2 0 D 24).ex ≤ 700 + j
                    have := hca.2.2
                    rw [HLX.out.2] at this
                    omega⟩)
                  clear hp9 hj9 hca HRC HJ8 HW8
                  go_wp2_with fail
                  go_meet
                  exact GG.out
            · have d1 : ((j : Int) == (qq : Int)) = false := beq_eq_false_iff_ne.2 (by omega)
              have GG := Lib.hid (show CrCut (2 + k) T W0 wb kb kc j wr from ⟨s, HCW.out, by omega, hexj⟩)
              clear hcr2
              go_wp2_with fail
              go_meet
              exact GG.out
          case rest =>
            obtain ⟨s2, hcw2, hcr2, hex2⟩ := hcut
            have hst := step_cw hcw2 (t := x % 3) (by omega) (by omega)
            obtain ⟨tt, htt⟩ : ∃ tt, tt = x % 3 := ⟨_, rfl⟩
            rw [← htt] at hst
            have HST := Lib.hid hst; have HE2 := Lib.hid (And.intro hcr2 hex2)
            have et3 : (x : Int) % 3 = (tt : Int) := by omega
            have htt3 : (tt : Int) < 3 := by omega
            clear hst hcw2 hcr2 hex2 htt HCW q0 q1 p0
            unfold ptr at HST
            go_wp2_with fail
            refine HST.out.mono ?_
            rintro e w6 ⟨rfl, s3, hcw3, _, hex3, _, hcr3⟩
            have G := Lib.hid (show PkRel (2 + k) T W0 wb kb kc ys.length (.int .i64 ((j + 1 : Nat) : Int)) w6 from ⟨j + 1, s3, hjl, rfl, hcw3, by have := HE2.out; omega, by have := HE2.out; omega⟩)
            clear hcw3
            go_wp2_with fail
            go_roundw
            case rel => exact G.out
            case measure => simp [intOf]; omega
        · obtain rfl : j = ys.length := by omega
          have hm8 : 2 + k ≤ 8 := by omega
          have HREL2 := Lib.hid (show ThRel (2 + k) T W0 wb kb kc (.int .i64 (0 : Nat)) wr from ⟨0, s, by omega, rfl, hcw, by omega, fun u hu => absurd hu (by omega)⟩)
          clear hcw hcr hexj hj
          go_wp2_with fail
          go_loopw [137] (fun i wl => ThRel (2 + k) T W0 wb kb kc i wl) (fun i _ => 3 - (intOf i).toNat)
          case atStart => exact HREL2.out
          case round =>
            obtain ⟨t, s, ht3, rfl, hcw, hex, hfin⟩ := hrel
            clear HREL2
            by_cases htl : t < 3
            · have htl2 : (t : Int) < 3 := by omega
              have HIN := Lib.hid (show InRel (2 + k) T W0 wb kb kc t (.int .i64 (0 : Nat)) wr from ⟨0, s, rfl, hcw, by have := mz_le (t := t) (s := s) hm8; omega, by have := mz_le (t := t) (s := s) hm8; omega, hfin⟩)
              clear hcw hex hfin
              go_wp2_with fail
              go_loopw [14] (fun i wl => InRel (2 + k) T W0 wb kb kc t i wl) (fun i _ => 7001 - (intOf i).toNat)
              case atStart => exact HIN.out
              case round =>
                obtain ⟨n, s, rfl, hcw, hn, hx, hfin⟩ := hrel
                clear HIN
                have ht4 : t = 0 ∨ t = 1 ∨ t = 2 := by omega
                have c4 : wr.cell? ⟨wb, 4 + t, none⟩ = some (actv s.B (s.act t)) := by
                  have := hcw.ch.row.cell (4 + t) (by omega)
                  rw [this]
                  rcases ht4 with rfl | rfl | rfl <;> rfl
                have HCW := Lib.hid hcw; have HFI := Lib.hid hfin
                have hn7 : (n : Int) ≤ 7000 := by omega
                clear hcw hfin ht4
                go_upto_region 30 with (fail)
                go_cut [151] from 140 to 161 (fun v wc => CdCut (2 + k) T W0 wb kb kc t n v wc)
                case first =>
                  cases ha : s.act t with
                  | idle =>
                    rw [ha] at c4
                    unfold actv at c4
                    have HBN := Lib.hid (begin_cw HCW.out htl ha)
                    have HA := Lib.hid ha
                    clear ha
                    unfold ptr at HBN
                    go_wp2_with fail
                    refine HBN.out.mono ?_
                    rintro e w1 (⟨rfl, hcw, hno⟩ | ⟨rfl, s1, hcw, hn1, hact1, hdev1, hrest, hcrs, hoth⟩)
                    · have GG := Lib.hid (show CdCut (2 + k) T W0 wb kb kc t n (.bool false) w1 from ⟨s, hcw, hn, hx, HFI.out, .inr ⟨rfl, HA.out, hno⟩⟩)
                      clear hcw hno HBN
                      go_wp2_with fail
                      go_meet
                      exact GG.out
                    · have GG := Lib.hid (show CdCut (2 + k) T W0 wb kb kc t n (.bool true) w1 from ⟨s1, hcw, by have := mz_begin (t := t) hn1 hcw.nn; omega, by have := mz_begin (t := t) hn1 hcw.nn; rw [hdev1]; omega, fun u hu => (HFI.out u hu).step (by omega) hoth hrest, .inl ⟨rfl, hact1⟩⟩)
                      clear hcw hn1 hact1 hdev1 hrest hcrs hoth HBN
                      go_wp2_with fail
                      go_meet
                      exact GG.out
                  | rd r pl raw =>
                    rw [ha] at c4
                    unfold actv at c4
                    have GG := Lib.hid (show CdCut (2 + k) T W0 wb kb kc t n (.bool true) wr from ⟨s, HCW.out, hn, hx, HFI.out, .inl ⟨rfl, by rw [ha]; simp⟩⟩)
                    clear ha
                    go_wp2_with fail
                    go_meet
                    exact GG.out
                  | op i =>
                    rw [ha] at c4
                    unfold actv at c4
                    have GG := Lib.hid (show CdCut (2 + k) T W0 wb kb kc t n (.bool true) wr from ⟨s, HCW.out, hn, hx, HFI.out, .inl ⟨rfl, by rw [ha]; simp⟩⟩)
                    clear ha
                    go_wp2_with fail
                    go_meet
                    exact GG.out
                case rest =>
                  clear HCW HFI c4 hn hx
                  obtain ⟨s1, hcw1, hn1, hx1, hfin1, hv⟩ := hcut
                  rcases hv with ⟨rfl, hact⟩ | ⟨rfl, hft⟩
                  · have HST := Lib.hid (step_cw hcw1 htl (by omega))
                    have HFI := Lib.hid hfin1; have HAC := Lib.hid hact
                    clear hcw1 hfin1 hact
                    unfold ptr at HST
                    go_wp2_with fail
                    refine HST.out.mono ?_
                    rintro e w6 ⟨rfl, s3, hcw3, hrest, hex3, hdec, _, hoth⟩
                    obtain ⟨hn3, hm3⟩ := hdec HAC.out
                    have hmz := mz_step (M := 2 + k) hn3 hm3
                    have G := Lib.hid (show InRel (2 + k) T W0 wb kb kc t (.int .i64 ((n + 1 : Nat) : Int)) w6 from ⟨n + 1, s3, rfl, hcw3, by omega, by omega, fun u hu => (HFI.out u hu).step (by omega) hoth hrest⟩)
                    clear hcw3 hrest hex3 hdec hoth hn3 hm3 hmz HST HFI HAC
                    go_wp2_with fail
                    go_roundw
                    case rel => exact G.out
                    case measure => simp [intOf]; omega
                  · have G := Lib.hid (show ThRel (2 + k) T W0 wb kb kc (.int .i64 ((t + 1 : Nat) : Int)) wc from ⟨t + 1, s1, by omega, rfl, hcw1, by omega, fun u hu => by
                      rcases Nat.lt_succ_iff_lt_or_eq.1 hu with h | h
                      · exact hfin1 u h
                      · rw [h]; exact hft⟩)
                    clear hcw1 hfin1 hft
                    go_wp2_with fail
                    go_roundw
                    case rel => exact G.out
                    case measure => simp [intOf]; omega
            · obtain rfl : t = 3 := by omega
              obtain ⟨hnM, z, hfa⟩ := hcw.final hfin
              have hz3 : (z : Int) < 3 := by have := hfa.lt; omega
              have c0 : wr.cell? ⟨wb, 0, none⟩ = some (.pointer (some ⟨s.A.d, 0, none⟩)) := hcw.ch.row.cell 0 (by omega)
              have HTH := Lib.hid (thread_dev hcw.ch.mw.dev (i := 4) (by omega))
              have HLD := Lib.hid (load_cw hcw (off := 6400) (.inl rfl))
              have HV1 := Lib.hid (fun w1 => show Calls Tryz.prog 12 #[u64 (s.m.dev.cur 800)] w1 (fun e w' => e = .returned (.tuple #[u64 z, .bool true]) ∧ w1 = w') from by
                have := value_any (w := w1) (raw := s.m.dev.cur 800) (by have := hfa.a.1; omega)
                rw [hfa.a.2] at this
                exact this)
              have HV2 := Lib.hid (fun w1 => show Calls Tryz.prog 12 #[u64 (s.m.dev.cur 816)] w1 (fun e w' => e = .returned (.tuple #[u64 z, .bool true]) ∧ w1 = w') from by
                have := value_any (w := w1) (raw := s.m.dev.cur 816) (by have := hfa.b.1; omega)
                rw [hfa.b.2] at this
                exact this)
              have HFA := Lib.hid hfa; have HNM := Lib.hid hnM
              clear hcw hfin hfa hnM hex
              obtain ⟨ra, hra⟩ : ∃ ra, ra = s.m.dev.cur 800 := ⟨_, rfl⟩
              obtain ⟨rb, hrb⟩ : ∃ rb, rb = s.m.dev.cur 816 := ⟨_, rfl⟩
              rw [show 6400 / 8 = 800 from rfl, ← hra] at HLD
              rw [← hra] at HV1
              rw [← hrb] at HV2
              have HRB := Lib.hid hrb
              clear hra hrb
              unfold ptr at HTH HLD
              unfold Dv.u64 at HLD HV1 HV2
              go_wp2_with fail
              refine HTH.out.mono ?_
              rintro e w1 ⟨rfl, rfl⟩
              go_wp2_with fail
              refine HLD.out.mono ?_
              rintro e w1 ⟨rfl, hcw1⟩
              go_wp2_with fail
              refine (HV1.out _).mono ?_
              rintro e w2 ⟨rfl, rfl⟩
              have c01 : w1.cell? ⟨wb, 0, none⟩ = some (.pointer (some ⟨s.A.d, 0, none⟩)) := hcw1.ch.row.cell 0 (by omega)
              have HTH2 := Lib.hid (thread_dev hcw1.ch.mw.dev (i := 4) (by omega))
              have HLD2 := Lib.hid (load_cw hcw1 (off := 6528) (.inr rfl))
              rw [show 6528 / 8 = 816 from rfl, ← HRB.out] at HLD2
              clear hcw1 HTH HLD c0 HV1
              unfold ptr at HTH2 HLD2
              unfold Dv.u64 at HLD2
              go_wp2_with fail
              refine HTH2.out.mono ?_
              rintro e w2 ⟨rfl, rfl⟩
              go_wp2_with fail
              refine HLD2.out.mono ?_
              rintro e w2 ⟨rfl, hcw2⟩
              go_wp2_with fail
              refine (HV2.out _).mono ?_
              rintro e w3 ⟨rfl, rfl⟩
              have c3 : w2.cell? ⟨wb, 3, none⟩ = some (.int .i64 ((2 + k : Nat) : Int)) := by rw [← HNM.out]; exact hcw2.ch.row.cell 3 (by omega)
              have HRE := Lib.hid (record_cw hcw2)
              have HB2 := Lib.hid (HBV.out.trans (hcw2.ch.bel.mono HBV.out.size))
              clear hcw2 HTH2 HLD2 c01 HV2
              unfold ptr at HRE
              go_wp2_with fail
              refine HRE.out.mono ?_
              rintro e w4 ⟨X, hb, e4, c4, rfl, hat4, hb4⟩
              have hba : Below w4.heap.size w4 (w4.alloc (.cells #[.int .u64 0, .int .u64 z] 66)) := below_alloc (Below.refl _ _)
              have hb5 := HB2.out.trans ((hb4.trans (hba.mono hb4.size)).mono HB2.out.size)
              have HCK := Lib.hid (check_any (hat4.below hba) HFA.out.len HFA.out.new HFA.out.sol (heap_alloc_new w4 _) (HP.out.below hb5 (Nat.le_refl _)))
              have HB5 := Lib.hid hb5
              clear hat4 hb4 hba hb5 HRE HFA
              unfold ptr at HCK ⊢
              go_wp2_with fail
              refine HCK.out.mono ?_
              rintro e w6 ⟨v6, rfl, hb6⟩
              have GG := Lib.hid (show TlPost W (.returned (.bool true)) w6 from ⟨rfl, HB5.out.trans (hb6.mono HB5.out.size)⟩)
              clear hb6 HCK HB5
              go_wp2_with fail
              go_returns
              exact GG.out
end Go.Proofs.YtejlgnebofdijaaGreatDoor.Dv
