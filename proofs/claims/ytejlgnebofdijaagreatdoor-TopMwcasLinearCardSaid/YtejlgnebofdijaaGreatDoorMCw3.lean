/-
  begin of the statement's package: the walk.
-/
import Derived.Test.YtejlgnebofdijaaGreatDoorMCwA
namespace Go.Proofs.YtejlgnebofdijaaGreatDoor.Dv
open Go.RowKit
open Ln (Cl Ev Run up up_same up_ne)
set_option linter.unusedVariables false

set_option maxHeartbeats 4000000 in
set_option maxRecDepth 100000 in
theorem begin_cw {M : Nat} {T : Nat → Nat} {W0 : World} {wb kb kc t : Nat} {s : CS} {w : World} (h : Cw M T W0 wb kb kc s w) (ht : t < 3) (ha : s.act t = .idle) :
    Calls Tryz.prog 11 #[ptr wb, .int .i64 t] w (BnPost M T W0 wb kb kc s t) := by
  have c3 : w.cell? ⟨wb, 3, none⟩ = some (.int .i64 s.n) := h.ch.row.cell 3 (by omega)
  have hm := h.ch.m8
  have hnn := h.nn
  have H := Lib.hid h; have HA := Lib.hid ha
  have b1 : (M : Int) ≤ 8 := by omega
  have b2 : (t : Int) < 3 := by omega
  have b3 : (s.n : Int) ≤ M := by omega
  have hkc := h.ch.kcl
  have b4 : (M : Int) ≤ kc := by omega
  clear h ha hkc
  unfold ptr
  go_enter Tryz.func11, Tryz.ntmps11
  go_wp2_with fail
  go_loopw [5] (fun i wl => BnRel M s t w i wl) (fun i _ => M - (intOf i).toNat)
  case atStart => exact ⟨s.n, Nat.le_refl _, hnn, rfl, Below.refl _ _, fun j h1 h2 => absurd h2 (by omega)⟩
  case round =>
    obtain ⟨k, hk1, hk2, rfl, hb, hno⟩ := hrel
    have hc := H.out.ch.below hb
    have c2 : wr.cell? ⟨wb, 2, none⟩ = some (.slice (some ⟨kb, 0, none⟩) M kc) := hc.row.cell 2 (by omega)
    have HC := Lib.hid hc; have HB := Lib.hid hb; have HNO := Lib.hid hno
    clear hb hno hc c3
    by_cases hlt : k < M
    · have hlt2 : (k : Int) < M := by omega
      obtain ⟨e0, e1, e2, e3⟩ := HC.out.call hlt
      obtain ⟨c, hcc⟩ : ∃ c, c = s.rc k := ⟨_, rfl⟩
      rw [← hcc] at e0 e1 e2 e3
      have hok : c.Ok := by rw [hcc]; exact HC.out.rok k
      have HCC := Lib.hid hcc
      obtain ⟨o1, o2, o3⟩ := hok
      have o1' : (c.th : Int) < 256 := by omega
      have o2' : (c.od : Int) < 256 := by omega
      have o3' : (c.nw : Int) < 256 := by omega
      have hkl := World.block_lt_of_cell? _ _ e0
      have hwl := World.block_lt_of_cell? _ _ c2
      clear hcc
      by_cases hth : c.th % 3 = t
      · have d1 : ((c.th : Int) % 3 != (t : Int)) = false := by simp; omega
        have d2 : ((c.th : Int) % 3 == (t : Int)) = true := by simp; omega
        go_upto_region 6 with (fail)
        obtain ⟨V, hV⟩ : ∃ V, V = wr.alloc (.cells #[.int .u8 c.th, .bool c.rd, .int .u8 c.od, .int .u8 c.nw] 37) := ⟨_, rfl⟩
        have hbV : Below wr.heap.size wr V := by rw [hV]; exact below_alloc (Below.refl _ _)
        have hbx : BoxAt V wr.heap.size c := by rw [hV]; exact heap_alloc_new _ _
        rw [← hV]
        have hcV := HC.out.below hbV
        have HCV := Lib.hid hcV; have HBV := Lib.hid (HB.out.trans (hbV.mono HB.out.size)); have HBX := Lib.hid hbx
        have hnM : s.n < M := by omega
        obtain ⟨f0, f1, f2, f3⟩ := hcV.call hnM
        obtain ⟨c', hc'⟩ : ∃ c', c' = s.rc s.n := ⟨_, rfl⟩
        rw [← hc'] at f0 f1 f2 f3
        have HC' := Lib.hid hc'
        obtain ⟨g0, g1, g2, g3⟩ := hcV.call hlt
        rw [← HCC.out] at g0 g1 g2 g3
        have v2 : V.cell? ⟨wb, 2, none⟩ = some (.slice (some ⟨kb, 0, none⟩) M kc) := hcV.row.cell 2 (by omega)
        have v3 : V.cell? ⟨wb, 3, none⟩ = some (.int .i64 s.n) := hcV.row.cell 3 (by omega)
        have x0 : V.cell? ⟨wr.heap.size, 0, none⟩ = some (.int .u8 c.th) := (cell_block hbx).trans rfl
        have x1 : V.cell? ⟨wr.heap.size, 1, none⟩ = some (.bool c.rd) := (cell_block hbx).trans rfl
        have x2 : V.cell? ⟨wr.heap.size, 2, none⟩ = some (.int .u8 c.od) := (cell_block hbx).trans rfl
        have x3 : V.cell? ⟨wr.heap.size, 3, none⟩ = some (.int .u8 c.nw) := (cell_block hbx).trans rfl
        have fz := hcV.calls.free
        have z0 := fz (s.n * 4)
        have z1 := fz (s.n * 4 + 1)
        have z2 := fz (s.n * 4 + 2)
        have z3 := fz (s.n * 4 + 3)
        have y0 := fz (k * 4)
        have y1 := fz (k * 4 + 1)
        have y2 := fz (k * 4 + 2)
        have y3 := fz (k * 4 + 3)
        have b5 : (s.n : Int) < M := by omega
        have hne : wr.heap.size ≠ kb := by have := HC.out.calls.lt; omega
        have G1 := Lib.hid (fun (W : World) (hb : Below V.heap.size V W) (W2 : World) (hb2 : Below (put4 (put4 W kb k c') kb s.n c).heap.size (put4 (put4 W kb k c') kb s.n c) W2) => show SwCut M T W0 wb kb kc s k wr.heap.size W2 from by
          have h1 := (HCV.out.below hb).swap1 k
          rw [← HC'.out, ← HCC.out] at h1
          refine ⟨h1.below hb2, ?_⟩
          unfold BoxAt
          rw [hb2.block _ (Nat.lt_of_lt_of_le (Nat.lt_of_lt_of_le (heap_lt HBX.out) hb.size) ((only_put4 _ _ _ _).trans (only_put4 _ _ _ _) (fun _ _ e => e)).size), ((only_put4 _ _ _ _).trans (only_put4 _ _ _ _) (fun _ _ e => e)).block _ (Nat.lt_of_lt_of_le (heap_lt HBX.out) hb.size) hne, hb.block _ (heap_lt HBX.out), ← HCC.out]
          exact HBX.out)
        have G2 := Lib.hid (fun (W : World) (hb : Below V.heap.size V W) (W2 : World) (hb2 : Below (put4 (put4 W kb s.n c) kb k c').heap.size (put4 (put4 W kb s.n c) kb k c') W2) => show SwCut M T W0 wb kb kc s k wr.heap.size W2 from by
          have h1 := (HCV.out.below hb).swap2 k
          rw [← HC'.out, ← HCC.out] at h1
          refine ⟨h1.below hb2, ?_⟩
          unfold BoxAt
          rw [hb2.block _ (Nat.lt_of_lt_of_le (Nat.lt_of_lt_of_le (heap_lt HBX.out) hb.size) ((only_put4 _ _ _ _).trans (only_put4 _ _ _ _) (fun _ _ e => e)).size), ((only_put4 _ _ _ _).trans (only_put4 _ _ _ _) (fun _ _ e => e)).block _ (Nat.lt_of_lt_of_le (heap_lt HBX.out) hb.size) hne, hb.block _ (heap_lt HBX.out), ← HCC.out]
          exact HBX.out)
        unfold put4 at G1 G2
        have HCB := Lib.hid (HC.out.mw.none2 (Nat.le_refl wr.heap.size))
        clear hV hbV hbx hcV fz hc' e0 e1 e2 e3 c2 d1 d2 hkl hwl
        go_cut [] (fun wc => SwCut M T W0 wb kb kc s k wr.heap.size wc)
        case first =>
          by_cases hnk : k = s.n
          · obtain rfl : c' = c := by rw [HC'.out, HCC.out, hnk]
            subst hnk
            clear f0 f1 f2 f3 y0 y1 y2 y3
            go_region
            all_goals
              go_wp2_with fail
              go_meet
              first
                | with_reducible exact G1.out _ (Below.refl _ _) _ (below_drew (Below.refl _ _))
                | with_reducible exact G2.out _ (Below.refl _ _) _ (below_drew (Below.refl _ _))
                | with_reducible exact G1.out _ (Below.refl _ _) _ (Below.refl _ _)
                | with_reducible exact G2.out _ (Below.refl _ _) _ (Below.refl _ _)
          · have hnk2 : ¬ s.n = k := fun e => hnk e.symm
            go_region
            all_goals
              go_wp2_with fail
              go_meet
              first
                | with_reducible exact G1.out _ (Below.refl _ _) _ (below_drew (Below.refl _ _))
                | with_reducible exact G2.out _ (Below.refl _ _) _ (below_drew (Below.refl _ _))
                | with_reducible exact G1.out _ (Below.refl _ _) _ (Below.refl _ _)
                | with_reducible exact G2.out _ (Below.refl _ _) _ (Below.refl _ _)
        case rest =>
          obtain ⟨hsw, hbx⟩ := hcut
          have HSW := Lib.hid hsw; have HBX2 := Lib.hid hbx
          have x1 : wc.cell? ⟨wr.heap.size, 1, none⟩ = some (.bool c.rd) := by rw [HCC.out]; exact (cell_block hbx).trans rfl
          have x2 : wc.cell? ⟨wr.heap.size, 2, none⟩ = some (.int .u8 c.od) := by rw [HCC.out]; exact (cell_block hbx).trans rfl
          have x3 : wc.cell? ⟨wr.heap.size, 3, none⟩ = some (.int .u8 c.nw) := by rw [HCC.out]; exact (cell_block hbx).trans rfl
          have w1 : wc.cell? ⟨wb, 1, none⟩ = some (.pointer (some ⟨s.B.p, 0, none⟩)) := hsw.row.cell 1 (by omega)
          have hxl := heap_lt hbx
          have hwl := hsw.row.lt
          clear hsw hbx HCV HBV HBX HC G1 G2 f0 f1 f2 f3 g0 g1 g2 g3 v2 v3 x0 z0 z1 z2 z3 y0 y1 y2 y3 HC'
          go_upto_if 62 with (fail)
          go_cut [] (fun wc2 => MdCut M T W0 wb kb kc s k t wc2)
          case first =>
            obtain ⟨pd, l, v, od, nw, hlk, hnu⟩ := H.out.lk
            obtain ⟨hlk2, hcl⟩ := hlk.swap hk1
            have HLK := Lib.hid hlk2; have HCL := Lib.hid hcl; have HNU := Lib.hid hnu
            have hthc : (s.rc k).th % 3 = t := by rw [← HCC.out]; exact hth
            have HTH := Lib.hid hthc
            clear hlk hlk2 hcl hnu hthc
            cases hrd : c.rd with
            | true =>
              rw [hrd] at x1
              have HRC := Lib.hid (show (s.rc k).rd = true by rw [← HCC.out]; exact hrd)
              have HRD := Lib.hid (fun (W : World) (hb : Below wc.heap.size wc W) => read_mw (HSW.out.below hb).mw (t := t) (by omega) HLK.out.li.L)
              have HSET := Lib.hid (fun (W W1 : World) (r : Nat) (hb : Below wc.heap.size wc W) (hr1 : W.heap.size ≤ r) (hr2 : RdAt W1 r s.A s.B t 0 0 false) (hr3 : Below W.heap.size W W1) =>
                show (∃ u, W1.cell? ⟨wb, 4 + t, none⟩ = some u) ∧ W1.frozen? ⟨wb, 4 + t, none⟩ = false ∧ ∀ W2, Below (W1.setCell ⟨wb, 4 + t, none⟩ (.iface 103 (.pointer (some ⟨r, 0, none⟩)))).heap.size (W1.setCell ⟨wb, 4 + t, none⟩ (.iface 103 (.pointer (some ⟨r, 0, none⟩)))) W2 → MdCut M T W0 wb kb kc s k t W2 from by
                  have hW := HSW.out.below hb
                  have h1 := hW.below hr3
                  have hnone := hW.mw.none2 hr1
                  have hsz := hW.bel.size
                  have h2 := h1.setAct ht (.rd r 0 0) (fun r' pl raw e => by cases e; exact ⟨.inl ⟨by omega, hr2⟩, hnone.1, hnone.2, by omega⟩) (fun u r' pl raw pl' raw' hu e e' => by cases e; have := (hW.rds u _ _ _ e').1.lt; omega) (fun i e => by cases e)
                  refine ⟨⟨_, h1.row.cell (4 + t) (by omega)⟩, h1.row.free _, fun W2 hb2 => ⟨_, h2.below hb2, rfl, rfl, rfl, rfl, ?_, rfl, fun u hu => up_ne _ _ hu, pd, l, v, od, nw, ?_, HNU.out⟩⟩
                  · show up s.act t (.rd r 0 0) t ≠ .idle
                    rw [up_same]; simp
                  · exact HLK.out.begRd (t := t) (r := r) ht HA.out (by rw [HCL.out]; exact HTH.out) (by rw [HCL.out]; exact HRC.out))
              clear hrd x2 x3
              unfold ptr Dv.i64 Dv.u64 at HRD
              go_upto_region 8 with (fail)
              go_region_with (first
                | (go_at_call 33; refine (HRD.out _ (by repeat (first | exact Below.refl _ _ | apply below_drew))).mono ?_; rintro e V1 ⟨r, rfl, hr1, hr2, hr3⟩; obtain ⟨⟨uu, hu1⟩, hu2, hu3⟩ := HSET.out _ _ r (by repeat (first | exact Below.refl _ _ | apply below_drew)) hr1 hr2 hr3; have HU3 := Lib.hid hu3; clear hr1 hr2 hr3 hu3; unfold ptr))
              all_goals
                go_wp2_with fail
                go_meet
                first
                  | with_reducible exact HU3.out _ (Below.refl _ _)
                  | with_reducible exact HU3.out _ (below_drew (Below.refl _ _))
            | false =>
              rw [hrd] at x1
              have HRC := Lib.hid (show (s.rc k).rd = false by rw [← HCC.out]; exact hrd)
              obtain ⟨K, hK, hKf, hKt⟩ := HLK.out.free
              obtain ⟨oo, hoo⟩ : ∃ oo, oo = c.od % 3 := ⟨_, rfl⟩
              obtain ⟨nn, hnn2⟩ : ∃ nn, nn = c.nw % 3 := ⟨_, rfl⟩
              have hoo3 : oo < 3 := by omega
              have hnn3 : nn < 3 := by omega
              have hcl1 : (swp s.rc k s.n s.n).cl.old = oo := by rw [HCL.out, ← HCC.out, hoo]; rfl
              have hcl2 : (swp s.rc k s.n s.n).cl.new = nn := by rw [HCL.out, ← HCC.out, hnn2]; rfl
              have HNs := Lib.hid (show s.N ≤ 8 by have := HLK.out.Nn; omega)
              have hbk : BkS wb wr.heap.size s.B.p c.od c.nw wc := ⟨w1, x2, x3⟩
              have HBK := Lib.hid hbk
              have HBG := Lib.hid (fun (W : World) (hb : Below wc.heap.size wc W) => show Calls Tryz.prog 34 #[.pointer (some ⟨s.B.p, 0, none⟩), .int .i64 t, .slice (some ⟨W.heap.size, 0, none⟩) 2 2] (W.alloc (.cells #[.int .u64 6400, .int .u64 oo, .int .u64 nn, .bool false, .int .u64 6528, .int .u64 oo, .int .u64 nn, .bool false] 110)).drew (fun e w' => ∃ ob, e = .returned (.tuple #[.pointer (some ⟨ob, 0, none⟩), .int .i64 0]) ∧ BkS wb wr.heap.size s.B.p c.od c.nw w' ∧ Hid (Below wc.heap.size wc (W.alloc (.cells #[.int .u64 6400, .int .u64 oo, .int .u64 nn, .bool false, .int .u64 6528, .int .u64 oo, .int .u64 nn, .bool false] 110)).drew ∧ ∃ (ord : List Nat) (B' : MAd) (G' : Nat → Option Role), ob = B'.o s.N ∧ MW w' s.A B' 96 (s.N + 1) (s.m.begin s.N t K (es2 oo nn) ord) s.F G' ∧ OrdL 2 ord ∧ B'.nb = s.B.nb ∧ B'.p = s.B.p ∧ (∀ i, i < s.N → B'.o i = s.B.o i) ∧ MMoved s.F s.G s.F G' (W.alloc (.cells #[.int .u64 6400, .int .u64 oo, .int .u64 nn, .bool false, .int .u64 6528, .int .u64 oo, .int .u64 nn, .bool false] 110)).drew w')) from by
                have hb2 := below_drew (below_alloc hb (o := .cells #[.int .u64 6400, .int .u64 oo, .int .u64 nn, .bool false, .int .u64 6528, .int .u64 oo, .int .u64 nn, .bool false] 110))
                have hL : s.m.dev.L = 110 := HLK.out.li.L
                have hbg := begin_mw (HSW.out.below hb2).mw (t := t) (K := K) (eb := W.heap.size) (ecap := 2) (es := es2 oo nn) (by show s.N ≤ 19; have := HNs.out; omega) (by omega) HSW.out.nb (by omega) (HLK.out.li.calm t).err (by show EsNew (64 * s.m.dev.L) _; rw [hL]; exact es2_new hoo3 hnn3) (fun j u hj => by
                  exact (cell_block (w := (W.alloc _).drew) (heap_alloc_new W _)).trans (by rw [Nat.zero_add, ← Array.getElem?_toList]; exact hj)) (by show 2 ≤ 2; omega) hKt hKf
                refine hbg.mono ?_
                rintro e w' ⟨ord, B', G', rfl, h1, h2, h3, h4, h5, h6⟩
                have hk2 := HBK.out.below hb2
                have q1 := h6.only.block wb (World.block_lt_of_cell? _ _ hk2.1) (fun q => q.elim (fun q => q HSW.out.fw.1) (fun q => q HSW.out.fw.2))
                have q2 := h6.only.block wr.heap.size (World.block_lt_of_cell? _ _ hk2.2.1) (fun q => q.elim (fun q => q HCB.out.1) (fun q => q HCB.out.2))
                exact ⟨_, rfl, ⟨(World.cell?_of_block (a := ⟨wb, 1, none⟩) q1).trans hk2.1, (World.cell?_of_block (a := ⟨wr.heap.size, 2, none⟩) q2).trans hk2.2.1, (World.cell?_of_block (a := ⟨wr.heap.size, 3, none⟩) q2).trans hk2.2.2⟩, Lib.hid ⟨hb2, ord, B', G', rfl, h1, h2, h3, h4, h5, h6⟩⟩)
              have HSET := Lib.hid (fun (W0' W1 : World) (ob : Nat) (hq : Hid (Below wc.heap.size wc W0' ∧ ∃ (ord : List Nat) (B' : MAd) (G' : Nat → Option Role), ob = B'.o s.N ∧ MW W1 s.A B' 96 (s.N + 1) (s.m.begin s.N t K (es2 oo nn) ord) s.F G' ∧ OrdL 2 ord ∧ B'.nb = s.B.nb ∧ B'.p = s.B.p ∧ (∀ i, i < s.N → B'.o i = s.B.o i) ∧ MMoved s.F s.G s.F G' W0' W1)) =>
                show (∃ u, W1.cell? ⟨wb, 4 + t, none⟩ = some u) ∧ W1.frozen? ⟨wb, 4 + t, none⟩ = false ∧ ∀ W2, Below (W1.setCell ⟨wb, 4 + t, none⟩ (.iface 93 (.pointer (some ⟨ob, 0, none⟩)))).heap.size (W1.setCell ⟨wb, 4 + t, none⟩ (.iface 93 (.pointer (some ⟨ob, 0, none⟩)))) W2 → MdCut M T W0 wb kb kc s k t W2 from by
                  obtain ⟨hb, ord, B', G', rfl, h1, h2, h3, h4, h5, h6⟩ := hq.out
                  have hW := HSW.out.below hb
                  have hmv := hW.moved h1 h6 h3 h4 h5 (Nat.le_succ _)
                  have h7 := hmv.setAct ht (.op s.N) (fun r' pl raw e => by cases e) (fun u r' pl raw pl' raw' hu e => by cases e) (fun i e => by cases e; exact Nat.lt_succ_self _)
                  refine ⟨⟨_, hmv.row.cell (4 + t) (by omega)⟩, hmv.row.free _, fun W2 hb2 => ⟨_, h7.below hb2, rfl, rfl, rfl, rfl, ?_, rfl, fun u hu => up_ne _ _ hu, pd, l, v, upd od s.N oo, upd nw s.N nn, ?_, HNU.out⟩⟩
                  · show up s.act t (.op s.N) t ≠ .idle
                    rw [up_same]; simp
                  · have := HLK.out.begOp (t := t) (K := K) (ord := ord) ht HA.out (by rw [HCL.out]; exact HTH.out) (by rw [HCL.out]; exact HRC.out) (by omega) (by rw [hcl1, hcl2]; exact ⟨hoo3, hnn3⟩) h2 (fun i hi c' hc' => (HSW.out.mw.ok i hi).tgt c' hc')
                    rw [hcl1, hcl2] at this
                    exact this)
              have HR0 := Lib.hid (Below.refl wc.heap.size wc)
              have eo : IntKind.u64.wrap ((c.od : Int).tmod 3) = (oo : Int) := by rw [wrap_tmod o2, hoo]
              have en : IntKind.u64.wrap ((c.nw : Int).tmod 3) = (nn : Int) := by rw [wrap_tmod o3, hnn2]
              clear hrd hK hKf hKt hoo hnn2 hcl1 hcl2 hbk
              go_upto_region 9 with (fail)
              go_region_held3 (fun w' => w'.cell? ⟨wb, 1, none⟩ = some (.pointer (some ⟨s.B.p, 0, none⟩)) ∧ w'.cell? ⟨wr.heap.size, 2, none⟩ = some (.int .u8 c.od) ∧ w'.cell? ⟨wr.heap.size, 3, none⟩ = some (.int .u8 c.nw))
                (first | exact hbk2 | exact BkS.below HBK.out (by repeat (first | assumption | exact HR0.out | apply below_alloc | apply below_drew)))
                (first
                  | (go_at_call 34; refine (HBG.out _ (by repeat (first | assumption | exact HR0.out | apply below_alloc | apply below_drew))).mono ?_; rintro e V1 ⟨ob, rfl, hbk2, hq⟩))
              obtain ⟨⟨uu, hu1⟩, hu2, hu3⟩ := HSET.out _ _ ob hq
              have HU3 := Lib.hid hu3
              clear hu3 hq
              go_wp2_with fail
              go_meet
              first
                | with_reducible exact HU3.out _ (Below.refl _ _)
                | with_reducible exact HU3.out _ (below_drew (Below.refl _ _))
          case rest =>
            obtain ⟨s1, hc1, hn1, hev1, hrc1, hnu1, hact1, hdev1, hoth1, pd, l, v, od, nw, hlk, hnu⟩ := hcut
            have HOT := Lib.hid hoth1
            have v3 : wc.cell? ⟨wb, 3, none⟩ = some (.int .i64 s.n) := by rw [← hn1]; exact hc1.row.cell 3 (by omega)
            have v7 : ∃ u, wc.cell? ⟨wb, 7 + t, none⟩ = some u := ⟨_, hc1.row.cell (7 + t) (by omega)⟩
            obtain ⟨v7v, v7⟩ := v7
            have f7 := hc1.row.free (7 + t)
            have hc2 := hc1.setNum ht (c := s.n) (by omega)
            have HC2 := Lib.hid hc2
            have HF := Lib.hid (And.intro hn1 (And.intro hev1 (And.intro hrc1 (And.intro hnu1 (And.intro hact1 hdev1)))))
            have HLK := Lib.hid hlk; have HNU := Lib.hid hnu
            clear hc1 hc2 hn1 hev1 hrc1 hnu1 hact1 hdev1 hoth1 hlk hnu x1 x2 x3 w1 hxl hwl
            go_upto_region 13 with (fail)
            go_cut [] (fun W => Ch M T W0 wb kb kc (s1.setNum t s.n) W)
            case first =>
              go_region
              all_goals
                go_wp2_with fail
                go_meet
                first
                  | with_reducible exact HC2.out
                  | exact HC2.out.below (below_drew (Below.refl _ _))
            case rest =>
              obtain ⟨W3, hW3⟩ : ∃ W3, W3 = wc := ⟨_, rfl⟩
              rw [← hW3] at hcut ⊢
              clear hW3
              have h3 := hcut
              obtain ⟨ea, ec, hevv⟩ := own_slice h3.evs
              have hevv : s1.evv = .slice ea s1.ev.length ec := hevv
              have hel := H.out.evl
              have hel1 : s1.ev.length ≤ 416 := by rw [HF.out.2.1]; exact hel
              have v10 : W3.cell? ⟨wb, 10, none⟩ = some (.slice ea s1.ev.length ec) := by rw [← hevv]; exact h3.row.cell 10 (by omega)
              have v3' : W3.cell? ⟨wb, 3, none⟩ = some (.int .i64 s.n) := by rw [← HF.out.1]; exact h3.row.cell 3 (by omega)
              have hbl2 : Below W3.heap.size W3 (W3.drew.alloc (.cells #[.int .i64 s.n, .bool false, .bool false, .int .u64 0, .bool false, .int .i64 0, .bool false] 52)) := below_alloc (Below.refl _ W3).drew
              have h4 := h3.below hbl2
              have v10' : (W3.alloc (.cells #[.int .i64 s.n, .bool false, .bool false, .int .u64 0, .bool false, .int .i64 0, .bool false] 52)).cell? ⟨wb, 10, none⟩ = some (.slice ea s1.ev.length ec) := (below_alloc (Below.refl _ W3)).cell (p := ⟨wb, 10, none⟩) h3.row.lt |>.trans v10
              have v3'' : (W3.alloc (.cells #[.int .i64 s.n, .bool false, .bool false, .int .u64 0, .bool false, .int .i64 0, .bool false] 52)).cell? ⟨wb, 3, none⟩ = some (.int .i64 s.n) := (below_alloc (Below.refl _ W3)).cell (p := ⟨wb, 3, none⟩) h3.row.lt |>.trans v3'
              have hN : (W3.drew.alloc (.cells #[.int .i64 s.n, .bool false, .bool false, .int .u64 0, .bool false, .int .i64 0, .bool false] 52)).heap[W3.heap.size]? = some (.cells #[.int .i64 s.n, .bool false, .bool false, .int .u64 0, .bool false, .int .i64 0, .bool false] 52 (0, 0)) := heap_alloc_new W3.drew _
              have HOW := Lib.hid (show (W3.drew.alloc (.cells #[.int .i64 s.n, .bool false, .bool false, .int .u64 0, .bool false, .int .i64 0, .bool false] 52)).ownsRow W0.heap.size 52 7 (.slice ea s1.ev.length ec) s1.ev.length (evcs s1.ev) from by
                have := h4.evs
                rw [← hevv]
                exact this)
              have HN := Lib.hid hN
              have HC63 := Lib.hid (show s1.ev.length + 1 ≤ maxLen ∧ (s1.ev.length + 1) * 48 ≤ 140737488355328 by unfold maxLen; omega)
              have HXX := Lib.hid h4.bel.size
              have HY := Lib.hid (fun (w4 : World) (g4 cap4 : Nat) (ho : w4.ownsRow W0.heap.size 52 7 (.slice (some ⟨g4, 0, none⟩) (s1.ev.length + 1) cap4) (s1.ev.length + 1) (evcs s1.ev ++ [.int .i64 s.n, .bool false, .bool false, .int .u64 0, .bool false, .int .i64 0, .bool false])) (hgr : (W3.drew.alloc (.cells #[.int .i64 s.n, .bool false, .bool false, .int .u64 0, .bool false, .int .i64 0, .bool false] 52)).grownBy w4 (Value.slice ea s1.ev.length ec).ownBlock) (hg4 : (Value.slice ea s1.ev.length ec).ownBlock = some g4 ∨ (W3.drew.alloc (.cells #[.int .i64 s.n, .bool false, .bool false, .int .u64 0, .bool false, .int .i64 0, .bool false] 52)).heap.size ≤ g4) =>
                show (∃ u, w4.cell? ⟨wb, 10, none⟩ = some u) ∧ w4.frozen? ⟨wb, 10, none⟩ = false ∧ Hid (Ch M T W0 wb kb kc ((s1.setNum t s.n).push (.beg s.n) (.slice (some ⟨g4, 0, none⟩) (s1.ev.length + 1) cap4)) (w4.setCell ⟨wb, 10, none⟩ (.slice (some ⟨g4, 0, none⟩) (s1.ev.length + 1) cap4))) from by
                  have hne : (Value.slice ea s1.ev.length ec).ownBlock ≠ some wb := by rw [← hevv]; exact row_own_ne h4.row h4.evs (by decide)
                  have hrow4 : Row w4 wb 45 11 _ := h4.row.of_block (hgr.block _ h4.row.lt hne.symm)
                  exact ⟨⟨_, hrow4.cell 10 (by omega)⟩, hrow4.free 10, Lib.hid (h4.push (e := .beg s.n) ho (by rw [show (s1.setNum t s.n).evv = s1.evv from rfl, hevv]; exact hgr) (by rw [show (s1.setNum t s.n).evv = s1.evv from rfl, hevv]; exact hg4))⟩)
              have hel2 : (s1.ev.length : Int) ≤ 416 := by omega
              clear hcut h3 h4 hevv hbl2 hN hel v3 v7 f7
              go_upto_region 14 with (fail)
              go_cut [] (fun W => ∃ v, Ch M T W0 wb kb kc ((s1.setNum t s.n).push (.beg s.n) v) W)
              case first =>
                go_region_law (first | (refine step_append_own2 elCEv rfl _ _ rfl HOW.out rfl rfl HN.out rfl (by repeat (first | exact List.forall_mem_nil _ | refine List.forall_mem_cons.2 ⟨rfl, ?_⟩)) HC63.out.1 HC63.out.2 HXX.out ?_; intro g4 cap4 w4 hop4 hgr4 hgg4; obtain ⟨⟨zu, z1⟩, z2, z3⟩ := HY.out _ _ _ hop4 hgr4 hgg4; clear hop4 hgr4 hgg4))
                all_goals
                  go_wp2_with fail
                  go_meet
                  first
                    | with_reducible exact ⟨_, z3.out⟩
                    | exact ⟨_, z3.out.below (below_drew (Below.refl _ _))⟩
              case rest =>
                obtain ⟨ev5, h5⟩ := hcut
                have v5 : wc.cell? ⟨wb, 3, none⟩ = some (.int .i64 s.n) := by rw [← HF.out.1]; exact h5.row.cell 3 (by omega)
                have f5 := h5.row.free 3
                have h6 := h5.setNext (s.n + 1)
                have hnM : s.n < M := by omega
                have GG := Lib.hid (show BnPost M T W0 wb kb kc s t (.returned (.bool true)) (wc.setCell ⟨wb, 3, none⟩ (.int .i64 ((s.n + 1 : Nat) : Int))) from .inr ⟨rfl, _, ⟨h6, ⟨_, l, v, od, nw, by
                    have h7 := HLK.out
                    rw [← HF.out.2.1] at h7
                    exact h7, fun u c' hc' => by
                      show up s1.nu t s.n u = c'
                      by_cases hu : u = t
                      · rw [hu, up_same] at hc'
                        rw [hu, up_same]
                        cases hc'; rfl
                      · rw [up_ne _ _ hu] at hc'
                        rw [up_ne _ _ hu, HF.out.2.2.2.1]
                        exact HNU.out u c' hc'⟩, by show s.n + 1 ≤ M; omega, by
                      show crs (s1.ev ++ [.beg s.n]) ≤ 400
                      rw [crs_append, HF.out.2.1]
                      have := H.out.cr
                      simp [crs, Ev.cr] at *
                      omega⟩, rfl, HF.out.2.2.2.2.1, HF.out.2.2.2.2.2, Rest.swap hk1 hlt HF.out.2.2.1 rfl, by
                      show crs (s1.ev ++ [.beg s.n]) = crs s.ev
                      rw [crs_append, HF.out.2.1]
                      rfl, HOT.out⟩)
                clear h5 h6
                go_wp2_with fail
                go_returns
                exact GG.out
      · have d1 : ((c.th : Int) % 3 != (t : Int)) = true := by simp; omega
        have d2 : ((c.th : Int) % 3 == (t : Int)) = false := by simp; omega
        have G := Lib.hid (fun (W : World) (hb : Below wr.heap.size wr W) => show BnRel M s t w (.int .i64 ((k + 1 : Nat) : Int)) W from ⟨k + 1, by omega, by omega, rfl, HB.out.trans (hb.mono HB.out.size), fun j h1 h2 => by
          rcases Nat.lt_succ_iff_lt_or_eq.1 h2 with h3 | h3
          · exact HNO.out j h1 h3
          · rw [h3, ← HCC.out]; exact hth⟩)
        clear hth
        go_wp2_with fail
        go_roundw
        case rel => exact G.out _ (by repeat (first | exact Below.refl _ _ | apply below_alloc | apply below_drew))
        case measure => simp [intOf]; omega
    · have hkM : k = M := by omega
      have GG := Lib.hid (show BnPost M T W0 wb kb kc s t (.returned (.bool false)) wr from .inl ⟨rfl, H.out.below HB.out, fun j h1 h2 => HNO.out j h1 (by omega)⟩)
      go_wp2_with fail
      go_returns
      exact GG.out
end Go.Proofs.YtejlgnebofdijaaGreatDoor.Dv
