/-
  record of the statement's package: the walk.
-/
import Derived.Test.YtejlgnebofdijaaGreatDoorMCwB
import Derived.Test.YtejlgnebofdijaaGreatDoorMCwA
import Derived.IntWalk
namespace Go.Proofs.YtejlgnebofdijaaGreatDoor.Dv
open Go.RowKit
open Ln (Cl Ev HC Hi Run HOk hist up up_same up_ne)
set_option linter.unusedVariables false

def rcl (rc : Nat → RC) (k : Nat) : Cl := (rc k).cl
def RcRel1 (w : World) (ev : List Ev) (mb : Nat) (i : Value) (wl : World) : Prop := ∃ (k : Nat) (S : List Nat) (ex : Nat), k ≤ ev.length ∧ i = .int .i64 (k : Nat) ∧ SMap wl mb ex S ∧ ex ≤ k ∧ (∀ c, c ∈ S ↔ c ∈ fls (ev.take k)) ∧ Below w.heap.size w wl
def RcRel2 (w : World) (rc : Nat → RC) (F : Nat → Bool) (ev : List Ev) (mb nb hb X : Nat) (S : List Nat) (exs : Nat) (i : Value) (wl : World) : Prop :=
  ∃ (k ex : Nat) (e2 c2 : Value), k ≤ ev.length ∧ i = .int .i64 (k : Nat) ∧ HAt X wl hb (hist (rcl rc) F (ev.take k)) e2 c2 ∧ IMap wl nb ex (hist (rcl rc) F (ev.take k)).num ∧ ex ≤ k ∧ SMap wl mb exs S ∧ Below w.heap.size w wl ∧ X ≤ wl.heap.size
def RecPost (w : World) (rc : Nat → RC) (F : Nat → Bool) (ev : List Ev) (e : Ending) (w' : World) : Prop := ∃ X hb e2 c2, e = .returned (ptr hb) ∧ HAt X w' hb (hist (rcl rc) F ev) e2 c2 ∧ Below w.heap.size w w'

set_option maxHeartbeats 4000000 in
set_option maxRecDepth 100000 in
theorem record_cw {M : Nat} {T : Nat → Nat} {W0 : World} {wb kb kc : Nat} {s : CS} {w : World} (h : Cw M T W0 wb kb kc s w) :
    Calls Tryz.prog 15 #[ptr wb] w (RecPost w s.rc (fun c => decide (c ∈ fls s.ev)) s.ev) := by
  obtain ⟨F, hF⟩ : ∃ F : Nat → Bool, F = fun c => decide (c ∈ fls s.ev) := ⟨_, rfl⟩
  rw [← hF]
  have HFF := Lib.hid hF
  clear hF
  have hel := h.evl
  have hmm := @run_makeMap Tryz.prog
  have H := Lib.hid h
  obtain ⟨ea, ec, hevv⟩ := own_slice h.ch.evs
  have v10 : w.cell? ⟨wb, 10, none⟩ = some (.slice ea s.ev.length ec) := by rw [← hevv]; exact h.ch.row.cell 10 (by omega)
  have hel2 : (s.ev.length : Int) ≤ 416 := by omega
  have hwl := h.ch.row.lt
  have hm0 : SMap (w.alloc (.map #[] 0)) w.heap.size 0 [] := SMap.made w
  have HREL := Lib.hid (show RcRel1 w s.ev w.heap.size (.int .i64 (0 : Nat)) (w.alloc (.map #[] 0)) from ⟨0, [], 0, Nat.zero_le _, rfl, hm0, Nat.le_refl _, fun c => by simp [fls], below_alloc (Below.refl _ _)⟩)
  have HEV := Lib.hid hevv
  obtain ⟨pd, l, A, od, nw, hlk, _⟩ := h.lk
  have hrun : Run (rcl s.rc) s.ev pd s.n l A := hlk.run
  have hM := h.ch.m8
  have hnM := h.nn
  have HRUN := Lib.hid hrun
  have HNF := Lib.hid (show ∀ c v, Ev.fail c v ∈ s.ev → c ≤ 8 from fun c v hm => by have := (hrun.nofail c v hm).1; omega)
  clear hlk hrun
  clear h hevv hm0
  unfold ptr
  go_enter Tryz.func15, Tryz.ntmps15
  go_wp2_with fail
  go_loopw [18] (fun i wl => RcRel1 w s.ev w.heap.size i wl) (fun i _ => s.ev.length - (intOf i).toNat)
  case atStart => exact HREL.out
  case round =>
    obtain ⟨k, S, ex, hk, rfl, hsm, hexk, hS, hbl⟩ := hrel
    clear HREL v10
    by_cases hlt : k < s.ev.length
    · have hlt2 : (k : Int) < s.ev.length := by omega
      obtain ⟨e, he⟩ : ∃ e, e = s.ev[k] := ⟨_, rfl⟩
      have hget : s.ev[k]? = some e := by rw [he]; exact List.getElem?_eq_getElem hlt
      obtain ⟨g, cap, hv, hcap, hgl, hcells⟩ := ev_at H.out.ch.evs hget
      rw [HEV.out] at hv
      simp only [Value.slice.injEq] at hv
      obtain ⟨rfl, _, rfl⟩ := hv
      obtain ⟨c, v, en, cr, ok, fl, hf⟩ := evc_form e
      have hcap2 : (s.ev.length : Int) ≤ ec := by omega
      have cc := fun j (hj : j < 7) => (hbl.cell (p := ⟨g, k * 7 + j, none⟩) hgl).trans (hcells j hj)
      rw [hf] at cc
      have c0 : wr.cell? ⟨g, k * 7, none⟩ = some (.int .i64 c) := cc 0 (by omega)
      have c1 : wr.cell? ⟨g, k * 7 + 1, none⟩ = some (.bool en) := cc 1 (by omega)
      have c2 : wr.cell? ⟨g, k * 7 + 2, none⟩ = some (.bool cr) := cc 2 (by omega)
      have c3 : wr.cell? ⟨g, k * 7 + 3, none⟩ = some (.int .u64 v) := cc 3 (by omega)
      have c4 : wr.cell? ⟨g, k * 7 + 4, none⟩ = some (.bool ok) := cc 4 (by omega)
      have c5 : wr.cell? ⟨g, k * 7 + 5, none⟩ = some (.int .i64 0) := cc 5 (by omega)
      have c6 : wr.cell? ⟨g, k * 7 + 6, none⟩ = some (.bool fl) := cc 6 (by omega)
      have htk : s.ev.take (k + 1) = s.ev.take k ++ [e] := by rw [List.take_add_one, hget]; rfl
      have hbV : Below wr.heap.size wr (wr.alloc (.cells #[.int .i64 c, .bool en, .bool cr, .int .u64 v, .bool ok, .int .i64 0, .bool fl] 52)) := below_alloc (Below.refl _ _)
      have hsm2 := hsm.kept (hbV.block _ hsm.lt)
      have HSM := Lib.hid hsm2; have HBL := Lib.hid (hbl.trans (hbV.mono hbl.size)); have HTK := Lib.hid htk; have HS := Lib.hid hS; have HF := Lib.hid hf
      cases fl with
      | false =>
        have G := Lib.hid (show RcRel1 w s.ev w.heap.size (.int .i64 ((k + 1 : Nat) : Int)) (wr.alloc (.cells #[.int .i64 c, .bool en, .bool cr, .int .u64 v, .bool ok, .int .i64 0, .bool false] 52)) from ⟨k + 1, S, ex, hlt, rfl, HSM.out, by omega, fun c' => by
          rw [HTK.out, fls_append, List.mem_append, HS.out]
          have : fls [e] = [] := by cases e <;> first | rfl | (have := HF.out; simp [evc] at this)
          rw [this]; simp, HBL.out⟩)
        clear hsm hsm2 hS hbl hbV cc hcells hget he hf htk
        go_wp2_with fail
        go_roundw
        case rel => exact G.out
        case measure => simp [intOf]; omega
      | true =>
        obtain ⟨q, hq⟩ : ∃ q, e = .fail c q := by
          cases e with
          | fail c' v' => simp [evc] at hf; obtain ⟨h1, _⟩ := hf; exact ⟨v', by congr; omega⟩
          | beg c' => simp [evc] at hf
          | fin c' v' => simp [evc] at hf
          | crash => simp [evc] at hf
        have hc1000 : c ≤ 1000 := by have := HNF.out c q (by rw [← hq]; exact List.mem_of_getElem? hget); omega
        obtain ⟨w2, hput, hsm3, hgr⟩ := hsm2.put (n := c) hc1000 (by omega)
        have G := Lib.hid (show RcRel1 w s.ev w.heap.size (.int .i64 ((k + 1 : Nat) : Int)) w2 from ⟨k + 1, c :: S, ex + 1, hlt, rfl, hsm3, by omega, fun c' => by
          rw [HTK.out, fls_append, List.mem_append, List.mem_cons, HS.out, hq]
          show c' = c ∨ _ ↔ _ ∨ c' ∈ [c]
          simp [or_comm], below_grown HBL.out hgr HBL.out.size (fun b hb => by cases hb; exact Nat.le_refl _)⟩)
        clear hsm hsm2 hsm3 hgr hS hbl hbV cc hcells hget he hf htk hq
        go_wp2_with fail
        go_roundw
        case rel => exact G.out
        case measure => simp [intOf]; omega
    · have hkk : k = s.ev.length := by omega
      have hSf : ∀ c, c ∈ S ↔ c ∈ fls s.ev := fun c => by rw [hS, hkk, List.take_length]
      have hSF : ∀ c, decide (c ∈ S) = F c := fun c => by rw [HFF.out]; exact decide_eq_decide.2 (hSf c)
      have HN := Lib.hid (hnew_any wr)
      have HSM := Lib.hid hsm; have HBL := Lib.hid hbl; have HSF := Lib.hid hSF
      have v10 : wr.cell? ⟨wb, 10, none⟩ = some (.slice ea s.ev.length ec) := by
        rw [hbl.cell (p := ⟨wb, 10, none⟩) hwl, ← HEV.out]; exact H.out.ch.row.cell 10 (by omega)
      have hml := hsm.lt
      clear hS hSf hSF hsm hbl hkk
      go_wp2_with fail
      refine HN.out.mono ?_
      rintro e w1 ⟨hbk, rfl, e2, c2, hat, hb1⟩
      have hrel2 : RcRel2 w s.rc F s.ev w.heap.size w1.heap.size hbk wr.heap.size S ex (.int .i64 (0 : Nat)) (w1.alloc (.map #[] 0)) := by
        have hbm : Below w1.heap.size w1 (w1.alloc (.map #[] 0)) := below_alloc (Below.refl _ _)
        have hbA := hb1.trans (hbm.mono hb1.size)
        exact ⟨0, 0, e2, c2, Nat.zero_le _, rfl, hat.below hbm, IMap.made w1, Nat.le_refl _, HSM.out.kept (hbA.block _ HSM.out.lt), HBL.out.trans (hbA.mono HBL.out.size), hbA.size⟩
      have v10' : w1.cell? ⟨wb, 10, none⟩ = some (.slice ea s.ev.length ec) := by
        rw [hb1.cell (p := ⟨wb, 10, none⟩) (World.block_lt_of_cell? _ _ v10)]; exact v10
      have hwl1 := World.block_lt_of_cell? _ _ v10'
      obtain ⟨X1, hX1⟩ : ∃ X1, X1 = wr.heap.size := ⟨_, rfl⟩
      have HX := Lib.hid (show w.heap.size < X1 ∧ w.heap.size ≤ X1 from by rw [hX1]; exact ⟨hml, HBL.out.size⟩)
      rw [← hX1] at hrel2
      have HR2 := Lib.hid hrel2
      have HEX := Lib.hid hexk
      have HXN := Lib.hid (show X1 ≤ w1.heap.size from by rw [hX1]; exact hb1.size)
      clear hX1 hat hb1 hrel2 v10 HN HSM HBL hml hexk
      unfold ptr
      go_wp2_with fail
      go_loopw [35] (fun i wl => RcRel2 w s.rc F s.ev w.heap.size w1.heap.size hbk X1 S ex i wl) (fun i _ => s.ev.length - (intOf i).toNat)
      case atStart => exact HR2.out
      case round =>
        obtain ⟨j, ex2, e3, c3, hj, rfl, hat, him, hex2, hsm, hbl, hXl⟩ := hrel
        clear HR2 v10' e2 c2
        by_cases hjl : j < s.ev.length
        · have hjl2 : (j : Int) < s.ev.length := by omega
          obtain ⟨e, he⟩ : ∃ e, e = s.ev[j] := ⟨_, rfl⟩
          have hget : s.ev[j]? = some e := by rw [he]; exact List.getElem?_eq_getElem hjl
          obtain ⟨g, cap, hv, hcap, hgl, hcells⟩ := ev_at H.out.ch.evs hget
          rw [HEV.out] at hv
          simp only [Value.slice.injEq] at hv
          obtain ⟨rfl, _, rfl⟩ := hv
          obtain ⟨c, v, en, cr, ok, fl, hf⟩ := evc_form e
          have hcap2 : (s.ev.length : Int) ≤ ec := by omega
          have cc := fun i (hi : i < 7) => (hbl.cell (p := ⟨g, j * 7 + i, none⟩) hgl).trans (hcells i hi)
          rw [hf] at cc
          have k0 : wr.cell? ⟨g, j * 7, none⟩ = some (.int .i64 c) := cc 0 (by omega)
          have k1 : wr.cell? ⟨g, j * 7 + 1, none⟩ = some (.bool en) := cc 1 (by omega)
          have k2 : wr.cell? ⟨g, j * 7 + 2, none⟩ = some (.bool cr) := cc 2 (by omega)
          have k3 : wr.cell? ⟨g, j * 7 + 3, none⟩ = some (.int .u64 v) := cc 3 (by omega)
          have k4 : wr.cell? ⟨g, j * 7 + 4, none⟩ = some (.bool ok) := cc 4 (by omega)
          have k5 : wr.cell? ⟨g, j * 7 + 5, none⟩ = some (.int .i64 0) := cc 5 (by omega)
          have k6 : wr.cell? ⟨g, j * 7 + 6, none⟩ = some (.bool fl) := cc 6 (by omega)
          have htk : s.ev.take (j + 1) = s.ev.take j ++ [e] := by rw [List.take_add_one, hget]; rfl
          have hspl : s.ev = s.ev.take j ++ e :: s.ev.drop (j + 1) := by
            rw [he, ← List.drop_eq_getElem_cons hjl, List.take_append_drop]
          obtain ⟨pd', n', l', A', hr', hn', hl', hok'⟩ := Run.split HRUN.out _ _ _ hspl
          have hFl : ∀ p ∈ l', F p.1 = false := fun p hp => by
            rw [HFF.out]
            refine decide_eq_false (fun hm => ?_)
            obtain ⟨v', hm'⟩ := fls_mem.1 hm
            exact (HRUN.out.nofail _ _ hm').2.2 p.2 (hl' p hp)
          have hFf : ∀ c v, Ev.fail c v ∈ s.ev.take j → F c = true := fun c v hm => by
            rw [HFF.out]
            exact decide_eq_true (fls_mem.2 ⟨v, List.mem_of_mem_take hm⟩)
          have hho := hr'.hok hFf hFl
          have hst : hist (rcl s.rc) F (s.ev.take (j + 1)) = (hist (rcl s.rc) F (s.ev.take j)).step (rcl s.rc) F e := by rw [htk, Ln.hist_snoc]
          have hhl := hist_len (rcl s.rc) F (s.ev.take j)
          rw [List.length_take] at hhl
          obtain ⟨Hh, hHh⟩ : ∃ Hh, Hh = hist (rcl s.rc) F (s.ev.take j) := ⟨_, rfl⟩
          rw [← hHh] at hat him hho hst hhl
          have hb3 : Hh.n ≤ 416 ∧ Hh.calls.length ≤ 416 ∧ Hh.era ≤ 416 := by omega
          obtain ⟨V, hV⟩ : ∃ V, V = wr.alloc (.cells #[.int .i64 c, .bool en, .bool cr, .int .u64 v, .bool ok, .int .i64 0, .bool fl] 52) := ⟨_, rfl⟩
          have hbV : Below wr.heap.size wr V := by rw [hV]; exact below_alloc (Below.refl _ _)
          have hbx : V.heap[wr.heap.size]? = some (.cells #[.int .i64 c, .bool en, .bool cr, .int .u64 v, .bool ok, .int .i64 0, .bool fl] 52 (0, 0)) := by rw [hV]; exact heap_alloc_new _ _
          have HAT := Lib.hid (hat.below hbV); have HIM := Lib.hid (him.kept (hbV.block _ him.lt)); have HSM := Lib.hid (hsm.kept (hbV.block _ hsm.lt)); have HBL := Lib.hid (hbl.trans (hbV.mono hbl.size)); have HBX := Lib.hid hbx
          have HST := Lib.hid hst; have HHO := Lib.hid hho; have HOK := Lib.hid hok'; have HB3 := Lib.hid hb3; have HXV := Lib.hid (Nat.le_trans hXl hbV.size); have HF := Lib.hid hf; have HNN := Lib.hid (show n' ≤ 8 by omega); have HNB := Lib.hid (show ∀ c, e = .beg c → n' < M from fun c q => by have := hn'.2 c q; omega); have HEX2 := Lib.hid hex2; have HFL := Lib.hid hFl; have HTH := Lib.hid hr'.thr.1
          have HFM := Lib.hid (show F c = true ↔ c ∈ fls s.ev by rw [HFF.out]; simp)
          have HME := Lib.hid (show e ∈ s.ev from List.mem_of_getElem? hget)
          have HVV := Lib.hid hV
          have hwlw : wb < wr.heap.size := Nat.lt_of_lt_of_le hwl hbl.size
          have HWL := Lib.hid hwlw
          have x0 : V.cell? ⟨wr.heap.size, 0, none⟩ = some (.int .i64 c) := (cell_block hbx).trans rfl
          have x1 : V.cell? ⟨wr.heap.size, 1, none⟩ = some (.bool en) := (cell_block hbx).trans rfl
          have x2 : V.cell? ⟨wr.heap.size, 2, none⟩ = some (.bool cr) := (cell_block hbx).trans rfl
          have x3 : V.cell? ⟨wr.heap.size, 3, none⟩ = some (.int .u64 v) := (cell_block hbx).trans rfl
          have x4 : V.cell? ⟨wr.heap.size, 4, none⟩ = some (.bool ok) := (cell_block hbx).trans rfl
          have x5 : V.cell? ⟨wr.heap.size, 5, none⟩ = some (.int .i64 0) := (cell_block hbx).trans rfl
          clear hat him hsm hbl hbV hbx hcells cc htk hspl hr' hn' hl' hok' hFl hFf hho hst hhl hb3 he hget hf hHh
          go_upto_region 18 with (fail)
          rw [← HVV.out]
          clear hV k0 k1 k2 k3 k4 k5 k6
          -- what follows a step of the history
          have HNEXT := Lib.hid (fun (W : World) (H' : Hi) (e5 c5 : Value) (ex5 : Nat) (hH : Hh.step (rcl s.rc) F e = H') (h1 : HAt X1 W hbk H' e5 c5) (h2 : IMap W w1.heap.size ex5 H'.num) (h3 : ex5 ≤ j + 1) (h4 : Below X1 V W) =>
            show RcRel2 w s.rc F s.ev w.heap.size w1.heap.size hbk X1 S ex (.int .i64 ((j + 1 : Nat) : Int)) W from
              ⟨j + 1, ex5, e5, c5, hjl, rfl, by rw [HST.out, hH]; exact h1, by rw [HST.out, hH]; exact h2, h3, HSM.out.kept (h4.block _ HX.out.1), HBL.out.trans (h4.mono HX.out.2), Nat.le_trans HXV.out h4.size⟩)
          cases e with
          | crash =>
            have hcr : cr = true := by have := congrArg (fun l => l[2]?) HF.out; simpa [evc] using this.symm
            subst hcr
            have HCR := Lib.hid (hcrash_any HAT.out (by have := HB3.out; omega) (by have := HB3.out; omega) HXV.out)
            unfold ptr at HCR
            go_wp2_with fail
            refine HCR.out.mono ?_
            rintro e w5 ⟨rfl, ⟨e5, c5, h5, hb5⟩, hf5⟩
            have G := Lib.hid (HNEXT.out w5 _ e5 c5 ex2 rfl h5 (hfr_map HAT.out HIM.out hf5) (by have := HEX2.out; omega) hb5)
            clear h5 hb5 hf5
            go_wp2_with fail
            go_roundw
            case rel => exact G.out
            case measure => simp [intOf]; omega
          | beg c' =>
            have hcr : cr = false := by have := congrArg (fun l => l[2]?) HF.out; simpa [evc] using this.symm
            have hen : en = false := by have := congrArg (fun l => l[1]?) HF.out; simpa [evc] using this.symm
            have hcc : c = c' := by have := congrArg (fun l => l[0]?) HF.out; simp [evc] at this; omega
            subst hcr hen hcc
            obtain ⟨hcn, hpd⟩ := HOK.out
            have hlk := HSM.out.look (n := c) (by have := HNN.out; omega)
            rw [HSF.out c] at hlk
            cases hFc : F c with
            | true =>
              rw [hFc] at hlk
              have G := Lib.hid (HNEXT.out V _ e3 c3 ex2 (by
                show (if F c then Hh else Hh.beg c (rcl s.rc c)) = Hh
                rw [hFc]; rfl) HAT.out HIM.out (by have := HEX2.out; omega) (Below.refl _ _))
              clear hcn hFc hpd
              go_wp2_with fail
              go_roundw
              case rel => exact G.out
              case measure => simp [intOf]; omega
            | false =>
              rw [hFc] at hlk
              have hcM : c < M := by rw [hcn]; exact HNB.out c rfl
              have hbz : Hh.busy (rcl s.rc c).t = false := by
                cases hq : Hh.busy (rcl s.rc c).t with
                | false => rfl
                | true =>
                  obtain ⟨c2, h1, _⟩ := (HHO.out.busy _).1 hq
                  rw [hpd] at h1
                  cases h1
              have hbwV := HBL.out
              have v2 : V.cell? ⟨wb, 2, none⟩ = some (.slice (some ⟨kb, 0, none⟩) M kc) := (hbwV.cell (p := ⟨wb, 2, none⟩) hwl).trans (H.out.ch.row.cell 2 (by omega))
              obtain ⟨q0, q1, q2, q3⟩ := H.out.ch.call hcM
              have hkl := H.out.ch.calls.lt
              have m0 := (hbwV.cell (p := ⟨kb, c * 4, none⟩) hkl).trans q0
              have m1 := (hbwV.cell (p := ⟨kb, c * 4 + 1, none⟩) hkl).trans q1
              have m2 := (hbwV.cell (p := ⟨kb, c * 4 + 2, none⟩) hkl).trans q2
              have m3 := (hbwV.cell (p := ⟨kb, c * 4 + 3, none⟩) hkl).trans q3
              have hro := H.out.ch.rok c
              have hkc := H.out.ch.kcl
              have hxeq : rcl s.rc c = (s.rc c).cl := rfl
              obtain ⟨rcc, hrcc⟩ : ∃ rcc, rcc = s.rc c := ⟨_, rfl⟩
              rw [← hrcc] at m0 m1 m2 m3 hro hxeq
              obtain ⟨r1, r2, r3⟩ := hro
              have r1' : (rcc.th : Int) < 256 := by omega
              have r2' : (rcc.od : Int) < 256 := by omega
              have r3' : (rcc.nw : Int) < 256 := by omega
              have b6 : (c : Int) < M := by omega
              have b7 : (M : Int) ≤ 8 := by omega
              have b8 : (M : Int) ≤ kc := by omega
              have HCN := Lib.hid hcn; have HFC := Lib.hid hFc; have HBZ := Lib.hid hbz; have HXE := Lib.hid hxeq
              have hklV := World.block_lt_of_cell? _ _ m0
              have hwlV := World.block_lt_of_cell? _ _ v2
              have hxlV := World.block_lt_of_cell? _ _ x0
              clear hcn hFc hpd hbz hbwV q0 q1 q2 q3 hkl hkc hrcc hxeq
              go_upto_region 13 with (fail)
              go_cut [10] (fun p wc => p = .pointer (some ⟨V.heap.size, 0, none⟩) ∧ BoxAt wc V.heap.size rcc ∧ Below V.heap.size V wc)
              case first =>
                go_region
                all_goals
                  go_wp2_with fail
                  go_meet
                  first
                    | exact ⟨rfl, heap_alloc_new V _, below_drew (below_alloc (Below.refl _ _))⟩
                    | exact ⟨rfl, heap_alloc_new V _, below_alloc (Below.refl _ _)⟩
                    | exact ⟨rfl, (heap_set (heap_set (heap_set (heap_set (heap_alloc_new V _))))).trans rfl, below_drew (((((below_alloc (Below.refl _ _)).setCell (p := ⟨V.heap.size, 0, none⟩) (Nat.le_refl _) _).setCell (p := ⟨V.heap.size, 1, none⟩) (Nat.le_refl _) _).setCell (p := ⟨V.heap.size, 2, none⟩) (Nat.le_refl _) _).setCell (p := ⟨V.heap.size, 3, none⟩) (Nat.le_refl _) _)⟩
              case rest =>
                obtain ⟨rfl, hbx, hbc⟩ := hcut
                obtain ⟨V1, rfl⟩ : ∃ V1, V1 = wc := ⟨_, rfl⟩
                have z0 : V1.cell? ⟨V.heap.size, 0, none⟩ = some (.int .u8 rcc.th) := (cell_block hbx).trans rfl
                have z1 : V1.cell? ⟨V.heap.size, 1, none⟩ = some (.bool rcc.rd) := (cell_block hbx).trans rfl
                have z2 : V1.cell? ⟨V.heap.size, 2, none⟩ = some (.int .u8 rcc.od) := (cell_block hbx).trans rfl
                have z3 : V1.cell? ⟨V.heap.size, 3, none⟩ = some (.int .u8 rcc.nw) := (cell_block hbx).trans rfl
                have hzl := heap_lt hbx
                have HBC := Lib.hid hbc
                have y0 : V1.cell? ⟨wr.heap.size, 0, none⟩ = some (.int .i64 c) := (hbc.cell (p := ⟨wr.heap.size, 0, none⟩) (World.block_lt_of_cell? _ _ x0)).trans x0
                have hyl := World.block_lt_of_cell? _ _ y0
                obtain ⟨oo, hoo⟩ : ∃ oo, oo = rcc.od % 3 := ⟨_, rfl⟩
                obtain ⟨nn, hnn⟩ : ∃ nn, nn = rcc.nw % 3 := ⟨_, rfl⟩
                obtain ⟨tt, htt⟩ : ∃ tt, tt = rcc.th % 3 := ⟨_, rfl⟩
                have eo := wrap_tmod r2
                have en2 := wrap_tmod r3
                rw [← hoo] at eo
                rw [← hnn] at en2
                have eo2 : (rcc.od : Int) % 3 = (oo : Int) := by omega
                have en3 : (rcc.nw : Int) % 3 = (nn : Int) := by omega
                have et3 : (rcc.th : Int) % 3 = (tt : Int) := by omega
                have HX2 := Lib.hid (show rcl s.rc c = ⟨tt, rcc.rd, oo, nn⟩ by rw [HXE.out, htt, hoo, hnn]; rfl)
                have htt3 : tt < 3 := by omega
                clear hoo hnn htt hbx hbc x0 x1 x2 x3 x4 x5 v2 m0 m1 m2 m3 hlk
                go_upto_if 57 with (fail)
                go_cut [] (fun W => W.heap[V1.heap.size]? = some (.cells (opc ⟨tt, rcc.rd, oo, nn⟩).toArray 136 (0, 0)) ∧ Below V1.heap.size V1 W)
                case first =>
                  cases hrd : rcc.rd with
                  | true =>
                    have HS4 := Lib.hid (show ((((((V1.alloc (.cells #[.int .u8 3, .int .u64 0, .int .u64 nn, .int .u64 oo] 136)).setCell ⟨V1.heap.size, 0, none⟩ (.int .u8 1)).setCell ⟨V1.heap.size, 1, none⟩ (.int .u64 0)).setCell ⟨V1.heap.size, 2, none⟩ (.int .u64 0)).setCell ⟨V1.heap.size, 3, none⟩ (.int .u64 0)).heap[V1.heap.size]? = some (.cells #[.int .u8 1, .int .u64 0, .int .u64 0, .int .u64 0] 136 (0, 0))) ∧ Below V1.heap.size V1 (((((V1.alloc (.cells #[.int .u8 3, .int .u64 0, .int .u64 nn, .int .u64 oo] 136)).setCell ⟨V1.heap.size, 0, none⟩ (.int .u8 1)).setCell ⟨V1.heap.size, 1, none⟩ (.int .u64 0)).setCell ⟨V1.heap.size, 2, none⟩ (.int .u64 0)).setCell ⟨V1.heap.size, 3, none⟩ (.int .u64 0)) from
                      ⟨(heap_set (heap_set (heap_set (heap_set (heap_alloc_new V1 _))))).trans rfl, ((((below_alloc (Below.refl _ _)).setCell (p := ⟨V1.heap.size, 0, none⟩) (Nat.le_refl _) _).setCell (p := ⟨V1.heap.size, 1, none⟩) (Nat.le_refl _) _).setCell (p := ⟨V1.heap.size, 2, none⟩) (Nat.le_refl _) _).setCell (p := ⟨V1.heap.size, 3, none⟩) (Nat.le_refl _) _⟩)
                    have HS1 := Lib.hid (show (V1.alloc (.cells #[.int .u8 1, .int .u64 0, .int .u64 0, .int .u64 0] 136)).heap[V1.heap.size]? = some (.cells #[.int .u8 1, .int .u64 0, .int .u64 0, .int .u64 0] 136 (0, 0)) ∧ Below V1.heap.size V1 (V1.alloc (.cells #[.int .u8 1, .int .u64 0, .int .u64 0, .int .u64 0] 136)) from ⟨heap_alloc_new V1 _, below_alloc (Below.refl _ _)⟩)
                    have GO := Lib.hid (show (opc ⟨tt, rcc.rd, oo, nn⟩).toArray = #[.int .u8 1, .int .u64 0, .int .u64 0, .int .u64 0] by rw [hrd]; rfl)
                    rw [hrd] at z1
                    clear hrd
                    go_wp2_with fail
                    go_meet
                    rw [GO.out]
                    first
                      | with_reducible exact HS4.out
                      | with_reducible exact HS1.out
                  | false =>
                    have HS3 := Lib.hid (show (V1.alloc (.cells #[.int .u8 3, .int .u64 0, .int .u64 nn, .int .u64 oo] 136)).heap[V1.heap.size]? = some (.cells #[.int .u8 3, .int .u64 0, .int .u64 nn, .int .u64 oo] 136 (0, 0)) ∧ Below V1.heap.size V1 (V1.alloc (.cells #[.int .u8 3, .int .u64 0, .int .u64 nn, .int .u64 oo] 136)) from ⟨heap_alloc_new V1 _, below_alloc (Below.refl _ _)⟩)
                    have GO := Lib.hid (show (opc ⟨tt, rcc.rd, oo, nn⟩).toArray = #[.int .u8 3, .int .u64 0, .int .u64 nn, .int .u64 oo] by rw [hrd]; rfl)
                    rw [hrd] at z1
                    clear hrd
                    go_wp2_with fail
                    go_meet
                    rw [GO.out]
                    with_reducible exact HS3.out
                case rest =>
                  obtain ⟨hob, hbW⟩ := hcut
                  obtain ⟨V2, rfl⟩ : ∃ V2, V2 = wc := ⟨_, rfl⟩
                  obtain ⟨kd, pa, pb, hk1, hk9, hov, hoc⟩ := opv_form ⟨tt, rcc.rd, oo, nn⟩
                  rw [hoc] at hob
                  have o0 : V2.cell? ⟨V1.heap.size, 0, none⟩ = some (.int .u8 kd) := (cell_block hob).trans rfl
                  have o1 : V2.cell? ⟨V1.heap.size, 1, none⟩ = some (.int .u64 0) := (cell_block hob).trans rfl
                  have o2 : V2.cell? ⟨V1.heap.size, 2, none⟩ = some (.int .u64 pa) := (cell_block hob).trans rfl
                  have o3 : V2.cell? ⟨V1.heap.size, 3, none⟩ = some (.int .u64 pb) := (cell_block hob).trans rfl
                  have y0' : V2.cell? ⟨wr.heap.size, 0, none⟩ = some (.int .i64 c) := (hbW.cell (p := ⟨wr.heap.size, 0, none⟩) hyl).trans y0
                  have z0' : V2.cell? ⟨V.heap.size, 0, none⟩ = some (.int .u8 rcc.th) := (hbW.cell (p := ⟨V.heap.size, 0, none⟩) hzl).trans z0
                  have hb2 : Below V.heap.size V V2 := HBC.out.trans (hbW.mono HBC.out.size)
                  have HB2 := Lib.hid hb2
                  have et1 : IntKind.i64.wrap (tt : Int) = (tt : Int) := IntWalk.i64_in _ (by omega)
                  have et2 : (rcc.th : Int).tmod 3 = (tt : Int) := by rw [Int.tmod_eq_emod_of_nonneg (by omega), et3]
                  have HIV := Lib.hid (fun (W : World) (hb : Below V2.heap.size V2 W) => show Calls Tryz.prog 46 #[.pointer (some ⟨hbk, 0, none⟩), .int .i64 tt, .agg #[.int .u8 kd, .int .u64 0, .int .u64 pa, .int .u64 pb]] W (fun e w' => e = .returned (.int .i64 Hh.calls.length) ∧ w'.cell? ⟨wr.heap.size, 0, none⟩ = some (.int .i64 c) ∧ ∃ w8, (Instr.mapUpdate 132 (.map (some w1.heap.size)) (.int .i64 c) (.int .i64 Hh.calls.length)).run Tryz.prog w' = .ok () w8 ∧ Hid (∀ W9, Below w8.heap.size w8 W9 → RcRel2 w s.rc F s.ev w.heap.size w1.heap.size hbk X1 S ex (.int .i64 ((j + 1 : Nat) : Int)) W9)) from by
                    have hbVW := HB2.out.trans (hb.mono HB2.out.size)
                    have hatW := HAT.out.below hbVW
                    have himW := HIM.out.kept (hbVW.block _ HIM.out.lt)
                    have hxW := (hbVW.block _ (heap_lt HBX.out)).trans HBX.out
                    have hiv := hinvoke_any (c := c) (x := ⟨tt, rcc.rd, oo, nn⟩) hatW (by show tt < 8; omega) (by rw [← HX2.out]; exact HBZ.out) (by have := HB3.out; omega) (by have := HB3.out; omega) (Nat.le_trans HXV.out hbVW.size)
                    rw [hov] at hiv
                    refine hiv.mono ?_
                    rintro e w' ⟨rfl, ⟨e5, c5, h5, hb5⟩, hf5⟩
                    have him5 := hfr_map hatW himW hf5
                    have hx5 := hfr_cells hatW hxW (by decide) (by decide) (by decide) hf5
                    obtain ⟨w8, hput, him8, hgr8⟩ := him5.put (n := c) (v := Hh.calls.length) (by have := HNN.out; have := HCN.out; omega) (by have := HB3.out; omega) (by have := HEX2.out; omega)
                    refine ⟨rfl, (cell_block hx5).trans rfl, w8, hput, Lib.hid (fun W9 hb9 => ?_)⟩
                    have h8 := h5.map him5 hgr8
                    have hbX : Below X1 V w8 := below_grown ((hbVW.mono HXV.out).trans hb5) hgr8 (Nat.le_trans HXV.out (Nat.le_trans hbVW.size hb5.size)) (fun k hk => by cases hk; exact HXN.out)
                    exact HNEXT.out W9 (Hh.beg c ⟨tt, rcc.rd, oo, nn⟩) e5 c5 (ex2 + 1) (by
                      show (if F c then Hh else Hh.beg c (rcl s.rc c)) = _
                      rw [HFC.out, HX2.out]; rfl) (h8.below hb9) (him8.kept (hb9.block _ him8.lt)) (by have := HEX2.out; omega) (hbX.trans (hb9.mono (Nat.le_trans HXV.out hbX.size))))
                  have hol := World.block_lt_of_cell? _ _ o0
                  have hyl2 := World.block_lt_of_cell? _ _ y0'
                  have hzl2 := World.block_lt_of_cell? _ _ z0'
                  clear hob hbW hb2 hov hoc y0 z0 z1 z2 z3 hyl hzl HNEXT hxlV hwlV hklV
                  go_upto_region 17 with (fail)
                  go_region_with (first
                    | (go_at_call 46; refine (HIV.out _ (by repeat (first | exact Below.refl _ _ | apply below_drew))).mono ?_; rintro e w7 ⟨rfl, hc7, w8, hput, hq⟩; have HQ := Lib.hid hq; clear hq))
                  all_goals
                    go_wp2_with fail
                    go_roundw
                    case rel => first
                      | exact HQ.out.out _ (Below.refl _ _)
                      | exact HQ.out.out _ (below_drew (Below.refl _ _))
                    case measure => simp [intOf]; omega
          | fin c' v' =>
            have hcr : cr = false := by have := congrArg (fun l => l[2]?) HF.out; simpa [evc] using this.symm
            have hen : en = true := by have := congrArg (fun l => l[1]?) HF.out; simpa [evc] using this.symm
            have hok : ok = true := by have := congrArg (fun l => l[4]?) HF.out; simpa [evc] using this.symm
            have hcc : c = c' := by have := congrArg (fun l => l[0]?) HF.out; simp [evc] at this; omega
            have hvv : v = v' := by have := congrArg (fun l => l[3]?) HF.out; simp [evc] at this; omega
            subst hcr hen hok hcc hvv
            obtain ⟨hpd, hml'⟩ := HOK.out
            have hcn := (HTH.out _ _ hpd).1
            have hFc : F c = false := HFL.out _ hml'
            have hlk := HSM.out.look (n := c) (by have := HNN.out; omega)
            rw [HSF.out c, hFc] at hlk
            have hlk2 := HIM.out.look (n := c) (by have := HNN.out; omega)
            obtain ⟨y, hy1, hy2⟩ := HHO.out.num c hcn hFc
            obtain ⟨hy3, hy4⟩ := HHO.out.pend _ c hpd hFc y hy1
            have HRT := Lib.hid (hreturn_any (v := v) HAT.out hy1 hy3 hy4 (by rw [hy2]; show (s.rc c).th % 3 < 8; omega) (by have := HB3.out; omega) (by have := HB3.out; omega) HXV.out)
            have HY2 := Lib.hid hy2; have HFC := Lib.hid hFc
            clear hpd hml' hcn hFc hy1 hy2 hy3 hy4
            unfold ptr rdone at HRT
            go_wp2_with fail
            refine HRT.out.mono ?_
            rintro e w5 ⟨rfl, ⟨e5, c5, h5, hb5⟩, hf5⟩
            have G := Lib.hid (HNEXT.out w5 _ e5 c5 ex2 (by
              show (if F c then Hh else Hh.fin (Hh.num c) v (rcl s.rc c).t) = Hh.fin (Hh.num c) v y.c.t
              rw [HFC.out, HY2.out]; rfl) h5 (hfr_map HAT.out HIM.out hf5) (by have := HEX2.out; omega) hb5)
            clear h5 hb5 hf5 hlk hlk2
            go_wp2_with fail
            go_roundw
            case rel => exact G.out
            case measure => simp [intOf]; omega
          | fail c' v' =>
            have hcr : cr = false := by have := congrArg (fun l => l[2]?) HF.out; simpa [evc] using this.symm
            have hcc : c = c' := by have := congrArg (fun l => l[0]?) HF.out; simp [evc] at this; omega
            subst hcr hcc
            have hcn := (HTH.out _ _ HOK.out).1
            have hFc : F c = true := HFM.out.2 (fls_mem.2 ⟨_, HME.out⟩)
            have hlk := HSM.out.look (n := c) (by have := HNN.out; omega)
            rw [HSF.out c, hFc] at hlk
            have G := Lib.hid (HNEXT.out V _ e3 c3 ex2 rfl HAT.out HIM.out (by have := HEX2.out; omega) (Below.refl _ _))
            clear hcn hFc
            go_wp2_with fail
            go_roundw
            case rel => exact G.out
            case measure => simp [intOf]; omega
        · have hjj : j = s.ev.length := by omega
          have GG := Lib.hid (show RecPost w s.rc F s.ev (.returned (ptr hbk)) wr from ⟨_, hbk, e3, c3, rfl, by rw [hjj, List.take_length] at hat; exact hat, hbl⟩)
          clear hat him hsm hbl
          unfold ptr at GG
          go_wp2_with fail
          go_returns
          exact GG.out
end Go.Proofs.YtejlgnebofdijaaGreatDoor.Dv
