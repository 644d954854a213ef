/-
  The package linear: Check.
  The statement's world while it goes over to a new device: its own blocks alone. No walk.
  What the record of an execution is worth: its calls, and that an order explains them. No program in sight.
  The statement's world between two devices: a new device, a new pool, and then all of the state anew. No walk.
  The last threads' steps: what falls with each, what stays, and what is found at the end.
  The law TopMwcasLinear: what holds at the walk's cuts.
-/
import Derived.Test.YtejlgnebofdijaaGreatDoorMLr5
import Derived.Laws.EntriesVeiled
import Derived.Test.YtejlgnebofdijaaGreatDoorMCwA
import Derived.Test.YtejlgnebofdijaaGreatDoorMCwB
import Derived.Test.YtejlgnebofdijaaGreatDoorMOpA
import Derived.Test.YtejlgnebofdijaaGreatDoorMCw7
namespace Go.Proofs.YtejlgnebofdijaaGreatDoor.Dv
open Go.RowKit
open Ln (Cl HC Hi ap Ended Since ins Sol)
set_option linter.unusedVariables false

theorem run_all {X : Nat} {cs : List HC} {cv : Value} {bb mb fb tb z : Nat} (hn : cs.length ≤ 10) (hlt3 : ∀ (k : Nat) (x : HC), cs[k]? = some x → x.c.new < 3) : ∀ d, RunOk X cs cv bb mb fb tb z d := fun d => by
  induction d using Nat.strongRecOn with
  | _ d ih => exact run_step hn hlt3 ih

def CkPost (w : World) (e : Ending) (w' : World) : Prop := ∃ v, e = .returned (.tuple #[v, .bool true, .int .i64 0]) ∧ Below w.heap.size w w'
theorem sol_can {cs : List HC} {z : Nat} (h : Sol cs z (fun _ => false) 0) : Ln.Can cs z 0 0 := by
  unfold Ln.Can
  have : (fun k => (0 : Nat).testBit k) = (fun _ => false) := by funext k; simp
  rw [this]
  exact h
set_option maxHeartbeats 4000000 in
set_option maxRecDepth 8000 in
theorem check_any {X hb z f : Nat} {w0 : World} {H : Hi} {ev cv : Value} (h : HAt X w0 hb H ev cv) (hl : H.calls.length ≤ 10) (hlt3 : ∀ (k : Nat) (x : HC), H.calls[k]? = some x → x.c.new < 3) (hsol : Sol H.calls z (fun _ => false) 0)
    (hf : w0.heap[f]? = some (.cells #[.int .u64 0, .int .u64 z] 66 (0, 0))) (ht : PTab w0) :
    Calls Tryz.prog 14 #[.int .u8 1, ptr hb, .slice (some ⟨f, 0, none⟩) 1 1] w0 (CkPost w0) := by
  have hb0 : Below w0.heap.size w0 (w0.alloc (.cells #[.slice (some ⟨f, 0, none⟩) 1 1] 67)) := below_alloc (Below.refl _ _)
  obtain ⟨w, hw⟩ : ∃ w, w = w0.alloc (.cells #[.slice (some ⟨f, 0, none⟩) 1 1] 67) := ⟨_, rfl⟩
  have hbx : w.cell? ⟨w0.heap.size, 0, none⟩ = some (.slice (some ⟨f, 0, none⟩) 1 1) := by rw [hw]; exact (cell_block (heap_alloc_new _ _)).trans rfl
  have hsz : w.heap.size = w0.heap.size + 1 := by rw [hw]; simp
  rw [← hw] at hb0
  have hfin : FinAt w w0.heap.size z := ⟨f, hbx, (hb0.block f (heap_lt hf)).trans hf⟩
  have htw := ht.below hb0 (Nat.le_refl _)
  have HNS := Lib.hid (newsearch_any (h.below hb0) hl)
  have HFIN := Lib.hid hfin; have HTW := Lib.hid htw; have HW := Lib.hid hw; have HB0 := Lib.hid hb0; have HSOL := Lib.hid hsol; have HL3 := Lib.hid hlt3; have HSZ := Lib.hid hsz
  have HFL := Lib.hid (heap_lt hf)
  obtain ⟨cs, hcs⟩ : ∃ cs, cs = H.calls := ⟨_, rfl⟩
  rw [← hcs] at HNS HSOL HL3 hl
  clear h hf ht hb0 hfin htw hw hsol hlt3 hsz hbx hcs
  unfold ptr at *
  go_enter Tryz.func14, Tryz.ntmps14
  go_upto_region 1 with fail
  rw [← HW.out]
  go_wp2_with fail
  refine HNS.out.mono ?_
  rintro e w1 ⟨W, cv2, bb, mb, fb, rfl, hns, hcl, hbW, hbb, hmb, hfb⟩
  have f5 := hns.row.free 5
  have l5 : w1.cell? ⟨fb, 5, none⟩ = some .nilFunc := hns.row.cell 5 (by omega)
  have hb1 : Below w.heap.size w w1 := hbW.trans (hns.bel.mono hbW.size)
  have hne : fb ≠ bb := by omega
  have hnm : fb ≠ mb := by omega
  have hws := hbW.size
  have hw1 := hns.bel.size
  have hrl := hns.row.lt
  have hst : ∀ W2, Below (w1.setCell ⟨fb, 5, none⟩ (.func (.func 38) #[] #[ptr w0.heap.size])).heap.size (w1.setCell ⟨fb, 5, none⟩ (.func (.func 38) #[] #[ptr w0.heap.size])) W2 →
      SrSt (W.heap.size + 1) cs cv2 bb mb fb w0.heap.size z 0 0 (fun _ => False) (.slice none 0 0) W2 := by
    intro W2 hb2
    refine SrSt.below (w := w1.setCell ⟨fb, 5, none⟩ (.func (.func 38) #[] #[ptr w0.heap.size])) ?_ hb2
    have hb3 : Below w.heap.size w (w1.setCell ⟨fb, 5, none⟩ (.func (.func 38) #[] #[ptr w0.heap.size])) := hb1.setCell (by dsimp only; omega) _
    have hfin3 := HFIN.out.below hb3
    have hs5 : W.heap.size + 1 ≤ (w1.setCell ⟨fb, 5, none⟩ (.func (.func 38) #[] #[ptr w0.heap.size])).heap.size := by
      have h5 : Below fb w1 (w1.setCell ⟨fb, 5, none⟩ (.func (.func 38) #[] #[ptr w0.heap.size])) := (Below.refl fb w1).setCell (Nat.le_refl _) _
      have := h5.size
      omega
    refine ⟨(hns.row.set 5 _).congr (fun x hx => ?_), ⟨[], World.ownsRow_nil _ _ _ _⟩, hns.bf.of_block (heap_set_ne (by omega)), hns.km.kept (heap_set_ne (by omega)), ?_, hfin3, HTW.out.below hb3 (Nat.le_refl _), ⟨by omega, by omega, by exact hs5⟩, ⟨?_, ?_, by omega⟩, ?_, ?_⟩
    · have : x = 0 ∨ x = 1 ∨ x = 2 ∨ x = 3 ∨ x = 4 ∨ x = 5 := by omega
      rcases this with rfl | rfl | rfl | rfl | rfl | rfl <;> rfl
    · exact hcl.below (hns.bel.setCell (by dsimp only; omega) _)
    · have := HTW.out.lt; omega
    · have := HSZ.out; omega
    · intro h0 g a n c e1 e2
      obtain ⟨ca, cc, e3, _, h4⟩ := hcl
      rw [e3] at e1
      cases e1
      obtain ⟨g', e5, hg', _⟩ := h4 0 _ (List.getElem?_eq_getElem h0)
      rw [e5] at e2
      cases e2
      omega
    · intro f' hf'
      have hc := hb3.cell (p := ⟨w0.heap.size, 0, none⟩) (by dsimp only; have := HSZ.out; omega)
      rw [hc] at hf'
      obtain ⟨f2, hf2, hf3⟩ := HFIN.out
      rw [hf2] at hf'
      cases hf'
      have := heap_lt hf3
      omega
  have HST := Lib.hid hst
  have HB1 := Lib.hid hb1
  have HLO := Lib.hid (show W.heap.size ≤ fb from by omega)
  have HWS := Lib.hid hws
  clear hns hcl hbW hbb hmb hfb hb1 hne hnm hws hw1 hst HNS
  unfold ptr at HST ⊢
  go_upto_region 5 with (fail)
  obtain ⟨w2, hw2⟩ : ∃ w2, w2 = w1.setCell ⟨fb, 5, none⟩ (.func (.func 38) #[] #[.pointer (some ⟨w0.heap.size, 0, none⟩)]) := ⟨_, rfl⟩
  rw [← hw2] at HST ⊢
  have HW2 := Lib.hid hw2
  have HSP := Lib.hid (spnew_any w2)
  clear hw2 f5 l5 hrl
  unfold stv at HSP
  go_wp2_with fail
  refine HSP.out.mono ?_
  rintro e w3 ⟨rfl, hb3⟩
  have h3 := HST.out w3 hb3
  have hcan := sol_can HSOL.out
  have hrun := run_all (X := W.heap.size + 1) (cv := cv2) (bb := bb) (mb := mb) (fb := fb) (tb := w0.heap.size) (z := z) hl HL3.out (spare 0 cs.length) w3 0 0 0 0 (fun _ => False) (.slice none 0 0) h3 (Nat.two_pow_pos _) (by omega) rfl (fun k hk => absurd hk (by simp)) (by have := cost_le (spare 0 cs.length) (Nat.le_trans (spare_le 0 _) hl); omega) (by have := spare_le 0 cs.length; omega)
  have HRUN := Lib.hid hrun; have HCAN := Lib.hid hcan; have HB3 := Lib.hid hb3; have H3 := Lib.hid h3
  clear hrun hcan hb3 h3 HSP
  unfold stv ptr at HRUN
  go_wp2_with fail
  refine HRUN.out.mono ?_
  intro e w4 hpost
  obtain ⟨bv, rfl, hf4, ex4, K4, S4, ov4, h4, _, hn4⟩ := hpost.split
  cases bv with
  | false => exact absurd HCAN.out (hn4 rfl).1
  | true =>
    obtain ⟨ys, hy⟩ := h4.own
    obtain ⟨oa, oc, rfl⟩ := own_slice hy
    have l4 : w4.cell? ⟨fb, 4, none⟩ = some (.slice oa K4 oc) := h4.row.cell 4 (by omega)
    have hbb4 : Below w0.heap.size w0 w4 := by
      have b1 : Below w0.heap.size w0 w1 := HB0.out.trans (HB1.out.mono HB0.out.size)
      have b2 : Below w0.heap.size w0 w2 := by
        rw [HW2.out]
        exact b1.setCell (by dsimp only; have := HLO.out; have := HB0.out.size; have := HWS.out; omega) _
      exact (b2.trans (HB3.out.mono b2.size)).trans ((hf4.below H3.out).mono (by have := HB0.out.size; have := HWS.out; omega))
    have GG := Lib.hid (show CkPost w0 (.returned (.tuple #[.slice oa K4 oc, .bool true, .int .i64 0])) w4 from ⟨_, rfl, hbb4⟩)
    clear hbb4 hf4 h4 hn4 hy hpost
    go_wp2_with fail
    go_returns
    exact GG.out
end Go.Proofs.YtejlgnebofdijaaGreatDoor.Dv

namespace Go.Proofs.YtejlgnebofdijaaGreatDoor.Dv
open Go.RowKit
open Ln (Cl Ev Run up up_same up_ne)
set_option linter.unusedVariables false

structure Cr (M : Nat) (W0 : World) (wb kb : Nat) (f : Nat → Value) (rc : Nat → RC) (ev : List Ev) (evv : Value) (w : World) : Prop where
  row : Row w wb 45 11 f
  calls : Row w kb 37 (4 * M) (ccf rc)
  evs : w.ownsRow W0.heap.size 52 7 evv ev.length (evcs ev)
  bel : Below W0.heap.size W0 w
  lo2 : W0.heap.size ≤ wb ∧ W0.heap.size ≤ kb
def setf (f : Nat → Value) (x : Nat) (v : Value) : Nat → Value := fun y => if y = x then v else f y
section
variable {M : Nat} {W0 : World} {wb kb : Nat} {f : Nat → Value} {rc : Nat → RC} {ev : List Ev} {evv : Value} {w w' : World}
theorem Ch.cr {T : Nat → Nat} {kc : Nat} {s : CS} (h : Ch M T W0 wb kb kc s w) : Cr M W0 wb kb (cwf M kb kc s) s.rc s.ev s.evv w := ⟨h.row, h.calls, h.evs, h.bel, h.lo2⟩
theorem Cr.below (h : Cr M W0 wb kb f rc ev evv w) (hb : Below w.heap.size w w') : Cr M W0 wb kb f rc ev evv w' :=
  ⟨h.row.of_block (hb.block _ h.row.lt), h.calls.of_block (hb.block _ h.calls.lt), own_agree h.evs (fun b hb2 => hb.block b (h.evs.lt b hb2).2), h.bel.trans (hb.mono h.bel.size), h.lo2⟩
theorem Cr.set (h : Cr M W0 wb kb f rc ev evv w) (x : Nat) (v : Value) : Cr M W0 wb kb (setf f x v) rc ev evv (w.setCell ⟨wb, x, none⟩ v) :=
  ⟨h.row.set x v, h.calls.of_block (heap_set_ne (row_types_ne h.calls h.row (by decide))), own_agree h.evs (fun b hb => heap_set_ne (fun e => row_own_ne h.row h.evs (by decide) (by rw [hb, e]))), h.bel.setCell h.lo2.1 _, h.lo2⟩
theorem Cr.push (h : Cr M W0 wb kb f rc ev evv w) {e : Ev} {w4 : World} {g4 cap4 : Nat} (ho : w4.ownsRow W0.heap.size 52 7 (.slice (some ⟨g4, 0, none⟩) (ev.length + 1) cap4) (ev.length + 1) (evcs ev ++ evc e)) (hgr : w.grownBy w4 evv.ownBlock) :
    Cr M W0 wb kb (setf f 10 (.slice (some ⟨g4, 0, none⟩) (ev.length + 1) cap4)) rc (ev ++ [e]) (.slice (some ⟨g4, 0, none⟩) (ev.length + 1) cap4) (w4.setCell ⟨wb, 10, none⟩ (.slice (some ⟨g4, 0, none⟩) (ev.length + 1) cap4)) := by
  have nw : evv.ownBlock ≠ some wb := row_own_ne h.row h.evs (by decide)
  have nk : evv.ownBlock ≠ some kb := row_own_ne h.calls h.evs (by decide)
  have h4 : Cr M W0 wb kb f rc (ev ++ [e]) (.slice (some ⟨g4, 0, none⟩) (ev.length + 1) cap4) w4 := by
    refine ⟨h.row.of_block (hgr.block _ h.row.lt nw.symm), h.calls.of_block (hgr.block _ h.calls.lt nk.symm), ?_, below_grown h.bel hgr h.bel.size (fun b hb => (h.evs.lt b hb).1), h.lo2⟩
    rw [evcs_snoc, List.length_append]
    exact ho
  exact h4.set 10 _
theorem Cr.only (h : Cr M W0 wb kb f rc ev evv w) {F G F' G' : Nat → Option Role} (mv : MMoved F G F' G' w w') (hw : F wb = none ∧ G wb = none) (hk : F kb = none ∧ G kb = none) (he : ∀ b, evv.ownBlock = some b → F b = none ∧ G b = none) (hlo : ∀ b, F b ≠ none ∨ G b ≠ none → W0.heap.size ≤ b) : Cr M W0 wb kb f rc ev evv w' := by
  have keep : ∀ b, b < w.heap.size → F b = none ∧ G b = none → w'.heap[b]? = w.heap[b]? := fun b hb h1 => mv.only.block b hb (fun q => q.elim (fun q => q h1.1) (fun q => q h1.2))
  refine ⟨h.row.of_block (keep _ h.row.lt hw), h.calls.of_block (keep _ h.calls.lt hk), own_agree h.evs (fun b hb => keep b (h.evs.lt b hb).2 (he b hb)), ?_, h.lo2⟩
  refine ⟨mv.only.os.trans h.bel.os, mv.only.tape.trans h.bel.tape, mv.only.output.trans h.bel.output, Nat.le_trans h.bel.size mv.only.size, fun k hk => ?_⟩
  exact (mv.only.block k (Nat.lt_of_lt_of_le hk h.bel.size) (fun hf => by have := hlo k hf; omega)).trans (h.bel.block k hk)
/-- All of the state anew, while no thread does anything. -/
theorem Cr.ch {T : Nat → Nat} {kc : Nat} {s' : CS} (h : Cr M W0 wb kb f rc ev evv w) (hmw : MW w s'.A s'.B 96 s'.N s'.m s'.F s'.G) (hrow : ∀ y, y < 11 → cwf M kb kc s' y = f y) (hrc : s'.rc = rc) (hev : s'.ev = ev) (hevv : s'.evv = evv) (hact : ∀ t, s'.act t = .idle) (tb : Tb w T s'.F s'.G)
    (nub : ∀ t, s'.nu t ≤ 1000) (m8 : 2 ≤ M ∧ M ≤ 8) (kcl : M ≤ kc ∧ kc ≤ maxLen) (rok : ∀ k, (rc k).Ok) (nb : s'.B.nb = 24) (fw : s'.F wb = none ∧ s'.G wb = none) (fk : s'.F kb = none ∧ s'.G kb = none) (fe : ∀ b, evv.ownBlock = some b → s'.F b = none ∧ s'.G b = none)
    (lo : ∀ b, s'.F b ≠ none ∨ s'.G b ≠ none → W0.heap.size ≤ b) (gl : (1 : Nat) < W0.heap.size) : Ch M T W0 wb kb kc s' w where
  row := h.row.congr (fun y hy => hrow y hy)
  calls := by rw [hrc]; exact h.calls
  evs := by rw [hevv, hev]; exact h.evs
  mw := hmw
  tb := tb
  rds := fun t r pl raw e => by rw [hact t] at e; cases e
  dist := fun t u r pl raw pl' raw' _ e => by rw [hact t] at e; cases e
  opn := fun t i e => by rw [hact t] at e; cases e
  nub := nub
  m8 := m8
  kcl := kcl
  rok := by rw [hrc]; exact rok
  nb := nb
  fw := fw
  fk := fk
  fe := by rw [hevv]; exact fe
  bel := h.bel
  lo := lo
  lo2 := h.lo2
  gl := gl
end
end Go.Proofs.YtejlgnebofdijaaGreatDoor.Dv

namespace Go.Proofs.YtejlgnebofdijaaGreatDoor.Dv
open Ln (Cl Ev HC Hi Run HOk hist up up_same up_ne Sol)
set_option linter.unusedVariables false

/-- A call that has failed takes no effect, then or later. -/
theorem Run.nofail {cl : Nat → Cl} {ev : List Ev} {pd : Nat → Option Nat} {n : Nat} {l : List (Nat × Nat)} {A : Nat} (h : Run cl ev pd n l A) :
    ∀ c v, Ev.fail c v ∈ ev → c < n ∧ (∀ u, (c, u) ∉ l) ∧ ∀ t, pd t ≠ some c := by
  induction h with
  | nil => intro c v hm; cases hm
  | @beg ev pd n l A h hp ih =>
    intro c v hm
    rcases List.mem_append.1 hm with hm | hm
    · obtain ⟨a, b, d⟩ := ih c v hm
      refine ⟨Nat.lt_succ_of_lt a, b, fun t ht => ?_⟩
      by_cases e : t = (cl n).t
      · rw [e, up_same] at ht
        have : n = c := Option.some.inj ht
        omega
      · rw [up_ne _ _ e] at ht; exact d t ht
    · simp at hm
  | @take ev pd n l A c' h hp hl ha ih =>
    intro c v hm
    obtain ⟨a, b, d⟩ := ih c v hm
    exact ⟨a, fun u => notin_snoc (b u) (fun e => d (cl c').t (by rw [e]; exact hp)), d⟩
  | @fin ev pd n l A c' v' h hp hl ih =>
    intro c v hm
    rcases List.mem_append.1 hm with hm | hm
    · obtain ⟨a, b, d⟩ := ih c v hm
      refine ⟨a, b, fun t ht => ?_⟩
      by_cases e : t = (cl c').t
      · rw [e, up_same] at ht; cases ht
      · rw [up_ne _ _ e] at ht; exact d t ht
    · simp at hm
  | @fail ev pd n l A c' v' h hp hl ih =>
    have hth := h.thr.1
    intro c v hm
    rcases List.mem_append.1 hm with hm | hm
    · obtain ⟨a, b, d⟩ := ih c v hm
      refine ⟨a, b, fun t ht => ?_⟩
      by_cases e : t = (cl c').t
      · rw [e, up_same] at ht; cases ht
      · rw [up_ne _ _ e] at ht; exact d t ht
    · simp at hm
      obtain ⟨rfl, rfl⟩ := hm
      refine ⟨(hth _ _ hp).1, hl, fun t ht => ?_⟩
      by_cases e : t = (cl c).t
      · rw [e, up_same] at ht; cases ht
      · rw [up_ne _ _ e] at ht; exact e (hth _ _ ht).2.symm
  | @crash ev pd n l A h ih =>
    intro c v hm
    rcases List.mem_append.1 hm with hm | hm
    · obtain ⟨a, b, d⟩ := ih c v hm
      exact ⟨a, b, fun t ht => by cases ht⟩
    · simp at hm

theorem Run.record {cl : Nat → Cl} {ev : List Ev} {pd : Nat → Option Nat} {n : Nat} {l : List (Nat × Nat)} {A : Nat} (h : Run cl ev pd n l A) {F : Nat → Bool} (hF : F = fun c => decide (c ∈ fls ev)) (h3 : ∀ c, (cl c).new < 3) :
    (hist cl F ev).calls.length ≤ n ∧ (∀ (k : Nat) (x : HC), (hist cl F ev).calls[k]? = some x → x.c.new < 3) ∧ Sol (hist cl F ev).calls A (fun _ => false) 0 := by
  have hf : ∀ c v, Ev.fail c v ∈ ev → F c = true := fun c v hm => by rw [hF]; exact decide_eq_true (fls_mem.2 ⟨v, hm⟩)
  have hl : ∀ p ∈ l, F p.1 = false := fun p hp => by
    rw [hF]
    refine decide_eq_false (fun hm => ?_)
    obtain ⟨v, hv⟩ := fls_mem.1 hm
    exact (Run.nofail h _ v hv).2.1 p.2 hp
  have hk := h.hok hf hl
  have hsol := h.sol hf hl
  generalize hist cl F ev = H at hk hsol
  refine ⟨?_, fun k x hx => ?_, hsol⟩
  · have ch : ∀ k, ∃ c, k < H.calls.length → c < n ∧ H.num c = k := fun k => by
      by_cases hlt : k < H.calls.length
      · obtain ⟨_, _, c, h1, _, h4⟩ := hk.call k _ (List.getElem?_eq_getElem hlt)
        exact ⟨c, fun _ => ⟨h1, h4⟩⟩
      · exact ⟨0, fun h => absurd h hlt⟩
    have hf2 : ∀ k, k < H.calls.length → Classical.choose (ch k) < n ∧ H.num (Classical.choose (ch k)) = k := fun k => Classical.choose_spec (ch k)
    have := nodup_lt n ((List.range H.calls.length).map (fun k => Classical.choose (ch k))) (by
      unfold List.Nodup
      rw [List.pairwise_map]
      refine List.Pairwise.imp_of_mem (R := fun a b => a ≠ b) ?_ List.nodup_range
      intro a b ha hb hne e
      have h1 := (hf2 a (List.mem_range.1 ha)).2
      have h2 := (hf2 b (List.mem_range.1 hb)).2
      rw [e] at h1
      exact hne (h1.symm.trans h2)) (fun x hx => by
      obtain ⟨k, hk2, rfl⟩ := List.mem_map.1 hx
      exact (hf2 k (List.mem_range.1 hk2)).1)
    simpa using this
  · obtain ⟨_, _, c, h1, h2, h4⟩ := hk.call k x hx
    obtain ⟨y, hy1, hy2⟩ := hk.num c h1 h2
    rw [h4, hx] at hy1
    cases hy1
    rw [hy2]
    exact h3 c
end Go.Proofs.YtejlgnebofdijaaGreatDoor.Dv

namespace Go.Proofs.YtejlgnebofdijaaGreatDoor.Dv
open Go.RowKit
open Ln (Cl Ev Run up up_same up_ne)
set_option linter.unusedVariables false

/-- The new device is there. -/
structure CrI (M : Nat) (W0 : World) (wb kb : Nat) (f : Nat → Value) (rc : Nat → RC) (ev : List Ev) (evv : Value) (A : DAd) (d : DSt) (F : Nat → Option Role) (w : World) : Prop where
  cr : Cr M W0 wb kb f rc ev evv w
  dev : Dev w A d F
  fw : F wb = none
  fk : F kb = none
  fe : ∀ b, evv.ownBlock = some b → F b = none
  lo : ∀ b, F b ≠ none → W0.heap.size ≤ b
/-- The new pool is there. -/
structure CrJ (M : Nat) (W0 : World) (wb kb : Nat) (f : Nat → Value) (rc : Nat → RC) (ev : List Ev) (evv : Value) (A : DAd) (B : MAd) (m : MS) (F G : Nat → Option Role) (w : World) : Prop where
  cr : Cr M W0 wb kb f rc ev evv w
  mw : MW w A B 96 0 m F G
  nb : B.nb = 24
  fw : F wb = none ∧ G wb = none
  fk : F kb = none ∧ G kb = none
  fe : ∀ b, evv.ownBlock = some b → F b = none ∧ G b = none
  lo : ∀ b, F b ≠ none ∨ G b ≠ none → W0.heap.size ≤ b
section
variable {M : Nat} {W0 : World} {wb kb : Nat} {f : Nat → Value} {rc : Nat → RC} {ev : List Ev} {evv : Value} {A : DAd} {d : DSt} {B : MAd} {m m' : MS} {F G : Nat → Option Role} {w w' : World}
theorem CrI.below (h : CrI M W0 wb kb f rc ev evv A d F w) (hb : Below w.heap.size w w') : CrI M W0 wb kb f rc ev evv A d F w' := { h with cr := h.cr.below hb, dev := h.dev.below hb }
theorem CrI.set (h : CrI M W0 wb kb f rc ev evv A d F w) (x : Nat) (v : Value) : CrI M W0 wb kb (setf f x v) rc ev evv A d F (w.setCell ⟨wb, x, none⟩ v) := { h with cr := h.cr.set x v, dev := h.dev.setCell h.fw }
theorem CrI.push (h : CrI M W0 wb kb f rc ev evv A d F w) {e : Ev} {w4 : World} {g4 cap4 : Nat} (ho : w4.ownsRow W0.heap.size 52 7 (.slice (some ⟨g4, 0, none⟩) (ev.length + 1) cap4) (ev.length + 1) (evcs ev ++ evc e)) (hgr : w.grownBy w4 evv.ownBlock) (hg : evv.ownBlock = some g4 ∨ w.heap.size ≤ g4) :
    CrI M W0 wb kb (setf f 10 (.slice (some ⟨g4, 0, none⟩) (ev.length + 1) cap4)) rc (ev ++ [e]) (.slice (some ⟨g4, 0, none⟩) (ev.length + 1) cap4) A d F (w4.setCell ⟨wb, 10, none⟩ (.slice (some ⟨g4, 0, none⟩) (ev.length + 1) cap4)) where
  cr := h.cr.push ho hgr
  dev := (Dev.only (G := fun b => evv.ownBlock = some b) h.dev ⟨hgr.os, hgr.tape, hgr.output, hgr.size, fun b hb hn => hgr.block b hb (fun e => hn e.symm)⟩ (fun k hk _ => h.fe k hk)).setCell h.fw
  fw := h.fw
  fk := h.fk
  fe := fun b hb => by
    have : some g4 = some b := hb
    cases this
    rcases hg with hg | hg
    · exact h.fe g4 hg
    · cases e : F g4 with
      | none => rfl
      | some q => have := h.dev.lt g4 (by rw [e]; simp); omega
  lo := h.lo
theorem CrI.crash {T : Nat → Nat} {kc : Nat} {s : CS} {w1 : World} {v : Value} (h : Ch M T W0 wb kb kc s w) (hb : Below w.heap.size w w1) (hm : Made w1 (fun _ => False) d v w') : ∃ A F, v = ptr A.d ∧ CrI M W0 wb kb (cwf M kb kc s) s.rc s.ev s.evv A d F w' := by
  obtain ⟨A, F, rfl, hd, hb2, hF⟩ := hm
  have hF' : ∀ k, k < w.heap.size → F k = none := fun k hk => by
    cases e : F k with
    | none => rfl
    | some q =>
      have := (hF k (by rw [e]; simp)).resolve_left (fun h => h)
      have := hb.size
      omega
  refine ⟨A, F, rfl, (h.cr.below hb).below hb2, hd, hF' _ h.row.lt, hF' _ h.calls.lt, fun b hb => hF' b (h.evs.lt b hb).2, fun b hb3 => ?_⟩
  have := (hF b hb3).resolve_left (fun h => h)
  have := h.bel.size
  have := hb.size
  omega
theorem CrI.pool (h : CrI M W0 wb kb f rc ev evv A d F w) (hmw : MW w' A B 96 0 (ms0 d) F G) (hb : Below w.heap.size w w') (hG : ∀ b, G b ≠ none → w.heap.size ≤ b) (hnb : B.nb = 24) : CrJ M W0 wb kb f rc ev evv A B (ms0 d) F G w' := by
  have hG' : ∀ k, k < w.heap.size → G k = none := fun k hk => by
    cases e : G k with
    | none => rfl
    | some q => have := hG k (by rw [e]; simp); omega
  refine ⟨h.cr.below hb, hmw, hnb, ⟨h.fw, hG' _ h.cr.row.lt⟩, ⟨h.fk, hG' _ h.cr.calls.lt⟩, fun b hb => ⟨h.fe b hb, hG' b (h.cr.evs.lt b hb).2⟩, fun b hb2 => ?_⟩
  rcases hb2 with hb2 | hb2
  · exact h.lo b hb2
  · have := hG b hb2
    have := h.cr.bel.size
    omega
theorem CrJ.set (h : CrJ M W0 wb kb f rc ev evv A B m F G w) (x : Nat) (v : Value) : CrJ M W0 wb kb (setf f x v) rc ev evv A B m F G (w.setCell ⟨wb, x, none⟩ v) := by
  have hon : Only (fun b => b = wb) w (w.setCell ⟨wb, x, none⟩ v) := (Only.refl (fun b => b = wb) w).set (F := fun b => b = wb) rfl v
  exact { h with cr := h.cr.set x v, mw := h.mw.free hon (fun k hk _ => by rw [hk]; exact h.fw) }
theorem CrJ.recovered (h : CrJ M W0 wb kb f rc ev evv A B m F G w) (hp : MWent w A B 96 0 F G m' w') : ∃ F' G', CrJ M W0 wb kb f rc ev evv A B m' F' G' w' := by
  obtain ⟨F', G', hmw, mv⟩ := hp
  have keep : ∀ b, b < w.heap.size → F b = none ∧ G b = none → F' b = none ∧ G' b = none := fun b hb h1 => ⟨(mv.same b hb).1.trans h1.1, (mv.same b hb).2.trans h1.2⟩
  refine ⟨F', G', h.cr.only mv h.fw h.fk h.fe h.lo, hmw, h.nb, keep _ h.cr.row.lt h.fw, keep _ h.cr.calls.lt h.fk, fun b hb => keep b (h.cr.evs.lt b hb).2 (h.fe b hb), fun b hb => ?_⟩
  rcases Nat.lt_or_ge b w.heap.size with h1 | h1
  · rw [(mv.same b h1).1, (mv.same b h1).2] at hb
    exact h.lo b hb
  · have := h.cr.bel.size
    omega
end
/-- What the statement's world is after the crash. -/
def CS.back (s : CS) (A : DAd) (B : MAd) (m : MS) (F G : Nat → Option Role) (evv : Value) : CS := ⟨A, B, 0, m, F, G, s.rc, s.ev ++ [.crash], s.n, fun _ => .idle, s.nu, evv⟩
theorem CrJ.cw {M : Nat} {T : Nat → Nat} {W0 : World} {wb kb kc : Nat} {f : Nat → Value} {s : CS} {evv : Value} {A : DAd} {B : MAd} {m : MS} {F G : Nat → Option Role} {w wo : World} {l : List (Nat × Nat)} {v : Nat} {od nw : Nat → Nat}
    (h : CrJ M W0 wb kb f s.rc (s.ev ++ [.crash]) evv A B m F G w) (hw : Cw M T W0 wb kb kc s wo) (hT : NTab W0 T) (hl : Lnk T (fun k => (s.rc k).cl) (s.ev ++ [.crash]) (fun _ => none) s.n l v od nw 0 m (fun _ => .idle)) (hc : crs s.ev + 1 ≤ 400)
    (hrow : ∀ y, y < 11 → cwf M kb kc (s.back A B m F G evv) y = f y) : Cw M T W0 wb kb kc (s.back A B m F G evv) w := by
  have gl := hw.ch.gl
  have tf : F 1 = none := by
    cases e : F 1 with
    | none => rfl
    | some q => have := h.lo _ (.inl (by rw [e]; simp)); omega
  have tg : G 1 = none := by
    cases e : G 1 with
    | none => rfl
    | some q => have := h.lo _ (.inr (by rw [e]; simp)); omega
  refine ⟨h.cr.ch h.mw hrow rfl rfl rfl (fun _ => rfl) ⟨hT.below h.cr.bel (Nat.le_refl _), tf, tg⟩ hw.ch.nub hw.ch.m8 hw.ch.kcl hw.ch.rok h.nb h.fw h.fk h.fe h.lo gl, ⟨_, l, v, od, nw, hl, fun t c e => by cases e⟩, hw.nn, ?_⟩
  show crs (s.ev ++ [.crash]) ≤ 400
  rw [crs_append]
  simpa [crs, Ev.cr] using hc
end Go.Proofs.YtejlgnebofdijaaGreatDoor.Dv

namespace Go.Proofs.YtejlgnebofdijaaGreatDoor.Dv
open Go.RowKit
open Ln (Cl Ev HC Hi Run HOk hist up up_same up_ne Sol)
set_option linter.unusedVariables false

/-- What falls with each step of thread t. -/
def mz (M : Nat) (s : CS) (t : Nat) : Nat := (M - s.n) * 710 + meas s.m (s.act t)
/-- Thread u has nothing left to do. -/
def Fin (M : Nat) (s : CS) (u : Nat) : Prop := s.act u = .idle ∧ ∀ k, s.n ≤ k → k < M → (s.rc k).th % 3 ≠ u
theorem Fin.step {M t u : Nat} {s s' : CS} (h : Fin M s u) (hu : u ≠ t) (ho : Oth t s s') (hr : Rest M s s') : Fin M s' u := ⟨(ho u hu).trans h.1, hr (fun c => c.th % 3 ≠ u) h.2⟩
theorem mz_le {M t : Nat} {s : CS} (h : M ≤ 8) : mz M s t ≤ 6500 := by
  have := meas_le s.m (s.act t)
  unfold mz
  omega
theorem mz_begin {M t : Nat} {s s' : CS} (hn : s'.n = s.n + 1) (hM : s'.n ≤ M) : mz M s' t + 1 ≤ mz M s t := by
  have := meas_le s'.m (s'.act t)
  unfold mz
  rw [hn] at hM ⊢
  have : (M - s.n) * 710 = (M - (s.n + 1)) * 710 + 710 := by omega
  omega
theorem mz_step {M t : Nat} {s s' : CS} (hn : s'.n = s.n) (hm : meas s'.m (s'.act t) < meas s.m (s.act t)) : mz M s' t + 1 ≤ mz M s t := by
  unfold mz
  rw [hn]
  omega

/-- What is found at the end. -/
structure FinAll (rc : Nat → RC) (ev : List Ev) (m : MS) (z : Nat) : Prop where
  lt : z < 3
  a : m.dev.cur 800 < 4611686018427387904 ∧ m.dev.cur 800 % 1099511627776 = z
  b : m.dev.cur 816 < 4611686018427387904 ∧ m.dev.cur 816 % 1099511627776 = z
  len : (hist (rcl rc) (fun c => decide (c ∈ fls ev)) ev).calls.length ≤ 10
  new : ∀ (k : Nat) (x : HC), (hist (rcl rc) (fun c => decide (c ∈ fls ev)) ev).calls[k]? = some x → x.c.new < 3
  sol : Sol (hist (rcl rc) (fun c => decide (c ∈ fls ev)) ev).calls z (fun _ => false) 0
theorem Cw.final {M : Nat} {T : Nat → Nat} {W0 : World} {wb kb kc : Nat} {s : CS} {w : World} (h : Cw M T W0 wb kb kc s w) (hid : ∀ t, t < 3 → Fin M s t) : s.n = M ∧ ∃ z, FinAll s.rc s.ev s.m z := by
  have hn : s.n = M := by
    rcases Nat.lt_or_ge s.n M with hlt | hge
    · exact absurd rfl ((hid ((s.rc s.n).th % 3) (Nat.mod_lt _ (by omega))).2 s.n (Nat.le_refl _) hlt)
    · have := h.nn; omega
  obtain ⟨pd, l, z, od, nw, hl, _⟩ := h.lk
  have hok := h.ch.mw.dev.ok
  have hcur : s.m.cur = none := by
    cases e : s.m.cur with
    | none => rfl
    | some c =>
      obtain ⟨hcN, _, hcd⟩ := hl.li.cur c e
      have hce : (s.m.op c).ended = false := by
        cases q : (s.m.op c).ended with
        | false => rfl
        | true => rw [hl.gone c hcN q] at hcd; cases hcd
      have ho := hl.own c hcN hce
      have ht := hl.three _ (by rw [ho]; simp)
      rw [(hid _ ht).1] at ho
      cases ho
  have hv : ∀ x, x = 800 ∨ x = 816 → s.m.dev.cur x < 4611686018427387904 ∧ s.m.dev.cur x % 1099511627776 = z := fun x hx => by
    have := (hl.li.val x hx).cur hok
    refine ⟨this.1, ?_⟩
    rcases this.2 with h1 | ⟨c, h1, _⟩
    · exact h1
    · rw [hcur] at h1; cases h1
  obtain ⟨h1, h2, h3⟩ := Run.record hl.run (F := fun c => decide (c ∈ fls s.ev)) rfl (fun c => Nat.mod_lt _ (by omega))
  have h8 := h.ch.m8
  exact ⟨hn, z, hl.li.A3, hv 800 (.inl rfl), hv 816 (.inr rfl), by have : (hist (rcl s.rc) (fun c => decide (c ∈ fls s.ev)) s.ev).calls.length ≤ s.n := h1; omega, h2, h3⟩

/-- The managed words are loaded. -/
theorem load_cw {M : Nat} {T : Nat → Nat} {W0 : World} {wb kb kc : Nat} {s : CS} {w : World} (h : Cw M T W0 wb kb kc s w) {off : Nat} (ho : off = 6400 ∨ off = 6528) :
    Calls Tryz.prog 13 #[ptr (s.A.t 4), .int .u64 off] w fun e w' => e = .returned (u64 (s.m.dev.cur (off / 8))) ∧ Cw M T W0 wb kb kc s w' := by
  obtain ⟨pd, l, z, od, nw, hl, hnu⟩ := h.lk
  have hoff : s.m.dev.off = false := (hl.li.calm 4).off
  have hL : s.m.dev.L = 110 := hl.li.L
  have hw : s.m.dev.word off = true := by
    unfold DSt.word
    rw [hL]
    rcases ho with rfl | rfl <;> decide
  have hon : s.m.dev.on 4 true = s.m.dev := by unfold DSt.on; rw [hoff]; rfl
  refine (load_dev h.ch.mw.dev (i := 4) (by omega) off (by omega)).mono ?_
  rintro e w' ⟨rfl, hd, hm⟩
  rw [hw, hon] at hd
  refine ⟨by rw [hoff, hw]; rfl, ?_⟩
  obtain ⟨hmw, hmv⟩ := h.ch.mw.moved hd hm rfl
  exact { h with ch := h.ch.moved hmw hmv rfl rfl (fun _ _ => rfl) (Nat.le_refl _) }
end Go.Proofs.YtejlgnebofdijaaGreatDoor.Dv

namespace Go.Proofs.YtejlgnebofdijaaGreatDoor.Dv
open Go.RowKit
open Ln (Cl Ev HC Hi Run HOk hist up up_same up_ne)
set_option linter.unusedVariables false

theorem below_moved {w W w' : World} {F F' : Nat → Option Role} (hb : Below w.heap.size w W) (hF : ∀ k, F k ≠ none → w.heap.size ≤ k) (hm : Moved F F' W w') : Below w.heap.size w w' ∧ ∀ k, F' k ≠ none → w.heap.size ≤ k := by
  constructor
  · refine ⟨hm.only.os.trans hb.os, hm.only.tape.trans hb.tape, hm.only.output.trans hb.output, Nat.le_trans hb.size hm.only.size, fun k hk => ?_⟩
    exact (hm.only.block k (Nat.lt_of_lt_of_le hk hb.size) (fun hf => by have := hF k hf; omega)).trans (hb.block k hk)
  · intro k hk
    rcases Nat.lt_or_ge k W.heap.size with h | h
    · rw [hm.same k h] at hk
      exact hF k hk
    · have := hb.size
      omega
def TlPost (W : World) (e : Ending) (w' : World) : Prop := e = .returned (.bool true) ∧ Below W.heap.size W w'
/-- The two calls of the statement, ahead of those that are handed in. -/
def rcs (rc : Nat → RC) : Nat → RC := fun i => if i = 0 then ⟨0, false, 0, 2⟩ else if i = 1 then ⟨0, true, 0, 0⟩ else rc (i - 2)
theorem infoCC : (Tryz.prog.info? 37).map (fun i => (i.zero, i.size, i.bytes)) = some (some (.agg #[.int .u8 0, .bool false, .int .u8 0, .int .u8 0]), 4, 4) := by kernel_rfl
theorem elCC : El Tryz.prog 22 37 4 4 := El.of Tryz.underlying22 infoCC rfl (by omega)
def ccells (rc : Nat → RC) (n : Nat) : List Value := (List.range (4 * n)).map (ccf rc)
theorem ccells_get {rc : Nat → RC} {n x : Nat} (h : x < 4 * n) : (ccells rc n)[x]? = some (ccf rc x) := by
  unfold ccells
  rw [List.getElem?_map, List.getElem?_range h]
  rfl
theorem row_of_own {w : World} {X g n cap : Nat} {rc : Nat → RC} (h : w.ownsRow X 37 4 (.slice (some ⟨g, 0, none⟩) n cap) n (ccells rc n)) : Row w g 37 (4 * n) (ccf rc) ∧ n ≤ cap ∧ cap ≤ maxLen ∧ X ≤ g := by
  rcases h.2 with ⟨e, _⟩ | ⟨g', cap', cur, e, hb, hh, hc, hm, hs, ht⟩
  · cases e
  · cases e
    refine ⟨row_of_cells hh (fun x hx => ?_), hc, hm, hb⟩
    have h1 : (cur.toList.take (n * 4))[x]? = some (ccf rc x) := by rw [ht]; exact ccells_get hx
    rw [List.getElem?_take, if_pos (by omega), Array.getElem?_toList] at h1
    exact h1
theorem ccf_one (rc : Nat → RC) (x : Nat) : (ccf rc x).oneCell' = true := by
  unfold ccf
  repeat' split
  all_goals rfl
theorem ccells_rcs (rc : Nat → RC) (n : Nat) : ccells (rcs rc) (2 + n) = ccells (rcs rc) 2 ++ ccells rc n := by
  apply List.ext_getElem?
  intro x
  have l2 : (ccells (rcs rc) 2).length = 8 := by simp [ccells]
  rcases Nat.lt_or_ge x (4 * (2 + n)) with h | h
  · rw [ccells_get h]
    rcases Nat.lt_or_ge x 8 with h8 | h8
    · rw [List.getElem?_append_left (by omega), ccells_get (by omega)]
    · rw [List.getElem?_append_right (by omega), l2, ccells_get (by omega)]
      unfold ccf rcs
      have e1 : (x - 8) % 4 = x % 4 := by omega
      have e2 : (x - 8) / 4 = x / 4 - 2 := by omega
      have e3 : ¬ x / 4 = 0 := by omega
      have e4 : ¬ x / 4 = 1 := by omega
      rw [e1, e2]
      simp only [e3, e4, if_false]
  · rw [List.getElem?_eq_none (by simp [ccells]; omega), List.getElem?_eq_none (by rw [List.length_append, l2]; simp [ccells]; omega)]
/-- The calls that are handed in. -/
def CArg (w : World) (ca : Option Addr) (cn : Nat) (rc : Nat → RC) : Prop := ∀ i, i < cn → ∃ cb co, ca = some ⟨cb, co, none⟩ ∧ (rc i).Ok ∧ w.cell? ⟨cb, co + i * 4, none⟩ = some (.int .u8 (rc i).th) ∧ w.cell? ⟨cb, co + i * 4 + 1, none⟩ = some (.bool (rc i).rd) ∧ w.cell? ⟨cb, co + i * 4 + 2, none⟩ = some (.int .u8 (rc i).od) ∧ w.cell? ⟨cb, co + i * 4 + 3, none⟩ = some (.int .u8 (rc i).nw)
theorem CArg.below {w w' : World} {B cn : Nat} {ca : Option Addr} {rc : Nat → RC} (h : CArg w ca cn rc) (hb : Below B w w') (hB : w.heap.size ≤ B) : CArg w' ca cn rc := fun i hi => by
  obtain ⟨cb, co, e, ho, h0, h1, h2, h3⟩ := h i hi
  have hl : cb < B := Nat.lt_of_lt_of_le (World.block_lt_of_cell? _ _ h0) hB
  exact ⟨cb, co, e, ho, (hb.cell (p := ⟨cb, _, none⟩) hl).trans h0, (hb.cell (p := ⟨cb, _, none⟩) hl).trans h1, (hb.cell (p := ⟨cb, _, none⟩) hl).trans h2, (hb.cell (p := ⟨cb, _, none⟩) hl).trans h3⟩
/-- The slice of all calls. -/
def ClCut (w3 : World) (rc : Nat → RC) (v : Value) (wc : World) : Prop := ∃ k kb kc, k ≤ 6 ∧ v = .slice (some ⟨kb, 0, none⟩) (2 + k) kc ∧ Row wc kb 37 (4 * (2 + k)) (ccf (rcs rc)) ∧ 2 + k ≤ kc ∧ kc ≤ maxLen ∧ Below w3.heap.size w3 wc ∧ w3.heap.size ≤ kb
theorem rcs_ok {rc : Nat → RC} (h : ∀ i, (rc i).Ok) : ∀ i, (rcs rc i).Ok := fun i => by
  unfold rcs
  split
  · exact ⟨by decide, by decide, by decide⟩
  · split
    · exact ⟨by decide, by decide, by decide⟩
    · exact h _
/-- The picks that are handed in. -/
def PArg (w : World) (pa : Option Addr) (zs : List Nat) : Prop := ∀ (j z : Nat), zs[j]? = some z → z < 256 ∧ ∃ b o, pa = some ⟨b, o, none⟩ ∧ w.cell? ⟨b, o + j, none⟩ = some (.int .u8 z)

/-- The slice of all calls. -/
theorem calls_append {w : World} {ca : Option Addr} {cn k cc g0 : Nat} {rc : Nat → RC} (hc : CArg w ca cn rc) (hk : k ≤ cn) (hk6 : k ≤ 6) (hcc : k ≤ cc) (hg : w.heap[g0]? = some (.cells #[.int .u8 0, .bool false, .int .u8 0, .int .u8 2, .int .u8 0, .bool true, .int .u8 0, .int .u8 0] 37 (0, 0))) :
    ∃ g cap w', (∀ ty, (Builtin.append_ #[22, 22] ty #[.slice (some ⟨g0, 0, none⟩) 2 2, .slice ca k cc]).run Tryz.prog w = .ok (.slice (some ⟨g, 0, none⟩) (2 + k) cap) w') ∧ Row w' g 37 (4 * (2 + k)) (ccf (rcs rc)) ∧ 2 + k ≤ cap ∧ cap ≤ maxLen ∧ w.grownBy w' (some g0) ∧ (g = g0 ∨ w.heap.size ≤ g) := by
  have hown : w.ownsRow g0 37 4 (.slice (some ⟨g0, 0, none⟩) 2 2) 2 (ccells (rcs rc) 2) := ⟨by simp [ccells], .inr ⟨g0, 2, _, rfl, Nat.le_refl _, hg, Nat.le_refl _, by unfold maxLen; omega, rfl, rfl⟩⟩
  rcases Nat.eq_zero_or_pos k with h0 | h0
  · subst h0
    obtain ⟨i, z, hi, hz, hsz, hby, hzs⟩ := elCC.ex
    have hsrc : Src Tryz.prog i.size 22 (.slice ca 0 cc) 0 [] w := by
      cases ca with
      | none => exact Src.ofNil w elCC.ht cc
      | some a => exact Src.ofSlice w elCC.ht a 0 cc [] (by simp) (fun j u hj => by simp at hj) (fun u hu => by cases hu)
    exact ⟨g0, 2, w, fun ty => run_append_nothing (P := Tryz.prog) w _ _ ty _ i elCC.ht hi _ 2 2 (by omega) _ hsrc, (row_of_own hown).1, by omega, by unfold maxLen; omega, ⟨rfl, rfl, rfl, Nat.le_refl _, fun _ _ _ => rfl⟩, .inl rfl⟩
  · obtain ⟨cb, co, hca, _⟩ := hc 0 (by omega)
    subst hca
    obtain ⟨g, cap, w', hrun, how, hgr, hgg⟩ := append_own2 elCC hown ⟨cb, co, none⟩ k cc (ccells rc k) (by simp [ccells]; omega) (fun j u hj => by
      have hj4 : j < 4 * k := by have := (List.getElem?_eq_some_iff.1 hj).1; simpa [ccells] using this
      rw [ccells_get hj4] at hj
      obtain ⟨cb', co', e, _, h0', h1', h2', h3'⟩ := hc (j / 4) (by omega)
      cases e
      have hu : ccf rc j = u := Option.some.inj hj
      rw [← hu]
      unfold ccf
      have hm : j % 4 < 4 := Nat.mod_lt _ (by omega)
      have hj2 : j % 4 = 0 ∨ j % 4 = 1 ∨ j % 4 = 2 ∨ j % 4 = 3 := by omega
      rw [Addr.add_lit]
      rcases hj2 with q | q | q | q
      · rw [if_pos q, ← h0', show co + j = co + j / 4 * 4 by omega]
      · rw [if_neg (by omega), if_pos q, ← h1', show co + j = co + j / 4 * 4 + 1 by omega]
      · rw [if_neg (by omega), if_neg (by omega), if_pos q, ← h2', show co + j = co + j / 4 * 4 + 2 by omega]
      · rw [if_neg (by omega), if_neg (by omega), if_neg (by omega), ← h3', show co + j = co + j / 4 * 4 + 3 by omega]) (fun u hu => by
      obtain ⟨x, _, rfl⟩ := List.mem_map.1 hu
      exact ccf_one rc x) h0 (by unfold maxLen; omega) (by omega) (Nat.le_of_lt (heap_lt hg))
    rw [← ccells_rcs] at how
    obtain ⟨h1, h2, h3, _⟩ := row_of_own how
    refine ⟨g, cap, w', hrun, h1, h2, h3, hgr, ?_⟩
    rcases hgg with h | h
    · exact .inl (by have : some g0 = some g := h; cases this; rfl)
    · exact .inr h

def cs0 (A : DAd) (B : MAd) (F G : Nat → Option Role) (rc : Nat → RC) : CS := ⟨A, B, 0, ms0 setF, F, G, rcs rc, [], 0, fun _ => .idle, fun _ => 0, .slice none 0 0⟩
theorem cw_start {T : Nat → Nat} {A : DAd} {B : MAd} {F G : Nat → Option Role} {rc : Nat → RC} {W0 w3 wc : World} {k kb kc : Nat} (hmw : MW w3 A B 96 0 (ms0 setF) F G) (hnb : B.nb = 24) (hb3 : Below W0.heap.size W0 w3) (hlo : ∀ b, F b ≠ none ∨ G b ≠ none → W0.heap.size ≤ b) (hT : NTab W0 T)
    (hbc : Below w3.heap.size w3 wc) (hkb : w3.heap.size ≤ kb) (hrow : Row wc kb 37 (4 * (2 + k)) (ccf (rcs rc))) (hkc : 2 + k ≤ kc ∧ kc ≤ maxLen) (hok : ∀ i, (rc i).Ok) (hk6 : k ≤ 6) :
    Cw (2 + k) T W0 wc.heap.size kb kc (cs0 A B F G rc) (wc.alloc (.cells #[.pointer (some ⟨A.d, 0, none⟩), .pointer (some ⟨B.p, 0, none⟩), .slice (some ⟨kb, 0, none⟩) (2 + k) kc, .int .i64 0, .nilIface, .nilIface, .nilIface, .int .i64 0, .int .i64 0, .int .i64 0, .slice none 0 0] 45)) := by
  have hba : Below wc.heap.size wc (wc.alloc (.cells #[.pointer (some ⟨A.d, 0, none⟩), .pointer (some ⟨B.p, 0, none⟩), .slice (some ⟨kb, 0, none⟩) (2 + k) kc, .int .i64 0, .nilIface, .nilIface, .nilIface, .int .i64 0, .int .i64 0, .int .i64 0, .slice none 0 0] 45)) := below_alloc (Below.refl _ _)
  have hb5 := hbc.trans (hba.mono hbc.size)
  have hmc := (hmw.below hbc).1
  have hm5 := (hmw.below hb5).1
  have hbW := hb3.trans (hb5.mono hb3.size)
  have fno : ∀ b, b < W0.heap.size → F b = none ∧ G b = none := fun b hb => by
    constructor
    · cases e : F b with
      | none => rfl
      | some q => have := hlo b (.inl (by rw [e]; simp)); omega
    · cases e : G b with
      | none => rfl
      | some q => have := hlo b (.inr (by rw [e]; simp)); omega
  refine ⟨{ row := row_of_cells (heap_alloc_new _ _) (fun x hx => ?_), calls := hrow.of_block (hba.block _ hrow.lt), evs := World.ownsRow_nil _ _ _ _, mw := hm5, tb := ⟨hT.below hbW (Nat.le_refl _), (fno _ hT.lt).1, (fno _ hT.lt).2⟩, rds := fun t r pl raw e => (by cases e), dist := fun t u r pl raw pl' raw' _ e => (by cases e), opn := fun t i e => (by cases e), nub := fun t => Nat.zero_le _, m8 := by omega, kcl := hkc, rok := rcs_ok hok, nb := hnb, fw := hmc.none2 (Nat.le_refl _), fk := hmw.none2 hkb, fe := fun b hb => (by cases hb), bel := hbW, lo := hlo, lo2 := ⟨Nat.le_trans hb3.size hbc.size, Nat.le_trans hb3.size hkb⟩, gl := hT.lt }, ⟨_, _, _, _, _, Lnk.start, fun t c e => (by cases e)⟩, Nat.zero_le _, Nat.zero_le _⟩
  rcases x11 hx with rfl | rfl | rfl | rfl | rfl | rfl | rfl | rfl | rfl | rfl | rfl <;> rfl

/-- The loop over the picks. -/
def PkRel (M : Nat) (T : Nat → Nat) (W0 : World) (wb kb kc len : Nat) (i : Value) (wl : World) : Prop := ∃ (k : Nat) (s : CS), k ≤ len ∧ i = .int .i64 (k : Nat) ∧ Cw M T W0 wb kb kc s wl ∧ crs s.ev ≤ k ∧ s.m.dev.ex ≤ 700 + k
/-- Behind the crash, if there was one. -/
def CrCut (M : Nat) (T : Nat → Nat) (W0 : World) (wb kb kc j : Nat) (wc : World) : Prop := ∃ s : CS, Cw M T W0 wb kb kc s wc ∧ crs s.ev ≤ j + 1 ∧ s.m.dev.ex ≤ 700 + j
/-- The events' block is where the others are not, and so on: the new device behind the crash. -/
def CaCut (M : Nat) (W0 : World) (wb kb kc : Nat) (s : CS) (wc : World) : Prop := ∃ A2 F2 m, s.m.dev.Cut m ∧ CrI M W0 wb kb (setf (cwf M kb kc s) 0 (ptr A2.d)) s.rc s.ev s.evv A2 (s.m.dev.after m) F2 wc
/-- Behind the event of the crash. -/
def CbCut (M : Nat) (W0 : World) (wb kb kc : Nat) (s : CS) (A2 : DAd) (d : DSt) (F2 : Nat → Option Role) (wc : World) : Prop := ∃ evv, CrI M W0 wb kb (setf (setf (cwf M kb kc s) 0 (ptr A2.d)) 10 evv) s.rc (s.ev ++ [.crash]) evv A2 d F2 wc
/-- No thread does anything. -/
def CcCut (M : Nat) (W0 : World) (wb kb kc : Nat) (s : CS) (A2 : DAd) (d : DSt) (F2 : Nat → Option Role) (evv : Value) (wc : World) : Prop := CrI M W0 wb kb (setf (setf (setf (setf (setf (cwf M kb kc s) 0 (ptr A2.d)) 10 evv) 4 .nilIface) 5 .nilIface) 6 .nilIface) s.rc (s.ev ++ [.crash]) evv A2 d F2 wc
/-- The loop over the threads. -/
def ThRel (M : Nat) (T : Nat → Nat) (W0 : World) (wb kb kc : Nat) (i : Value) (wl : World) : Prop := ∃ (t : Nat) (s : CS), t ≤ 3 ∧ i = .int .i64 (t : Nat) ∧ Cw M T W0 wb kb kc s wl ∧ s.m.dev.ex ≤ 1100 + 7000 * t ∧ ∀ u, u < t → Fin M s u
/-- The loop over a thread's steps. -/
def InRel (M : Nat) (T : Nat → Nat) (W0 : World) (wb kb kc t : Nat) (i : Value) (wl : World) : Prop := ∃ (n : Nat) (s : CS), i = .int .i64 (n : Nat) ∧ Cw M T W0 wb kb kc s wl ∧ n + mz M s t ≤ 7000 ∧ s.m.dev.ex + mz M s t ≤ 1100 + 7000 * t + 7000 ∧ ∀ u, u < t → Fin M s u
/-- Behind the condition of that loop. -/
def CdCut (M : Nat) (T : Nat → Nat) (W0 : World) (wb kb kc t n : Nat) (v : Value) (wc : World) : Prop :=
  ∃ s : CS, Cw M T W0 wb kb kc s wc ∧ n + mz M s t ≤ 7000 ∧ s.m.dev.ex + mz M s t ≤ 1100 + 7000 * t + 7000 ∧ (∀ u, u < t → Fin M s u) ∧ ((v = .bool true ∧ s.act t ≠ .idle) ∨ (v = .bool false ∧ Fin M s t))
/-- The picks that are taken. -/
def PkCut (W : World) (pa : Option Addr) (pc : Nat) (w5 : World) (v : Value) (wc : World) : Prop := wc = w5 ∧ ∃ ys : List Nat, v = .slice pa ys.length pc ∧ PArg W pa ys ∧ ys.length ≤ 400 ∧ ys.length ≤ pc

end Go.Proofs.YtejlgnebofdijaaGreatDoor.Dv
