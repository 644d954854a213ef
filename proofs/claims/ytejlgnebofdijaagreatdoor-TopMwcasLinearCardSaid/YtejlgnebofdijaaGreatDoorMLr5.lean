/-
  The package linear: run.
-/
import Derived.Test.YtejlgnebofdijaaGreatDoorMLrB
import Derived.Deep.CutBlock
namespace Go.Proofs.YtejlgnebofdijaaGreatDoor.Dv
open Go.RowKit
open Ln (Cl HC Hi ap Ended Since ins)
set_option linter.unusedVariables false

theorem SrSt.put2 {X : Nat} {cs : List HC} {cv : Value} {bb mb fb tb z ex K : Nat} {S : Nat × Nat → Prop} {ov : Value} {w w' : World} (h : SrSt X cs cv bb mb fb tb z ex K S ov w) {ex' : Nat} {S' : Nat × Nat → Prop} (hk : KMap w' mb ex' S') (hgr : w.grownBy w' (some mb)) : SrSt X cs cv bb mb fb tb z ex' K S' ov w' ∧ Frm fb mb ov w w' :=
  ⟨(h.put hk hgr).1, hgr.os, hgr.tape, hgr.output, hgr.size, fun b hb hn => hgr.block b hb (fun e => hn (.inr (.inl (by cases e; rfl))))⟩
theorem SrSt.order2 {X : Nat} {cs : List HC} {cv : Value} {bb mb fb tb z ex K : Nat} {S : Nat × Nat → Prop} {ov : Value} {w w' : World} (h : SrSt X cs cv bb mb fb tb z ex K S ov w) (hgr : w.grownBy w' ov.ownBlock) {ov' : Value} {K' : Nat} {ys : List Value} (ho : w'.ownsRow X 3 1 ov' K' ys) :
    SrSt X cs cv bb mb fb tb z ex K' S ov' (w'.setCell ⟨fb, 4, none⟩ ov') ∧ Frm fb mb ov w (w'.setCell ⟨fb, 4, none⟩ ov') := by
  refine ⟨(h.order hgr ho).1, Only.set ?_ (.inl rfl) _⟩
  exact ⟨hgr.os, hgr.tape, hgr.output, hgr.size, fun b hb hn => hgr.block b hb (fun e => hn (.inr (.inr e.symm)))⟩
/-- What a call of run leaves. -/
def RunPost (X : Nat) (cs : List HC) (cv : Value) (bb mb fb tb z : Nat) (u v ex K d : Nat) (S : Nat × Nat → Prop) (ov : Value) (w : World) (e : Ending) (w' : World) : Prop :=
  Frm fb mb ov w w' ∧ ∃ ex' K' S' ov', SrSt X cs cv bb mb fb tb z ex' K' S' ov' w' ∧ Hier ov ov' w ∧
    (e = .returned (.bool true) ∨ (e = .returned (.bool false) ∧ ¬ Ln.Can cs z u v ∧ Since cs z S S' ∧ K' = K ∧ ex' ≤ ex + cost d))
theorem RunPost.split {X : Nat} {cs : List HC} {cv : Value} {bb mb fb tb z : Nat} {u v ex K d : Nat} {S : Nat × Nat → Prop} {ov : Value} {w : World} {e : Ending} {w' : World} (h : RunPost X cs cv bb mb fb tb z u v ex K d S ov w e w') :
    ∃ bv : Bool, e = .returned (.bool bv) ∧ Frm fb mb ov w w' ∧ ∃ ex' K' S' ov', SrSt X cs cv bb mb fb tb z ex' K' S' ov' w' ∧ Hier ov ov' w ∧ (bv = false → ¬ Ln.Can cs z u v ∧ Since cs z S S' ∧ K' = K ∧ ex' ≤ ex + cost d) := by
  obtain ⟨h1, ex', K', S', ov', h2, h3, h4⟩ := h
  rcases h4 with rfl | ⟨rfl, h5⟩
  · exact ⟨true, rfl, h1, _, _, _, _, h2, h3, fun q => by cases q⟩
  · exact ⟨false, rfl, h1, _, _, _, _, h2, h3, fun _ => h5⟩
/-- run, where d calls are outside of the set. -/
def RunOk (X : Nat) (cs : List HC) (cv : Value) (bb mb fb tb z d : Nat) : Prop :=
  ∀ (w : World) (u v ex K : Nat) (S : Nat × Nat → Prop) (ov : Value), SrSt X cs cv bb mb fb tb z ex K S ov w → u < 2 ^ cs.length → v < 3 → spare u cs.length = d → Ln.Seen cs z S u → ex + cost d ≤ 500000000000 → K + d ≤ 100 →
    Calls Tryz.prog 41 #[ptr fb, stv v, .int .u64 u] w (RunPost X cs cv bb mb fb tb z u v ex K d S ov w)

def KyCut (W : World) (u v : Nat) (kv : Value) (wc : World) : Prop := kv = .string (keyB u v) ∧ Below W.heap.size W wc
def FdCut (W : World) (b : Bool) (bv : Value) (wc : World) : Prop := bv = .bool b ∧ Below W.heap.size W wc

def cst : Nat → Nat
  | 0 => 0
  | d + 1 => cost d
theorem cost_cst (d : Nat) : cost d = 1 + 10 * cst d := by cases d <;> rfl
/-- The loop over the calls. -/
structure LpSt (X : Nat) (cs : List HC) (cv : Value) (bb mb fb tb z : Nat) (u v ex K d : Nat) (S : Nat × Nat → Prop) (ov : Value) (w0 : World) (sb k : Nat) (w : World) (ex' : Nat) (S' : Nat × Nat → Prop) (ov' : Value) : Prop where
  kle : k ≤ cs.length
  st : StAt w sb v
  sbl : w0.heap.size ≤ sb
  frm : Frm fb mb ov w0 w
  hier : Hier ov ov' w0
  no : ∀ n, n < k → ¬ Ln.Next cs z u v n
  sr : SrSt X cs cv bb mb fb tb z ex' K S' ov' w
  sin : Since cs z (ins S u v) S'
  exl : ex' ≤ ex + 1 + k * cst d
def LpRel (X : Nat) (cs : List HC) (cv : Value) (bb mb fb tb z : Nat) (u v ex K d : Nat) (S : Nat × Nat → Prop) (ov : Value) (w0 : World) (sb : Nat) (i : Value) (wl : World) : Prop :=
  ∃ k ex' S' ov', i = .int .i64 (k : Nat) ∧ LpSt X cs cv bb mb fb tb z u v ex K d S ov w0 sb k wl ex' S' ov'
theorem LpSt.below {X : Nat} {cs : List HC} {cv : Value} {bb mb fb tb z : Nat} {u v ex K d : Nat} {S : Nat × Nat → Prop} {ov : Value} {w0 : World} {sb k : Nat} {w w' : World} {ex' : Nat} {S' : Nat × Nat → Prop} {ov' : Value}
    (h : LpSt X cs cv bb mb fb tb z u v ex K d S ov w0 sb k w ex' S' ov') (hb : Below w.heap.size w w') : LpSt X cs cv bb mb fb tb z u v ex K d S ov w0 sb k w' ex' S' ov' :=
  { h with st := h.st.below hb, frm := h.frm.trans (Frm.of_below (ov := ov) hb) (Hier.refl _ _), sr := h.sr.below hb }
theorem LpSt.skip {X : Nat} {cs : List HC} {cv : Value} {bb mb fb tb z : Nat} {u v ex K d : Nat} {S : Nat × Nat → Prop} {ov : Value} {w0 : World} {sb k : Nat} {w : World} {ex' : Nat} {S' : Nat × Nat → Prop} {ov' : Value}
    (h : LpSt X cs cv bb mb fb tb z u v ex K d S ov w0 sb k w ex' S' ov') (hk : k < cs.length) (hn : ¬ Ln.Next cs z u v k) : LpSt X cs cv bb mb fb tb z u v ex K d S ov w0 sb (k + 1) w ex' S' ov' :=
  { h with kle := hk, no := fun n hn2 => (by
      rcases Nat.lt_succ_iff_lt_or_eq.1 hn2 with h1 | h1
      · exact h.no n h1
      · rw [h1]; exact hn), exl := by have := h.exl; rw [Nat.add_mul]; omega }
theorem callChk (args : Array Value) (w : World) : (callFunc 38 args).run Tryz.prog w = .ok (.enter 38 args) w := by kernel_rfl
set_option maxHeartbeats 8000000 in
set_option maxRecDepth 100000 in
theorem run_step {X : Nat} {cs : List HC} {cv : Value} {bb mb fb tb z d : Nat} (hn : cs.length ≤ 10) (hlt3 : ∀ (k : Nat) (x : HC), cs[k]? = some x → x.c.new < 3) (ih : ∀ d', d' < d → RunOk X cs cv bb mb fb tb z d') : RunOk X cs cv bb mb fb tb z d := by
  intro w0 u v ex K S ov h hu hv hd hseen hex hK
  have hu10 : u < 1024 := Nat.lt_of_lt_of_le hu (Nat.pow_le_pow_right (j := 10) (by omega) hn)
  have hb0 : Below w0.heap.size w0 (w0.alloc (.cells #[.int .u8 1, .int .u64 v, .slice none 0 0, .slice none 0 0] 120)) := below_alloc (Below.refl _ _)
  have hs0 : StAt (w0.alloc (.cells #[.int .u8 1, .int .u64 v, .slice none 0 0, .slice none 0 0] 120)) w0.heap.size v := heap_alloc_new _ _
  obtain ⟨w, hw⟩ : ∃ w, w = w0.alloc (.cells #[.int .u8 1, .int .u64 v, .slice none 0 0, .slice none 0 0] 120) := ⟨_, rfl⟩
  rw [← hw] at hb0 hs0
  have h1 := h.below hb0
  obtain ⟨ds, hds⟩ : ∃ ds : ByteArray, ds = ⟨(Lib.decDigits u).toArray⟩ := ⟨_, rfl⟩
  obtain ⟨ts, hts⟩ : ∃ ts : ByteArray, ts = ⟨(txt v).toArray⟩ := ⟨_, rfl⟩
  have hkey : ds ++ ⟨#[58]⟩ ++ ts = keyB u v := by
    rw [hds, hts]
    apply ByteArray.ext
    unfold keyB key
    simp
  have hdl : ds.size ≤ 100 := by
    have h1 := key_len (u := u) (v := v) (by omega)
    unfold key at h1
    rw [List.length_append] at h1
    rw [hds]
    simp [ByteArray.size]
    omega
  have htl : ts.size ≤ 100 := by rw [hts]; simp [ByteArray.size, txt]
  have HFM := Lib.hid (fun (W : World) (hb : Below w.heap.size w W) => show Calls Tryz.prog 72 #[.int .u64 u, .int .i64 10] W (fun e w' => e = .returned (.string ds) ∧ Below w.heap.size w w') from by
    rw [hds]; exact (fmt_any (w := W) (u := u) (by omega) (h1.tab.below hb (Nat.le_refl _))).mono (fun e w' h => ⟨h.1, hb.trans (h.2.mono hb.size)⟩))
  have HCO := Lib.hid (fun (W : World) (hb : Below w.heap.size w W) => (contents_any W v).mono (fun e w' (h : ∃ g, e = .returned (.slice (some ⟨g, 0, none⟩) 1 1) ∧ w'.heap[g]? = some (.cells #[.int .u64 0, .int .u64 v] 66 (0, 0)) ∧ W.heap.size ≤ g ∧ Below W.heap.size W w') => show ∃ g, e = .returned (.slice (some ⟨g, 0, none⟩) 1 1) ∧ w'.heap[g]? = some (.cells #[.int .u64 0, .int .u64 v] 66 (0, 0)) ∧ Below w.heap.size w w' ∧ Hid (Below W.heap.size W w') from by
    obtain ⟨g, a, b, c, d⟩ := h
    exact ⟨g, a, b, hb.trans (d.mono hb.size), Lib.hid d⟩))
  have HST := Lib.hid (fun (W : World) (hb : Below w.heap.size w W) => (hs0.below hb).cells)
  have HTX := Lib.hid (fun (W : World) (g : Nat) (hg : W.heap[g]? = some (.cells #[.int .u64 0, .int .u64 v] 66 (0, 0))) (hb : Below w.heap.size w W) => show Calls Tryz.prog 73 #[.slice (some ⟨g, 0, none⟩) 1 1] W (fun e w' => e = .returned (.string ts) ∧ Below w.heap.size w w') from by
    rw [hts]; exact (text_any hv hg).mono (fun e w' h => ⟨h.1, hb.trans (h.2.mono hb.size)⟩))
  have HKEY := Lib.hid hkey
  have HX0 := Lib.hid h.x.2.2
  have H1 := Lib.hid h1; have HW := Lib.hid hw; have HB0 := Lib.hid hb0
  obtain ⟨s0, s1, s2, s3⟩ := hs0.cells
  have HS0 := Lib.hid hs0; have HSEEN := Lib.hid hseen; have HD := Lib.hid hd; have HIH := Lib.hid ih; have HL3 := Lib.hid hlt3; have HU := Lib.hid hu
  clear h h1 hw hb0 hs0 hseen hd ih hlt3 hu hkey hds hts
  unfold stv ptr at *
  go_enter Tryz.func41, Tryz.ntmps41
  go_upto_region 1 with fail
  rw [← HW.out]
  go_cut [7] (fun kv wc => KyCut w u v kv wc)
  case first =>
    go_region_with (first
      | (go_at_call 72; refine (HFM.out _ (by repeat (first | assumption | exact Below.refl _ _ | apply below_alloc | apply below_drew))).mono ?_; rintro e V1 ⟨rfl, hV1⟩; obtain ⟨p0, p1, p2, p3⟩ := HST.out V1 hV1)
      | (go_at_call 40; refine (HCO.out _ (by repeat (first | assumption | exact Below.refl _ _ | apply below_alloc | apply below_drew))).mono ?_; rintro e V2 ⟨g2, rfl, hg2, hV2, hq2⟩; obtain ⟨p0, p1, p2, p3⟩ := HST.out V2 hV2)
      | (go_at_call 73; refine (HTX.out _ _ (by assumption) (by repeat (first | assumption | exact Below.refl _ _ | apply below_alloc | apply below_drew))).mono ?_; rintro e V3 ⟨rfl, hV3⟩; obtain ⟨p0, p1, p2, p3⟩ := HST.out V3 hV3))
    all_goals
      go_wp2_with fail
      go_meet
      exact ⟨congrArg Value.string HKEY.out, by repeat (first | assumption | apply below_drew)⟩
  case rest =>
    obtain ⟨rfl, hb1⟩ := hcut
    have h2 := H1.out.below hb1
    have hbX : Frm fb mb ov w0 wc := Frm.of_below (HB0.out.trans (hb1.mono HB0.out.size))
    obtain ⟨q0, q1, q2, q3, q4, q5, q6⟩ := h2.cells
    obtain ⟨sb, hS, hlook⟩ := h2.km.look (u := u) (v := v) (by omega) hv
    have hstc := HS0.out.below hb1
    have H2 := Lib.hid h2; have HSC := Lib.hid hstc; have HBX := Lib.hid hbX
    clear hb1 hbX H1 HFM HCO HTX HST HS0 HKEY s0 s1 s2 s3 hstc
    cases sb with
    | true =>
      have GG := Lib.hid (show RunPost X cs cv bb mb fb tb z u v ex K d S ov w0 (.returned (.bool false)) wc from ⟨HBX.out, ex, K, S, ov, H2.out, Hier.refl _ _, .inr ⟨rfl, HSEEN.out.no (hS.1 rfl), Since.refl _ _ _, rfl, Nat.le_add_right _ _⟩⟩)
      clear h2 hS
      go_wp2_with fail
      go_returns
      exact GG.out
    | false =>
      obtain ⟨w2, hput, hkm, hgr⟩ := h2.km.put (u := u) (v := v) (by omega) hv (by omega)
      obtain ⟨h3, hb3⟩ := h2.put2 hkm hgr
      have hmt : w0.heap.size ≠ mb := fun e => by
        obtain ⟨D, ⟨es, clock, hh, _⟩, _⟩ := h2.km
        have h4 := HSC.out
        unfold StAt at h4
        rw [e, hh] at h4
        cases h4
      have hst3 : StAt w2 w0.heap.size v := (hgr.block _ (heap_lt HSC.out) (fun e => hmt (by cases e; rfl))).trans HSC.out
      have H3 := Lib.hid h3; have HS3 := Lib.hid hst3; have HB3 := Lib.hid (HBX.out.trans hb3 (Hier.refl _ _))
      clear h2 hS hkm hgr h3 hb3 hmt hst3 H2 HSC HBX
      go_upto_region 5 with fail
      clear q0 q1 q2 q3 q4 q5 q6 hlook hput
      obtain ⟨q0, q1, q2, q3, q4, q5, q6⟩ := H3.out.cells
      obtain ⟨s0, s1, s2, s3⟩ := HS3.out.cells
      have hcallC := callChk
      have HCK := Lib.hid (fun (W : World) (hb : Below w2.heap.size w2 W) => (chk1_any (v := v) (H3.out.fin.below hb)).mono (fun e w' h => show e = .returned (.bool (decide (v = z))) ∧ Below w2.heap.size w2 w' from ⟨h.1, hb.trans (h.2.mono hb.size)⟩))
      obtain ⟨en, hen⟩ : ∃ en, en = msk (enp cs) cs.length := ⟨_, rfl⟩
      have hen64 : en < 18446744073709551616 := by
        have h1 := msk_lt (enp cs) cs.length
        have h2 : (2 : Nat) ^ cs.length ≤ 2 ^ 10 := Nat.pow_le_pow_right (by omega) (by omega)
        omega
      have hand := u64_andNot_nat en u hen64 (by omega)
      have hei := ended_iff hn HU.out
      rw [← hen] at hei q2
      obtain ⟨an, han⟩ : ∃ an, an = en &&& (18446744073709551615 - u) := ⟨_, rfl⟩
      rw [← han] at hei hand
      obtain ⟨ai, hai⟩ : ∃ ai : Int, ai = ((an : Nat) : Int) := ⟨_, rfl⟩
      rw [← hai] at hand
      have hei2 : ai = 0 ↔ Ended cs u := by rw [← hei]; omega
      have HEI := Lib.hid hei2
      have HH3 := Lib.hid (Below.refl w2.heap.size w2)
      clear hen hen64 han hei hai hei2
      unfold stv ptr at HCK
      go_cut [44] (fun bv wc => ∃ b : Bool, FdCut w2 b bv wc ∧ (b = true ↔ Ended cs u ∧ v = z))
      case first =>
        by_cases hE : ai = 0
        · have d1 : (ai == 0) = true := by rw [beq_iff_eq]; exact hE
          have HE := Lib.hid (HEI.out.1 hE)
          clear hE
          go_region_with (first
            | (go_at_call 38; refine (HCK.out _ (by repeat (first | assumption | exact HH3.out | apply below_alloc | apply below_drew))).mono ?_; rintro e V1 ⟨rfl, hV1⟩))
          all_goals
            go_wp2_with fail
            go_meet
            exact ⟨_, ⟨rfl, by repeat (first | assumption | apply below_drew)⟩, by
              rw [decide_eq_true_eq]
              exact ⟨fun h => ⟨HE.out, h⟩, fun h => h.2⟩⟩
        · have d1 : (ai == 0) = false := beq_eq_false_iff_ne.2 hE
          have HE := Lib.hid (fun h => hE (HEI.out.2 h))
          clear hE
          go_quiet (fail)
          go_wp2_with fail
          go_meet
          exact ⟨false, ⟨rfl, by repeat (first | exact Below.refl _ _ | apply below_drewN)⟩, by
            constructor
            · intro h; cases h
            · intro h; exact absurd h.1 HE.out⟩
      case rest =>
        obtain ⟨b, ⟨rfl, hb4⟩, hbi⟩ := hcut
        have h4 := H3.out.below hb4
        have hs4 := HS3.out.below hb4
        have hf4 := HB3.out.trans (Frm.of_below (fb := fb) (mb := mb) (ov := ov) hb4) (Hier.refl _ _)
        have H4 := Lib.hid h4; have HS4 := Lib.hid hs4; have HF4 := Lib.hid hf4
        clear hs4 hf4 hb4 H3 HS3 HB3 HCK HEI HH3 q0 q1 q2 q3 q4 q5 q6 s0 s1 s2 s3 hcallC hand
        cases b with
        | true =>
          have GG := Lib.hid (show RunPost X cs cv bb mb fb tb z u v ex K d S ov w0 (.returned (.bool true)) wc from ⟨HF4.out, _, _, _, _, H4.out, Hier.refl _ _, .inl rfl⟩)
          clear h4 hbi
          go_wp2_with fail
          go_returns
          exact GG.out
        | false =>
          have HNE := Lib.hid (show ¬ (Ended cs u ∧ v = z) from fun h => by have := hbi.2 h; cases this)
          obtain ⟨ca, cc, rfl, hcc1, _⟩ := h4.cls
          have k0 : wc.cell? ⟨fb, 0, none⟩ = some (.slice ca cs.length cc) := h4.row.cell 0 (by omega)
          have HL0 := Lib.hid (show LpRel X cs (.slice ca cs.length cc) bb mb fb tb z u v ex K d S ov w0 w0.heap.size (.int .i64 (0 : Nat)) wc from
            ⟨0, _, _, _, rfl, ⟨Nat.zero_le _, HS4.out, Nat.le_refl _, HF4.out, Hier.refl _ _, fun n hn => absurd hn (by omega), H4.out, Since.refl _ _ _, by omega⟩⟩)
          have b1 : (cs.length : Int) ≤ 10 := by omega
          have b2 : (cs.length : Int) ≤ cc := by omega
          clear h4 hbi H4 HS4 HF4 hcc1
          go_wp2_with fail
          go_loopw [50] (fun i wl => LpRel X cs (.slice ca cs.length cc) bb mb fb tb z u v ex K d S ov w0 w0.heap.size i wl) (fun i _ => cs.length - (intOf i).toNat)
          case atStart => exact HL0.out
          case round =>
            obtain ⟨k, ex', S', ov', rfl, hlp⟩ := hrel
            clear HL0 k0
            have HLP := Lib.hid hlp
            by_cases hlt : k < cs.length
            · have hlt2 : (k : Int) < cs.length := by omega
              have hget : cs[k]? = some cs[k] := List.getElem?_eq_getElem hlt
              obtain ⟨x, hx⟩ : ∃ x, x = cs[k] := ⟨_, rfl⟩
              rw [← hx] at hget
              obtain ⟨_, _, e0, _, h3⟩ := hlp.sr.cls
              obtain ⟨g, rfl, hg, h4⟩ := h3 k x hget
              obtain ⟨q, a, b, r, ok, hf⟩ := clAt_of h4
              cases e0
              have hop := hf.op
              have hhc := hf.hc
              have c0 := hf.c0
              have c1 := hf.c1
              have c2 := hf.c2
              have c3 := hf.c3
              have c4 := hf.c4
              have c5 := hf.c5
              have c6 := hf.c6
              have c7 := hf.c7
              have c8 := hf.c8
              have c9 := hf.c9
              have c10 := hf.c10
              obtain ⟨zz, hz⟩ : ∃ zz, zz = enc x.e := ⟨_, rfl⟩
              rw [← hz] at c6
              have HGET := Lib.hid hget; have HZ := Lib.hid hz; have HOP := Lib.hid hop; have HHC := Lib.hid hhc
              have q1 : wr.cell? ⟨fb, 1, none⟩ = some (.slice (some ⟨bb, 0, none⟩) cs.length cs.length) := hlp.sr.row.cell 1 (by omega)
              obtain ⟨bm, hbm⟩ : ∃ bm, bm = bfm cs cs.length k := ⟨_, rfl⟩
              have kb : wr.cell? ⟨bb, k, none⟩ = some (.int .u64 bm) := by rw [hbm]; exact hlp.sr.bf.cell k hlt
              have hfl := World.block_lt_of_cell? _ _ q1
              have hbl := World.block_lt_of_cell? _ _ kb
              have hbi := before_iff (u := u) hget
              have hbm64 : bm < 18446744073709551616 := by
                rw [hbm]
                unfold bfm
                rw [hget]
                have h1 := msk_lt (bfp cs x) cs.length
                have h2 : (2 : Nat) ^ cs.length ≤ 2 ^ 10 := Nat.pow_le_pow_right (by omega) (by omega)
                show msk (bfp cs x) cs.length < _
                omega
              rw [← hbm] at hbi
              have hand := u64_and_nat bm u hbm64 (by omega)
              obtain ⟨ai, hai⟩ : ∃ ai : Int, ai = ((bm &&& u : Nat) : Int) := ⟨_, rfl⟩
              rw [← hai] at hand
              have HBI := Lib.hid (show ai = 0 ↔ ∀ b y, cs[b]? = some y → Ln.Bef x y → u.testBit b = false from by rw [← hbi, hai]; omega)
              have hsh := shr_bit (u := u) (k := k) (by omega)
              have HXX := Lib.hid (fun (W : World) (hb : Below wr.heap.size wr W) => HLP.out.below hb)
              clear hf h3 h4 hget hx hlp hz hop hhc hbm hbi hbm64 hai
              cases hub : u.testBit k with
              | true =>
                have hsh1 : bits .and .u64 ((u : Int) / 2 ^ k) 1 = 1 := by rw [hsh, hub]; rfl
                have G := Lib.hid (fun (W : World) (hb : Below wr.heap.size wr W) => show LpRel X cs (.slice (some ⟨g, 0, none⟩) cs.length cc) bb mb fb tb z u v ex K d S ov w0 w0.heap.size (.int .i64 ((k + 1 : Nat) : Int)) W from
                  ⟨k + 1, _, _, _, rfl, (HXX.out W hb).skip hlt (fun ⟨_, _, h2, _⟩ => by rw [hub] at h2; cases h2)⟩)
                clear hsh hub HXX
                go_wp2_with fail
                go_roundw
                case rel => exact G.out _ (by repeat (first | exact Below.refl _ _ | apply below_alloc | apply below_drew))
                case measure => simp [intOf]; omega
              | false =>
                have hsh1 : bits .and .u64 ((u : Int) / 2 ^ k) 1 = 0 := by rw [hsh, hub]; rfl
                have HUB := Lib.hid hub
                clear hsh hub
                by_cases ha0 : ai = 0
                · have d1 : (ai != 0) = false := by rw [ha0]; rfl
                  have d2 : (ai == 0) = true := by rw [ha0]; rfl
                  have HBEF := Lib.hid (HBI.out.1 ha0)
                  clear ha0 HBI
                  obtain ⟨r1, ok1, cd, hra, hcd⟩ := rap_form x.c v
                  obtain ⟨ap1, hap1⟩ : ∃ p, p = (ap x.c v).1 := ⟨_, rfl⟩
                  have HA := Lib.hid (fun (W : World) => show Calls Tryz.prog 74 #[.agg #[.int .u8 1, .int .u64 v, .slice none 0 0, .slice none 0 0], .agg #[.int .u8 q, .int .u64 0, .int .u64 a, .int .u64 b]] W (fun e w' => e = .returned (.tuple #[.agg #[.int .u8 1, .int .u64 ap1, .slice none 0 0, .slice none 0 0], .agg #[.int .u64 r1, .bool ok1, .int .i64 cd]]) ∧ Below W.heap.size W w') from by
                    have := spapply_any W x.c v
                    rw [HOP.out] at this
                    refine this.mono ?_
                    rintro e w' ⟨rfl, hb⟩
                    exact ⟨by rw [hra, ← hap1]; rfl, hb⟩)
                  have HRA := Lib.hid hra; have HAP := Lib.hid hap1
                  clear hra hap1
                  obtain ⟨s0, s1, s2, s3⟩ := HLP.out.st.cells
                  have hsl := heap_lt HLP.out.st
                  go_wp2_with fail
                  refine (HA.out _).mono ?_
                  rintro e w4 ⟨rfl, hb4⟩
                  have hcb : w4.heap[wr.heap.size]? = some (.cells #[.int .i64 x.c.t, .int .u8 q, .int .u64 0, .int .u64 a, .int .u64 b, .int .i64 x.b, .int .i64 zz, .int .i64 x.era, .int .u64 r, .bool ok, .int .i64 0] 168 (0, 0)) := (hb4.block _ (by simp)).trans (heap_alloc_new _ _)
                  have hcl := heap_lt hcb
                  have x6 : w4.cell? ⟨wr.heap.size, 6, none⟩ = some (.int .i64 zz) := (cell_block hcb).trans rfl
                  have x8 : w4.cell? ⟨wr.heap.size, 8, none⟩ = some (.int .u64 r) := (cell_block hcb).trans rfl
                  have x9 : w4.cell? ⟨wr.heap.size, 9, none⟩ = some (.bool ok) := (cell_block hcb).trans rfl
                  have x10 : w4.cell? ⟨wr.heap.size, 10, none⟩ = some (.int .i64 0) := (cell_block hcb).trans rfl
                  have HB4 := Lib.hid (show Below wr.heap.size wr w4 from (below_alloc (Below.refl _ _)).trans (hb4.mono (by simp)))
                  clear hb4 hcb HA s0 s1 s2 s3 hsl c0 c1 c2 c3 c4 c5 c6 c7 c8 c9 c10 q1 kb hand hsh1 d1 d2
                  go_upto_region 12 with (fail)
                  obtain ⟨mis, hmis⟩ : ∃ mis : Bool, mis = misB x v := ⟨_, rfl⟩
                  have HMIS := Lib.hid hmis
                  clear hmis
                  go_cut [87] (fun bv W => bv = .bool mis ∧ ∃ c : Array Value, W = (w4.alloc (.cells #[.int .u8 1, .int .u64 ap1, .slice none 0 0, .slice none 0 0] 120)).alloc (.cells c 50))
                  case first =>
                    by_cases hz0 : 0 ≤ zz
                    · have hmc := misB_cells HRA.out HHC.out (by rw [← HZ.out]; exact hz0)
                      rw [← HMIS.out] at hmc
                      have G1 := Lib.hid (show (r1 = r ∧ ok1 = ok ∧ cd = 0) → false = mis from fun h => by
                        cases hm : mis with
                        | false => rfl
                        | true => exact absurd h (hmc.1 hm))
                      have G2 := Lib.hid (show ¬ (r1 = r ∧ ok1 = ok ∧ cd = 0) → true = mis from fun h => (hmc.2 h).symm)
                      have hz1 : decide (0 ≤ zz) = true := decide_eq_true hz0
                      clear hmc
                      go_wp2_with fail
                      all_goals go_meet
                      · exact ⟨congrArg Value.bool (G1.out ⟨by omega, by assumption, by omega⟩), _, rfl⟩
                      all_goals
                        exact ⟨congrArg Value.bool (G2.out (fun h => by first | omega | (obtain ⟨_, h2, _⟩ := h; contradiction))), _, rfl⟩
                    · have hm : false = mis := by
                        rw [HMIS.out]
                        unfold misB
                        have h1 := HZ.out
                        unfold enc at h1
                        cases hxe : x.e with
                        | none => rfl
                        | some p => rw [hxe] at h1; dsimp only at h1; omega
                      have HM := Lib.hid hm
                      have hz1 : decide (0 ≤ zz) = false := decide_eq_false hz0
                      clear hm
                      go_wp2_with fail
                      go_meet
                      exact ⟨congrArg Value.bool HM.out, _, rfl⟩
                  case rest =>
                    obtain ⟨rfl, c, hW⟩ := hcut
                    have hbc : Below wr.heap.size wr wc := by rw [hW]; exact below_alloc (below_alloc HB4.out)
                    have hlc := HLP.out.below hbc
                    have hsc : StAt wc w4.heap.size ap1 := by
                      rw [hW]
                      unfold StAt
                      rw [heap_alloc_lt (by simp)]
                      exact heap_alloc_new _ _
                    have HLC := Lib.hid hlc; have HSC := Lib.hid hsc; have HSZ := Lib.hid (show wr.heap.size ≤ w4.heap.size from HB4.out.size)
                    clear hlc hsc hbc hW HB4 HLP x6 x8 x9 x10 hcl hfl hbl HXX
                    cases mis with
                    | true =>
                      have G := Lib.hid (show LpRel X cs (.slice (some ⟨g, 0, none⟩) cs.length cc) bb mb fb tb z u v ex K d S ov w0 w0.heap.size (.int .i64 ((k + 1 : Nat) : Int)) wc from
                        ⟨k + 1, _, _, _, rfl, HLC.out.skip hlt (fun ⟨x', h1, _, _, h4, _⟩ => by
                          rw [HGET.out] at h1
                          cases h1
                          exact (misB_iff x v).1 HMIS.out.symm h4)⟩)
                      clear HLC
                      go_wp2_with fail
                      go_roundw
                      case rel => exact G.out
                      case measure => simp [intOf]; omega
                    | false =>
                      have hag : agree x v := Classical.byContradiction (fun h => by have := (misB_iff x v).2 h; rw [← HMIS.out] at this; cases this)
                      have HAG := Lib.hid hag
                      obtain ⟨xs, hxo⟩ := HLC.out.sr.own
                      obtain ⟨oa, oc, rfl⟩ := own_slice hxo
                      have q4 : wc.cell? ⟨fb, 4, none⟩ = some (.slice oa K oc) := HLC.out.sr.row.cell 4 (by omega)
                      have HXO := Lib.hid hxo
                      have b3 : (K : Int) ≤ 100 := by omega
                      have HCX := Lib.hid HLC.out.sr.x.2.2
                      clear hag hxo
                      go_wp2_with (at_builtin; refine wpList_own1 elInts rfl _ _ rfl HXO.out rfl rfl ?c1 rfl ?c2 ?c3 ?c4 ?c5 ?_)
                      case c1 => rfl
                      case c2 => rfl
                      case c3 => show K + 1 ≤ _; unfold maxLen; omega
                      case c4 => show (K + 1) * 8 ≤ _; omega
                      case c5 => exact HCX.out
                      intro g6 cap6 w6 hop6 hgr6 hg6
                      have f4 : w6.frozen? ⟨fb, 4, none⟩ = false := (HLC.out.sr.row.of_block (w' := w6) (hgr6.block _ HLC.out.sr.row.lt (Ne.symm (row_own_ne HLC.out.sr.row HXO.out (by decide))))).free 4
                      have l4 : w6.cell? ⟨fb, 4, none⟩ = some (.slice oa K oc) := (HLC.out.sr.row.of_block (w' := w6) (hgr6.block _ HLC.out.sr.row.lt (Ne.symm (row_own_ne HLC.out.sr.row HXO.out (by decide))))).cell 4 (by omega)
                      obtain ⟨h7, hf7⟩ := HLC.out.sr.order2 hgr6 hop6
                      have hh7 : Hier (.slice oa K oc) (.slice (some ⟨g6, 0, none⟩) (K + 1) cap6) wc := fun g hg => by
                        have : some g6 = some g := hg
                        cases this
                        exact hg6
                      have hs7 := HSC.out.frm HLC.out.sr hf7
                      have H7 := Lib.hid h7; have HF7 := Lib.hid hf7; have HH7 := Lib.hid hh7; have HS7 := Lib.hid hs7
                      clear hop6 hgr6 hg6 h7 hf7 hh7 hs7 q4
                      go_upto_region 14 with (fail)
                      obtain ⟨w7, hw7⟩ : ∃ w7, w7 = w6.setCell ⟨fb, 4, none⟩ (.slice (some ⟨g6, 0, none⟩) (K + 1) cap6) := ⟨_, rfl⟩
                      rw [← hw7] at H7 HF7 HS7 ⊢
                      clear hw7 l4 f4
                      obtain ⟨p0, p1, p2, p3⟩ := HS7.out.cells
                      obtain ⟨u', hu'⟩ : ∃ u', u' = u ||| 1 <<< k := ⟨_, rfl⟩
                      have eor := or_bit (x := u) (k := k) (by omega) (by omega)
                      rw [← hu'] at eor
                      have hsp := spare_or HUB.out cs.length
                      rw [if_pos hlt, HD.out, ← hu'] at hsp
                      have hv' : ap1 < 3 := by
                        rw [HAP.out]
                        unfold ap
                        split
                        · exact hv
                        · split
                          · exact HL3.out k x HGET.out
                          · exact hv
                      have hcc : cst d = cost (spare u' cs.length) := by rw [← hsp]; rfl
                      have hexl := HLC.out.exl
                      have hkc : k * cst d ≤ 9 * cst d := Nat.mul_le_mul_right _ (by omega)
                      have hcd := cost_cst d
                      have HR := Lib.hid (fun (W : World) (hb : Below w7.heap.size w7 W) => HIH.out (spare u' cs.length) (by omega) W u' ap1 ex' (K + 1) S' _ (H7.out.below hb) (by rw [hu']; exact Ln.or_lt HU.out hlt) hv' rfl (by rw [hu']; exact HSEEN.out.child HLC.out.sin HUB.out) (by omega) (by omega))
                      have HEX := Lib.hid (show ∀ e8, e8 ≤ ex' + cost (spare u' cs.length) → e8 ≤ ex + 1 + (k + 1) * cst d from fun e8 h => by rw [Nat.add_mul]; omega)
                      have HU' := Lib.hid hu'
                      clear hu' hsp hv' hcc hexl hkc hcd
                      unfold stv ptr at HR
                      go_region_with ((go_at_call 41; refine (HR.out _ (by repeat (first | exact Below.refl _ _ | apply below_drew))).mono ?_; intro e w8 hpost; obtain ⟨bv, rfl, hf8, ex8, K8, S8, ov8, h8, hh8, hn8⟩ := hpost.split; have HF8 := Lib.hid hf8; have H8 := Lib.hid h8; have HH8 := Lib.hid hh8; have HN8 := Lib.hid hn8; clear hpost hf8 h8 hh8 hn8))
                      have hf78 : Frm fb mb (.slice (some ⟨g6, 0, none⟩) (K + 1) cap6) w7 w8 := (Frm.of_below (Below.refl _ w7).drew).trans HF8.out (Hier.refl _ _)
                      have hfA : Frm fb mb ov w0 w8 := HLC.out.frm.trans (HF7.out.trans hf78 HH7.out) HLC.out.hier
                      have hhA : Hier ov ov8 w0 := HLC.out.hier.trans (HH7.out.trans HH8.out HF7.out.size) HLC.out.frm.size
                      have hst8 : StAt w8 w0.heap.size v := ((HLC.out.st.frm HLC.out.sr HF7.out).below (Below.refl _ w7).drew).frm (H7.out.below (Below.refl _ w7).drew) HF8.out
                      have HFA := Lib.hid hfA; have HHA := Lib.hid hhA; have HST8 := Lib.hid hst8
                      clear hf78 hfA hhA hst8 HF7 HH7 HS7 HF8 HH8 HR H7 p0 p1 p2 p3 eor
                      cases bv with
                      | true =>
                        have GG := Lib.hid (show RunPost X cs (.slice (some ⟨g, 0, none⟩) cs.length cc) bb mb fb tb z u v ex K d S ov w0 (.returned (.bool true)) w8 from ⟨HFA.out, _, _, _, _, H8.out, HHA.out, .inl rfl⟩)
                        clear HLC
                        go_wp2_with fail
                        go_returns
                        exact GG.out
                      | false =>
                        obtain ⟨hnc, hsin8, rfl, hex8⟩ := HN8.out rfl
                        obtain ⟨ys, hy⟩ := H8.out.own
                        obtain ⟨g8, oc8, rfl, hoc8⟩ : ∃ g8 oc8, ov8 = .slice (some ⟨g8, 0, none⟩) (K + 1) oc8 ∧ K + 1 ≤ oc8 := by
                          rcases hy.2 with ⟨_, e⟩ | ⟨g8, oc8, cur, e, _, _, hc8, _⟩
                          · omega
                          · exact ⟨g8, oc8, e, hc8⟩
                        have q4 : w8.cell? ⟨fb, 4, none⟩ = some (.slice (some ⟨g8, 0, none⟩) (K + 1) oc8) := H8.out.row.cell 4 (by omega)
                        have f4 := H8.out.row.free 4
                        have hoc9 : (K : Int) + 1 ≤ oc8 := by omega
                        have hno : ¬ Ln.Next cs z u v k := fun ⟨x', h1, _, _, _, h5⟩ => by
                          rw [HGET.out] at h1
                          cases h1
                          rw [← HU'.out, ← HAP.out] at h5
                          exact hnc h5
                        have G := Lib.hid (fun (W : World) (hb : Below w8.heap.size w8 W) (W2 : World) (hb2 : Below (W.setCell ⟨fb, 4, none⟩ (.slice (some ⟨g8, 0, none⟩) K oc8)).heap.size (W.setCell ⟨fb, 4, none⟩ (.slice (some ⟨g8, 0, none⟩) K oc8)) W2) =>
                          show LpRel X cs (.slice (some ⟨g, 0, none⟩) cs.length cc) bb mb fb tb z u v ex K d S ov w0 w0.heap.size (.int .i64 ((k + 1 : Nat) : Int)) W2 from by
                            have h8W := H8.out.below hb
                            have hyW := own_agree hy (fun b hb3 => hb.block b (hy.lt b hb3).2)
                            have hgr0 : W.grownBy W (Value.slice (some ⟨g8, 0, none⟩) (K + 1) oc8).ownBlock := ⟨rfl, rfl, rfl, Nat.le_refl _, fun _ _ _ => rfl⟩
                            obtain ⟨h9, hf9⟩ := h8W.order2 hgr0 (own_pop hyW)
                            have hh9 : Hier (.slice (some ⟨g8, 0, none⟩) (K + 1) oc8) (.slice (some ⟨g8, 0, none⟩) K oc8) W := fun q hq => .inl hq
                            have hst9 := ((HST8.out.below hb).frm h8W hf9).below hb2
                            have hfr : Frm fb mb ov w0 W2 := ((HFA.out.trans (Frm.of_below (ov := .slice (some ⟨g8, 0, none⟩) (K + 1) oc8) hb) HHA.out).trans hf9 (HHA.out)).trans (Frm.of_below (ov := .slice (some ⟨g8, 0, none⟩) (K + 1) oc8) hb2) HHA.out
                            refine ⟨k + 1, ex8, S8, .slice (some ⟨g8, 0, none⟩) K oc8, rfl, { kle := hlt, st := hst9, sbl := Nat.le_refl _, frm := hfr, hier := fun q hq => HHA.out q hq, no := fun n hn2 => ?_, sr := h9.below hb2, sin := HLC.out.sin.trans hsin8, exl := HEX.out _ hex8 }⟩
                            rcases Nat.lt_succ_iff_lt_or_eq.1 hn2 with h1 | h1
                            · exact HLC.out.no n h1
                            · rw [h1]; exact hno)
                        clear hy hnc hsin8 hex8 hno hoc8 HLC H8 HN8 HFA HHA HST8
                        go_wp2_with fail
                        go_region
                        all_goals
                          go_wp2_with fail
                          go_roundw
                          case rel => exact G.out _ (by repeat (first | exact Below.refl _ _ | apply below_drewN | apply below_drew)) _ (by repeat (first | exact Below.refl _ _ | apply below_drewN | apply below_drew))
                          case measure => simp [intOf]; omega
                · have d1 : (ai != 0) = true := by simpa using ha0
                  have d2 : (ai == 0) = false := beq_eq_false_iff_ne.2 ha0
                  have G := Lib.hid (fun (W : World) (hb : Below wr.heap.size wr W) => show LpRel X cs (.slice (some ⟨g, 0, none⟩) cs.length cc) bb mb fb tb z u v ex K d S ov w0 w0.heap.size (.int .i64 ((k + 1 : Nat) : Int)) W from
                    ⟨k + 1, _, _, _, rfl, (HXX.out W hb).skip hlt (fun ⟨x', h1, _, h3, _⟩ => ha0 (HBI.out.2 (by rw [HGET.out] at h1; cases h1; exact h3)))⟩)
                  clear HXX HBI ha0
                  go_wp2_with fail
                  go_roundw
                  case rel => exact G.out _ (by repeat (first | exact Below.refl _ _ | apply below_alloc | apply below_drew))
                  case measure => simp [intOf]; omega
            · have hkk : k = cs.length := by have := hlp.kle; omega
              have HCL := Lib.hid (show ¬ Ln.Can cs z u v ∧ Since cs z S S' from hlp.sin.close HNE.out (by rw [← hkk]; exact hlp.no))
              have hexx : ex' ≤ ex + cost d := by
                have h1 := hlp.exl
                rw [hkk] at h1
                have h2 : cs.length * cst d ≤ 10 * cst d := Nat.mul_le_mul_right _ hn
                rw [cost_cst]
                omega
              have GG := Lib.hid (show RunPost X cs (.slice ca cs.length cc) bb mb fb tb z u v ex K d S ov w0 (.returned (.bool false)) wr from ⟨hlp.frm, _, _, _, _, hlp.sr, hlp.hier, .inr ⟨rfl, HCL.out.1, HCL.out.2, rfl, hexx⟩⟩)
              clear hlp HLP hexx
              go_wp2_with fail
              go_returns
              exact GG.out
end Go.Proofs.YtejlgnebofdijaaGreatDoor.Dv
