/-
  Store, Flush, Arm of the package device.
  apply, persist, Fence of the package device.
-/
import Derived.Test.YtjoipeojenfiiaaGreatDoorMDevW2
namespace Go.Proofs.YtjoipeojenfiiaaGreatDoor.Dv
open Go.RowKit

def DSt.store (s : DSt) (i off v : Nat) : DSt := if (s.cnt i (s.word off)).2 then (s.cnt i (s.word off)).1.write off v else (s.cnt i (s.word off)).1

theorem cnt_true {s : DSt} {i : Nat} {b : Bool} (h : (s.cnt i b).2 = true) : s.off = false ∧ b = true ∧ (s.cnt i b).1 = s.ctl false s.armed (if s.armed then s.left - 1 else s.left) (s.ex + 1) := by
  unfold DSt.cnt at *
  cases ho : s.off
  · rw [ho] at h
    cases b
    · simp at h
    · simp only [Bool.false_eq_true, if_false] at *
      by_cases hh : (s.armed && decide (s.left = 0)) = true
      · rw [if_pos hh] at h; simp at h
      · refine ⟨trivial, trivial, ?_⟩
        rw [if_neg (by simp), if_neg hh]
  · rw [ho] at h; simp at h

theorem store_dev {w : World} {A : DAd} {s : DSt} {F : Nat → Option Role} (h : Dev w A s F) {i : Nat} (hi : i < 8) {off v : Nat} (ho : off < 18446744073709551616) (hvv : v < 18446744073709551616) (hx : s.ex < 1000000) :
    Calls Tryz.prog 21 #[ptr (A.t i), u64 off, u64 v] w fun r w' => r = .returned (.tuple #[]) ∧ ∃ F', Dev w' A (s.store i off v) F' ∧ Moved F F' w w' := by
  have c0 : w.cell? ⟨A.t i, 0, none⟩ = some (.pointer (some ⟨A.d, 0, none⟩)) := (h.thr i hi).cell 0 (by omega)
  have HH := Lib.hid h.ok
  have HW := Lib.hid (word_dev h hi off ho)
  have HC := Lib.hid (counted_dev h hi (s.word off) hx)
  clear h
  unfold DSt.store
  cases hok : (s.cnt i (s.word off)).2
  · rw [hok] at HC
    simp only [ptr, u64]
    go_enter Tryz.func21, Tryz.ntmps21
    go_wp2_with fail
    refine HW.out.mono ?_
    rintro e w' ⟨rfl, rfl⟩
    go_wp2_with fail
    refine HC.out.mono ?_
    rintro e w' ⟨rfl, h1, h2⟩
    have H2 := Lib.hid h1; have H3 := Lib.hid h2; clear h1 h2
    go_wp2_with fail
    go_returns
    exact ⟨rfl, F, H2.out, H3.out⟩
  · rw [hok] at HC
    obtain ⟨q1, q2, q3⟩ := cnt_true hok
    have HQ := Lib.hid q2; have HQ3 := Lib.hid q3
    clear q1 q2 q3
    simp only [ptr, u64]
    go_enter Tryz.func21, Tryz.ntmps21
    go_wp2_with fail
    refine HW.out.mono ?_
    rintro e w' ⟨rfl, rfl⟩
    go_wp2_with fail
    refine HC.out.mono ?_
    rintro e w' ⟨rfl, h1, h2⟩
    have hs := write_dev h1 hi (off := off) (v := v) (by rw [HQ3.out]; exact HQ.out) hvv (by rw [HQ3.out]; have := HH.out.len (off / 64); unfold DSt.ctl; dsimp only; omega)
    have H2 := Lib.hid hs; have H3 := Lib.hid h2; clear h1 h2 hs
    go_wp2_with fail
    refine H2.out.mono ?_
    rintro e w'' ⟨rfl, F', h3, h4⟩
    have H4 := Lib.hid h3; have H5 := Lib.hid (H3.out.trans h4); clear h3 h4
    go_wp2_with fail
    go_returns
    exact ⟨rfl, F', H4.out, H5.out⟩
def DSt.setNote (s : DSt) (i : Nat) (f : Nat → Option Nat) (nb : Nat) : DSt := { s with notes := upd s.notes i f, nb := nb }
theorem Dev.setNote {w w' : World} {A : DAd} {s : DSt} {F : Nat → Option Role} (h : Dev w A s F) {i nb : Nat} {f : Nat → Option Nat} (hi : i < 8) (hg : w.grownBy w' (some (A.m i))) (hn : Notes w' (A.m i) nb f)
    (hf : ∀ n p, f n = some p → p ≤ (s.H n).length ∧ n < s.L) (hb : s.nb ≤ nb) (hb' : nb ≤ s.ex) : Dev w' A (s.setNote i f nb) F ∧ Moved F F w w' := by
  have hfm := h.fm i hi
  have keep : ∀ k q, F k = some q → q ≠ (5, i) → w'.heap[k]? = w.heap[k]? := fun k q hk hq => hg.block k (h.lt k (by rw [hk]; simp)) (fun e => hq (by rw [Option.some.inj e, hfm] at hk; exact (Option.some.inj hk).symm))
  have hnn : ∀ t n p, (s.setNote i f nb).notes t n = some p → p ≤ (s.H n).length ∧ n < s.L := by
    intro t n p hp
    unfold DSt.setNote upd at hp
    dsimp only at hp
    split at hp
    · exact hf n p hp
    · exact h.ok.note t n p hp
  have hok : (s.setNote i f nb).Ok := { h.ok with nb := hb', note := hnn }
  refine ⟨{ h with ok := hok, dev := ?_, per := ?_, cur := ?_, lin := ?_, thr := ?_, note := ?_, lt := ?_ }, ⟨hg.os, hg.tape, hg.output, hg.size, ?_⟩, fun _ _ => rfl⟩
  · exact h.dev.of_block (keep _ _ h.fd (by simp))
  · exact h.per.of_block (keep _ _ h.fper (by simp))
  · exact h.cur.of_block (keep _ _ h.fcur (by simp))
  · obtain ⟨hv, h1, h2⟩ := h.lin
    exact ⟨hv, h1.of_block (keep _ _ h.flin (by simp)), fun n hn => (h2 n hn).of_agree (fun k hk => keep _ _ hk (by simp))⟩
  · intro j hj
    exact (h.thr j hj).of_block (keep _ _ (h.ft j hj) (by simp))
  · intro j hj
    unfold DSt.setNote upd
    dsimp only
    by_cases e : j = i
    · subst e; rw [if_pos rfl]; exact hn
    · rw [if_neg e]
      exact ((h.note j hj).of_agree (keep _ _ (h.fm j hj) (by simp [e]))).mono hb
  · intro k hk; exact Nat.lt_of_lt_of_le (h.lt k hk) hg.size
  · intro k hk hf
    exact hg.block k hk (fun e => hf (by rw [Option.some.inj e, hfm]; simp))

theorem Notes.put {w' : World} {b ex : Nat} {f : Nat → Option Nat} {D : DataW Unit} {n p : Nat} (hD : (∀ k : Int, Maps.has D (.int .i64 k) = true → 0 ≤ k) ∧
    ∀ n : Nat, (Maps.has D (.int .i64 n) = (f n).isSome) ∧ ∀ p zd, f n = some p → D.atKey (.int .i64 n) zd = .lit (.int .u64 p)) (hm : Maps.IsMap D)
    (h : w'.ownsMap Tryz.prog 3 (plainElem Tryz.prog 31) b ex (D.put (.int .i64 n) (.lit (.int .u64 p)))) : Notes w' b ex (upd f n (some p)) := by
  refine ⟨_, h, ?_, ?_⟩
  · intro k hk
    by_cases e : k = (n : Int)
    · omega
    · rw [Maps.has_put_other (by simp [e])] at hk
      exact hD.1 k hk
  · intro m
    unfold upd
    by_cases e : m = n
    · subst e
      rw [if_pos rfl]
      refine ⟨by rw [Maps.has_put_same hm (show WideAt.IsKeyLit (Lit.int .i64 (m : Int)) from trivial)]; rfl, fun q zd hq => ?_⟩
      rw [Maps.atKey_put_same hm (show WideAt.IsKeyLit (Lit.int .i64 (m : Int)) from trivial), Option.some.inj hq]
    · rw [if_neg e]
      have hne : (Lit.int .i64 (m : Int)) ≠ Lit.int .i64 (n : Int) := by simp; omega
      refine ⟨by rw [Maps.has_put_other hne]; exact (hD.2 m).1, fun q zd hq => ?_⟩
      rw [Maps.atKey_put_other hne]
      exact (hD.2 m).2 q zd hq

theorem wf_i64 {z : Int} (h1 : -9223372036854775808 ≤ z) (h2 : z ≤ 9223372036854775807) : (Lit.int .i64 z).wf = true := by
  have e1 : IntKind.i64.min = -9223372036854775808 := by decide
  have e2 : IntKind.i64.max = 9223372036854775807 := by decide
  simp only [Lit.wf, e1, e2, Bool.and_eq_true, decide_eq_true_eq]
  exact ⟨h1, h2⟩
theorem wf_u64 {z : Int} (h1 : 0 ≤ z) (h2 : z ≤ 18446744073709551615) : (Lit.int .u64 z).wf = true := by
  have e1 : IntKind.u64.min = 0 := by decide
  have e2 : IntKind.u64.max = 18446744073709551615 := by decide
  simp only [Lit.wf, e1, e2, Bool.and_eq_true, decide_eq_true_eq]
  exact ⟨h1, h2⟩
theorem keyed_int : Maps.Keyed Tryz.prog 3 := Maps.int_keyed Tryz.underlying3
theorem ownsMap_isMap {w : World} {P : Program} {k : TypeId} {R : Value → Option (DataW Unit × List MemPlace)} {b n : Nat} {D : DataW Unit} (h : w.ownsMap P k R b n D) : Maps.IsMap D := by
  obtain ⟨es, clock, _, _, _, hD⟩ := h
  exact ⟨_, hD⟩

def DSt.flushed (s : DSt) (i off : Nat) : DSt := s.setNote i (upd (s.notes i) (off / 64) (some (s.H (off / 64)).length)) (s.nb + 1)
def DSt.flush (s : DSt) (i off : Nat) : DSt :=
  if (s.cnt i (decide (off < s.L * 64))).2 then (s.cnt i (decide (off < s.L * 64))).1.flushed i off else (s.cnt i (decide (off < s.L * 64))).1

set_option maxRecDepth 4000 in
theorem flush_dev {w : World} {A : DAd} {s : DSt} {F : Nat → Option Role} (h : Dev w A s F) {i : Nat} (hi : i < 8) {off : Nat} (ho : off < 18446744073709551616) (hx : s.ex < 1000000) :
    Calls Tryz.prog 22 #[ptr (A.t i), u64 off] w fun r w' => r = .returned (.tuple #[]) ∧ Dev w' A (s.flush i off) F ∧ Moved F F w w' := by
  have c0 : w.cell? ⟨A.t i, 0, none⟩ = some (.pointer (some ⟨A.d, 0, none⟩)) := (h.thr i hi).cell 0 (by omega)
  have HH := Lib.hid h.ok
  have hsz := size_dev h
  have d3 : decide ((off : Int) < ((s.L * 64 : Nat) : Int)) = decide (off < s.L * 64) := by apply decide_eq_decide.2; omega
  obtain ⟨M, hM⟩ : ∃ M : Int, M = ((s.L * 64 : Nat) : Int) := ⟨_, rfl⟩
  rw [← hM] at hsz d3
  have HS := Lib.hid hsz
  have HC := Lib.hid (counted_dev h hi (decide (off < s.L * 64)) hx)
  clear h hsz hM
  unfold DSt.flush
  obtain ⟨val, hval⟩ : ∃ val, val = decide (off < s.L * 64) := ⟨_, rfl⟩
  rw [← hval] at HC d3 ⊢
  have HV := Lib.hid hval; clear hval
  have ho2 : (off : Int) < 18446744073709551616 := by omega
  cases hok : (s.cnt i val).2
  · rw [hok] at HC
    simp only [ptr, u64]
    go_enter Tryz.func22, Tryz.ntmps22
    go_wp2_with fail
    refine HS.out.mono ?_
    rintro e w' ⟨rfl, rfl⟩
    go_wp2_with fail
    refine HC.out.mono ?_
    rintro e w' ⟨rfl, h1, h2⟩
    have H2 := Lib.hid h1; have H3 := Lib.hid h2; clear h1 h2 d3 hok
    go_wp2_with (refine bodyPost_ret (results_none rfl _ _ _) rfl ?_)
    exact ⟨H2.out, H3.out⟩
  · rw [hok] at HC
    obtain ⟨q1, q2, q3⟩ := cnt_true hok
    have hlt : off < s.L * 64 := by rw [q2] at HV; simpa using HV.out.symm
    obtain ⟨s1, hs1⟩ : ∃ s1, s1 = (s.cnt i val).1 := ⟨_, rfl⟩
    rw [← hs1] at HC q3 ⊢
    have e1 : s1.L = s.L := by rw [q3]; rfl
    have e2 : s1.nb < s1.ex := by rw [q3]; have := HH.out.nb; unfold DSt.ctl; dsimp only; omega
    have e3 : s1.H = s.H := by rw [q3]; rfl
    clear hs1 q1 q2 q3 hok
    have E2 := Lib.hid e2; clear e2
    have E3 := Lib.hid e3; clear e3
    have hoff2 : (off : Int) / 64 < s1.L := by rw [e1]; omega
    have hoff3 : (off : Int) / 64 ≤ 9223372036854775807 := by omega
    have HL := Lib.hid hlt; clear hlt
    have HE := Lib.hid e1; clear e1
    simp only [ptr, u64]
    go_enter Tryz.func22, Tryz.ntmps22
    go_wp2_with fail
    refine HS.out.mono ?_
    rintro e w' ⟨rfl, rfl⟩
    go_wp2_with fail
    refine HC.out.mono ?_
    rintro e w' ⟨rfl, h1, h2⟩
    have hL : off / 64 < s1.L := by omega
    have k0 : w'.cell? ⟨A.t i, 0, none⟩ = some (.pointer (some ⟨A.d, 0, none⟩)) := (h1.thr i hi).cell 0 (by omega)
    have k1 : w'.cell? ⟨A.d, 2, none⟩ = some (.slice (some ⟨A.lin, 0, none⟩) s1.L s1.L) := h1.dev.cell 2 (by omega)
    have k3 : w'.cell? ⟨A.t i, 3, none⟩ = some (.map (some (A.m i))) := (h1.thr i hi).cell 3 (by omega)
    obtain ⟨hv, hlin, hhist⟩ := h1.lin
    have k4 : w'.cell? ⟨A.lin, off / 64 * 2, none⟩ = some (.int .u64 (s1.dn (off / 64))) := by
      rw [hlin.cell _ (by omega)]
      unfold lfun
      rw [if_pos (by omega)]
      unfold u64; congr 4; omega
    obtain ⟨ha, hcp, hv'⟩ : ∃ ha hcp, hv (off / 64) = .slice ha (s1.hist (off / 64)).length hcp := by
      rcases hhist (off / 64) hL with ⟨e0, e⟩ | ⟨b, o, cap, c, e, _⟩
      · rw [e0]; exact ⟨_, _, e⟩
      · exact ⟨_, _, e⟩
    have k5 : w'.cell? ⟨A.lin, off / 64 * 2 + 1, none⟩ = some (.slice ha (s1.hist (off / 64)).length hcp) := by
      rw [hlin.cell _ (by omega), ← hv']
      unfold lfun
      rw [if_neg (by omega)]
      congr 2; omega
    have hdn := h1.ok.dn (off / 64)
    have hlen := h1.ok.len (off / 64)
    have hex := h1.ok.ex
    have hh : (s1.hist (off / 64)).length = (s1.H (off / 64)).length - s1.dn (off / 64) := by unfold DSt.hist; rw [List.length_drop]
    obtain ⟨D, hown, hD⟩ := h1.note i hi
    have hL4 := h1.ok.lines
    have wf1 : (Lit.int .i64 ((off / 64 : Nat) : Int)).wf = true := wf_i64 (by omega) (by omega)
    have wf2 : (Lit.int .u64 ((s1.H (off / 64)).length : Int)).wf = true := wf_u64 (by omega) (by omega)
    have e2' := E2.out
    obtain ⟨w2, hrun, hown2, hgr⟩ := hown.drew.update keyed_int Tryz.underlying116 (by unfold maxLen; omega) (Maps.keyOf_int_mk Tryz.underlying3 wf1) (plainElem_int (H := Unit) Tryz.underlying31 wf2)
    have hn2 := Notes.put hD (ownsMap_isMap hown) hown2
    obtain ⟨g1, g2⟩ := h1.drew.setNote hi hgr hn2 (fun n p hp => by
      unfold upd at hp
      split at hp
      · rename_i e; rw [e]; exact ⟨by have := Option.some.inj hp; omega, hL⟩
      · exact h1.ok.note i n p hp) (Nat.le_succ _) E2.out
    have G1 := Lib.hid g1; have G2 := Lib.hid (h2.trans ⟨((Only.refl _ _).drew).trans g2.only (fun _ _ h => h), fun _ _ => rfl⟩)
    have ek : ((off / 64 : Nat) : Int) = (off : Int) / 64 := by omega
    have el : ((s1.H (off / 64)).length : Int) = (s1.dn (off / 64) : Int) + ((s1.hist (off / 64)).length : Int) := by rw [hh]; omega
    rw [ek, el] at hrun
    have bb : (s1.dn (off / 64) : Int) + ((s1.hist (off / 64)).length : Int) ≤ 1000000 := by rw [← el]; omega
    have bc : ((s1.hist (off / 64)).length : Int) ≤ 1000000 := by rw [hh]; omega
    clear wf1 wf2 hn2 g1 g2 ek el hgr hown2 hown hD hh hex hlen hdn hv' hlin hhist h1 h2 hL hL4 d3
    go_wp2_with fail
    go_region
    go_returns
    exact ⟨rfl, G1.out, G2.out⟩
end Go.Proofs.YtjoipeojenfiiaaGreatDoor.Dv

namespace Go.Proofs.YtjoipeojenfiiaaGreatDoor.Dv
open Go.RowKit

def ApRel (l : List (Nat × Nat)) (w : World) (B N : Nat) (g : Nat → Nat) (i : Value) (wr : World) : Prop :=
  ∃ k : Nat, k ≤ l.length ∧ i = .int .i64 k ∧ Row wr B 31 N (fun x => u64 (after (g x) x (l.take k))) ∧ Only (fun b => b = B) w wr

theorem take_snoc {l : List (Nat × Nat)} {k : Nat} (h : k < l.length) : l.take (k + 1) = l.take k ++ [l[k]] := by
  rw [List.take_add_one, List.getElem?_eq_getElem h]; rfl

theorem apply_any {w : World} {B N : Nat} {g : Nat → Nat} {l : List (Nat × Nat)} {bs o wc sc : Nat} (hrow : Row w B 31 N (fun x => u64 (g x))) (hne : bs ≠ B)
    (hc : ∀ i p, l[i]? = some p → w.cell? ⟨bs, o + 2 * i, none⟩ = some (u64 p.1) ∧ w.cell? ⟨bs, o + 2 * i + 1, none⟩ = some (u64 p.2)) (hl : ∀ p ∈ l, p.1 / 8 < N ∧ p.1 < 18446744073709551616 ∧ p.2 < 18446744073709551616) (hlen : l.length ≤ 1000000) :
    Calls Tryz.prog 63 #[.slice (some ⟨B, 0, none⟩) N wc, .slice (some ⟨bs, o, none⟩) l.length sc] w fun r w' =>
      r = .returned (.tuple #[]) ∧ Row w' B 31 N (fun x => u64 (after (g x) x l)) ∧ Only (fun b => b = B) w w' := by
  have HR := Lib.hid hrow; have HC := Lib.hid hc; have HL := Lib.hid hl; have HN := Lib.hid hne
  clear hrow hc hl hne
  have hlen2 : (l.length : Int) ≤ 1000000 := by omega
  go_enter Tryz.func63, Tryz.ntmps63
  go_wp2_with fail
  go_loopw [8] (fun i wr => ApRel l w B N g i wr) (fun i _ => l.length - (intOf i).toNat)
  case atStart => exact ⟨0, by omega, rfl, HR.out, Only.refl _ _⟩
  case round =>
    obtain ⟨k, hk, rfl, hrow, honly⟩ := hrel
    by_cases hlt : k < l.length
    · have hlt2 : (k : Int) < l.length := by omega
      have hg : l[k]? = some l[k] := List.getElem?_eq_getElem hlt
      obtain ⟨p, hp⟩ : ∃ p, p = l[k] := ⟨_, rfl⟩
      rw [← hp] at hg
      obtain ⟨h1, h2⟩ := HC.out k p hg
      obtain ⟨b1, b2, b3⟩ := HL.out p (by rw [hp]; exact List.getElem_mem hlt)
      have c1 := honly.cell h1 HN.out
      have c2 := honly.cell h2 HN.out
      have hrow2 := hrow.alloc (.cells #[u64 p.1, u64 p.2] 110)
      have c3 := hrow2.cell (p.1 / 8) b1
      have f3 := hrow2.free (p.1 / 8)
      have HR2 := Lib.hid (hrow2.set (p.1 / 8) (u64 p.2))
      have HO2 := Lib.hid ((honly.alloc (.cells #[u64 p.1, u64 p.2] 110)).set (b := B) (i := p.1 / 8) rfl (u64 p.2))
      have HP := Lib.hid hp; clear hp
      have e1 : o + k * 2 = o + 2 * k := by omega
      have bi1 : (p.1 : Int) / 8 < N := by omega
      have bi2 : (p.1 : Int) < 18446744073709551616 := by omega
      rw [← e1] at c1 c2
      clear h1 h2 hrow2 hrow honly e1 hg b1 b2 b3
      unfold u64 at *
      go_wp2_with fail
      go_roundw
      case rel =>
        refine ⟨k + 1, by omega, by go_num, ?_, HO2.out⟩
        refine HR2.out.congr (fun x hx => ?_)
        rw [take_snoc (by omega), after_snoc, ← HP.out]
        by_cases e : p.1 / 8 = x
        · rw [if_pos e, if_pos e.symm]; rfl
        · rw [if_neg e, if_neg (fun h => e h.symm)]; rfl
      case measure => simp [intOf]; omega
    · obtain rfl : k = l.length := by omega
      rw [List.take_length] at hrow
      have H1 := Lib.hid hrow; have H2 := Lib.hid honly; clear hrow honly
      go_wp2_with fail
      go_returns
      exact ⟨rfl, H1.out, H2.out⟩
theorem after_other {v x : Nat} {l : List (Nat × Nat)} (h : ∀ p ∈ l, p.1 / 8 ≠ x) : after v x l = v := by
  induction l generalizing v with
  | nil => rfl
  | cons a l ih =>
    unfold after
    rw [if_neg (h a (by simp))]
    exact ih (fun p hp => h p (by simp [hp]))

def DSt.persist (s : DSt) (n k : Nat) : DSt := { s with dn := upd s.dn n (s.dn n + k) }
theorem DSt.persist_cur (s : DSt) (n k x : Nat) : (s.persist n k).cur x = s.cur x := rfl
theorem DSt.persist_hist (s : DSt) (n k m : Nat) : (s.persist n k).hist m = if m = n then (s.hist n).drop k else s.hist m := by
  unfold DSt.hist DSt.persist upd
  dsimp only
  split
  · rename_i e; rw [e, List.drop_drop]
  · rfl
theorem DSt.persist_per {s : DSt} (h : s.Ok) (n k x : Nat) : (s.persist n k).per x = after (s.per x) x ((s.hist n).take k) := by
  unfold DSt.per DSt.persist upd DSt.hist
  dsimp only
  by_cases e : x / 8 = n
  · rw [if_pos e, e, List.take_add, after_append]
  · rw [if_neg e]
    refine (after_other (fun p hp => ?_)).symm
    have h1 := h.word n p (List.mem_of_mem_drop (List.mem_of_mem_take hp))
    omega
theorem DSt.Ok.persist {s : DSt} (h : s.Ok) {n k : Nat} (hk : k ≤ (s.hist n).length) : (s.persist n k).Ok := by
  refine { h with dn := ?_ }
  intro m
  unfold DSt.persist upd
  dsimp only
  have h1 := h.dn n
  unfold DSt.hist at hk
  rw [List.length_drop] at hk
  split
  · rename_i e; rw [e]; omega
  · exact h.dn m
theorem Dev.persist {w w2 : World} {A : DAd} {s : DSt} {F : Nat → Option Role} {n k : Nat} {hv : Nat → Value} {v' : Value} (h : Dev w A s F) (hk : k ≤ (s.hist n).length)
    (hhist : ∀ m, m < s.L → Hist w F m (hv m) (s.hist m))
    (hper : Row w2 A.per 31 (8 * s.L) (fun x => u64 (after (s.per x) x ((s.hist n).take k)))) (hlin : Row w2 A.lin 122 (2 * s.L) (lfun (s.persist n k) (upd hv n v')))
    (hh : Hist w2 F n v' ((s.hist n).drop k)) (honly : Only (fun b => b = A.per ∨ b = A.lin) w w2) : Dev w2 A (s.persist n k) F ∧ Moved F F w w2 := by
  have keep : ∀ b q, F b = some q → q ≠ (1, 0) → q ≠ (3, 0) → w2.heap[b]? = w.heap[b]? := fun b q hb h1 h3 => honly.block b (h.lt b (by rw [hb]; simp)) (fun e => by
    rcases e with e | e
    · rw [e, h.fper] at hb; exact h1 (Option.some.inj hb).symm
    · rw [e, h.flin] at hb; exact h3 (Option.some.inj hb).symm)
  refine ⟨{ h with ok := h.ok.persist hk, dev := ?_, per := ?_, cur := ?_, lin := ?_, thr := ?_, note := ?_, lt := ?_ }, ?_, fun _ _ => rfl⟩
  · exact h.dev.of_block (keep _ _ h.fd (by simp) (by simp))
  · exact hper.congr (fun x _ => by rw [DSt.persist_per h.ok])
  · exact h.cur.of_block (keep _ _ h.fcur (by simp) (by simp))
  · refine ⟨_, hlin, fun m hm => ?_⟩
    rw [DSt.persist_hist]
    unfold upd
    by_cases e : m = n
    · subst e; rw [if_pos rfl, if_pos rfl]; exact hh
    · rw [if_neg e, if_neg e]
      exact (hhist m hm).of_agree (fun b hb => keep _ _ hb (by simp) (by simp))
  · intro j hj
    exact (h.thr j hj).of_block (keep _ _ (h.ft j hj) (by simp) (by simp))
  · intro j hj
    exact (h.note j hj).of_agree (keep _ _ (h.fm j hj) (by simp) (by simp))
  · intro b hb; exact Nat.lt_of_lt_of_le (h.lt b hb) honly.size
  · refine honly.mono (fun b hb => ?_)
    rcases hb with rfl | rfl
    · rw [h.fper]; simp
    · rw [h.flin]; simp
end Go.Proofs.YtjoipeojenfiiaaGreatDoor.Dv
