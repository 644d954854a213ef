/-
  The device of the statement after Setup, as plain data; Off, dNew, Ended, Err, OK, Short.
  Setup, Found of the statement's package.
  dHelper of the statement's package.
  dHelper of the statement's package: the walk.
-/
import Derived.Test.YtjoipeojenfiiaaGreatDoorMSchA
namespace Go.Proofs.YtjoipeojenfiiaaGreatDoor.Dv
open Go.RowKit
set_option linter.unusedVariables false

/-! ### programs that are executed whole -/
theorem exec_ok {s : DSt} {t : Nat} (h : s.Ok) (hc : Calm s t) {x : Ins} (hx : x.Fit s.L) (hv : x.val < 18446744073709551616) (hex : s.ex < 1000000) : (s.exec t x).Ok := by
  have hcn := cnt_calm hc
  have h1 : (s.ctl false false s.left (s.ex + 1)).Ok := h.ctl _ _ _ _ h.left (by omega) (by omega)
  unfold DSt.exec
  by_cases e1 : x.op = 1
  · rw [if_pos e1]
    have hw : s.word x.off = true := by unfold DSt.word; simp; exact hx.1 e1
    unfold DSt.store
    rw [hw, hcn]
    exact h1.write hw hv (Nat.lt_succ_of_le (h.len _))
  · rw [if_neg e1]
    by_cases e2 : x.op = 2
    · rw [if_pos e2]
      unfold DSt.flush
      rw [decide_eq_true (hx.2 e2), hcn]
      have hlt := hx.2 e2
      have hh : ∀ t' n p, ((s.ctl false false s.left (s.ex + 1)).flushed t x.off).notes t' n = some p → p ≤ (s.H n).length ∧ n < s.L := by
        intro t' n p hp
        unfold DSt.flushed DSt.setNote at hp
        dsimp only at hp
        by_cases et : t' = t
        · rw [et, upd_same] at hp
          by_cases en : n = x.off / 64
          · rw [en, upd_same] at hp
            cases hp
            rw [en]
            exact ⟨Nat.le_refl _, by omega⟩
          · rw [upd_ne _ _ en] at hp
            exact h.note t n p hp
        · rw [upd_ne _ _ et] at hp
          exact h.note t' n p hp
      have hnb := h.nb
      exact { h1 with note := hh, nb := by show s.nb + 1 ≤ s.ex + 1; omega }
    · rw [if_neg e2]
      unfold DSt.fence
      rw [hcn]
      have hdn : ∀ n, ((s.ctl false false s.left (s.ex + 1)).fenced t).dn n ≤ (s.H n).length := by
        intro n
        unfold DSt.fenced
        dsimp only
        split
        · rename_i p hp
          have := (h.note t n p hp).1
          have := h.dn n
          exact Nat.max_le.2 ⟨h.dn n, (h.note t n p hp).1⟩
        · exact h.dn n
      have hno : ∀ t' n p, ((s.ctl false false s.left (s.ex + 1)).fenced t).notes t' n = some p → p ≤ (s.H n).length ∧ n < s.L := by
        intro t' n p hp
        unfold DSt.fenced at hp
        dsimp only at hp
        by_cases et : t' = t
        · rw [et, upd_same] at hp; cases hp
        · rw [upd_ne _ _ et] at hp
          exact h.note t' n p hp
      exact { h1 with dn := hdn, note := hno }
theorem runs_ok {t : Nat} : ∀ (l : List Ins) {s : DSt}, s.Ok → Calm s t → (∀ x ∈ l, x.Fit s.L) → (∀ x ∈ l, x.val < 18446744073709551616) → s.ex + l.length ≤ 1000000 → (s.runs t l).Ok
  | [], s, h, _, _, _, _ => h
  | x :: l, s, h, hc, hf, hv, hex => by
    rw [List.length_cons] at hex
    obtain ⟨a, b, c⟩ := exec_calm hc (hf x List.mem_cons_self)
    have hL : (s.exec t x).L = s.L := exec_L _ _ _
    exact runs_ok l (exec_ok h hc (hf x List.mem_cons_self) (hv x List.mem_cons_self) (by omega)) a (fun z hz => by rw [hL]; exact hf z (List.mem_cons_of_mem _ hz)) (fun z hz => hv z (List.mem_cons_of_mem _ hz)) (by rw [c]; omega)
theorem runs_done {t : Nat} {s : DSt} {l : List (Nat × Nat)} (h : Calm s t) (hok : ∀ j, ((s.runs t ((prog l).take j))).Ok) (hl : StOk l) (hf : ∀ x ∈ prog l, x.Fit s.L) : ∀ j, j ≤ (prog l).length → Done (s.runs t ((prog l).take j)) t l j ∧ Calm (s.runs t ((prog l).take j)) t ∧ (s.runs t ((prog l).take j)).L = s.L := by
  intro j
  induction j with
  | zero => intro _; exact ⟨Done.zero _ _ _, h, rfl⟩
  | succ j ih =>
    intro hj
    obtain ⟨h1, h2, h3⟩ := ih (by omega)
    obtain ⟨x, hx⟩ : ∃ x, (prog l)[j]? = some x := ⟨_, List.getElem?_eq_getElem (by omega)⟩
    have htk : (prog l).take (j + 1) = (prog l).take j ++ [x] := by rw [List.take_add_one, hx]; rfl
    rw [htk, runs_snoc]
    have hxf := hf x (List.mem_of_getElem? hx)
    obtain ⟨a, b, c⟩ := exec_calm h2 (by rw [h3]; exact hxf)
    exact ⟨Done.eqv b (h1.next (hok j) hl hx), a, (exec_L _ _ _).trans h3⟩
/-- The stores of a program that is executed whole are persistent. -/
theorem runs_all {t : Nat} {s : DSt} {l : List (Nat × Nat)} (h : Calm s t) (hok : ∀ j, ((s.runs t ((prog l).take j))).Ok) (hl : StOk l) (hf : ∀ x ∈ prog l, x.Fit s.L) : ∀ p ∈ l, (s.runs t (prog l)).All (p.1 / 8) (fun v => v = p.2) := by
  have hlen : 1 ≤ (prog l).length := by rw [prog_length]; omega
  obtain ⟨x, hx⟩ : ∃ x, (prog l)[(prog l).length - 1]? = some x := ⟨_, List.getElem?_eq_getElem (by omega)⟩
  obtain ⟨h1, h2, h3⟩ := runs_done h hok hl hf ((prog l).length - 1) (by omega)
  obtain ⟨a, b, c⟩ := exec_calm h2 (by rw [h3]; exact hf x (List.mem_of_getElem? hx))
  have htk : prog l = (prog l).take ((prog l).length - 1) ++ [x] := by
    have : (prog l).take ((prog l).length - 1 + 1) = (prog l).take ((prog l).length - 1) ++ [x] := by rw [List.take_add_one, hx]; rfl
    rw [← this, List.take_of_length_le (by omega)]
  have hla := h1.last hx (by omega)
  intro p hp
  rw [htk, runs_snoc]
  exact b.all (hla.2 p hp)
/-- Other words keep what they have. -/
theorem runs_keep {t x : Nat} {P : Nat → Prop} : ∀ (l : List Ins) {s : DSt}, Calm s t → (∀ j, ((s.runs t (l.take j))).Ok) → (∀ y ∈ l, y.Fit s.L) → (∀ y ∈ l, y.op = 1 → x = y.off / 8 → P y.val) → s.All x P → (s.runs t l).All x P
  | [], s, _, _, _, _, h => h
  | y :: l, s, hc, hok, hf, hv, h => by
    obtain ⟨a, b, c⟩ := exec_calm hc (hf y List.mem_cons_self)
    have hL : (s.exec t y).L = s.L := exec_L _ _ _
    have hs0 : s.Ok := hok 0
    refine runs_keep l a (fun j => hok (j + 1)) (fun z hz => by rw [hL]; exact hf z (List.mem_cons_of_mem _ hz)) (fun z hz => hv z (List.mem_cons_of_mem _ hz)) ?_
    exact b.all (DSt.did_all h hs0 (fun e => (hf y List.mem_cons_self).1 e |>.1) (hv y List.mem_cons_self))

/-! ### Setup -/
def l8 : List (Nat × Nat) := (List.range 8).map (fun j => (2304 + 8 * j, j))
theorem prog_l8 : prog l8 = sins l8 ++ [⟨2, 2304, 0⟩, ⟨3, 0, 0⟩] := by kernel_rfl
def set1 : DSt := (fresh 40 (fun _ => 0)).runs 0 (prog l8)
def set2 : DSt := set1.runs 0 (prog (fmtl 8))

/-- What the device is like after Setup. -/
structure SetOk (s : DSt) : Prop where
  L : s.L = 40
  calm : ∀ t, s.err t = 0
  off : s.off = false
  val : ∀ j, j < 8 → s.All (288 + j) (fun r => r = j)
  sta : ∀ k, k < 8 → s.All (32 * k) (fun r => r = unusedW)
  ex : s.ex ≤ 100

theorem set_ok : SetOk set2 ∧ set2.Ok ∧ Calm set2 0 ∧ set1.Ok ∧ Calm set1 0 ∧ set1.L = 40 ∧ set1.ex = 10 := by
  have f0 : (fresh 40 (fun _ => 0)).Ok := fresh_ok (by omega) (fun _ => by omega)
  have c0 : Calm (fresh 40 (fun _ => 0)) 0 := ⟨rfl, rfl, rfl⟩
  have hl8 : ∀ p ∈ l8, p.1 % 8 = 0 ∧ p.1 < 40 * 64 := by decide
  have hv8 : ∀ p ∈ l8, p.1 < 18446744073709551616 ∧ p.2 < 18446744073709551616 := by decide
  have hlf : ∀ p ∈ fmtl 8, p.1 % 8 = 0 ∧ p.1 < 40 * 64 := by decide
  have s8 : StOk l8 := ⟨by decide, by decide⟩
  have sf : StOk (fmtl 8) := ⟨by decide, by decide⟩
  have fit8 := prog_fit (L := 40) hl8
  have fitf := prog_fit (L := 40) hlf
  have n8 : (prog l8).length = 10 := by rw [prog_l8]; rfl
  have nf : (prog (fmtl 8)).length ≤ 17 := by rw [prog_length, fmtl_length]; have := plines_le (fmtl 8); rw [fmtl_length] at this; omega
  have v8 : ∀ x ∈ prog l8, x.val < 18446744073709551616 := fun x hx => (prog_ok hv8 x hx).2.2.2
  have vf : ∀ x ∈ prog (fmtl 8), x.val < 18446744073709551616 := fun x hx => (prog_ok fmtl_lt x hx).2.2.2
  obtain ⟨a1, a2, a3⟩ := runs_calm (prog l8) c0 fit8
  have o1 : set1.Ok := runs_ok (prog l8) f0 c0 fit8 v8 (by rw [n8]; show 0 + 10 ≤ _; omega)
  have e1 : set1.ex = 10 := by show (DSt.runs _ 0 (prog l8)).ex = 10; rw [a3, n8]; rfl
  have L1 : set1.L = 40 := a2
  have fitf1 : ∀ x ∈ prog (fmtl 8), x.Fit set1.L := by rw [L1]; exact fitf
  obtain ⟨b1, b2, b3⟩ := runs_calm (prog (fmtl 8)) a1 fitf1
  have o2 : set2.Ok := runs_ok (prog (fmtl 8)) o1 a1 fitf1 vf (by rw [e1]; omega)
  have tk8 : ∀ j, ((fresh 40 (fun _ => 0)).runs 0 ((prog l8).take j)).Ok := fun j => runs_ok _ f0 c0 (fun x hx => fit8 x (List.mem_of_mem_take hx)) (fun x hx => v8 x (List.mem_of_mem_take hx)) (by rw [List.length_take, n8]; show 0 + _ ≤ _; omega)
  have tkf : ∀ j, (set1.runs 0 ((prog (fmtl 8)).take j)).Ok := fun j => runs_ok _ o1 a1 (fun x hx => fitf1 x (List.mem_of_mem_take hx)) (fun x hx => vf x (List.mem_of_mem_take hx)) (by rw [List.length_take, e1]; omega)
  have all8 := runs_all c0 tk8 s8 fit8
  have allf := runs_all a1 tkf sf fitf1
  have errs : ∀ (l : List Ins) (s : DSt), (∀ x ∈ l, x.Fit s.L) → Calm s 0 → (∀ t, s.err t = 0) → ∀ t, (s.runs 0 l).err t = 0 := by
    intro l
    induction l with
    | nil => intro s _ _ h t; exact h t
    | cons x l ih =>
      intro s hf hc h t
      obtain ⟨a, b, c⟩ := exec_calm hc (hf x List.mem_cons_self)
      have hL : (s.exec 0 x).L = s.L := exec_L _ _ _
      refine ih (s.exec 0 x) (fun z hz => by rw [hL]; exact hf z (List.mem_cons_of_mem _ hz)) a (fun t => ?_) t
      have hcn := cnt_calm hc
      unfold DSt.exec
      have hx := hf x List.mem_cons_self
      by_cases e1 : x.op = 1
      · rw [if_pos e1]
        have hw : s.word x.off = true := by unfold DSt.word; simp; exact hx.1 e1
        unfold DSt.store
        rw [hw, hcn]
        exact h t
      · rw [if_neg e1]
        by_cases e2 : x.op = 2
        · rw [if_pos e2]
          unfold DSt.flush
          rw [decide_eq_true (hx.2 e2), hcn]
          exact h t
        · rw [if_neg e2]
          unfold DSt.fence
          rw [hcn]
          exact h t
  have er1 := errs (prog l8) _ fit8 c0 (fun _ => rfl)
  have er2 := errs (prog (fmtl 8)) set1 fitf1 a1 er1
  refine ⟨{ L := b2.trans L1, calm := er2, off := b1.off, val := ?_, sta := ?_, ex := ?_ }, o2, b1, o1, a1, L1, e1⟩
  · intro j hj
    have hm : (2304 + 8 * j, j) ∈ l8 := List.mem_map.2 ⟨j, by simpa using hj, rfl⟩
    have h1 := all8 _ hm
    dsimp only at h1
    rw [show (2304 + 8 * j) / 8 = 288 + j by omega] at h1
    refine runs_keep (prog (fmtl 8)) a1 tkf fitf1 (fun y hy e1 e2 => ?_) h1
    rcases prog_mem hy with ⟨p, hp, rfl⟩ | ⟨z, _, rfl⟩ | rfl
    · have hb : ∀ p ∈ fmtl 8, p.1 < 2048 := by decide
      have := hb p hp
      dsimp only at e2
      omega
    · cases e1
    · cases e1
  · intro k hk
    have hm : (256 * k, unusedW) ∈ fmtl 8 := List.mem_map.2 ⟨k, by simpa using hk, rfl⟩
    have h1 := allf _ hm
    dsimp only at h1
    rw [show 256 * k / 8 = 32 * k by omega] at h1
    exact h1
  · have : set2.ex = set1.ex + (prog (fmtl 8)).length := b3
    omega

/-! ### small functions -/
theorem off_any {w : World} {i : Nat} (h : i ≤ 8) : Calls Tryz.prog 5 #[.int .i64 i] w fun e w' => e = .returned (.int .u64 ((2304 + 8 * i : Nat) : Int)) ∧ w = w' := by
  have b1 : (i : Int) ≤ 8 := by omega
  have e : ((2304 + 8 * i : Nat) : Int) = 2304 + 8 * (i : Int) := by omega
  rw [e]
  clear e
  go_enter Tryz.func5, Tryz.ntmps5
  go_wp2_with fail
  go_returns
  exact ⟨rfl, rfl⟩
theorem dnew_any {w : World} {i : Nat} (h : i ≤ 8) : Calls Tryz.prog 6 #[.int .i64 i] w fun e w' => e = .returned (.int .u64 ((100 + i : Nat) : Int)) ∧ w = w' := by
  have b1 : (i : Int) ≤ 8 := by omega
  have e : ((100 + i : Nat) : Int) = 100 + (i : Int) := by omega
  rw [e]
  clear e
  go_enter Tryz.func6, Tryz.ntmps6
  go_wp2_with fail
  go_returns
  exact ⟨rfl, rfl⟩
theorem ended_mw {w : World} {A : DAd} {B : MAd} {Lr N : Nat} {m : MS} {F G : Nat → Option Role} (h : MW w A B Lr N m F G) {i : Nat} (hi : i < N) : Calls Tryz.prog 11 #[ptr (B.o i)] w fun e w' => e = .returned (.bool (m.op i).ended) ∧ w = w' := by
  have c : w.cell? ⟨B.o i, 11, none⟩ = some (.bool (m.op i).ended) := h.cellO hi 11 (by omega) (by omega)
  clear h
  unfold ptr
  go_enter Tryz.func11, Tryz.ntmps11
  go_wp2_with fail
  go_returns
  exact ⟨rfl, rfl⟩
theorem operr_mw {w : World} {A : DAd} {B : MAd} {Lr N : Nat} {m : MS} {F G : Nat → Option Role} (h : MW w A B Lr N m F G) {i : Nat} (hi : i < N) : Calls Tryz.prog 12 #[ptr (B.o i)] w fun e w' => e = .returned (.int .i64 (m.op i).err) ∧ w = w' := by
  have c : w.cell? ⟨B.o i, 12, none⟩ = some (.int .i64 (m.op i).err) := h.cellO hi 12 (by omega) (by omega)
  clear h
  unfold ptr
  go_enter Tryz.func12, Tryz.ntmps12
  go_wp2_with fail
  go_returns
  exact ⟨rfl, rfl⟩
theorem opok_mw {w : World} {A : DAd} {B : MAd} {Lr N : Nat} {m : MS} {F G : Nat → Option Role} (h : MW w A B Lr N m F G) {i : Nat} (hi : i < N) (h1 : (m.op i).ended = true) (h2 : (m.op i).err = 0) (h3 : (m.op i).changed = true) : Calls Tryz.prog 13 #[ptr (B.o i)] w fun e w' => e = .returned (.bool true) ∧ w = w' := by
  have c1 : w.cell? ⟨B.o i, 11, none⟩ = some (.bool true) := by rw [← h1]; exact h.cellO hi 11 (by omega) (by omega)
  have c2 : w.cell? ⟨B.o i, 12, none⟩ = some (.int .i64 0) := by have := h.cellO hi 12 (by omega) (by omega); unfold ofun at this; rw [h2] at this; exact this
  have c3 : w.cell? ⟨B.o i, 10, none⟩ = some (.bool true) := by rw [← h3]; exact h.cellO hi 10 (by omega) (by omega)
  clear h h1 h2 h3
  unfold ptr
  go_enter Tryz.func13, Tryz.ntmps13
  go_wp2_with fail
  go_returns
  exact ⟨rfl, rfl⟩
def ShPost (w : World) (ca : Option Addr) (cn : Nat) (e : Ending) (w' : World) : Prop := w = w' ∧ ∃ k cc, e = .returned (.slice ca k cc) ∧ k ≤ cn
theorem short_any {w : World} {ca : Option Addr} {cn cc : Nat} (hc : cn ≤ cc) (hm : cc ≤ 140737488351232) (ha : ca = none → cn = 0) : Calls Tryz.prog 15 #[.slice ca cn cc, .int .i64 8] w (ShPost w ca cn) := by
  have b0 : (cn : Int) ≤ cc := by omega
  have b2 : (cc : Int) ≤ 140737488351232 := by omega
  by_cases h8 : 8 < cn
  · have d1 : (8 : Int) < cn := by omega
    have d2 : (8 : Int) ≤ cc := by omega
    have G := Lib.hid (show ShPost w ca cn (.returned (.slice ca 8 cc)) w from ⟨rfl, 8, cc, rfl, by omega⟩)
    obtain ⟨a, rfl⟩ : ∃ a, ca = some a := by
      cases ca with
      | none => have := ha rfl; omega
      | some a => exact ⟨a, rfl⟩
    clear h8 ha
    go_enter Tryz.func15, Tryz.ntmps15
    go_wp2_with fail
    go_returns
    exact G.out
  · have d1 : ¬ (8 : Int) < cn := by omega
    have G := Lib.hid (show ShPost w ca cn (.returned (.slice ca cn cc)) w from ⟨rfl, cn, cc, rfl, Nat.le_refl _⟩)
    clear h8 ha
    go_enter Tryz.func15, Tryz.ntmps15
    go_wp2_with fail
    go_returns
    exact G.out
end Go.Proofs.YtjoipeojenfiiaaGreatDoor.Dv

namespace Go.Proofs.YtjoipeojenfiiaaGreatDoor.Dv
open Go.RowKit
set_option linter.unusedVariables false

def SuRel (W : World) (A : DAd) (F : Nat → Option Role) (i : Value) (wl : World) : Prop :=
  ∃ (j : Nat) (F1 : Nat → Option Role), j ≤ 8 ∧ i = .int .i64 (j : Nat) ∧ Dev wl A ((fresh 40 (fun _ => 0)).runs 0 (sins (l8.take j))) F1 ∧ Moved F F1 W wl
def SuPost (w : World) (e : Ending) (w' : World) : Prop :=
  ∃ A B F G, e = .returned (.tuple #[ptr A.d, ptr B.p]) ∧ MW w' A B 32 0 (ms0 set2) F G ∧ Below w.heap.size w w' ∧ (∀ b, F b ≠ none ∨ G b ≠ none → w.heap.size ≤ b) ∧ B.nb = 8

theorem below_moved {w W w' : World} {F F' : Nat → Option Role} (hb : Below w.heap.size w W) (hF : ∀ k, F k ≠ none → w.heap.size ≤ k) (hm : Moved F F' W w') : Below w.heap.size w w' ∧ ∀ k, F' k ≠ none → w.heap.size ≤ k := by
  constructor
  · refine ⟨hm.only.os.trans hb.os, hm.only.tape.trans hb.tape, hm.only.output.trans hb.output, Nat.le_trans hb.size hm.only.size, fun k hk => ?_⟩
    exact (hm.only.block k (Nat.lt_of_lt_of_le hk hb.size) (fun hf => by have := hF k hf; omega)).trans (hb.block k hk)
  · intro k hk
    rcases Nat.lt_or_ge k W.heap.size with h | h
    · rw [hm.same k h] at hk
      exact hF k hk
    · have := hb.size
      omega

set_option maxHeartbeats 4000000 in
set_option maxRecDepth 8000 in
theorem setup_any {w : World} {T : Nat → Nat} {vb : Nat} (hT : NTab w T) (hv : Seen w vb 0 ((List.range 8).map u64)) :
    Calls Tryz.prog 4 #[.slice (some ⟨vb, 0, none⟩) 8 8] w (SuPost w) := by
  have HN := Lib.hid (show Calls Tryz.prog 19 #[.int .i64 40] w fun r w' => ∃ v, r = .returned (.tuple #[v, .int .i64 0]) ∧ Made w (fun _ => False) (fresh 40 (fun _ => 0)) v w' from new_dev (L := 40) (by omega))
  have HV := Lib.hid hv; have HT := Lib.hid hT
  have hvl : vb < w.heap.size := World.block_lt_of_cell? _ _ (hv 0 (u64 0) rfl)
  have HVL := Lib.hid hvl
  clear hv hT hvl
  go_enter Tryz.func4, Tryz.ntmps4
  go_wp2_with fail
  refine HN.out.mono ?_
  rintro e W ⟨v, rfl, A, F, rfl, hd, hb, hF⟩
  have hF2 : ∀ k, F k ≠ none → w.heap.size ≤ k := fun k hk => (hF k hk).resolve_left (fun h => h)
  have HD := Lib.hid hd; have HB := Lib.hid hb; have HF := Lib.hid hF2
  have HTH := Lib.hid (thread_dev hd (i := 0) (by omega))
  have HST := Lib.hid (show SuRel W A F (.int .i64 (0 : Nat)) W from ⟨0, F, by omega, rfl, hd, Moved.refl _ _⟩)
  clear hd hb hF hF2 HN
  unfold ptr at *
  go_wp2_with fail
  refine HTH.out.mono ?_
  rintro e w1 ⟨rfl, rfl⟩
  go_wp2_with fail
  go_loopw [20] (fun i wl => SuRel W A F i wl) (fun i _ => 8 - (intOf i).toNat)
  case atStart => exact HST.out
  case round =>
    obtain ⟨j, F1, hj, rfl, hd, hm⟩ := hrel
    obtain ⟨hbw, hFw⟩ := below_moved HB.out HF.out hm
    by_cases hlt : j < 8
    · have hlt2 : (j : Int) < 8 := by omega
      have c1 : wr.cell? ⟨vb, j, none⟩ = some (.int .u64 (j : Nat)) := by
        rw [hbw.cell (show (Addr.mk vb j none).block < _ from HVL.out)]
        have := HV.out j (u64 j) (by rw [List.getElem?_map, List.getElem?_range hlt]; rfl)
        rw [Nat.zero_add] at this
        exact this
      have HOF := Lib.hid (off_any (w := wr) (i := j) (by omega))
      have hgl : l8[j]? = some (2304 + 8 * j, j) := by unfold l8; rw [List.getElem?_map, List.getElem?_range hlt]; rfl
      have htk : l8.take (j + 1) = l8.take j ++ [(2304 + 8 * j, j)] := by rw [List.take_add_one, hgl]; rfl
      have hexb : ((fresh 40 (fun _ => 0)).runs 0 (sins (l8.take j))).ex < 1000000 := by
        have := runs_ex (sins (l8.take j)) (fresh 40 (fun _ => 0)) 0
        have h0 : (fresh 40 (fun _ => 0)).ex = 0 := rfl
        have hl : (sins (l8.take j)).length ≤ 8 := by unfold sins; rw [List.length_map, List.length_take]; have : l8.length = 8 := rfl; omega
        omega
      have hst := store_dev hd (i := 0) (off := 2304 + 8 * j) (v := j) (by omega) (by omega) (by omega) hexb
      have hnx : ((fresh 40 (fun _ => 0)).runs 0 (sins (l8.take j))).store 0 (2304 + 8 * j) j = (fresh 40 (fun _ => 0)).runs 0 (sins (l8.take (j + 1))) := by
        rw [htk, sins_snoc, runs_snoc]
        rfl
      rw [hnx] at hst
      have HSE := Lib.hid hst; have HM := Lib.hid hm
      clear hst hnx hexb htk hgl hd hm hbw hFw hj
      unfold ptr u64 at HSE
      go_wp2_with fail
      refine HOF.out.mono ?_
      rintro e w2 ⟨rfl, rfl⟩
      go_wp2_with fail
      refine HSE.out.mono ?_
      rintro e w3 ⟨rfl, F3, hd3, hm3⟩
      have G := Lib.hid (show SuRel W A F (.int .i64 ((j + 1 : Nat) : Int)) w3 from ⟨j + 1, F3, by omega, rfl, hd3, HM.out.trans hm3⟩)
      clear hd3 hm3 HSE
      go_wp2_with fail
      go_roundw
      case rel => simpa using G.out
      case measure => simp [intOf]; omega
    · obtain rfl : j = 8 := by omega
      obtain ⟨sA, sB, sC, sD, sE, sF, sG⟩ := set_ok
      have hl8 : l8.take 8 = l8 := rfl
      rw [hl8] at hd
      have hex1 : ((fresh 40 (fun _ => 0)).runs 0 (sins l8)).ex ≤ 8 := by
        have := runs_ex (sins l8) (fresh 40 (fun _ => 0)) 0
        have h0 : (fresh 40 (fun _ => 0)).ex = 0 := rfl
        have hl : (sins l8).length = 8 := rfl
        omega
      have HOF := Lib.hid (off_any (w := wr) (i := 0) (by omega))
      have HFL := Lib.hid (flush_dev hd (i := 0) (off := 2304) (by omega) (by omega) (by omega))
      have HM := Lib.hid hm
      have d8 : ¬ ((8 : Int) < 8) := by decide
      have HX1 := Lib.hid hex1
      have HSET := Lib.hid set_ok
      clear hd hm hbw hFw hl8 hex1 sA sB sC sD sE sF sG
      unfold ptr u64 at HFL
      go_wp2_with fail
      refine HOF.out.mono ?_
      rintro e w2 ⟨rfl, rfl⟩
      go_wp2_with fail
      refine HFL.out.mono ?_
      rintro e w3 ⟨rfl, hd3, hm3⟩
      have hex2 : (((fresh 40 (fun _ => 0)).runs 0 (sins l8)).flush 0 2304).ex < 1000000 := by
        have : ((fresh 40 (fun _ => 0)).runs 0 (sins l8)).flush 0 2304 = ((fresh 40 (fun _ => 0)).runs 0 (sins l8)).exec 0 ⟨2, 2304, 0⟩ := rfl
        rw [this]
        have := exec_ex ((fresh 40 (fun _ => 0)).runs 0 (sins l8)) 0 ⟨2, 2304, 0⟩
        have := HX1.out
        omega
      have HFE := Lib.hid (fence_dev hd3 (i := 0) (by omega) hex2)
      have HM3 := Lib.hid (HM.out.trans hm3)
      clear hd3 hm3 hex2 HFL
      unfold ptr at HFE
      go_wp2_with fail
      refine HFE.out.mono ?_
      rintro e w4 ⟨rfl, hd4, hm4⟩
      have hs1 : (((fresh 40 (fun _ => 0)).runs 0 (sins l8)).flush 0 2304).fence 0 = set1 := by
        unfold set1
        rw [prog_l8]
        unfold DSt.runs
        rw [List.foldl_append]
        rfl
      rw [hs1] at hd4
      obtain ⟨sA, sB, sC, sD, sE, sF, sG⟩ := HSET.out
      have HFO := Lib.hid (format_any hd4 (t := 0) (by omega) sE.err (by rw [sF]; omega) (by rw [sG]; omega))
      have HM4 := Lib.hid (HM3.out.trans hm4)
      clear hd4 hm4 HFE hs1 sA sB sC sD sE sF sG
      unfold mthr ptr at HFO
      go_wp2_with fail
      refine HFO.out.mono ?_
      rintro e w5 ⟨rfl, F5, hd5, hm5⟩
      have hs2 : set1.runs 0 (prog (fmtl 8)) = set2 := rfl
      rw [hs2] at hd5
      obtain ⟨sA, sB, sC, sD, sE, sF, sG⟩ := HSET.out
      obtain ⟨hbw, hFw⟩ := below_moved HB.out HF.out (HM4.out.trans hm5)
      have herr : ((set1.runs 0 (prog (fmtl 8))).err 0) = 0 := by rw [hs2]; exact sC.err
      rw [herr]
      have HOP := Lib.hid (open_any (D := fun _ => []) hd5 (HT.out.below hbw (Nat.le_refl _)) (by rw [sA.L]; omega) (fun k hk => .inl ⟨rfl, DSt.All.cur (sA.sta k hk) sB⟩))
      have HBW := Lib.hid hbw; have HFW := Lib.hid hFw
      clear hd5 hm5 hs2 hbw hFw HFO herr sA sB sC sD sE sF sG
      unfold ptr at HOP
      unfold Dv.i64
      go_wp2_with fail
      refine HOP.out.mono ?_
      rintro e w6 ⟨B, G, rfl, hmw, hb6, hG, hnb⟩
      have GG := Lib.hid (show SuPost w (.returned (.tuple #[ptr A.d, ptr B.p])) w6 from ⟨A, B, F5, G, rfl, hmw, HBW.out.trans (hb6.mono HBW.out.size), fun b hb => by
        rcases hb with hb | hb
        · exact HFW.out b hb
        · have := hG b hb; have := HBW.out.size; omega, hnb⟩)
      unfold ptr at GG
      clear hmw hb6 hG hnb HOP
      unfold ptr
      go_wp2_with fail
      go_returns
      exact GG.out

/-! ### Found -/
def vals (s : DSt) (k : Nat) : List Nat := (List.range k).map (fun j => s.cur (288 + j) % 1099511627776)
theorem vals_succ (s : DSt) (k : Nat) : vals s (k + 1) = vals s k ++ [s.cur (288 + k) % 1099511627776] := by unfold vals; rw [List.range_succ, List.map_append]; rfl
def FoRel2 (W : World) (s : DSt) (v ok i : Value) (wl : World) : Prop := ∃ k : Nat, k ≤ 8 ∧ i = .int .i64 (k : Nat) ∧ ok = .bool true ∧ wl.ownsRow W.heap.size 31 1 v k (uc (vals s k)) ∧ Below W.heap.size W wl
def FuPost (w : World) (s : DSt) (e : Ending) (w' : World) : Prop := ∃ g c, e = .returned (.tuple #[.slice (some ⟨g, 0, none⟩) 8 c, .bool true]) ∧ Seen w' g 0 (uc (vals s 8)) ∧ Below w.heap.size w w'

set_option maxHeartbeats 4000000 in
set_option maxRecDepth 8000 in
theorem found_any {w : World} {A : DAd} {s : DSt} {F : Nat → Option Role} (h : Dev w A s F) (hoff : s.off = false) (hL : s.L = 40) (hr : ∀ j, j < 8 → s.cur (288 + j) < 4611686018427387904) :
    Calls Tryz.prog 18 #[ptr A.d] w (FuPost w s) := by
  have H := Lib.hid h; have HR := Lib.hid hr; have HO := Lib.hid hoff; have HL := Lib.hid hL
  clear h hr hoff hL
  unfold ptr
  go_enter Tryz.func18, Tryz.ntmps18
  go_wp2_with fail
  go_loopw [4, 5, 10] (fun v ok i wl => FoRel2 w s v ok i wl) (fun _ _ i _ => 8 - (intOf i).toNat)
  case atStart => exact ⟨0, by omega, rfl, rfl, World.ownsRow_nil _ _ _ _, Below.refl _ _⟩
  case round =>
    obtain ⟨k, hk, rfl, rfl, hown, hbel⟩ := hrel
    by_cases hlt : k < 8
    · have hlt2 : (k : Int) < 8 := by omega
      have hd := H.out.below hbel
      have HTH := Lib.hid (thread_dev hd (i := 0) (by omega))
      have HOF := Lib.hid (off_any (w := wr) (i := k) (by omega))
      have hrk := HR.out k hlt
      have hload := load_same hd (i := 0) (by omega) HO.out (off := 2304 + 8 * k) (by unfold DSt.word; rw [HL.out]; simp; omega)
      rw [show (2304 + 8 * k) / 8 = 288 + k by omega] at hload
      have hval := value_any (w := wr) (raw := s.cur (288 + k)) (by omega)
      have hvs := vals_succ s k
      obtain ⟨r, hrr⟩ : ∃ r, r = s.cur (288 + k) := ⟨_, rfl⟩
      rw [← hrr] at hload hval hrk hvs
      obtain ⟨y, hy⟩ : ∃ y, y = r % 1099511627776 := ⟨_, rfl⟩
      rw [← hy] at hval hvs
      have HLO := Lib.hid hload; have HVA := Lib.hid hval; have HVS := Lib.hid hvs
      have b1 : (r : Int) < 4611686018427387904 := by omega
      have d1 : (((r : Int) / 4611686018427387904) == 0) = true := by rw [beq_iff_eq]; omega
      have d2 : (r : Int) / 4611686018427387904 = 0 := by omega
      obtain ⟨va, vc, hv⟩ := own_slice hown
      subst hv
      have HOW := Lib.hid hown; have HB := Lib.hid hbel
      clear hd hload hval hvs hown hbel hrr hy hrk
      unfold ptr u64 at *
      go_wp2_with fail
      refine HTH.out.mono ?_
      rintro e w1 ⟨rfl, rfl⟩
      go_wp2_with fail
      refine HOF.out.mono ?_
      rintro e w1 ⟨rfl, rfl⟩
      go_wp2_with fail
      refine HLO.out.mono ?_
      rintro e w1 ⟨rfl, rfl⟩
      go_wp2_with fail
      refine HVA.out.mono ?_
      rintro e w1 ⟨rfl, rfl⟩
      go_wp2_with (at_builtin; refine wpList_own1 elWords rfl _ _ rfl HOW.out rfl rfl ?c1 rfl ?c2 ?c3 ?c4 ?c5 ?_)
      case c1 => rfl
      case c2 => rfl
      case c3 => unfold maxLen; omega
      case c4 => omega
      case c5 => exact HB.out.size
      intro g4 cap4 w4 hop4 hgr4 hg4
      have G := Lib.hid (show FoRel2 w s (.slice (some ⟨g4, 0, none⟩) (k + 1) cap4) (.bool true) (.int .i64 ((k + 1 : Nat) : Int)) w4 from ⟨k + 1, by omega, rfl, rfl, by rw [HVS.out, uc_snoc]; exact hop4, below_grown HB.out hgr4 HB.out.size (fun b hb => (HOW.out.lt b hb).1)⟩)
      clear hop4 hgr4 hg4
      go_wp2_with fail
      go_roundw
      case rel => simpa using G.out
      case measure => simp [intOf]; omega
    · obtain rfl : k = 8 := by omega
      obtain ⟨g, cap, hv⟩ : ∃ g cap, u4 = .slice (some ⟨g, 0, none⟩) 8 cap := by
        rcases hown.2 with ⟨_, e⟩ | ⟨g, cap, cur, e, _⟩
        · omega
        · exact ⟨g, cap, e⟩
      subst hv
      have GG := Lib.hid (show FuPost w s (.returned (.tuple #[.slice (some ⟨g, 0, none⟩) 8 cap, .bool true])) wr from ⟨g, cap, rfl, seen_own hown, hbel⟩)
      have d8 : ¬ ((8 : Int) < 8) := by decide
      clear hown hbel hlt hk
      go_wp2_with fail
      go_returns
      exact GG.out
end Go.Proofs.YtjoipeojenfiiaaGreatDoor.Dv

namespace Go.Proofs.YtjoipeojenfiiaaGreatDoor.Dv
open Go.RowKit
set_option linter.unusedVariables false

theorem plainElem_bool_inv {H : Type} {P : Program} {e : TypeId} (he : P.underlying e = some .bool) {v : Value} {z : DataW H × List MemPlace} (h : plainElem P e v = some z) : ∃ x, v = .bool x ∧ z = (.lit (.bool x), []) := by
  unfold plainElem at h
  rw [he] at h
  cases v <;> simp at h
  exact ⟨_, rfl, h.symm⟩
/-- The map is the set S. -/
def SMap (w : World) (b ex : Nat) (S : List Nat) : Prop :=
  ∃ D : DataW Unit, w.ownsMap Tryz.prog 3 (plainElem Tryz.prog 4) b ex D ∧ ∀ n : Nat, D.atKey (.int .i64 n) (.lit (.bool false)) = .lit (.bool (decide (n ∈ S)))
theorem SMap.made (w : World) : SMap (w.alloc (.map #[] 0)) w.heap.size 0 [] := ⟨.map [], World.ownsMap_made _ _ _ _, fun n => rfl⟩
theorem SMap.kept {w w' : World} {b ex : Nat} {S : List Nat} (h : SMap w b ex S) (hb : w'.heap[b]? = w.heap[b]?) : SMap w' b ex S := by
  obtain ⟨D, ⟨es, clock, h1, h2⟩, h3⟩ := h
  exact ⟨D, ⟨es, clock, hb.trans h1, h2⟩, h3⟩
theorem SMap.look {w : World} {b ex : Nat} {S : List Nat} (h : SMap w b ex S) {n : Nat} (hn : n ≤ 1000) : (Instr.lookup 85 (.map (some b)) (.int .i64 n) false).run Tryz.prog w = .ok (.bool (decide (n ∈ S))) w := by
  obtain ⟨D, h1, h2⟩ := h
  have wf1 : (Lit.int .i64 (n : Int)).wf = true := wf_i64 (by omega) (by omega)
  have hz : (zeroValue 4).run Tryz.prog w = .ok (.bool false) w := by kernel_rfl
  obtain ⟨v, ps, hrun, hR⟩ := h1.lookup keyed_int Tryz.underlying85 hz (plainElem_bool (H := Unit) Tryz.underlying4 false) (Maps.keyOf_int_mk Tryz.underlying3 wf1)
  rw [h2 n] at hR
  have : v = .bool (decide (n ∈ S)) := by
    obtain ⟨x, rfl, hz⟩ := plainElem_bool_inv Tryz.underlying4 hR
    simp only [Prod.mk.injEq, DataW.lit.injEq, Lit.bool.injEq] at hz
    rw [hz.1]
  rw [hrun, this]
theorem SMap.put {w : World} {b ex : Nat} {S : List Nat} (h : SMap w b ex S) {n : Nat} (hn : n ≤ 1000) (hex : ex ≤ 1000) : ∃ w', (Instr.mapUpdate 85 (.map (some b)) (.int .i64 n) (.bool true)).run Tryz.prog w = .ok () w' ∧ SMap w' b (ex + 1) (n :: S) ∧ w.grownBy w' (some b) := by
  obtain ⟨D, h1, h2⟩ := h
  have wf1 : (Lit.int .i64 (n : Int)).wf = true := wf_i64 (by omega) (by omega)
  obtain ⟨w', hrun, hown, hgr⟩ := h1.update keyed_int Tryz.underlying85 (by unfold maxLen; omega) (Maps.keyOf_int_mk Tryz.underlying3 wf1) (plainElem_bool (H := Unit) Tryz.underlying4 true)
  refine ⟨w', hrun, ⟨_, hown, fun k => ?_⟩, hgr⟩
  by_cases e : k = n
  · subst e
    rw [Maps.atKey_put_same (ownsMap_isMap h1) (show WideAt.IsKeyLit (Lit.int .i64 (k : Int)) from trivial)]
    simp
  · rw [Maps.atKey_put_other (by simp; omega), h2 k]
    simp [e]

/-- The entries of an operation that confirms. -/
structure HlpEs (n : Nat) (es : List (Nat × Nat × Nat)) : Prop where
  ok : EsNew 2560 es
  conf : ∀ e ∈ es, ∃ j, j < n ∧ e.1 = 2304 + 8 * j ∧ e.2.1 = e.2.2 ∧ (e.2.1 = j ∨ e.2.1 = 100 + j)
/-- A new operation of the pool. -/
def NewOp (w : World) (A : DAd) (B : MAd) (N : Nat) (m : MS) (F G : Nat → Option Role) (P : List (Nat × Nat × Nat) → Prop) (o : Nat) (w' : World) : Prop :=
  ∃ (es : List (Nat × Nat × Nat)) (t : Nat) (ord : List Nat) (B' : MAd) (G' : Nat → Option Role), o = B'.o N ∧ t < 8 ∧ P es ∧ MW w' A B' 32 (N + 1) (m.begin N t es ord) F G' ∧ OrdL es.length ord ∧ B'.nb = B.nb ∧ B'.p = B.p ∧ (∀ i, i < N → B'.o i = B.o i) ∧ MMoved F G F G' w w'
def HpPost (w : World) (A : DAd) (B : MAd) (N n : Nat) (m : MS) (F G : Nat → Option Role) (e : Ending) (w' : World) : Prop :=
  (e = .returned (.pointer none) ∧ Below w.heap.size w w') ∨ ∃ o, e = .returned (ptr o) ∧ NewOp w A B N m F G (HlpEs n) o w'

/-- The loop of dHelper. -/
structure HpSt (w : World) (n : Nat) (bx : Array Value) (k : Nat) (v : Value) (es : List (Nat × Nat × Nat)) (S : List Nat) (wl : World) : Prop where
  box : wl.heap[w.heap.size]? = some (.cells bx 44 (0, 0))
  own : wl.ownsRow w.heap.size 36 4 v es.length (encells es)
  map : SMap wl (w.heap.size + 1) k S
  bel : Below w.heap.size w wl
  len : es.length ≤ k
  conf : ∀ e ∈ es, ∃ j, j < n ∧ j ∈ S ∧ e.1 = 2304 + 8 * j ∧ e.2.1 = e.2.2 ∧ (e.2.1 = j ∨ e.2.1 = 100 + j)
  nd : (es.map (·.1)).Nodup
  ml : w.heap.size + 1 < wl.heap.size
def HpRel (w : World) (n wn : Nat) (bx : Array Value) (v i : Value) (wl : World) : Prop := ∃ (k : Nat) (es : List (Nat × Nat × Nat)) (S : List Nat), k ≤ 3 ∧ k ≤ wn ∧ i = .int .i64 (k : Nat) ∧ HpSt w n bx k v es S wl

theorem encells_snoc (l : List (Nat × Nat × Nat)) (e : Nat × Nat × Nat) : encells (l ++ [e]) = encells l ++ [u64 e.1, u64 e.2.1, u64 e.2.2, .bool false] := by simp [encells]
theorem HpSt.skip {w : World} {n : Nat} {bx : Array Value} {k : Nat} {v : Value} {es : List (Nat × Nat × Nat)} {S : List Nat} {wl : World} (h : HpSt w n bx k v es S wl) : HpSt w n bx (k + 1) v es S wl := by
  obtain ⟨D, h1, h2⟩ := h.map
  exact { h with map := ⟨D, h1.mono (by omega), h2⟩, len := Nat.le_succ_of_le h.len }
/-- One more entry. -/
theorem HpSt.add {w : World} {n : Nat} {bx : Array Value} {k : Nat} {v : Value} {es : List (Nat × Nat × Nat)} {S : List Nat} {wl w2 w4 : World} (h : HpSt w n bx k v es S wl) {i x : Nat} (hi : i < n) (hS : i ∉ S) (hx : x = i ∨ x = 100 + i) (hm : SMap w2 (w.heap.size + 1) (k + 1) (i :: S)) (hg2 : wl.grownBy w2 (some (w.heap.size + 1)))
    {g4 cap4 : Nat} (ho4 : w4.ownsRow w.heap.size 36 4 (.slice (some ⟨g4, 0, none⟩) (es.length + 1) cap4) (es.length + 1) (encells es ++ [.int .u64 ((2304 + 8 * i : Nat) : Int), .int .u64 x, .int .u64 x, .bool false])) (hg4 : w2.grownBy w4 v.ownBlock)
    (how2 : w2.ownsRow w.heap.size 36 4 v es.length (encells es)) : HpSt w n bx (k + 1) (.slice (some ⟨g4, 0, none⟩) (es.length + 1) cap4) (es ++ [(2304 + 8 * i, x, x)]) (i :: S) w4 := by
  have hz := h.bel.size
  have hml := h.ml
  have hb2 : w2.heap[w.heap.size]? = some (.cells bx 44 (0, 0)) := (hg2.block _ (heap_lt h.box) (by simp)).trans h.box
  have hmb : ∀ b, v.ownBlock = some b → b ≠ w.heap.size + 1 := fun b hb e => by
    obtain ⟨D, ⟨es', clock, hh, _⟩, _⟩ := h.map
    rcases h.own.2 with ⟨e1, _⟩ | ⟨g', cap, cur, e1, _, hgg, _⟩
    · rw [e1] at hb; cases hb
    · rw [e1] at hb
      have : g' = b := by have : some g' = some b := hb; exact Option.some.inj this
      rw [this, e, hh] at hgg
      cases hgg
  have hbel2 : Below w.heap.size w w2 := below_grown h.bel hg2 hz (fun b hb => by cases hb; omega)
  have hlen : (es ++ [(2304 + 8 * i, x, x)]).length = es.length + 1 := by simp
  refine { box := (hg4.block _ (heap_lt hb2) (own_cells_ne how2 hb2 (by decide))).trans hb2, own := ?_, map := hm.kept (hg4.block _ (Nat.lt_of_lt_of_le hml hg2.size) (fun e => hmb _ e.symm rfl)), bel := below_grown hbel2 hg4 hbel2.size (fun b hb => (how2.lt b hb).1), len := by rw [hlen]; have := h.len; omega, conf := ?_, nd := ?_, ml := Nat.lt_of_lt_of_le hml (Nat.le_trans hg2.size hg4.size) }
  · rw [hlen, encells_snoc]
    exact ho4
  · intro e he
    rw [List.mem_append] at he
    rcases he with he | he
    · obtain ⟨j, h1, h2, h3⟩ := h.conf e he
      exact ⟨j, h1, List.mem_cons_of_mem _ h2, h3⟩
    · simp at he
      subst he
      exact ⟨i, hi, List.mem_cons_self, rfl, rfl, hx⟩
  · rw [List.map_append, List.nodup_append]
    refine ⟨h.nd, by simp, ?_⟩
    intro a ha b hb heq
    simp at hb
    obtain ⟨e, he, rfl⟩ := List.mem_map.1 ha
    obtain ⟨j, h1, h2, h3, _⟩ := h.conf e he
    have : j = i := by omega
    exact hS (this ▸ h2)
end Go.Proofs.YtjoipeojenfiiaaGreatDoor.Dv

namespace Go.Proofs.YtjoipeojenfiiaaGreatDoor.Dv
open Go.RowKit
set_option linter.unusedVariables false

set_option maxHeartbeats 4000000 in
set_option maxRecDepth 8000 in
theorem helper_any {w : World} {A : DAd} {B : MAd} {N n wn wc : Nat} {m : MS} {F G : Nat → Option Role} {wa : Option Addr} {af : Bool} {th : Int} (h : MW w A B 32 N m F G) (hN : N ≤ 2) (hnb : B.nb = 8) (hL : m.dev.L = 40) (her : ∀ t, m.dev.err t = 0) (hn : 2 ≤ n ∧ n ≤ 6)
    (hw : Chs w wa wn) (hb1 : ∀ k, k < N → m.busy k = true) (hb2 : m.busy N = false) (hth : -9223372036854775808 ≤ th ∧ th ≤ 9223372036854775807) :
    Calls Tryz.prog 8 #[ptr B.p, .agg #[.slice wa wn wc, .bool af, .int .i64 th], .int .i64 n] w (HpPost w A B N n m F G) := by
  have hmm := @run_makeMap Tryz.prog
  obtain ⟨bx, hbx⟩ : ∃ bx : Array Value, bx = #[.slice wa wn wc, .bool af, .int .i64 th] := ⟨_, rfl⟩
  have hst : HpSt w n bx 0 (.slice none 0 0) [] [] ((w.alloc (.cells #[.slice wa wn wc, .bool af, .int .i64 th] 44)).alloc (.map #[] 0)) := by
    rw [hbx]
    have hm := SMap.made (w.alloc (.cells #[.slice wa wn wc, .bool af, .int .i64 th] 44))
    have hz : (w.alloc (.cells #[.slice wa wn wc, .bool af, .int .i64 th] 44)).heap.size = w.heap.size + 1 := by simp
    rw [hz] at hm
    exact { box := ha10 _ _ _, own := World.ownsRow_nil _ _ _ _, map := hm, bel := below_alloc (below_alloc (Below.refl _ _)), len := Nat.le_refl _, conf := fun e he => (by cases he), nd := List.nodup_nil, ml := by simp }
  have HST := Lib.hid (show HpRel w n wn bx (.slice none 0 0) (.int .i64 (0 : Nat)) _ from ⟨0, [], [], by omega, by omega, rfl, hst⟩)
  have hwl := hw.1
  have H := Lib.hid h; have HW := Lib.hid hw; have HBX := Lib.hid hbx; have HB1 := Lib.hid hb1; have HB2 := Lib.hid hb2; have HER := Lib.hid her; have HNB := Lib.hid hnb; have HL := Lib.hid hL
  have n1 : (2 : Int) ≤ n := by omega
  have n2 : (n : Int) ≤ 6 := by omega
  have n0 : ((n : Int) == 0) = false := by simp; omega
  have n3 : ¬ ((n : Int) = 0) := by omega
  have b1 : (wn : Int) ≤ 140737488351232 := by omega
  -- the thread
  have ht1 := Int.tmod_lt_of_pos th (show (0 : Int) < 8 by omega)
  have ht2 := Int.lt_tmod_of_pos th (show (0 : Int) < 8 by omega)
  obtain ⟨r, hr⟩ : ∃ r, r = th.tmod 8 := ⟨_, rfl⟩
  rw [← hr] at ht1 ht2
  obtain ⟨t, ht⟩ : ∃ t : Nat, t = ((r + 8) % 8).toNat := ⟨_, rfl⟩
  have htz : (r + 8) % 8 = (t : Int) := by omega
  have htt : (r + 8).tmod 8 = (t : Int) := by rw [Int.tmod_eq_emod_of_nonneg (by omega)]; exact htz
  have ht8 : t < 8 := by omega
  have hr2 : th.tmod 8 = r := hr.symm
  clear h hw hbx hb1 hb2 her hnb hL hst hwl hr ht
  unfold ptr at *
  go_enter Tryz.func8, Tryz.ntmps8
  go_wp2_with fail
  go_loopw [7, 9] (fun v i wl => HpRel w n wn bx v i wl) (fun _ i _ => 3 - (intOf i).toNat)
  case atStart => exact HST.out
  case round =>
    obtain ⟨k, es, S, hk3, hkw, rfl, hst⟩ := hrel
    have hbox := hst.box
    rw [HBX.out] at hbox
    have c0 : wr.cell? ⟨w.heap.size, 0, none⟩ = some (.slice wa wn wc) := (cell_block hbox).trans rfl
    have c1 : wr.cell? ⟨w.heap.size, 1, none⟩ = some (.bool af) := (cell_block hbox).trans rfl
    have c2 : wr.cell? ⟨w.heap.size, 2, none⟩ = some (.int .i64 th) := (cell_block hbox).trans rfl
    obtain ⟨va, vc, hv⟩ := own_slice hst.own
    subst hv
    by_cases hlt : k < wn ∧ k < 3
    · obtain ⟨hl1, hl2⟩ := hlt
      have e1 : (k : Int) < wn := by omega
      have e2 : (k : Int) < 3 := by omega
      have d1 : decide ((k : Int) < wn) = true := decide_eq_true e1
      have d1' : decide (k < wn) = true := decide_eq_true hl1
      have d2 : decide ((k : Int) < 3) = true := decide_eq_true e2
      obtain ⟨cb, co, hwa, hcs⟩ := HW.out.2 (by omega)
      obtain ⟨x, hx, hcx⟩ := hcs k hl1
      subst hwa
      have hcl := World.block_lt_of_cell? _ _ hcx
      have cx : wr.cell? ⟨cb, co + k, none⟩ = some (.int .u8 x) := by rw [hst.bel.cell hcl]; exact hcx
      obtain ⟨i, hi⟩ : ∃ i, i = x % n := ⟨_, rfl⟩
      have hin : i < n := by rw [hi]; exact Nat.mod_lt _ (by omega)
      have hxz : (x : Int) % (n : Int) = (i : Int) := by rw [hi]; rfl
      have hxt : (x : Int).tmod (n : Int) = (i : Int) := by rw [Int.tmod_eq_emod_of_nonneg (by omega)]; exact hxz
      have bx1 : (x : Int) < 256 := by omega
      have hlk := hst.map.look (n := i) (by omega)
      have bi : (i : Int) < 6 := by omega
      by_cases hS : i ∈ S
      · rw [decide_eq_true hS] at hlk
        have G := Lib.hid (show HpRel w n wn bx (.slice va es.length vc) (.int .i64 ((k + 1 : Nat) : Int)) wr from ⟨k + 1, es, S, by omega, by omega, rfl, hst.skip⟩)
        clear hst hbox hcs hcx hcl hi hS c1 c2
        go_wp2_with fail
        go_roundw
        case rel => simpa using G.out
        case measure => simp [intOf]; omega
      · rw [decide_eq_false hS] at hlk
        obtain ⟨w2, hrun2, hm2, hg2⟩ := hst.map.put (n := i) (by omega) (by omega)
        have hb2 : w2.heap[w.heap.size]? = some (.cells #[.slice (some ⟨cb, co, none⟩) wn wc, .bool af, .int .i64 th] 44 (0, 0)) := (hg2.block _ (heap_lt hbox) (by simp)).trans hbox
        have k1 : w2.cell? ⟨w.heap.size, 1, none⟩ = some (.bool af) := (cell_block hb2).trans rfl
        have how2 : w2.ownsRow w.heap.size 36 4 (.slice va es.length vc) es.length (encells es) := by
          refine hst.own.kept hg2 (.inr (fun e => ?_))
          obtain ⟨D, ⟨es', clock, hh, _⟩, _⟩ := hst.map
          rcases hst.own.2 with ⟨e1, _⟩ | ⟨g', cap, cur, e1, _, hgg, _⟩
          · rw [e1] at e; cases e
          · rw [e1] at e
            have : g' = w.heap.size + 1 := by have : some g' = some (w.heap.size + 1) := e; exact Option.some.inj this
            rw [this, hh] at hgg
            cases hgg
        have HOF := Lib.hid (off_any (w := w2) (i := i) (by omega))
        have HDN := Lib.hid (dnew_any (w := w2) (i := i) (by omega))
        have HS := Lib.hid hst; have HM2 := Lib.hid hm2; have HG2 := Lib.hid hg2; have HO2 := Lib.hid how2; have HNS := Lib.hid hS; have HIN := Lib.hid hin
        have hel : es.length ≤ 3 := by have := hst.len; omega
        have HZ2 : Hid (w.heap.size ≤ w2.heap.size) := Lib.hid (Nat.le_trans hst.bel.size hg2.size)
        clear hst hbox hcs hcx hcl hi hS hm2 hg2 how2 hb2 c1 c2
        cases af with
        | false =>
          go_wp2_with fail
          refine HOF.out.mono ?_
          rintro e w3 ⟨rfl, rfl⟩
          go_wp2_with (at_builtin; refine wpList_own1 elEntries rfl _ _ rfl HO2.out rfl rfl ?c1 rfl ?c2 ?c3 ?c4 ?c5 ?_)
          case c1 => rfl
          case c2 => exact ⟨rfl, rfl, rfl⟩
          case c3 => unfold maxLen; omega
          case c4 => omega
          case c5 => exact HZ2.out
          intro g4 cap4 w4 hop4 hgr4 hg4
          have G := Lib.hid (show HpRel w n wn bx (.slice (some ⟨g4, 0, none⟩) (es.length + 1) cap4) (.int .i64 ((k + 1 : Nat) : Int)) w4 from ⟨k + 1, _, _, by omega, by omega, rfl, HS.out.add (x := i) HIN.out HNS.out (.inl rfl) HM2.out HG2.out hop4 hgr4 HO2.out⟩)
          clear hop4 hgr4 hg4
          go_wp2_with fail
          go_roundw
          case rel => simpa using G.out
          case measure => simp [intOf]; omega
        | true =>
          go_wp2_with fail
          refine HDN.out.mono ?_
          rintro e w3 ⟨rfl, rfl⟩
          go_wp2_with fail
          refine HOF.out.mono ?_
          rintro e w3 ⟨rfl, rfl⟩
          go_wp2_with (at_builtin; refine wpList_own1 elEntries rfl _ _ rfl HO2.out rfl rfl ?c1 rfl ?c2 ?c3 ?c4 ?c5 ?_)
          case c1 => rfl
          case c2 => exact ⟨rfl, rfl, rfl⟩
          case c3 => unfold maxLen; omega
          case c4 => omega
          case c5 => exact HZ2.out
          intro g4 cap4 w4 hop4 hgr4 hg4
          have G := Lib.hid (show HpRel w n wn bx (.slice (some ⟨g4, 0, none⟩) (es.length + 1) cap4) (.int .i64 ((k + 1 : Nat) : Int)) w4 from ⟨k + 1, _, _, by omega, by omega, rfl, HS.out.add (x := 100 + i) HIN.out HNS.out (.inr rfl) HM2.out HG2.out hop4 hgr4 HO2.out⟩)
          clear hop4 hgr4 hg4
          go_wp2_with fail
          go_roundw
          case rel => simpa using G.out
          case measure => simp [intOf]; omega
    · have hS := Lib.hid hst
      have htail : (es = [] → HpPost w A B N n m F G (.returned (.pointer none)) wr) ∧ (es ≠ [] → ∃ g, va = some ⟨g, 0, none⟩ ∧ Calls Tryz.prog 7 #[.pointer (some ⟨B.p, 0, none⟩), .int .i64 t, .slice (some ⟨g, 0, none⟩) es.length vc] wr (BgPost wr A B N t m F G es)) := by
        refine ⟨fun _ => .inl ⟨rfl, hst.bel⟩, fun hne => ?_⟩
        have hel : 1 ≤ es.length := by
          rcases Nat.eq_zero_or_pos es.length with e | e
          · exact absurd (List.length_eq_zero_iff.1 e) hne
          · exact e
        obtain ⟨g, hg, hcap⟩ : ∃ g, va = some ⟨g, 0, none⟩ ∧ es.length ≤ vc := by
          rcases hst.own.2 with ⟨_, e⟩ | ⟨g, cap, cur, e, _, _, hc, _⟩
          · omega
          · simp only [Value.slice.injEq] at e; exact ⟨g, e.1, by rw [e.2.2]; exact hc⟩
        subst hg
        have hl3 := hst.len
        obtain ⟨h2, mv2⟩ := H.out.below hst.bel
        refine ⟨g, rfl, begin_mw h2 hN HNB.out ht8 (HER.out t) ⟨⟨hel, by omega⟩, fun e he => ?_, fun e he => ?_, hst.nd⟩ (seen_own hst.own) hcap HB1.out HB2.out⟩
        · obtain ⟨j, h1, _, h3, _⟩ := hst.conf e he
          rw [HL.out]
          omega
        · obtain ⟨j, h1, _, h3, h4, h5⟩ := hst.conf e he
          omega
      have hlast : ∀ o w', es ≠ [] → BgPost wr A B N t m F G es (.returned (.tuple #[.pointer (some ⟨o, 0, none⟩), .int .i64 0])) w' → HpPost w A B N n m F G (.returned (.pointer (some ⟨o, 0, none⟩))) w' := by
        intro o w' hne ⟨ord, B', G', he, h1, h2, h3, h4, h5, h6⟩
        have ho : o = B'.o N := by
          unfold ptr at he
          simp only [Ending.returned.injEq, Value.tuple.injEq] at he
          simpa using he
        have hl3 := hS.out.len
        have hel : 1 ≤ es.length := by
          rcases Nat.eq_zero_or_pos es.length with e | e
          · exact absurd (List.length_eq_zero_iff.1 e) hne
          · exact e
        have mv2 := (H.out.below hS.out.bel).2
        refine .inr ⟨o, rfl, es, t, ord, B', G', ho, ht8, ⟨⟨⟨hel, by omega⟩, fun e he => ?_, fun e he => ?_, hS.out.nd⟩, fun e he => ?_⟩, h1, h2, h3, h4, h5, mv2.trans h6⟩
        · obtain ⟨j, h1, _, h3, _⟩ := hS.out.conf e he
          omega
        · obtain ⟨j, h1, _, h3, h4, h5⟩ := hS.out.conf e he
          omega
        · obtain ⟨j, h1, _, h3, h4, h5⟩ := hS.out.conf e he
          exact ⟨j, h1, h3, h4, h5⟩
      have HTA := Lib.hid htail; have HLA := Lib.hid hlast
      have hel3 : (es.length : Int) ≤ 3 := by have := hst.len; omega
      have hpost : ∀ e w', BgPost wr A B N t m F G es e w' → ∃ o, e = .returned (.tuple #[.pointer (some ⟨o, 0, none⟩), .int .i64 0]) := by
        intro e w' ⟨ord, B', G', he, _⟩
        exact ⟨_, he⟩
      have HPO := Lib.hid hpost
      clear htail hlast hpost hst hbox c1 hS
      by_cases hw2 : k < wn
      · have e1 : (k : Int) < wn := by omega
        have e2 : ¬ (k : Int) < 3 := by omega
        have d1 : decide ((k : Int) < wn) = true := decide_eq_true e1
        have d1' : decide (k < wn) = true := decide_eq_true hw2
        have d2 : decide ((k : Int) < 3) = false := decide_eq_false e2
        by_cases hes : es = []
        · have GG := Lib.hid (HTA.out.1 hes)
          subst hes
          clear HTA HLA HPO hlt hw2
          go_wp2_with fail
          go_returns
          exact GG.out
        · obtain ⟨g, hg, hcall⟩ := HTA.out.2 hes
          subst hg
          have HCA := Lib.hid hcall
          have hz : ¬ ((es.length : Int) = 0) := by
            intro e
            exact hes (List.length_eq_zero_iff.1 (by omega))
          have HES := Lib.hid hes
          clear hcall HTA hlt hw2 hes
          go_wp2_with fail
          refine HCA.out.mono ?_
          intro e w5 hp
          obtain ⟨o, rfl⟩ := HPO.out e w5 hp
          have GG := Lib.hid (HLA.out o w5 HES.out hp)
          clear hp
          go_wp2_with fail
          go_returns
          exact GG.out
      · have e1 : ¬ (k : Int) < wn := by omega
        have d1 : decide ((k : Int) < wn) = false := decide_eq_false e1
        have d1' : decide (k < wn) = false := decide_eq_false hw2
        by_cases hes : es = []
        · have GG := Lib.hid (HTA.out.1 hes)
          subst hes
          clear HTA HLA HPO hlt hw2
          go_wp2_with fail
          go_returns
          exact GG.out
        · obtain ⟨g, hg, hcall⟩ := HTA.out.2 hes
          subst hg
          have HCA := Lib.hid hcall
          have hz : ¬ ((es.length : Int) = 0) := by
            intro e
            exact hes (List.length_eq_zero_iff.1 (by omega))
          have HES := Lib.hid hes
          clear hcall HTA hlt hw2 hes
          go_wp2_with fail
          refine HCA.out.mono ?_
          intro e w5 hp
          obtain ⟨o, rfl⟩ := HPO.out e w5 hp
          have GG := Lib.hid (HLA.out o w5 HES.out hp)
          clear hp
          go_wp2_with fail
          go_returns
          exact GG.out
end Go.Proofs.YtjoipeojenfiiaaGreatDoor.Dv
