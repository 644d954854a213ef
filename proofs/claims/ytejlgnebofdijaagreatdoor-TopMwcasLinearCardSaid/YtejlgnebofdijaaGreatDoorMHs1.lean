/-
  The package history: a history as blocks; New, Invoke.
-/
import Derived.Test.YtejlgnebofdijaaGreatDoorMSp
import Derived.Test.YtejlgnebofdijaaGreatDoorMOpA
import Derived.StillTailTactics
import Derived.Deep.RegionLaw
import Derived.Deep.CutBlock
namespace Go.Proofs.YtejlgnebofdijaaGreatDoor.Dv
open Go.RowKit
open Ln (Cl HC Hi)
set_option linter.unusedVariables false

theorem own_agree {w w' : World} {X : Nat} {e : TypeId} {z n : Nat} {v : Value} {xs : List Value} (h : w.ownsRow X e z v n xs) (hag : ∀ b, v.ownBlock = some b → w'.heap[b]? = w.heap[b]?) : w'.ownsRow X e z v n xs := by
  refine ⟨h.1, ?_⟩
  rcases h.2 with hn | ⟨g, cap, cur, rfl, hb, hgg, rest⟩
  · exact .inl hn
  · exact .inr ⟨g, cap, cur, rfl, hb, (hag g rfl).trans hgg, rest⟩

theorem infoEvent : (Tryz.prog.info? 181).map (fun i => (i.zero, i.size, i.bytes)) = some (some (.agg #[.int .u8 0, .int .i64 0]), 2, 16) := by kernel_rfl
theorem elEvents : El Tryz.prog 175 181 2 16 := El.of Tryz.underlying175 infoEvent rfl (by omega)
theorem infoCall : (Tryz.prog.info? 168).map (fun i => (i.zero, i.size, i.bytes)) = some (some (.agg #[.int .i64 0, .int .u8 0, .int .u64 0, .int .u64 0, .int .u64 0, .int .i64 0, .int .i64 0, .int .i64 0, .int .u64 0, .bool false, .int .i64 0]), 11, 88) := by kernel_rfl
theorem elCalls : El Tryz.prog 124 168 11 88 := El.of Tryz.underlying124 infoCall rfl (by omega)

/-- The cells of an operation, of an end, of a call. -/
def opc (x : Cl) : List Value := if x.rd then [.int .u8 1, .int .u64 0, .int .u64 0, .int .u64 0] else [.int .u8 3, .int .u64 0, .int .u64 x.new, .int .u64 x.old]
def enc (e : Option (Nat × Nat)) : Int := match e with | none => -1 | some (p, _) => p
def rsc (e : Option (Nat × Nat)) : List Value := match e with | none => [.int .u64 0, .bool false, .int .i64 0] | some (_, v) => [.int .u64 v, .bool true, .int .i64 0]
def hcc (x : HC) : List Value := .int .i64 x.c.t :: opc x.c ++ [.int .i64 x.b, .int .i64 (enc x.e), .int .i64 x.era] ++ rsc x.e
def hccs (l : List HC) : List Value := l.flatMap hcc
theorem opv_form (x : Cl) : ∃ k a b : Nat, 1 ≤ k ∧ k ≤ 9 ∧ opv x = .agg #[.int .u8 k, .int .u64 0, .int .u64 a, .int .u64 b] ∧ opc x = [.int .u8 k, .int .u64 0, .int .u64 a, .int .u64 b] := by
  unfold opv opc
  split
  · exact ⟨1, 0, 0, by omega, by omega, rfl, rfl⟩
  · exact ⟨3, x.new, x.old, by omega, by omega, rfl, rfl⟩
theorem hcc_len (x : HC) : (hcc x).length = 11 := by
  obtain ⟨k, a, b, _, _, _, h⟩ := opv_form x.c
  unfold hcc
  rw [h]
  unfold rsc
  cases x.e <;> rfl
theorem hccs_snoc (l : List HC) (x : HC) : hccs (l ++ [x]) = hccs l ++ hcc x := by simp [hccs]

def hfun (ev cv : Value) (H : Hi) : Nat → Value
  | 0 => ev
  | 1 => cv
  | 10 => .int .i64 H.era
  | k => .bool (H.busy (k - 2))
/-- A history as blocks. -/
structure HAt (X : Nat) (w : World) (hb : Nat) (H : Hi) (ev cv : Value) : Prop where
  row : Row w hb 178 11 (hfun ev cv H)
  ev : ∃ xs, w.ownsRow X 181 2 ev H.n xs
  cv : w.ownsRow X 168 11 cv H.calls.length (hccs H.calls)
  lo : X ≤ hb
def HPost (X : Nat) (w : World) (hb : Nat) (H : Hi) (w' : World) : Prop := ∃ ev cv, HAt X w' hb H ev cv ∧ Below X w w'

theorem row_own_ne {w : World} {b : Nat} {T : TypeId} {n : Nat} {f : Nat → Value} {X z k : Nat} {e : TypeId} {v : Value} {xs : List Value} (h : Row w b T n f) (h' : w.ownsRow X e z v k xs) (hne : T ≠ e) : v.ownBlock ≠ some b := by
  intro hv
  obtain ⟨c, hc, _⟩ := h
  rcases h'.2 with ⟨rfl, _⟩ | ⟨g, cap, cur, rfl, _, hg, _⟩
  · cases hv
  · have : some g = some b := hv
    cases this
    rw [hc] at hg
    simp only [Option.some.injEq, Obj.cells.injEq] at hg
    exact hne hg.2.1
theorem HAt.below {X hb : Nat} {w w' : World} {H : Hi} {ev cv : Value} (h : HAt X w hb H ev cv) (hbl : Below w.heap.size w w') : HAt X w' hb H ev cv := by
  obtain ⟨xs, hx⟩ := h.ev
  exact ⟨h.row.of_block (hbl.block _ h.row.lt), ⟨xs, own_agree hx (fun b hb2 => hbl.block b (hx.lt b hb2).2)⟩, own_agree h.cv (fun b hb2 => hbl.block b (h.cv.lt b hb2).2), h.lo⟩

theorem hnew_any (w : World) : Calls Tryz.prog 43 #[] w fun e w' => ∃ hb, e = .returned (ptr hb) ∧ HPost w.heap.size w hb Hi.zero w' := by
  go_enter Tryz.func43, Tryz.ntmps43
  go_wp2_with fail
  go_returns
  refine ⟨w.heap.size, rfl, .slice none 0 0, .slice none 0 0, ⟨row_of_cells (heap_alloc_new _ _) (fun x hx => ?_), ⟨[], World.ownsRow_nil _ _ _ _⟩, World.ownsRow_nil _ _ _ _, Nat.le_refl _⟩, below_alloc (Below.refl _ _)⟩
  have : x = 0 ∨ x = 1 ∨ x = 2 ∨ x = 3 ∨ x = 4 ∨ x = 5 ∨ x = 6 ∨ x = 7 ∨ x = 8 ∨ x = 9 ∨ x = 10 := by omega
  rcases this with rfl | rfl | rfl | rfl | rfl | rfl | rfl | rfl | rfl | rfl | rfl <;> rfl

/-- append onto a row of one's own, as one step of a region that draws. -/
theorem step_append_own {P : Program} {ops : Array Oper} {o : Oper} {a : Act} {w : World} {K : Act → World → Prop} {Q : Exit → Act → World → Prop} {En : Prop} {t e : TypeId} {size bytes : Nat} (E : El P t e size bytes)
    (hg : o.guard = none) (s x : Operand) (hop : o.op = Op.call { callee := Callee.builtin Builtin.append, args := #[s, x], argTypes := #[t, t] })
    {base n N : Nat} {v : Value} {xs : List Value} {cs : Array Value} {T' : TypeId} (hown : w.ownsRow base e size v n xs) (hs : a.eval s = v) (hx : a.eval x = .slice (some ⟨N, 0, none⟩) 1 1) (hN : w.heap[N]? = some (.cells cs T' (0, 0)))
    (hcs : cs.size = size) (h1 : ∀ u ∈ cs.toList, u.oneCell' = true) (h63 : n + 1 ≤ maxLen) (hbytes : (n + 1) * bytes ≤ 140737488355328) (hbase : base ≤ w.heap.size)
    (hK : ∀ g cap w', w'.ownsRow base e size (.slice (some ⟨g, 0, none⟩) (n + 1) cap) (n + 1) (xs ++ cs.toList) → w.grownBy w' v.ownBlock → K (a.put o.dst (.slice (some ⟨g, 0, none⟩) (n + 1) cap)) w') :
    if Region.wanted o (yielded ops a.tmps) = true then Oper.wp P o a w K Q else En := by
  have hw : Region.wanted o (yielded ops a.tmps) = true := by simp [Region.wanted, hg]
  rw [if_pos hw]
  obtain ⟨g, cap, w', hrun, how, hgr, _⟩ := append_own2 (w := w) E hown ⟨N, 0, none⟩ 1 1 cs.toList (by simpa using hcs) (fun j u hj => by
    rw [Addr.add_lit, Nat.zero_add, cell_block hN]; simpa using hj) h1 (by omega) h63 hbytes hbase
  unfold Oper.wp
  simp [execOp, hop, resolve, invoke, builtin, hs, hx, hrun, Result.andThen]
  exact hK g cap w' how hgr

theorem HAt.congr {X hb : Nat} {w : World} {H H' : Hi} {ev cv : Value} (h : HAt X w hb H ev cv) (h1 : H'.n = H.n) (h2 : H'.calls = H.calls) (h3 : H'.busy = H.busy) (h4 : H'.era = H.era) : HAt X w hb H' ev cv := by
  refine ⟨h.row.congr (fun x hx => ?_), by rw [h1]; exact h.ev, by rw [h2]; exact h.cv, h.lo⟩
  unfold hfun
  rw [h3, h4]
theorem HAt.pushCall {X hb : Nat} {w w4 : World} {H : Hi} {ev cv v4 : Value} {y : HC} {n4 : Nat} (h : HAt X w hb H ev cv) (ho : w4.ownsRow X 168 11 v4 n4 (hccs H.calls ++ hcc y)) (hn : n4 = H.calls.length + 1) (hgr : w.grownBy w4 cv.ownBlock) :
    HAt X (w4.setCell ⟨hb, 1, none⟩ v4) hb { H with calls := H.calls ++ [y] } ev v4 := by
  subst hn
  obtain ⟨xs, hx⟩ := h.ev
  have hrow : Row w4 hb 178 11 (hfun ev cv H) := h.row.of_block (hgr.block _ h.row.lt (Ne.symm (row_own_ne h.row h.cv (by decide))))
  have hev : w4.ownsRow X 181 2 ev H.n xs := own_agree hx (fun b hb2 => by
    refine hgr.block b (hx.lt b hb2).2 (fun e => ?_)
    rcases own_ne hx h.cv (by decide) with e1 | e1
    · rw [e1] at hb2; cases hb2
    · exact e1 (hb2.trans e))
  refine ⟨(hrow.set 1 v4).congr (fun x hx => ?_), ⟨xs, own_agree hev (fun b hb2 => ?_)⟩, ?_, h.lo⟩
  · have : x = 0 ∨ x = 1 ∨ x = 2 ∨ x = 3 ∨ x = 4 ∨ x = 5 ∨ x = 6 ∨ x = 7 ∨ x = 8 ∨ x = 9 ∨ x = 10 := by omega
    rcases this with rfl | rfl | rfl | rfl | rfl | rfl | rfl | rfl | rfl | rfl | rfl <;> rfl
  · exact heap_set_ne (fun e => row_own_ne hrow hev (by decide) (by rw [hb2, e]))
  · dsimp only
    rw [hccs_snoc, List.length_append]
    exact own_agree ho (fun b hb2 => heap_set_ne (fun e => row_own_ne hrow ho (by decide) (by rw [hb2, e])))
theorem HAt.pushEvent {X hb : Nat} {w w4 : World} {H : Hi} {ev cv v4 : Value} {ys : List Value} {n4 : Nat} (h : HAt X w hb H ev cv) (ho : w4.ownsRow X 181 2 v4 n4 ys) (hn : n4 = H.n + 1) (hgr : w.grownBy w4 ev.ownBlock) :
    HAt X (w4.setCell ⟨hb, 0, none⟩ v4) hb { H with n := H.n + 1 } v4 cv := by
  subst hn
  obtain ⟨xs, hx⟩ := h.ev
  have hrow : Row w4 hb 178 11 (hfun ev cv H) := h.row.of_block (hgr.block _ h.row.lt (Ne.symm (row_own_ne h.row hx (by decide))))
  have hcv : w4.ownsRow X 168 11 cv H.calls.length (hccs H.calls) := own_agree h.cv (fun b hb2 => by
    refine hgr.block b (h.cv.lt b hb2).2 (fun e => ?_)
    rcases own_ne h.cv hx (by decide) with e1 | e1
    · rw [e1] at hb2; cases hb2
    · exact e1 (hb2.trans e))
  refine ⟨(hrow.set 0 v4).congr (fun x hx => ?_), ⟨ys, own_agree ho (fun b hb2 => heap_set_ne (fun e => row_own_ne hrow ho (by decide) (by rw [hb2, e])))⟩, own_agree hcv (fun b hb2 => heap_set_ne (fun e => row_own_ne hrow hcv (by decide) (by rw [hb2, e]))), h.lo⟩
  have : x = 0 ∨ x = 1 ∨ x = 2 ∨ x = 3 ∨ x = 4 ∨ x = 5 ∨ x = 6 ∨ x = 7 ∨ x = 8 ∨ x = 9 ∨ x = 10 := by omega
  rcases this with rfl | rfl | rfl | rfl | rfl | rfl | rfl | rfl | rfl | rfl | rfl <;> rfl
theorem HAt.setBusy {X hb t : Nat} {w : World} {H : Hi} {ev cv : Value} (h : HAt X w hb H ev cv) (ht : t < 8) (b : Bool) : HAt X (w.setCell ⟨hb, 2 + t, none⟩ (.bool b)) hb { H with busy := Ln.up H.busy t b } ev cv := by
  obtain ⟨xs, hx⟩ := h.ev
  refine ⟨(h.row.set (2 + t) (.bool b)).congr (fun x hx => ?_), ⟨xs, own_agree hx (fun c hb2 => heap_set_ne (fun e => row_own_ne h.row hx (by decide) (by rw [hb2, e])))⟩, own_agree h.cv (fun c hb2 => heap_set_ne (fun e => row_own_ne h.row h.cv (by decide) (by rw [hb2, e]))), h.lo⟩
  have hx2 : x = 0 ∨ x = 1 ∨ x = 10 ∨ ∃ k, k < 8 ∧ x = 2 + k := by
    by_cases h2 : x < 2
    · omega
    · by_cases h10 : x = 10
      · exact .inr (.inr (.inl h10))
      · exact .inr (.inr (.inr ⟨x - 2, by omega, by omega⟩))
  rcases hx2 with rfl | rfl | rfl | ⟨k, hk, rfl⟩
  · rw [if_neg (by omega)]; rfl
  · rw [if_neg (by omega)]; rfl
  · rw [if_neg (by omega)]; rfl
  · have e1 : ∀ H' : Hi, hfun ev cv H' (2 + k) = .bool (H'.busy k) := fun H' => by
      have h8 : k = 0 ∨ k = 1 ∨ k = 2 ∨ k = 3 ∨ k = 4 ∨ k = 5 ∨ k = 6 ∨ k = 7 := by omega
      rcases h8 with rfl | rfl | rfl | rfl | rfl | rfl | rfl | rfl <;> rfl
    rw [e1, e1]
    dsimp only
    by_cases e : k = t
    · rw [e, Ln.up_same, if_pos rfl]
    · rw [Ln.up_ne _ _ e, if_neg (by omega)]

/-- The cells that Invoke reads, in every world behind. -/
theorem HAt.reads {X hb : Nat} {w w' : World} {H : Hi} {ev cv : Value} (h : HAt X w hb H ev cv) {ob : Nat} {oc : Array Value} {T : TypeId} (hop : w.heap[ob]? = some (.cells oc T (0, 0))) (hbl : Below w.heap.size w w') :
    w'.cell? ⟨hb, 0, none⟩ = some ev ∧ w'.cell? ⟨hb, 1, none⟩ = some cv ∧ w'.cell? ⟨hb, 10, none⟩ = some (.int .i64 H.era) ∧ w'.cell? ⟨ob, 0, none⟩ = oc[0]? ∧ w'.cell? ⟨ob, 1, none⟩ = oc[1]? ∧ w'.cell? ⟨ob, 2, none⟩ = oc[2]? ∧ w'.cell? ⟨ob, 3, none⟩ = oc[3]? := by
  have h' := h.below hbl
  have hop' := (hbl.block ob (heap_lt hop)).trans hop
  exact ⟨h'.row.cell 0 (by omega), h'.row.cell 1 (by omega), h'.row.cell 10 (by omega), cell_block hop', cell_block hop', cell_block hop', cell_block hop'⟩
/-- Only the history's own blocks have changed. -/
def HFr (hb : Nat) (ev cv : Value) (w w' : World) : Prop := Only (fun b => b = hb ∨ ev.ownBlock = some b ∨ cv.ownBlock = some b) w w'
theorem Only.grown {P : Nat → Prop} {a w w' : World} {v : Value} (h : Only P a w) (hgr : w.grownBy w' v.ownBlock) (hv : ∀ b, b < a.heap.size → v.ownBlock = some b → P b) : Only P a w' :=
  h.trans (G := fun b => v.ownBlock = some b) ⟨hgr.os, hgr.tape, hgr.output, hgr.size, fun b hb hn => hgr.block b hb (fun e => hn e.symm)⟩ hv
def IvCut (X : Nat) (w : World) (hb : Nat) (H : Hi) (ev : Value) (x : Cl) (cv0 : Value) (wc : World) : Prop := ∃ cv, HAt X wc hb { H with calls := H.calls ++ [⟨x, H.n, none, H.era⟩] } ev cv ∧ Below X w wc ∧ HFr hb ev cv0 w wc

set_option maxHeartbeats 4000000 in
set_option maxRecDepth 4000 in
theorem hinvoke_any {X hb c : Nat} {w0 : World} {H : Hi} {ev cv : Value} {x : Cl} (h0 : HAt X w0 hb H ev cv) (ht : x.t < 8) (hbz : H.busy x.t = false) (hn : H.n ≤ 1000) (hl : H.calls.length ≤ 1000) (hX : X ≤ w0.heap.size) :
    Calls Tryz.prog 46 #[ptr hb, .int .i64 x.t, opv x] w0 fun e w' => e = .returned (.int .i64 H.calls.length) ∧ HPost X w0 hb (H.beg c x) w' ∧ HFr hb ev cv w0 w' := by
  obtain ⟨k, a, b, hk1, hk9, ho, hoc⟩ := opv_form x
  rw [ho]
  have hbl := below_alloc (Below.refl w0.heap.size w0) (o := .cells #[.int .u8 k, .int .u64 0, .int .u64 a, .int .u64 b] 136)
  have hop := heap_alloc_new w0 (.cells #[.int .u8 k, .int .u64 0, .int .u64 a, .int .u64 b] 136)
  obtain ⟨w, hw⟩ : ∃ w, w = w0.alloc (.cells #[.int .u8 k, .int .u64 0, .int .u64 a, .int .u64 b] 136) := ⟨_, rfl⟩
  rw [← hw] at hbl hop
  have h := h0.below hbl
  have o0 : w.cell? ⟨w0.heap.size, 0, none⟩ = some (.int .u8 k) := (cell_block hop).trans rfl
  have c0 : w.cell? ⟨hb, 0, none⟩ = some ev := h.row.cell 0 (by omega)
  have c1 : w.cell? ⟨hb, 1, none⟩ = some cv := h.row.cell 1 (by omega)
  have ct : w.cell? ⟨hb, 2 + x.t, none⟩ = some (.bool false) := by
    have := h.row.cell (2 + x.t) (by omega)
    rw [this, ← hbz]
    have h8 : x.t = 0 ∨ x.t = 1 ∨ x.t = 2 ∨ x.t = 3 ∨ x.t = 4 ∨ x.t = 5 ∨ x.t = 6 ∨ x.t = 7 := by omega
    rcases h8 with e | e | e | e | e | e | e | e <;> rw [e] <;> rfl
  obtain ⟨ea, ec, rfl⟩ : ∃ ea ec, ev = .slice ea H.n ec := by obtain ⟨xs, hx⟩ := h.ev; exact own_slice hx
  obtain ⟨ca, cc, rfl⟩ := own_slice h.cv
  have b1 : (x.t : Int) < 8 := by omega
  have b2 : (1 : Int) ≤ k := by omega
  have b3 : (k : Int) ≤ 9 := by omega
  have b4 : (H.n : Int) ≤ 1000 := by omega
  have b5 : (H.calls.length : Int) ≤ 1000 := by omega
  have d1 : decide ((x.t : Int) < 0) = false := by simp
  have d2 : decide ((8 : Int) ≤ x.t) = false := by simp; omega
  have d3 : decide ((k : Int) < 1) = false := by simp; omega
  have d4 : decide ((9 : Int) < k) = false := by simp; omega
  -- the two worlds of the drawn region
  have R1 := h.reads hop (Below.refl _ w).drew
  have hbl2 : Below w.heap.size w (w.drew.alloc (.cells #[.int .i64 x.t, .int .u8 k, .int .u64 0, .int .u64 a, .int .u64 b, .int .i64 H.n, .int .i64 (-1), .int .i64 H.era, .int .u64 0, .bool false, .int .i64 0] 168)) := below_alloc (Below.refl _ w).drew
  have R2 := h.reads hop (below_alloc (Below.refl _ w) (o := .cells #[.int .i64 x.t, .int .u8 k, .int .u64 0, .int .u64 a, .int .u64 b, .int .i64 H.n, .int .i64 (-1), .int .i64 H.era, .int .u64 0, .bool false, .int .i64 0] 168))
  have hN : (w.drew.alloc (.cells #[.int .i64 x.t, .int .u8 k, .int .u64 0, .int .u64 a, .int .u64 b, .int .i64 H.n, .int .i64 (-1), .int .i64 H.era, .int .u64 0, .bool false, .int .i64 0] 168)).heap[w.heap.size]? = some (.cells #[.int .i64 x.t, .int .u8 k, .int .u64 0, .int .u64 a, .int .u64 b, .int .i64 H.n, .int .i64 (-1), .int .i64 H.era, .int .u64 0, .bool false, .int .i64 0] 168 (0, 0)) := heap_alloc_new w.drew _
  have HA2 := Lib.hid (h.below hbl2)
  have HN := Lib.hid hN
  have hcy : hcc ⟨x, H.n, none, H.era⟩ = [.int .i64 x.t, .int .u8 k, .int .u64 0, .int .u64 a, .int .u64 b, .int .i64 H.n, .int .i64 (-1), .int .i64 H.era, .int .u64 0, .bool false, .int .i64 0] := by
    unfold hcc
    rw [hoc]
    rfl
  have HY := Lib.hid (fun (w4 : World) (v4 : Value) (ho : w4.ownsRow X 168 11 v4 (H.calls.length + 1) (hccs H.calls ++ [.int .i64 x.t, .int .u8 k, .int .u64 0, .int .u64 a, .int .u64 b, .int .i64 H.n, .int .i64 (-1), .int .i64 H.era, .int .u64 0, .bool false, .int .i64 0])) (hgr : (w.drew.alloc (.cells #[.int .i64 x.t, .int .u8 k, .int .u64 0, .int .u64 a, .int .u64 b, .int .i64 H.n, .int .i64 (-1), .int .i64 H.era, .int .u64 0, .bool false, .int .i64 0] 168)).grownBy w4 (Value.slice ca H.calls.length cc).ownBlock) =>
    show w4.cell? ⟨hb, 1, none⟩ = some (.slice ca H.calls.length cc) ∧ w4.frozen? ⟨hb, 1, none⟩ = false ∧ IvCut X w0 hb H (.slice ea H.n ec) x (.slice ca H.calls.length cc) (w4.setCell ⟨hb, 1, none⟩ v4) from by
      have h2 := h.below hbl2
      have hrow : Row w4 hb 178 11 (hfun (.slice ea H.n ec) (.slice ca H.calls.length cc) H) := h2.row.of_block (hgr.block _ h2.row.lt (Ne.symm (row_own_ne h2.row h2.cv (by decide))))
      have hb4 : Below X w0 w4 := below_grown ((hbl.trans (hbl2.mono hbl.size)).mono hX) hgr (Nat.le_trans hX (Nat.le_trans hbl.size hbl2.size)) (fun b2 hb2 => (h2.cv.lt b2 hb2).1)
      exact ⟨hrow.cell 1 (by omega), hrow.free 1, _, h2.pushCall (by rw [hcy]; exact ho) rfl hgr, hb4.setCell h.lo _, Only.set ((Only.of_below (hbl.trans (hbl2.mono hbl.size))).grown hgr (fun b _ e => .inr (.inr e))) (.inl rfl) _⟩)
  obtain ⟨r10, r11, r12, r13, r14, r15, r16⟩ := R1
  obtain ⟨r20, r21, r22, r23, r24, r25, r26⟩ := R2
  have HH := Lib.hid h; have HW := Lib.hid hw; have HBL := Lib.hid hbl; have HBL2 := Lib.hid hbl2
  clear h hbz h0 hbl hbl2 hop hw hN
  unfold ptr
  go_enter Tryz.func46, Tryz.ntmps46
  go_upto_region 1 with fail
  rw [← HW.out]
  go_upto_region 4 with fail
  have HC := Lib.hid (show (H.calls.length : Nat) + 1 ≤ maxLen ∧ (H.calls.length + 1) * 88 ≤ 140737488355328 by unfold maxLen; omega)
  have HXX := Lib.hid (show X ≤ (w.drew.alloc (.cells #[.int .i64 x.t, .int .u8 k, .int .u64 0, .int .u64 a, .int .u64 b, .int .i64 H.n, .int .i64 (-1), .int .i64 H.era, .int .u64 0, .bool false, .int .i64 0] 168)).heap.size from Nat.le_trans hX (Nat.le_trans HBL.out.size HBL2.out.size))
  go_cut [] (fun wc => IvCut X w0 hb H (.slice ea H.n ec) x (.slice ca H.calls.length cc) wc)
  case first =>
    clear c0 c1 ct o0 d1 d2 d3 d4 b1 b2 b3 hk1 hk9 ho hcy HW HH HBL HBL2
    go_region_law (first | (refine step_append_own elCalls rfl _ _ rfl HA2.out.cv rfl rfl HN.out rfl (by repeat (first | exact List.forall_mem_nil _ | refine List.forall_mem_cons.2 ⟨rfl, ?_⟩)) HC.out.1 HC.out.2 HXX.out ?_; intro g4 cap4 w4 hop4 hgr4; obtain ⟨z1, z2, z3⟩ := HY.out _ _ hop4 hgr4; have Z3 := Lib.hid z3; clear z3 hop4 hgr4))
    all_goals
      go_wp2_with fail
      go_meet
      exact Z3.out
  case rest =>
    obtain ⟨cv5, h5, hb5, hfr5⟩ := hcut
    have HFR5 := Lib.hid hfr5
    clear hfr5
    obtain ⟨xs, hx5⟩ := h5.ev
    have k0 : wc.cell? ⟨hb, 0, none⟩ = some (.slice ea H.n ec) := h5.row.cell 0 (by omega)
    have H5 := Lib.hid h5; have HX5 := Lib.hid hx5; have HB5 := Lib.hid hb5
    clear h5 hx5 hb5 HY HA2 HN HW HH HBL HBL2 HXX hcy r10 r11 r12 r13 r14 r15 r16 r20 r21 r22 r23 r24 r25 r26 c0 c1 ct o0
    go_wp2_with (at_builtin; refine wpList_own1 elEvents rfl _ _ rfl HX5.out rfl rfl ?c1 rfl ?c2 ?c3 ?c4 ?c5 ?_)
    case c1 => rfl
    case c2 => exact ⟨rfl, rfl⟩
    case c3 => show H.n + 1 ≤ _; unfold maxLen; omega
    case c4 => show (H.n + 1) * 16 ≤ _; omega
    case c5 => exact Nat.le_trans hX HB5.out.size
    intro g6 cap6 w6 hop6 hgr6 hg6
    have h6 := H5.out.pushEvent hop6 rfl hgr6
    have h7 := h6.setBusy ht true
    have hrow6 : Row w6 hb 178 11 _ := H5.out.row.of_block (hgr6.block _ H5.out.row.lt (Ne.symm (row_own_ne H5.out.row HX5.out (by decide))))
    have l0 := hrow6.cell 0 (by omega)
    have l1 := hrow6.cell (2 + x.t) (by omega)
    have m0 := hrow6.free 0
    have m1 := hrow6.free (2 + x.t)
    have lv : ∃ v, w6.cell? ⟨hb, 2 + x.t, none⟩ = some v := ⟨_, l1⟩
    obtain ⟨lv, hlv⟩ := lv
    have hb7 := ((below_grown HB5.out hgr6 (Nat.le_trans hX HB5.out.size) (fun b2 hb2 => (HX5.out.lt b2 hb2).1)).setCell (p := ⟨hb, 0, none⟩) H5.out.lo (.slice (some ⟨g6, 0, none⟩) (H.n + 1) cap6)).setCell (p := ⟨hb, 2 + x.t, none⟩) H5.out.lo (.bool true)
    have GF := Lib.hid (Only.set (Only.set (HFR5.out.grown hgr6 (fun b _ e => .inr (.inl e))) (b := hb) (i := 0) (.inl rfl) (.slice (some ⟨g6, 0, none⟩) (H.n + 1) cap6)) (b := hb) (i := 2 + x.t) (.inl rfl) (.bool true))
    have GG := Lib.hid (show HPost X w0 hb (H.beg c x) _ from ⟨_, _, h7.congr rfl rfl rfl rfl, hb7⟩)
    clear h6 h7 hrow6 hb7 hop6 hgr6 hg6 H5 HX5 HB5 HFR5 k0 l1
    go_wp2_with fail
    go_returns
    exact ⟨rfl, GG.out, GF.out⟩
end Go.Proofs.YtejlgnebofdijaaGreatDoor.Dv
