/-
  bytesOf, From of the package device, at blocks of any words; how a new block enters the evaluator's state.
  bytesOf and From are answered by other means: it is so in the world.
-/
import Derived.Test.YtegfafebbnlicaaGreatDoorMFeA
import Derived.Test.YtegfafebbnlicaaGreatDoorMBaseB
import Derived.IntWalk
import Derived.Test.YtegfafebbnlicaaGreatDoorMFeB
namespace Go.Proofs.YtegfafebbnlicaaGreatDoor.Fe
open Go.RowKit Dv
open Word (byt Bytes cellK pw step_or cellK_lt cellK_zero cellK_other)

theorem infoU64 : (Tryz.prog.info? 29).map (fun i => (i.zero, i.size, i.bytes)) = some (some (.int .u64 0), 1, 8) := by kernel_rfl
theorem infoByte : (Tryz.prog.info? 5).map (fun i => (i.zero, i.size, i.bytes)) = some (some (.int .u8 0), 1, 1) := by kernel_rfl
theorem row_made {w : World} {e : TypeId} {v : Value} {n : Nat} {f : Nat → Value} (hv : v.cells = #[v]) (hf : ∀ x, x < n → f x = v) : Row (w.alloc (.cells (madeCells v.cells n) e)) w.heap.size e n f := by
  refine ⟨_, heap_alloc_new _ _, ?_, fun x hx => ?_⟩
  · unfold madeCells; simp [hv]
  · unfold madeCells
    rw [Array.getElem?_map, Array.getElem?_range, if_pos (by simpa [hv] using hx), hf x hx]
    simp [hv, Nat.mod_one]

/-- Byte k of the words g. -/
def byteAt (g : Nat → Nat) (k : Nat) : Nat := g (k / 8) / 2 ^ (8 * (k % 8)) % 256
theorem byteAt_lt (g : Nat → Nat) (k : Nat) : byteAt g k < 256 := Nat.mod_lt _ (by omega)

def BofRel (w : World) (N : Nat) (g : Nat → Nat) (B : Nat) (i : Value) (wr : World) : Prop :=
  ∃ k : Nat, k ≤ 8 * N ∧ i = .int .i64 (k : Nat) ∧ Row wr B 5 (8 * N) (fun x => .int .u8 ((if x < k then byteAt g x else 0 : Nat) : Int)) ∧ Below w.heap.size w wr

theorem bytesOf_row {w : World} {b N cap : Nat} {g : Nat → Nat} (hb : b < w.heap.size) (hrow : ∀ x, x < N → w.cell? ⟨b, x, none⟩ = some (.int .u64 (g x : Nat))) (hN : N ≤ 100000) (hg : ∀ x, g x < 18446744073709551616) :
    Calls Tryz.prog 326 #[.slice (some ⟨b, 0, none⟩) N cap] w fun r w' => ∃ B, w.heap.size ≤ B ∧ r = .returned (.slice (some ⟨B, 0, none⟩) (8 * N) (8 * N)) ∧ Row w' B 5 (8 * N) (fun x => .int .u8 (byteAt g x : Nat)) ∧ Below w.heap.size w w' := by
  obtain ⟨i, hi, hz, hsz, hby⟩ := info_parts infoByte
  have hmk := run_make (P := Tryz.prog) w 249 5 i _ Tryz.underlying249 hi hz .i64 .i64 ((N : Int) * 8) ((N : Int) * 8) (by omega) (Int.le_refl _) (by rw [hby]; omega) (by omega)
  have e : ((N : Int) * 8).toNat = 8 * N := by omega
  rw [e, hsz, Nat.mul_one] at hmk
  obtain ⟨W, hW⟩ : ∃ W, W = w.alloc (.cells (madeCells (Value.int .u8 0).cells (8 * N)) 5) := ⟨_, rfl⟩
  have hst : BofRel w N g w.heap.size (.int .i64 (0 : Nat)) W := by
    refine ⟨0, by omega, rfl, ?_, by rw [hW]; exact (Below.refl _ _).alloc (Nat.le_refl _) _⟩
    rw [hW]
    exact row_made rfl (fun x hx => by simp)
  rw [← hW] at hmk
  have HS := Lib.hid hst; have HR := Lib.hid hrow; have HG := Lib.hid hg; have HL := Lib.hid hb
  have b1 : (N : Int) ≤ 100000 := by omega
  obtain ⟨B, hB⟩ : ∃ B, B = w.heap.size := ⟨_, rfl⟩
  rw [← hB] at HS hmk ⊢
  have HB := Lib.hid hB
  obtain ⟨M, hM⟩ : ∃ M, M = 8 * N := ⟨_, rfl⟩
  rw [← hM] at hmk ⊢
  have HM := Lib.hid hM
  have b2 : (M : Int) ≤ 800000 := by omega
  clear hst hrow hg hW e hi hz hsz hby hB hM hb
  go_enter Tryz.func326, Tryz.ntmps326
  go_wp2_with fail
  go_loopw [4, 11] (fun _ i wr => BofRel w N g B i wr) (fun _ i _ => M - (intOf i).toNat)
  case atStart => exact HS.out
  case round =>
    obtain ⟨k, hk, rfl, hr, hbel⟩ := hrel
    by_cases hlt : k < M
    · have hlt2 : (k : Int) < M := by omega
      have hk8 : k / 8 < N := by have := HM.out; omega
      have c1 : wr.cell? ⟨b, k / 8, none⟩ = some (.int .u64 (g (k / 8))) := by
        rw [hbel.cell HL.out]; exact HR.out _ hk8
      have c2 := hr.cell k (by have := HM.out; omega)
      have f2 := hr.free k
      have bk : (k : Int) / 8 < N := by omega
      have hgk := HG.out (k / 8)
      have G := Lib.hid (show BofRel w N g B (.int .i64 ((k + 1 : Nat) : Int)) (wr.setCell ⟨B, k, none⟩ (.int .u8 (byteAt g k))) from ⟨k + 1, by have := HM.out; omega, rfl, (hr.set k (.int .u8 (byteAt g k))).congr (fun x hx => by
        by_cases e : x = k
        · rw [if_pos e, if_pos (by omega), e]
        · rw [if_neg e]
          by_cases e2 : x < k
          · rw [if_pos e2, if_pos (by omega)]
          · rw [if_neg e2, if_neg (by omega)]), hbel.setCell (by rw [← HB.out]; exact Nat.le_refl _) _⟩)
      clear hr hbel hk
      obtain ⟨x, hx⟩ : ∃ x, x = g (k / 8) := ⟨_, rfl⟩
      rw [← hx] at c1 hgk
      have HX := Lib.hid hx; clear hx
      go_wp2_with fail
      go_roundw
      case rel =>
        have h := G.out
        have e : ((byteAt g k : Nat) : Int) = (x : Int) / 2 ^ (k % 8 * 8) % 256 := by
          unfold byteAt
          rw [← HX.out, Nat.mul_comm 8]
          simp
        rw [e] at h
        simpa using h
      case measure => simp [intOf]; omega
    · obtain rfl : k = M := by have := HM.out; omega
      have G := Lib.hid (show Row wr B 5 k (fun x => .int .u8 (byteAt g x : Nat)) from by
        have hr' := hr
        rw [← HM.out] at hr'
        exact hr'.congr (fun x hx => by rw [if_pos hx]))
      have G2 := Lib.hid hbel
      have hBB : w.heap.size ≤ B := by rw [← HB.out]; exact Nat.le_refl _
      have G3 := Lib.hid hBB
      rw [← HB.out] at G2 G3
      clear hr hbel hk hlt hBB
      go_wp2_with fail
      go_returns
      exact ⟨B, G3.out, rfl, G.out, G2.out⟩

/-! ### From -/
def bl (h : Nat → Nat) (n : Nat) : List Int := (List.range n).map (fun k => ((h k : Nat) : Int))
theorem byt_bl (h : Nat → Nat) (n i : Nat) : byt (bl h n) i = if i < n then h i else 0 := by
  unfold byt bl
  by_cases e : i < n
  · simp [List.getD, e]
  · simp [List.getD, e]
theorem bytes_bl {h : Nat → Nat} (hh : ∀ k, h k < 256) (n : Nat) : Bytes (bl h n) := by
  intro i
  rw [byt_bl]
  split
  · exact hh i
  · omega
theorem pw_of_words {G : Nat → Nat} {n j : Nat} (hj : 8 * j + 8 ≤ n) (m : Nat) (hm : m ≤ 8) : pw (bl (byteAt G) n) j m = G j % 2 ^ (8 * m) := by
  induction m with
  | zero => simp [pw, Nat.mod_one]
  | succ m ih =>
    simp only [pw]
    rw [ih (by omega), byt_bl, if_pos (by omega)]
    unfold byteAt
    rw [show (8 * j + m) / 8 = j by omega, show (8 * j + m) % 8 = m by omega]
    have e : 2 ^ (8 * (m + 1)) = 2 ^ (8 * m) * 256 := by rw [Nat.mul_add, Nat.pow_add]
    rw [e, Nat.mod_mul, Nat.mul_comm (2 ^ (8 * m))]
theorem cellK_words {G : Nat → Nat} {L j : Nat} (hG : ∀ x, G x < 18446744073709551616) (h : j < 8 * L) : cellK (bl (byteAt G) (64 * L)) (64 * L) j = G j := by
  unfold cellK
  rw [show min 8 (64 * L - 8 * j) = 8 by omega, pw_of_words (by omega) 8 (Nat.le_refl _)]
  have := hG j
  exact Nat.mod_eq_of_lt (by omega)

def FrRel (w : World) (L : Nat) (h : Nat → Nat) (B : Nat) (i : Value) (wr : World) : Prop :=
  ∃ k : Nat, k ≤ 64 * L ∧ i = .int .i64 (k : Nat) ∧ Row wr B 29 (8 * L) (fun j => u64 (cellK (bl h (64 * L)) k j)) ∧ Below w.heap.size w wr

end Go.Proofs.YtegfafebbnlicaaGreatDoor.Fe

namespace Go.Proofs.YtegfafebbnlicaaGreatDoor.Ev
open Go Go.RowKit
set_option linter.unusedVariables false
set_option linter.unusedSimpArgs false

theorem R.unused {G : Nat} {ρ : Ren} {st : St} {w : World} (hR : R G ρ st w) : ρ st.nx = none := by
  cases h : ρ st.nx with
  | none => rfl
  | some c => exact absurd (hR.dom _ _ h).1 (Nat.lt_irrefl _)
/-- A new block in a world that has grown. -/
theorem R.grown {G : Nat} {ρ : Ren} {st : St} {w w' : World} (hR : R G ρ st w) {o : EObj} {x : Obj} {c : Nat} (hbel : Below w.heap.size w w') (hc : w.heap.size ≤ c) (hx : w'.heap[c]? = some x) (ho : ObjR (ρ.add st.nx c (objN x)) o x) :
    R G (ρ.add st.nx c (objN x)) (st.new o) w' ∧ Went ρ st w (ρ.add st.nx c (objN x)) (st.new o) w' := by
  have hb := hR.unused
  have hle : Ren.le ρ (ρ.add st.nx c (objN x)) := Ren.le_add hb (fun k hk => by have := (hR.dom k _ hk).2; omega)
  have hold : ∀ (c : Nat) (y : Obj), w.heap[c]? = some y → w'.heap[c]? = some y := fun c y hy => (hbel.block c (heap_lt hy)).trans hy
  refine ⟨⟨?_, ?_, ?_, ?_⟩, ?_⟩
  · intro b1 o1 h1
    simp only [St.new, Tr.get_set] at h1
    by_cases hb1 : b1 = st.nx
    · rw [if_pos hb1] at h1; cases h1
      exact ⟨c, x, by rw [hb1, Ren.add_at], hx, ho, (Ren.add_sz ρ _ _ _).symm⟩
    · rw [if_neg hb1] at h1
      obtain ⟨c', y, hc', hy, hr, hN⟩ := hR.live b1 o1 h1
      exact ⟨c', y, (hle _ _ hc').1, hold c' y hy, hr.mono hle, by rw [(hle _ _ hc').2]; exact hN⟩
  · intro b1 b2 o1 o2 c' h1 h2 hc1 hc2
    simp only [St.new, Tr.get_set] at h1 h2
    by_cases e1 : b1 = st.nx <;> by_cases e2 : b2 = st.nx
    · rw [e1, e2]
    · rw [e1, Ren.add_at] at hc1; rw [Ren.add_ne ρ e2] at hc2; cases hc1
      have := (hR.dom b2 _ hc2).2; omega
    · rw [e2, Ren.add_at] at hc2; rw [Ren.add_ne ρ e1] at hc1; cases hc2
      have := (hR.dom b1 _ hc1).2; omega
    · rw [Ren.add_ne ρ e1] at hc1; rw [Ren.add_ne ρ e2] at hc2
      simp only [e1, e2, if_false] at h1 h2
      exact hR.inj b1 b2 o1 o2 c' h1 h2 hc1 hc2
  · intro b1 c' hc'
    by_cases e1 : b1 = st.nx
    · rw [e1, Ren.add_at] at hc'; cases hc'
      exact ⟨by rw [e1]; exact Nat.lt_succ_self _, heap_lt hx⟩
    · rw [Ren.add_ne ρ e1] at hc'
      have := hR.dom b1 c' hc'
      exact ⟨Nat.lt_succ_of_lt this.1, Nat.lt_of_lt_of_le this.2 hbel.size⟩
  · intro g hg
    exact (hle g g (hR.glob g hg)).1
  · refine ⟨hle, Nat.le_succ _, hbel.size, fun c' y hy _ => hold c' y hy, ?_, ?_, hbel.os, hbel.tape, hbel.output⟩
    · intro b1 o1 c' h1 hc'
      simp only [St.new, Tr.get_set] at h1
      by_cases e1 : b1 = st.nx
      · rw [e1, Ren.add_at] at hc'; cases hc'
        exact .inr hc
      · rw [Ren.add_ne ρ e1] at hc'
        simp only [e1, if_false] at h1
        exact .inl ⟨b1, o1, h1, hc'⟩
    · intro b1 c' h1 h2
      by_cases e1 : b1 = st.nx
      · omega
      · rw [Ren.add_ne ρ e1] at h2; rw [h1] at h2; cases h2

/-- Is it a word? -/
noncomputable def isW (v : Value) : Bool :=
  match v with
  | .int .u64 (.ofNat k) => Nat.ble (Nat.succ k) 18446744073709551616
  | _ => false
theorem isW_spec {v : Value} (h : isW v = true) : ∃ k, v = .int .u64 (.ofNat k) ∧ k < 18446744073709551616 := by
  unfold isW at h
  split at h
  · exact ⟨_, rfl, ble_iff.1 h⟩
  · cases h
noncomputable def andB (a b : Bool) : Bool := @Bool.rec (fun _ => Bool → Bool) (fun _ => false) (fun b => b) a b
theorem andB_iff {a b : Bool} : andB a b = true ↔ a = true ∧ b = true := by cases a <;> cases b <;> simp [andB]
/-- Are all cells words? -/
noncomputable def allB (c : Bt Value) : Bool :=
  @Bt.rec Value (fun _ => Bool) true (fun v _ _ il ir => andB (@Option.rec Value (fun _ => Bool) true isW v) (andB il ir)) c
noncomputable def allR (l : RL Value) : Bool := @RL.rec Value (fun _ => Bool) true (fun _ x _ ih => andB (isW x) ih) l
noncomputable def allW (c : Tr Value) : Bool := @Tr.rec Value (fun _ => Bool) (fun _ r t => andB (allR r) (allB t)) c
theorem allB_spec (c : Bt Value) : allB c = true → ∀ i x, c.get i = some x → isW x = true := by
  induction c with
  | nil => intro _ i x h; cases h
  | node v l r ihl ihr =>
    intro h i x hx
    have h : andB (@Option.rec Value (fun _ => Bool) true isW v) (andB (allB l) (allB r)) = true := h
    obtain ⟨h1, h2⟩ := andB_iff.1 h
    obtain ⟨h2, h3⟩ := andB_iff.1 h2
    cases i with
    | zero =>
      have hx : v = some x := hx
      subst hx; exact h1
    | succ k =>
      rw [Bt.get_succ] at hx
      split at hx
      · exact ihl h2 _ _ hx
      · exact ihr h3 _ _ hx
theorem allR_spec (l : RL Value) : allR l = true → ∀ i x d, l.get i d = some x → isW x = true ∨ d = some x := by
  induction l with
  | nil => intro _ i x d h; exact .inr h
  | cons j y l ih =>
    intro h i x d hx
    have h : andB (isW y) (allR l) = true := h
    obtain ⟨h1, h2⟩ := andB_iff.1 h
    rw [RL.get_cons] at hx
    split at hx
    · cases hx; exact .inl h1
    · exact ih h2 i x d hx
theorem allW_spec (c : Tr Value) : allW c = true → ∀ i x, c.get i = some x → ∃ k, x = .int .u64 (.ofNat k) ∧ k < 18446744073709551616 := by
  obtain ⟨n, r, t⟩ := c
  intro h i x hx
  have h : andB (allR r) (allB t) = true := h
  obtain ⟨h1, h2⟩ := andB_iff.1 h
  rcases allR_spec r h1 i x _ hx with h3 | h3
  · exact isW_spec h3
  · exact isW_spec (allB_spec t h2 i x h3)
/-- The word at a place. -/
noncomputable def wordAt (c : Tr Value) (x : Nat) : Nat :=
  match c.get x with
  | some (.int .u64 (.ofNat k)) => if k < 18446744073709551616 then k else 0
  | _ => 0
theorem wordAt_lt (c : Tr Value) (x : Nat) : wordAt c x < 18446744073709551616 := by
  unfold wordAt
  split
  · split
    · assumption
    · omega
  · omega
theorem wordAt_eq {c : Tr Value} {x k : Nat} (h : c.get x = some (.int .u64 (.ofNat k))) (hk : k < 18446744073709551616) : wordAt c x = k := by
  unfold wordAt
  rw [h]
  exact if_pos hk

theorem args_one {ρ : Ren} {v : Value} {args' : Array Value} (h : AR ρ [v].toArray args') : ∃ v', args' = #[v'] ∧ VR ρ v v' := by
  obtain ⟨hs, hv⟩ := h
  have hs : args'.size = 1 := hs.symm
  have hi : 0 < args'.size := by omega
  refine ⟨args'[0], ?_, hv 0 _ _ rfl (Array.getElem?_eq_getElem hi)⟩
  apply Array.ext_getElem?
  intro i
  cases i with
  | zero => rw [Array.getElem?_eq_getElem hi]; rfl
  | succ i => rw [Array.getElem?_eq_none (by omega), Array.getElem?_eq_none (by simp)]

noncomputable def bytesOfH (args : List Value) (st : St) : Option (Value × St) :=
  match args with
  | [.slice (some ⟨b, 0, _⟩) len _] => match st.h.get b with
    | some (.cells _ n _ c) => match Nat.ble 1 len, Nat.ble len n, Nat.ble len 100000, allW c with
      | true, true, true, true => some (.slice (some ⟨st.nx, 0, none⟩) (Nat.mul 8 len) (Nat.mul 8 len), st.new (.bytes (Nat.mul 8 len) c))
      | _, _, _, _ => none
    | _ => none
  | _ => none
theorem bytesOfH_sound {args : List Value} {st st' : St} {v : Value} (h : bytesOfH args st = some (v, st')) {ρ : Ren} {w : World} {args' : Array Value} (hR : R Gn ρ st w) (har : AR ρ args.toArray args') :
    HasBody Tryz.prog 326 ∧ CallsIn (Fw none) 0 Tryz.prog 326 args' w (RetR ρ st w v st') := by
  refine ⟨⟨_, _, Tryz.func326, rfl, rfl⟩, ?_⟩
  show CallsIn Fence.wide 0 _ _ _ _ _
  rw [callsIn_wide]
  unfold bytesOfH at h
  split at h
  case h_2 => cases h
  rename_i b z len cap
  split at h
  case h_2 => cases h
  rename_i t n u c hb
  split at h
  case h_2 => cases h
  rename_i k1 k2 k3 k4
  cases h
  have k1 := ble_iff.1 k1; have k2 := ble_iff.1 k2; have k3 := ble_iff.1 k3
  obtain ⟨v', rfl, hv⟩ := args_one har
  obtain ⟨B, arr, fr, hB, hw, _, hn, _, hc, _⟩ := hR.cells hb
  obtain ⟨cap', rfl⟩ : ∃ cap', v' = .slice (some ⟨B, 0, none⟩) len cap' := by
    cases hv with
    | slc _ B' _ _ _ hB' => rw [hB] at hB'; cases hB'; exact ⟨_, rfl⟩
    | slu _ B' _ o' _ cap2 z hB' hl ho hz =>
      rw [hB] at hB'; cases hB'
      rcases ho with rfl | h0
      · exact ⟨_, rfl⟩
      · omega
  have hcell : ∀ x, x < len → w.cell? ⟨B, x, none⟩ = some (.int .u64 (wordAt c x : Nat)) := by
    intro x hx
    obtain ⟨v1, v2, h1, h2, h3⟩ := hc x (by omega)
    obtain ⟨k, rfl, hk⟩ := allW_spec c k4 x v1 h1
    cases h3
    rw [cell_of hw, h2, wordAt_eq h1 hk]
    rfl
  refine (Fe.bytesOf_row (heap_lt hw) hcell k3 (wordAt_lt c)).mono ?_
  rintro e w' ⟨B2, h1, rfl, ⟨arr2, h2, h3, h4⟩, h5⟩
  obtain ⟨g1, g2⟩ := hR.grown (o := .bytes (Nat.mul 8 len) c) h5 h1 h2 ⟨h3, rfl, fun i hi => by
    have hi : i < 8 * len := hi
    obtain ⟨v1, v2, q1, q2, q3⟩ := hc (i / 8) (by omega)
    obtain ⟨k, rfl, hk⟩ := allW_spec c k4 _ v1 q1
    refine ⟨k, q1, hk, ?_⟩
    rw [h4 i hi]
    show some (Value.int .u8 ((Fe.byteAt (wordAt c) i : Nat) : Int)) = _
    unfold Fe.byteAt
    rw [wordAt_eq q1 hk]
    rfl⟩
  exact ⟨_, rfl, _, g1, g2, .slc _ _ _ _ _ (Ren.add_at _ _ _ _)⟩
end Go.Proofs.YtegfafebbnlicaaGreatDoor.Ev
