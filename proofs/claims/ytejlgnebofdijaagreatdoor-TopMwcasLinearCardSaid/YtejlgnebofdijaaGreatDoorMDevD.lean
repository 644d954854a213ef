/-
  bytesOf, Current, Dirty of the package device.
  From, Image, Crash of the package device.
-/
import Derived.Test.YtejlgnebofdijaaGreatDoorMDevE
import Derived.Test.YtejlgnebofdijaaGreatDoorMWordA
namespace Go.Proofs.YtejlgnebofdijaaGreatDoor.Dv
open Go.RowKit

/-- Byte k of the words g. -/
def byteAt (g : Nat → Nat) (k : Nat) : Nat := g (k / 8) / 2 ^ (8 * (k % 8)) % 256
theorem byteAt_lt (g : Nat → Nat) (k : Nat) : byteAt g k < 256 := Nat.mod_lt _ (by omega)

/-- A slice of bytes, as the function h says, in a block from B on. -/
def BSl (w : World) (B n : Nat) (h : Nat → Nat) (v : Value) : Prop :=
  ∃ b, v = .slice (some ⟨b, 0, none⟩) n n ∧ Row w b 5 n (fun x => .int .u8 (h x)) ∧ B ≤ b

def BofRel (w : World) (N : Nat) (g : Nat → Nat) (B : Nat) (i : Value) (wr : World) : Prop :=
  ∃ k : Nat, k ≤ 8 * N ∧ i = .int .i64 (k : Nat) ∧ Row wr B 5 (8 * N) (fun x => .int .u8 ((if x < k then byteAt g x else 0 : Nat) : Int)) ∧ Below w.heap.size w wr

theorem bytesOf_any {w : World} {b N cap : Nat} {g : Nat → Nat} (hrow : Row w b 48 N (fun x => u64 (g x))) (hN : N ≤ 100000) (hg : ∀ x, g x < 18446744073709551616) :
    Calls Tryz.prog 54 #[.slice (some ⟨b, 0, none⟩) N cap] w fun r w' => ∃ v, r = .returned v ∧ BSl w' w.heap.size (8 * N) (byteAt g) v ∧ Below w.heap.size w w' := by
  obtain ⟨i, hi, hz, hsz, hby⟩ := info_parts infoByte
  have hmk := run_make (P := Tryz.prog) w 23 5 i _ Tryz.underlying23 hi hz .i64 .i64 ((N : Int) * 8) ((N : Int) * 8) (by omega) (Int.le_refl _) (by rw [hby]; omega) (by omega)
  have e : ((N : Int) * 8).toNat = 8 * N := by omega
  rw [e, hsz, Nat.mul_one] at hmk
  obtain ⟨W, hW⟩ : ∃ W, W = w.alloc (.cells (madeCells (Value.int .u8 0).cells (8 * N)) 5) := ⟨_, rfl⟩
  have hst : BofRel w N g w.heap.size (.int .i64 (0 : Nat)) W := by
    refine ⟨0, by omega, rfl, ?_, by rw [hW]; exact below_alloc (Below.refl _ _)⟩
    rw [hW]
    refine row_of_cells (heap_alloc_new _ _) (fun x hx => ?_)
    unfold madeCells
    rw [Array.getElem?_map, Array.getElem?_range, if_pos hx]
    simp [Value.cells, Nat.mod_one]
  rw [← hW] at hmk
  have HS := Lib.hid hst; have HR := Lib.hid hrow; have HG := Lib.hid hg
  have b1 : (N : Int) ≤ 100000 := by omega
  obtain ⟨B, hB⟩ : ∃ B, B = w.heap.size := ⟨_, rfl⟩
  rw [← hB] at HS hmk ⊢
  have HB := Lib.hid hB
  obtain ⟨M, hM⟩ : ∃ M, M = 8 * N := ⟨_, rfl⟩
  rw [← hM] at hmk ⊢
  have HM := Lib.hid hM
  have b2 : (M : Int) ≤ 800000 := by omega
  clear hst hrow hg hW e hi hz hsz hby hB hM
  go_enter Tryz.func54, Tryz.ntmps54
  go_wp2_with fail
  go_loopw [4, 11] (fun _ i wr => BofRel w N g B i wr) (fun _ i _ => M - (intOf i).toNat)
  case atStart => exact HS.out
  case round =>
    obtain ⟨k, hk, rfl, hr, hbel⟩ := hrel
    by_cases hlt : k < M
    · have hlt2 : (k : Int) < M := by omega
      have hk8 : k / 8 < N := by have := HM.out; omega
      have c1 : wr.cell? ⟨b, k / 8, none⟩ = some (.int .u64 (g (k / 8))) := by
        rw [hbel.cell HR.out.lt]; exact HR.out.cell _ hk8
      have c2 := hr.cell k (by have := HM.out; omega)
      have f2 := hr.free k
      have bk : (k : Int) / 8 < N := by omega
      have hgk := HG.out (k / 8)
      have G := Lib.hid (show BofRel w N g B (.int .i64 ((k + 1 : Nat) : Int)) (wr.setCell ⟨B, k, none⟩ (.int .u8 (byteAt g k))) from ⟨k + 1, by have := HM.out; omega, rfl, (hr.set k (.int .u8 (byteAt g k))).congr (fun x hx => by
        by_cases e : x = k
        · rw [if_pos e, if_pos (by omega), e]
        · rw [if_neg e]
          by_cases e2 : x < k
          · rw [if_pos e2, if_pos (by omega)]
          · rw [if_neg e2, if_neg (by omega)]), hbel.setCell (by rw [← HB.out]; exact Nat.le_refl _) _⟩)
      clear hr hbel hk
      obtain ⟨x, hx⟩ : ∃ x, x = g (k / 8) := ⟨_, rfl⟩
      rw [← hx] at c1 hgk
      have HX := Lib.hid hx; clear hx
      go_wp2_with fail
      go_roundw
      case rel =>
        have h := G.out
        have e : ((byteAt g k : Nat) : Int) = (x : Int) / 2 ^ (k % 8 * 8) % 256 := by
          unfold byteAt
          rw [← HX.out, Nat.mul_comm 8]
          simp
        rw [e] at h
        simpa using h
      case measure => simp [intOf]; omega
    · obtain rfl : k = M := by have := HM.out; omega
      have G := Lib.hid (show BSl wr B k (byteAt g) (.slice (some ⟨B, 0, none⟩) k k) from ⟨B, rfl, by
        have hr' := hr
        rw [← HM.out] at hr'
        exact hr'.congr (fun x hx => by rw [if_pos hx]), Nat.le_refl _⟩)
      have G2 := Lib.hid hbel
      rw [← HB.out] at G2
      clear hr hbel hk hlt
      go_wp2_with fail
      go_returns
      exact ⟨_, rfl, G.out, G2.out⟩

theorem after_lt {x v : Nat} {l : List (Nat × Nat)} (hv : v < 18446744073709551616) (h : ∀ p ∈ l, p.2 < 18446744073709551616) : after v x l < 18446744073709551616 := by
  induction l generalizing v with
  | nil => exact hv
  | cons a l ih =>
    unfold after
    refine ih ?_ (fun p hp => h p (by simp [hp]))
    split
    · exact h a (by simp)
    · exact hv
theorem cur_lt {s : DSt} (h : s.Ok) (x : Nat) : s.cur x < 18446744073709551616 := after_lt (h.base x) (fun p hp => (h.word _ p hp).2.2)
theorem below_alloc_b {B : Nat} {a w : World} {o : Obj} (h : Below B a w) (hb : B ≤ w.heap.size) : Below B a (w.alloc o) := h.alloc hb o
theorem own_slice {w : World} {B : Nat} {e : TypeId} {z : Nat} {v : Value} {n : Nat} {xs : List Value} (h : w.ownsRow B e z v n xs) : ∃ a c, v = .slice a n c := by
  rcases h.2 with ⟨rfl, rfl⟩ | ⟨g, cap, cur, rfl, _⟩
  · exact ⟨_, _, rfl⟩
  · exact ⟨_, _, rfl⟩

theorem current_dev {w : World} {A : DAd} {s : DSt} {F : Nat → Option Role} (h : Dev w A s F) :
    Calls Tryz.prog 23 #[ptr A.d] w fun r w' => ∃ v, r = .returned v ∧ BSl w' w.heap.size (64 * s.L) (byteAt s.cur) v ∧ Below w.heap.size w w' := by
  have c0 : w.cell? ⟨A.d, 1, none⟩ = some (.slice (some ⟨A.cur, 0, none⟩) (8 * s.L) A.cap) := h.dev.cell 1 (by omega)
  have hb := bytesOf_any (cap := A.cap) h.cur (by have := h.ok.lines; omega) (cur_lt h.ok)
  rw [show 8 * (8 * s.L) = 64 * s.L by omega] at hb
  have HB := Lib.hid hb; clear hb h
  simp only [ptr]
  go_enter Tryz.func23, Tryz.ntmps23
  go_wp2_with fail
  refine HB.out.mono ?_
  rintro e w' ⟨v, rfl, ⟨b, rfl, h1, h2⟩, h3⟩
  have H1 := Lib.hid h1; have H3 := Lib.hid h3; clear h1 h3
  go_wp2_with fail
  go_returns
  exact ⟨_, rfl, ⟨b, rfl, H1.out, h2⟩, H3.out⟩

/-! ### Dirty -/
/-- The lines below k with a history. -/
def DSt.dirty (s : DSt) (k : Nat) : List Nat := (List.range k).filter (fun n => decide (0 < (s.hist n).length))
theorem DSt.dirty_succ (s : DSt) (k : Nat) : s.dirty (k + 1) = s.dirty k ++ if 0 < (s.hist k).length then [k] else [] := by
  unfold DSt.dirty
  rw [List.range_succ, List.filter_append]
  by_cases h : 0 < (s.hist k).length <;> simp [h]
theorem DSt.dirty_le (s : DSt) (k : Nat) : (s.dirty k).length ≤ k := by
  have := List.length_filter_le (fun n => decide (0 < (s.hist n).length)) (List.range k)
  simpa [DSt.dirty] using this

def DirRel (w : World) (s : DSt) (B : Nat) (v i : Value) (wr : World) : Prop :=
  ∃ k : Nat, k ≤ s.L ∧ i = .int .i64 (k : Nat) ∧ wr.ownsRow B 3 1 v (s.dirty k).length ((s.dirty k).map i64) ∧ Below B w wr

theorem infoInt : (Tryz.prog.info? 3).map (fun i => (i.zero, i.size, i.bytes)) = some (some (.int .i64 0), 1, 8) := by kernel_rfl

set_option maxRecDepth 8000 in
theorem dirty_dev {w : World} {A : DAd} {s : DSt} {F : Nat → Option Role} (h : Dev w A s F) :
    Calls Tryz.prog 56 #[ptr A.d] w fun r w' => ∃ v, r = .returned v ∧ w'.ownsRow w.heap.size 3 1 v (s.dirty s.L).length ((s.dirty s.L).map i64) ∧ Below w.heap.size w w' := by
  obtain ⟨i0, hi, hz0, hz1, hz2⟩ := info_parts infoInt
  have hL := h.ok.lines
  have b0 : (s.L : Int) ≤ 4096 := by omega
  obtain ⟨hv, hlin, hhist⟩ := h.lin
  have c0 : w.cell? ⟨A.d, 2, none⟩ = some (.slice (some ⟨A.lin, 0, none⟩) s.L s.L) := h.dev.cell 2 (by omega)
  have hdl : A.d < w.heap.size := h.dev.lt
  have HH := Lib.hid hhist; have HL := Lib.hid hlin
  obtain ⟨B, hB⟩ : ∃ B, B = w.heap.size := ⟨_, rfl⟩
  rw [← hB] at hdl ⊢
  have HB := Lib.hid hB
  clear h hhist hlin hB
  simp only [ptr]
  go_enter Tryz.func56, Tryz.ntmps56
  go_wp2_with fail
  go_loopw [3, 4, 12] (fun v _ i wr => DirRel w s B v i wr) (fun _ _ i _ => s.L - (intOf i).toNat)
  case atStart => exact ⟨0, by omega, rfl, World.ownsRow_nil _ _ _ _, Below.refl _ _⟩
  case round =>
    obtain ⟨k, hk, rfl, hown, hbel⟩ := hrel
    by_cases hlt : k < s.L
    · have hlt2 : (k : Int) < s.L := by omega
      have c1 : wr.cell? ⟨A.d, 2, none⟩ = some (.slice (some ⟨A.lin, 0, none⟩) s.L s.L) := by rw [hbel.cell hdl]; exact c0
      obtain ⟨ha, hcp, hv'⟩ : ∃ ha hcp, hv k = .slice ha (s.hist k).length hcp := by
        rcases HH.out k hlt with ⟨e0, e⟩ | ⟨b, o, cap, c, e, _⟩
        · rw [e0]; exact ⟨_, _, e⟩
        · exact ⟨_, _, e⟩
      have c2 : wr.cell? ⟨A.lin, k * 2 + 1, none⟩ = some (.slice ha (s.hist k).length hcp) := by
        rw [hbel.cell (by rw [HB.out]; exact HL.out.lt), HL.out.cell _ (by omega), ← hv']
        unfold lfun
        rw [if_neg (by omega)]
        congr 2; omega
      have hds := s.dirty_succ k
      have hdle := s.dirty_le k
      obtain ⟨N, hN⟩ : ∃ N, N = (s.hist k).length := ⟨_, rfl⟩
      rw [← hN] at c2 hds
      by_cases h0 : 0 < N
      · have h0' : (0 : Int) < N := by omega
        have d0 : decide (0 < N) = true := by simp; omega
        rw [if_pos h0] at hds
        have HDS := Lib.hid hds; have HO := Lib.hid hown; have HBL := Lib.hid hbel
        have hsz := hbel.size
        rw [← HB.out] at hsz
        have HSZ := Lib.hid hsz
        clear hds hown hbel hN hv' h0 hsz
        go_wp2_with (at_builtin; refine wpList_append_own _ rfl _ _ 59 rfl B 3 i0 (.int .i64 0) 1 8 Tryz.underlying59 hi hz0 hz1 hz2 rfl (by decide) _ _ _ rfl (HO.out.alloc _) ⟨wr.heap.size, 0, none⟩ 1 1 [.int .i64 k] rfl rfl ?c1 ?c2 ?c3 ?c4 ?c5 ?_)
        case c1 =>
          intro j u hj
          match j with
          | 0 => simp at hj; subst hj; rw [Addr.add_lit]; exact (cell_block (heap_alloc_new _ _)).trans rfl
          | j + 1 => simp at hj
        case c2 => intro u hu; simp at hu; subst hu; rfl
        case c3 => unfold maxLen; omega
        case c4 => omega
        case c5 => have := HSZ.out; simp; omega
        intro v' w1 hown1 hgrow _
        have hb1 : Below B w w1 := by
          have e := (below_alloc_b (o := .cells #[.int .i64 k] 3) HBL.out HSZ.out)
          exact e.grown hgrow (by have := HSZ.out; simp; omega) (fun b hb => (HO.out.lt b hb).1)
        have G := Lib.hid (show DirRel w s B v' (.int .i64 ((k + 1 : Nat) : Int)) w1 from ⟨k + 1, by omega, rfl, by rw [HDS.out, List.length_append, List.map_append]; exact hown1, hb1⟩)
        obtain ⟨ga, gc, rfl⟩ := own_slice hown1
        clear hown1 hgrow hb1
        go_wp2_with fail
        go_roundw
        case rel => simpa using G.out
        case measure => simp [intOf]; omega
      · have h0' : ¬ (0 : Int) < N := by omega
        have d0 : decide (0 < N) = false := by simp; omega
        rw [if_neg h0, List.append_nil] at hds
        have G := Lib.hid (show DirRel w s B u3 (.int .i64 ((k + 1 : Nat) : Int)) wr from ⟨k + 1, by omega, rfl, by rw [hds]; exact hown, hbel⟩)
        clear hds hown hbel hN hv' h0
        go_wp2_with fail
        go_roundw
        case rel => simpa using G.out
        case measure => simp [intOf]; omega
    · obtain rfl : k = s.L := by omega
      have HO := Lib.hid hown; have HBL := Lib.hid hbel
      clear hown hbel hk hlt
      go_wp2_with fail
      go_returns
      exact ⟨_, rfl, HO.out, HBL.out⟩
end Go.Proofs.YtejlgnebofdijaaGreatDoor.Dv

namespace Go.Proofs.YtejlgnebofdijaaGreatDoor.Dv
open Go.RowKit
open Word (byt Bytes cellK pw step_or cellK_lt cellK_zero cellK_other)

def bl (h : Nat → Nat) (n : Nat) : List Int := (List.range n).map (fun k => ((h k : Nat) : Int))
theorem bl_length (h : Nat → Nat) (n : Nat) : (bl h n).length = n := by simp [bl]
theorem byt_bl (h : Nat → Nat) (n i : Nat) : byt (bl h n) i = if i < n then h i else 0 := by
  unfold byt bl
  by_cases e : i < n
  · simp [List.getD, e]
  · simp [List.getD, e]
theorem bytes_bl {h : Nat → Nat} (hh : ∀ k, h k < 256) (n : Nat) : Bytes (bl h n) := by
  intro i
  rw [byt_bl]
  split
  · exact hh i
  · omega

/-- The words of bytes that are those of the words G. -/
theorem pw_of_words {G : Nat → Nat} {n j : Nat} (hj : 8 * j + 8 ≤ n) (m : Nat) (hm : m ≤ 8) : pw (bl (byteAt G) n) j m = G j % 2 ^ (8 * m) := by
  induction m with
  | zero => simp [pw, Nat.mod_one]
  | succ m ih =>
    simp only [pw]
    rw [ih (by omega), byt_bl, if_pos (by omega)]
    unfold byteAt
    rw [show (8 * j + m) / 8 = j by omega, show (8 * j + m) % 8 = m by omega]
    have e : 2 ^ (8 * (m + 1)) = 2 ^ (8 * m) * 256 := by rw [Nat.mul_add, Nat.pow_add]
    rw [e, Nat.mod_mul, Nat.mul_comm (2 ^ (8 * m))]
theorem cellK_words {G : Nat → Nat} {L j : Nat} (hG : ∀ x, G x < 18446744073709551616) : cellK (bl (byteAt G) (64 * L)) (64 * L) j = if j < 8 * L then G j else 0 := by
  by_cases h : j < 8 * L
  · rw [if_pos h]
    unfold cellK
    rw [show min 8 (64 * L - 8 * j) = 8 by omega, pw_of_words (by omega) 8 (Nat.le_refl _)]
    have := hG j
    exact Nat.mod_eq_of_lt (by omega)
  · rw [if_neg h]
    unfold cellK
    rw [show min 8 (64 * L - 8 * j) = 0 by omega]
    rfl

def FrRel (w : World) (L : Nat) (h : Nat → Nat) (B : Nat) (i : Value) (wr : World) : Prop :=
  ∃ k : Nat, k ≤ 64 * L ∧ i = .int .i64 (k : Nat) ∧ Row wr B 48 (8 * L) (fun j => u64 (cellK (bl h (64 * L)) k j)) ∧ Below w.heap.size w wr

set_option maxRecDepth 8000 in
theorem from_dev {w : World} {b L : Nat} {h : Nat → Nat} (hrow : Row w b 5 (64 * L) (fun x => .int .u8 (h x))) (hL : 1 ≤ L ∧ L ≤ 4096) (hh : ∀ k, h k < 256) :
    Calls Tryz.prog 26 #[.slice (some ⟨b, 0, none⟩) (64 * L) (64 * L)] w fun r w' => ∃ v, r = .returned (.tuple #[v, .int .i64 0]) ∧ Made w (fun _ => False) (fresh L (fun j => cellK (bl h (64 * L)) (64 * L) j)) v w' := by
  obtain ⟨N, hN⟩ : ∃ N, N = 64 * L := ⟨_, rfl⟩
  obtain ⟨i, hi, hz, hsz, hby⟩ := info_parts infoU64
  have hmk := run_make (P := Tryz.prog) w 70 48 i _ Tryz.underlying70 hi hz .i64 .i64 ((N : Int) / 8) ((N : Int) / 8) (by omega) (Int.le_refl _) (by rw [hby]; omega) (by omega)
  have e : ((N : Int) / 8).toNat = 8 * L := by omega
  rw [e, hsz, Nat.mul_one] at hmk
  obtain ⟨W, hW⟩ : ∃ W, W = w.alloc (.cells (madeCells (Value.int .u64 0).cells (8 * L)) 48) := ⟨_, rfl⟩
  have hst : FrRel w L h w.heap.size (.int .i64 (0 : Nat)) W := by
    refine ⟨0, by omega, rfl, ?_, by rw [hW]; exact below_alloc (Below.refl _ _)⟩
    rw [hW]
    refine row_of_cells (heap_alloc_new _ _) (fun x hx => ?_)
    unfold madeCells
    rw [Array.getElem?_map, Array.getElem?_range, if_pos hx, cellK_zero]
    simp [Value.cells, Nat.mod_one, u64]
  rw [← hW] at hmk
  have HS := Lib.hid hst; have HR := Lib.hid hrow; have HH := Lib.hid (bytes_bl hh (64 * L)); have HX := Lib.hid hh
  obtain ⟨B, hB⟩ : ∃ B, B = w.heap.size := ⟨_, rfl⟩
  rw [← hB] at HS hmk
  have HB := Lib.hid hB
  have HN := Lib.hid hN
  have b1 : (N : Int) ≤ 262144 := by omega
  have b2 : (64 : Int) ≤ N := by omega
  have d1 : ((N : Int) % 64 != 0) = false := by simp; omega
  have d2 : ((N : Int) == 0) = false := by simp; omega
  have d3 : decide ((4096 : Int) < (N : Int) / 64) = false := by simp; omega
  rw [← hN]
  clear hst hrow hh hW e hi hz hsz hby hB hN
  go_enter Tryz.func26, Tryz.ntmps26
  go_wp2_with fail
  go_loopw [5, 6, 26] (fun _ _ i wr => FrRel w L h B i wr) (fun _ _ i _ => N - (intOf i).toNat)
  case atStart => exact HS.out
  case round =>
    obtain ⟨k, hk, rfl, hr, hbel⟩ := hrel
    by_cases hlt : k < N
    · have hlt2 : (k : Int) < N := by omega
      have hk8 : k / 8 < 8 * L := by have := HN.out; omega
      have c1 : wr.cell? ⟨b, k, none⟩ = some (.int .u8 (h k)) := by
        rw [hbel.cell HR.out.lt]; exact HR.out.cell _ (by have := HN.out; omega)
      have c2 := hr.cell (k / 8) hk8
      have f2 := hr.free (k / 8)
      have bk : (k : Int) / 8 < ((8 * L : Nat) : Int) := by omega
      have hor := step_or HH.out k (h k) (by rw [byt_bl, if_pos (by have := HN.out; omega)])
      have hx := HX.out k
      have hcl := cellK_lt HH.out k (k / 8)
      have G := Lib.hid (show FrRel w L h B (.int .i64 ((k + 1 : Nat) : Int)) (wr.setCell ⟨B, k / 8, none⟩ (u64 (cellK (bl h (64 * L)) (k + 1) (k / 8)))) from ⟨k + 1, by have := HN.out; omega, rfl, (hr.set (k / 8) _).congr (fun x hx => by
        by_cases e : x = k / 8
        · rw [if_pos e, e]
        · rw [if_neg e, cellK_other _ _ _ e]), hbel.setCell (by rw [← HB.out]; exact Nat.le_refl _) _⟩)
      obtain ⟨C, hC⟩ : ∃ C, C = cellK (bl h (64 * L)) k (k / 8) := ⟨_, rfl⟩
      rw [← hC] at c2 hor hcl
      obtain ⟨x, hxx⟩ : ∃ x, x = h k := ⟨_, rfl⟩
      rw [← hxx] at c1 hx hor
      have HOR := Lib.hid hor
      have hx2 : (x : Int) < 256 := by omega
      have hcl2 : (C : Int) < 18446744073709551616 := by omega
      obtain ⟨M, hM⟩ : ∃ M, M = 8 * L := ⟨_, rfl⟩
      rw [← hM] at bk
      have hms : (Value.slice (some ⟨B, 0, none⟩) (8 * L) (8 * L)) = Value.slice (some ⟨B, 0, none⟩) M M := by rw [hM]
      clear hr hbel hk hC hxx hor
      simp only [u64] at c2
      rw [hM] at bk
      clear hM hms
      go_wp2_with fail
      go_roundw
      case rel =>
        rw [Nat.mul_comm (k % 8) 8, HOR.out]
        have h := G.out
        simpa [u64] using h
      case measure => simp [intOf]; omega
    · obtain rfl : k = N := by have := HN.out; omega
      have hrr : Row wr B 48 (8 * L) (fun j => u64 (cellK (bl h (64 * L)) (64 * L) j)) := by rw [← HN.out] at hr ⊢; exact hr
      have hof := of_dev hrr hL (fun x => cellK_lt HH.out _ _)
      have HO := Lib.hid hof; have HBL := Lib.hid hbel
      clear hr hrr hof hbel hk hlt
      go_wp2_with fail
      refine HO.out.mono ?_
      rintro e w' ⟨v, rfl, A, F, rfl, h1, h2, h3⟩
      have hs := HBL.out.size
      have hb := HB.out
      have G := Lib.hid (show Made w (fun _ => False) (fresh L (fun j => cellK (bl h (64 * L)) (64 * L) j)) (ptr A.d) w' from ⟨A, F, rfl, h1, HBL.out.trans (h2.mono hs), fun k hk => .inr (by
        rcases h3 k hk with e | e
        · omega
        · omega)⟩)
      clear h1 h2 h3 hs hb
      simp only [ptr] at *
      go_wp2_with fail
      go_returns
      have G2 := G.out
      rw [← HN.out] at G2
      exact ⟨_, rfl, G2⟩

/-- A choice string: bytes that can be read. -/
def Chs (w : World) (a : Option Addr) (n : Nat) : Prop :=
  n ≤ 140737488351232 ∧ (0 < n → ∃ cb co, a = some ⟨cb, co, none⟩ ∧ ∀ k, k < n → ∃ x : Nat, x < 256 ∧ w.cell? ⟨cb, co + k, none⟩ = some (.int .u8 x))
theorem Chs.below {w w' : World} {a : Option Addr} {n B : Nat} (h : Chs w a n) (hb : Below B w w') (hB : w.heap.size ≤ B) : Chs w' a n := by
  refine ⟨h.1, fun h0 => ?_⟩
  obtain ⟨cb, co, e, hc⟩ := h.2 h0
  refine ⟨cb, co, e, fun k hk => ?_⟩
  obtain ⟨x, h1, h2⟩ := hc k hk
  exact ⟨x, h1, by rw [hb.cell (Nat.lt_of_lt_of_le (World.block_lt_of_cell? _ _ h2) hB)]; exact h2⟩

/-- The words of an image that has m n stores of line n. -/
def DSt.img (s : DSt) (m : Nat → Nat) (x : Nat) : Nat := after (s.base x) x ((s.H (x / 8)).take (m (x / 8)))
def DSt.Cut (s : DSt) (m : Nat → Nat) : Prop := ∀ n, s.dn n ≤ m n ∧ m n ≤ (s.H n).length
theorem img_lt {s : DSt} (h : s.Ok) (m : Nat → Nat) (x : Nat) : s.img m x < 18446744073709551616 := after_lt (h.base x) (fun p hp => (h.word _ p (List.mem_of_mem_take hp)).2.2)
theorem img_step {s : DSt} (h : s.Ok) {m : Nat → Nat} {n k : Nat} (hm : m n = s.dn n) (x : Nat) : s.img (upd m n (s.dn n + k)) x = after (s.img m x) x ((s.hist n).take k) := by
  unfold DSt.img upd DSt.hist
  by_cases e : x / 8 = n
  · rw [if_pos e, e, hm, List.take_add, after_append]
  · rw [if_neg e]
    refine (after_other (fun p hp => ?_)).symm
    have h1 := h.word n p (List.mem_of_mem_drop (List.mem_of_mem_take hp))
    omega

def ImRel (w : World) (s : DSt) (bw D : Nat) (dv : Value) (i : Value) (wr : World) : Prop :=
  ∃ (k : Nat) (m : Nat → Nat), k ≤ (s.dirty s.L).length ∧ i = .int .i64 (k : Nat) ∧ Row wr bw 48 (8 * s.L) (fun x => u64 (s.img m x)) ∧ Below w.heap.size w wr ∧ s.Cut m ∧
    (∀ n, n ∉ (s.dirty s.L).take k → m n = s.dn n) ∧ wr.ownsRow D 3 1 dv (s.dirty s.L).length ((s.dirty s.L).map i64)

theorem Cut.start {s : DSt} (h : s.Ok) : s.Cut s.dn := fun n => ⟨Nat.le_refl _, h.dn n⟩
theorem img_dn (s : DSt) : s.img s.dn = s.per := rfl
theorem dirty_nodup (s : DSt) (k : Nat) : (s.dirty k).Nodup := List.Pairwise.filter _ List.nodup_range
theorem dirty_mem {s : DSt} {k n : Nat} (h : n ∈ s.dirty k) : n < k ∧ 0 < (s.hist n).length := by
  unfold DSt.dirty at h
  simpa using h

set_option maxRecDepth 8000 in
theorem image_dev {w : World} {A : DAd} {s : DSt} {F : Nat → Option Role} (h : Dev w A s F) {ca : Option Addr} {cn cc : Nat} (hc : Chs w ca cn) :
    Calls Tryz.prog 27 #[ptr A.d, .slice ca cn cc] w fun r w' => ∃ v m, r = .returned v ∧ s.Cut m ∧ BSl w' w.heap.size (64 * s.L) (byteAt (s.img m)) v ∧ Below w.heap.size w w' := by
  have hL := h.ok.lines
  have c0 : w.cell? ⟨A.d, 0, none⟩ = some (.slice (some ⟨A.per, 0, none⟩) (8 * s.L) (8 * s.L)) := h.dev.cell 0 (by omega)
  have HC := Lib.hid (clone_words (cap := 8 * s.L) h.per (by omega) (by omega))
  have HH := Lib.hid h
  have HCC := Lib.hid hc
  have b0 : (cn : Int) ≤ 140737488351232 := by have := hc.1; omega
  clear h hc
  by_cases h0 : cn = 0
  · subst h0
    simp only [ptr]
    go_enter Tryz.func27, Tryz.ntmps27
    go_wp2_with fail
    refine HC.out.mono ?_
    rintro e w1 ⟨v, rfl, ⟨bw, cp, rfl, h1, h2, h3, h4⟩, h5⟩
    have hbo := bytesOf_any (cap := cp) (g := s.img s.dn) h1 (by omega) (img_lt HH.out.ok _)
    rw [show 8 * (8 * s.L) = 64 * s.L by omega] at hbo
    have HBO := Lib.hid hbo; have H5 := Lib.hid h5
    clear h1 h3 h4 h5 hbo
    go_wp2_with fail
    refine HBO.out.mono ?_
    rintro e w2 ⟨v, rfl, ⟨bb, rfl, g1, g2⟩, g3⟩
    have G1 := Lib.hid g1; have G3 := Lib.hid (H5.out.trans (g3.mono H5.out.size)); have hsz := H5.out.size
    clear g1 g3
    go_wp2_with fail
    go_returns
    exact ⟨_, s.dn, rfl, Cut.start HH.out.ok, ⟨bb, rfl, G1.out, by omega⟩, G3.out⟩
  · have h0' : (0 : Int) < cn := by omega
    have d0 : decide (0 < cn) = true := by simp; omega
    simp only [ptr]
    go_enter Tryz.func27, Tryz.ntmps27
    go_wp2_with fail
    refine HC.out.mono ?_
    rintro e w1 ⟨v, rfl, ⟨bw, cp, rfl, h1, h2, h3, h4⟩, h5⟩
    have hd := dirty_dev (HH.out.below h5)
    have HD := Lib.hid hd; have H1 := Lib.hid h1; have H5 := Lib.hid h5
    clear h1 h3 h4 h5 hd
    go_wp2_with fail
    refine HD.out.mono ?_
    rintro e w2 ⟨dv, rfl, g1, g2⟩
    have hst : ImRel w s bw w1.heap.size dv (.int .i64 (0 : Nat)) w2 := ⟨0, s.dn, by omega, rfl, H1.out.of_block (g2.block _ H1.out.lt), H5.out.trans (g2.mono H5.out.size), Cut.start HH.out.ok, fun _ _ => rfl, g1⟩
    obtain ⟨da, dc, rfl⟩ := own_slice g1
    have HS := Lib.hid hst; have hbw := H1.out.lt
    obtain ⟨N, hN⟩ : ∃ N, N = (s.dirty s.L).length := ⟨_, rfl⟩
    rw [← hN] at HS ⊢
    have HN := Lib.hid hN
    have hNb : (N : Int) ≤ 4096 := by have := s.dirty_le s.L; omega
    clear hst g1 g2 hN
    go_wp2_with fail
    go_loopw [6, 7, 8, 9, 23] (fun _ _ _ _ i wr => ImRel w s bw w1.heap.size (.slice da N dc) i wr) (fun _ _ _ _ i _ => N - (intOf i).toNat)
    case atStart => exact HS.out
    case round =>
      obtain ⟨k, m, hk, rfl, hr, hbel, hcut, hm, hown⟩ := hrel
      by_cases hlt : k < N
      · have hlt2 : (k : Int) < N := by omega
        have hN := HN.out
        have h := HH.out
        obtain ⟨dg, rfl⟩ : ∃ dg, da = some ⟨dg, 0, none⟩ := by
          rcases hown.2 with ⟨_, e⟩ | ⟨g, cap, cur, e, _⟩
          · omega
          · simp only [Value.slice.injEq] at e; exact ⟨g, e.1⟩
        obtain ⟨n, hn⟩ : ∃ n, n = (s.dirty s.L)[k]'(by omega) := ⟨_, rfl⟩
        have c1 : wr.cell? ⟨dg, k, none⟩ = some (.int .i64 n) := by
          rw [hN] at hown
          rw [hown.cellAt k (by omega), List.getElem?_map, List.getElem?_eq_getElem (by omega), hn]; rfl
        have hmem : n ∈ s.dirty s.L := by rw [hn]; exact List.getElem_mem _
        obtain ⟨hnL, hpos⟩ := dirty_mem hmem
        have hnot : n ∉ (s.dirty s.L).take k := by
          intro hin
          obtain ⟨j, hj, e⟩ := List.getElem_of_mem hin
          rw [List.getElem_take, hn] at e
          simp only [List.length_take] at hj
          have := (List.getElem_inj (dirty_nodup s s.L)).1 e
          omega
        have c2 : wr.cell? ⟨A.d, 2, none⟩ = some (.slice (some ⟨A.lin, 0, none⟩) s.L s.L) := by rw [hbel.cell h.dev.lt]; exact h.dev.cell 2 (by omega)
        obtain ⟨hv, hlin, hhist⟩ := h.lin
        obtain ⟨e0, _⟩ | ⟨b, o, cap, c, e1, e2, e3, e4, e5, e6, e7⟩ := hhist n hnL
        · rw [e0] at hpos; simp at hpos
        have c3 : wr.cell? ⟨A.lin, n * 2 + 1, none⟩ = some (.slice (some ⟨b, o, none⟩) (s.hist n).length cap) := by
          rw [hbel.cell hlin.lt, hlin.cell _ (by omega), ← e1]; unfold lfun; rw [if_neg (by omega)]; congr 2; omega
        obtain ⟨cb, co, hca, hcc⟩ := (HCC.out.below hbel (Nat.le_refl _)).2 (by omega)
        subst hca
        obtain ⟨x, hx, c4⟩ := hcc (k % cn) (Nat.mod_lt _ (by omega))
        obtain ⟨M, hM⟩ : ∃ M, M = (s.hist n).length := ⟨_, rfl⟩
        have hM2 : M ≤ 1000000 := by rw [hM]; unfold DSt.hist; rw [List.length_drop]; have := h.ok.len n; have := h.ok.ex; omega
        obtain ⟨kk, hkk⟩ : ∃ kk, kk = x % (M + 1) := ⟨_, rfl⟩
        have hkM : kk ≤ M := by rw [hkk]; have := Nat.mod_lt x (show 0 < M + 1 by omega); omega
        have ekk : (x : Int) % ((M : Int) + 1) = (kk : Int) := by rw [hkk]; simp
        have hap := apply_any (wc := cp) (sc := cap) hr (bs := b) (o := o) (by have := h.lt b (by rw [e2]; simp); omega) (l := (s.hist n).take kk)
          (fun i p hi => by
            have hp : (s.hist n)[i]? = some p := by
              rw [List.getElem?_take] at hi
              split at hi
              · exact hi
              · cases hi
            have hb2 : wr.heap[b]? = some (.cells c 66 (0, 0)) := (hbel.block b (h.lt b (by rw [e2]; simp))).trans e3
            rw [cell_block hb2, cell_block hb2]; exact e7 i p hp)
          (fun p hp => by
            have h1 := h.ok.word n p (List.mem_of_mem_drop (List.mem_of_mem_take hp))
            omega) (by rw [List.length_take]; omega)
        have el : ((s.hist n).take kk).length = kk := by rw [List.length_take]; omega
        rw [el] at hap
        have hst2 : ∀ w3, Row w3 bw 48 (8 * s.L) (fun x => u64 (after (s.img m x) x ((s.hist n).take kk))) → Only (fun b => b = bw) wr w3 → ImRel w s bw w1.heap.size (.slice (some ⟨dg, 0, none⟩) N dc) (.int .i64 ((k + 1 : Nat) : Int)) w3 := by
          intro w3 g1 g2
          refine ⟨k + 1, upd m n (s.dn n + kk), by omega, rfl, g1.congr (fun x _ => by rw [img_step h.ok (hm n hnot)]), ?_, ?_, ?_, ?_⟩
          · exact ⟨g2.os.trans hbel.os, g2.tape.trans hbel.tape, g2.output.trans hbel.output, Nat.le_trans hbel.size g2.size, fun j hj => (g2.block j (Nat.lt_of_lt_of_le hj hbel.size) (by omega)).trans (hbel.block j hj)⟩
          · intro j
            unfold upd
            split
            · rename_i e
              rw [e]
              have := h.ok.dn n
              have hd : M = (s.H n).length - s.dn n := by rw [hM]; unfold DSt.hist; rw [List.length_drop]
              omega
            · exact hcut j
          · intro j hj
            have hjn : j ≠ n := by
              intro e
              apply hj
              rw [List.take_add_one, List.getElem?_eq_getElem (by omega), e, hn]
              exact List.mem_append_right _ (by simp)
            rw [upd_ne _ _ hjn]
            exact hm j (fun hin => hj (by rw [List.take_add_one]; exact List.mem_append_left _ hin))
          · have hgl := hown.lt dg rfl
            exact hown.kept (row := some bw) ⟨g2.os, g2.tape, g2.output, g2.size, fun j hj hne => g2.block j hj (fun e => hne (by rw [e]))⟩ (.inr (by simp [Value.ownBlock]; omega))
        have HST := Lib.hid hst2; have HAP := Lib.hid hap
        have hnL2 : (n : Int) < s.L := by omega
        have hx2 : (x : Int) < 256 := by omega
        have hkc : (kk : Int) ≤ cap := by omega
        have hmc : (M : Int) ≤ 1000000 := by omega
        have hcn0 : (cn : Int) ≠ 0 := by omega
        have dz : ((cn : Int) == 0) = false := by simp; omega
        have hmod : (k : Int) % (cn : Int) < cn := Int.emod_lt_of_pos _ (by omega)
        rw [← hM] at c3
        clear hst2 hap el hcc hkk e7 e6 e5 e4 e3 e2 e1 hhist hlin hnot hmem hpos hnL hn hown hm hcut hbel hr hN h hM hk
        go_wp2_with fail
        refine HAP.out.mono ?_
        rintro e w3 ⟨rfl, g1, g2⟩
        have G := Lib.hid (HST.out w3 g1 g2)
        clear g1 g2 ekk
        go_wp2_with fail
        go_roundw
        case rel => simpa using G.out
        case measure => simp [intOf]; omega
      · obtain rfl : k = N := by have := HN.out; omega
        have hbo := bytesOf_any (cap := cp) hr (by omega) (img_lt HH.out.ok _)
        rw [show 8 * (8 * s.L) = 64 * s.L by omega] at hbo
        have HBO := Lib.hid hbo; have HBL := Lib.hid hbel; have HCU := Lib.hid hcut
        clear hr hbo hbel hcut hm hown hk hlt
        go_wp2_with fail
        refine HBO.out.mono ?_
        rintro e w3 ⟨v, rfl, ⟨bb, rfl, g1, g2⟩, g3⟩
        have G1 := Lib.hid g1; have G3 := Lib.hid (HBL.out.trans (g3.mono HBL.out.size)); have hsz := HBL.out.size
        clear g1 g3
        go_wp2_with fail
        go_returns
        exact ⟨_, m, rfl, HCU.out, ⟨bb, rfl, G1.out, by omega⟩, G3.out⟩

/-- The device that is found after a crash: its words are those of the cut m. -/
def DSt.after (s : DSt) (m : Nat → Nat) : DSt := fresh s.L (fun x => if x < 8 * s.L then s.img m x else 0)

theorem crash_dev {w : World} {A : DAd} {s : DSt} {F : Nat → Option Role} (h : Dev w A s F) {ca : Option Addr} {cn cc : Nat} (hc : Chs w ca cn) :
    Calls Tryz.prog 8 #[ptr A.d, .slice ca cn cc] w fun r w' => ∃ v m, r = .returned v ∧ s.Cut m ∧ Made w (fun _ => False) (s.after m) v w' := by
  have HI := Lib.hid (image_dev (cc := cc) h hc)
  have HL := Lib.hid h.ok
  clear h hc
  simp only [ptr] at HI ⊢
  go_enter Tryz.func8, Tryz.ntmps8
  go_wp2_with fail
  refine HI.out.mono ?_
  rintro e w1 ⟨v, m, rfl, hcut, ⟨b, rfl, h1, h2⟩, h3⟩
  have hf := from_dev h1 HL.out.lines (byteAt_lt _)
  have ew : (fun j => cellK (bl (byteAt (s.img m)) (64 * s.L)) (64 * s.L) j) = fun x => if x < 8 * s.L then s.img m x else 0 := by
    funext j; exact cellK_words (img_lt HL.out _)
  rw [ew] at hf
  have HF := Lib.hid hf; have H3 := Lib.hid h3; have HC := Lib.hid hcut
  clear hf h1 h3 ew hcut
  go_wp2_with fail
  refine HF.out.mono ?_
  rintro e w2 ⟨v, rfl, A2, F2, rfl, g1, g2, g3⟩
  have G := Lib.hid (show Made w (fun _ => False) (s.after m) (ptr A2.d) w2 from ⟨A2, F2, rfl, g1, H3.out.trans (g2.mono H3.out.size), fun k hk => .inr (by
    rcases g3 k hk with e | e
    · exact e.elim
    · exact Nat.le_trans H3.out.size e)⟩)
  clear g1 g2 g3
  simp only [ptr] at *
  go_wp2_with fail
  go_returns
  exact ⟨_, m, rfl, HC.out, G.out⟩
end Go.Proofs.YtejlgnebofdijaaGreatDoor.Dv
