/-
  How the arguments of the law TopMwcasLinear are read.
-/
import Derived.Test.YtejlgnebofdijaaGreatDoorMCxA
import Derived.Lib.SmallJoins
import Derived.Deep.Slices
import Derived.ChangeSlices
import Derived.SizedLaws
namespace Go.Proofs.YtejlgnebofdijaaGreatDoor.Dv
open Go.RowKit Go.ChangeShapes Go.WideShapes
set_option linter.unusedVariables false

theorem lst4 {α : Type} {l : List α} (h : l.length = 4) : ∃ a b c d, l = [a, b, c, d] := match l, h with | [a, b, c, d], _ => ⟨a, b, c, d, rfl⟩
theorem spot_none {w : World} {a : Addr} {v : Value} (h : w.cell? a = some v) : a = ⟨a.block, a.off, none⟩ := by
  obtain ⟨b, o, s⟩ := a
  cases s with
  | none => rfl
  | some x => unfold World.cell? at h; split at h <;> simp at h
section
variable {H : Type} {enc : TypeId × Value → H} {W : World} {base : Nat} {held : Bool}

theorem picks_of {fuel : Nat} {v : Value} {y : DataW H × List MemPlace} (h : DataW.trod enc Tryz.prog W base (fun _ => true) held fuel 23 [v] = some y) :
    ∃ a cap zs, v = .slice a zs.length cap ∧ PArg W a zs ∧ zs.length ≤ cap ∧ cap ≤ maxLen ∧ (a = none → cap = 0) := by
  rcases open_ints Tryz.underlying23 Tryz.underlying5 (by kernel_rfl) h with ⟨hcs, _⟩ | ⟨a, len, cap, zs, hcs, _, hl, hm, hz, hx, hcell, hwf⟩
  · simp only [List.cons.injEq, and_true] at hcs
    exact ⟨none, 0, [], hcs, fun j z hj => by simp at hj, Nat.le_refl _, by unfold maxLen; omega, fun _ => rfl⟩
  · simp only [List.cons.injEq, and_true] at hcs
    have hz' : zs.length = cap := by simpa using hz
    have hlen : ((zs.take len).map Int.toNat).length = len := by rw [List.length_map, List.length_take]; omega
    refine ⟨some a, cap, (zs.take len).map Int.toNat, by rw [hlen]; exact hcs, fun j z hj => ?_, by omega, hm, fun e => by cases e⟩
    have hj' := (List.getElem?_eq_some_iff.1 hj).1
    rw [hlen] at hj'
    have hj2 : zs[j]? = some (zs[j]'(by omega)) := List.getElem?_eq_getElem (by omega)
    rw [List.getElem?_map, List.getElem?_take, if_pos hj', hj2] at hj
    have hzz : (zs[j]'(by omega)).toNat = z := Option.some.inj hj
    have hb := bounds_u8 (hwf _ (List.mem_of_getElem? hj2))
    have h0' := hcell 0 (by omega)
    rw [show a.add 0 = a from rfl] at h0'
    have ha := spot_none h0'
    have hk' := hcell j (by omega)
    rw [List.getD_eq_getElem?_getD, hj2] at hk'
    refine ⟨by omega, a.block, a.off, congrArg some ha, ?_⟩
    rw [ha, Addr.add_lit] at hk'
    rw [hk']
    congr 2
    show zs[j]'(by omega) = (z : Int)
    omega
theorem calls_of {fuel : Nat} {v : Value} {y : DataW H × List MemPlace} (h : DataW.trod enc Tryz.prog W base (fun _ => true) held fuel 22 [v] = some y) :
    ∃ a len cap rc, v = .slice a len cap ∧ CArg W a len rc ∧ len ≤ cap ∧ cap ≤ maxLen ∧ (a = none → cap = 0) ∧ ∀ i, (rc i).Ok := by
  rcases Go.Deep.open_slice Tryz.underlying22 h with ⟨hcs, _⟩ | ⟨a, len, cap, m, n, D, Pl, hcs, _, hl, hcm, hmm, hx, hi⟩
  · simp only [List.cons.injEq, and_true] at hcs
    exact ⟨none, 0, 0, fun _ => ⟨0, false, 0, 0⟩, hcs, fun i hi => absurd hi (by omega), Nat.le_refl _, by unfold maxLen; omega, fun _ => rfl, fun i => ⟨by show (0 : Nat) < 256; omega, by show (0 : Nat) < 256; omega, by show (0 : Nat) < 256; omega⟩⟩
  · simp only [List.cons.injEq, and_true] at hcs
    have hm : m = cap := by simpa using hmm
    have hc4 : Tryz.prog.cellsOf 37 = 4 := by kernel_rfl
    -- the parts of an element
    have parts : ∀ i, i < m → ∃ c0 c1 c2 c3 n' y0 y1 y2 y3, W.cell? (a.add (i * 4)) = some c0 ∧ W.cell? ((a.add (i * 4)).add 1) = some c1 ∧ W.cell? ((a.add (i * 4)).add 2) = some c2 ∧ W.cell? ((a.add (i * 4)).add 3) = some c3 ∧
        DataW.trod enc Tryz.prog W base (fun _ => true) held n' 5 [c0] = some y0 ∧ DataW.trod enc Tryz.prog W base (fun _ => true) held n' 4 [c1] = some y1 ∧ DataW.trod enc Tryz.prog W base (fun _ => true) held n' 5 [c2] = some y2 ∧ DataW.trod enc Tryz.prog W base (fun _ => true) held n' 5 [c3] = some y3 := by
      intro i him
      obtain ⟨cs', hc, ht'⟩ := hi i him
      rw [hc4] at hc
      obtain ⟨ys, n', _, hy, _, hyl, hf⟩ := DataW.trod_struct Tryz.underlying37 ht'
      obtain ⟨_, hcl, hat⟩ := World.cells?_some hc
      obtain ⟨c0, c1, c2, c3, rfl⟩ := lst4 hcl
      obtain ⟨y0, y1, y2, y3, rfl⟩ := lst4 hyl
      have k0 : Tryz.prog.cellsOf 5 = 1 := by kernel_rfl
      have k1 : Tryz.prog.cellsOf 4 = 1 := by kernel_rfl
      have f0 := hf 0 { name := "Thread", type := 5, offset := 0, embedded := false, tag := "", pkgPath := "", byteOffset := 0 } rfl
      dsimp only at f0
      have f1 := hf 1 { name := "Read", type := 4, offset := 1, embedded := false, tag := "", pkgPath := "", byteOffset := 1 } rfl
      dsimp only at f1
      have f2 := hf 2 { name := "Old", type := 5, offset := 2, embedded := false, tag := "", pkgPath := "", byteOffset := 2 } rfl
      dsimp only at f2
      have f3 := hf 3 { name := "New", type := 5, offset := 3, embedded := false, tag := "", pkgPath := "", byteOffset := 3 } rfl
      dsimp only at f3
      rw [k0] at f0 f2 f3
      rw [k1] at f1
      exact ⟨c0, c1, c2, c3, n', y0, y1, y2, y3, hat 0 (by omega), hat 1 (by omega), hat 2 (by omega), hat 3 (by omega), f0, f1, f2, f3⟩
    have el : ∀ i, ∃ c : RC, c.Ok ∧ (i < len → W.cell? (a.add (i * 4)) = some (.int .u8 c.th) ∧ W.cell? ((a.add (i * 4)).add 1) = some (.bool c.rd) ∧ W.cell? ((a.add (i * 4)).add 2) = some (.int .u8 c.od) ∧ W.cell? ((a.add (i * 4)).add 3) = some (.int .u8 c.nw)) := by
      intro i
      by_cases hil : i < len
      · obtain ⟨c0, c1, c2, c3, n', y0, y1, y2, y3, q0, q1, q2, q3, t0, t1, t2, t3⟩ := parts i (by omega)
        obtain ⟨th, hc0, _, hw0⟩ := DataW.trod_int Tryz.underlying5 t0
        obtain ⟨rd, hc1, _⟩ := DataW.trod_bool Tryz.underlying4 t1
        obtain ⟨od, hc2, _, hw2⟩ := DataW.trod_int Tryz.underlying5 t2
        obtain ⟨nw, hc3, _, hw3⟩ := DataW.trod_int Tryz.underlying5 t3
        simp only [List.cons.injEq, and_true] at hc0 hc1 hc2 hc3
        have b0 := bounds_u8 hw0
        have b2 := bounds_u8 hw2
        have b3 := bounds_u8 hw3
        subst hc0 hc1 hc2 hc3
        refine ⟨⟨th.toNat, rd, od.toNat, nw.toNat⟩, ⟨by show th.toNat < 256; omega, by show od.toNat < 256; omega, by show nw.toNat < 256; omega⟩, fun _ => ⟨?_, q1, ?_, ?_⟩⟩
        · exact q0.trans (congrArg (fun z => some (Value.int .u8 z)) (show th = ((th.toNat : Nat) : Int) by omega))
        · exact q2.trans (congrArg (fun z => some (Value.int .u8 z)) (show od = ((od.toNat : Nat) : Int) by omega))
        · exact q3.trans (congrArg (fun z => some (Value.int .u8 z)) (show nw = ((nw.toNat : Nat) : Int) by omega))
      · exact ⟨⟨0, false, 0, 0⟩, ⟨by decide, by decide, by decide⟩, fun h => absurd h hil⟩
    obtain ⟨rc, hrc⟩ : ∃ rc : Nat → RC, ∀ i, (rc i).Ok ∧ (i < len → W.cell? (a.add (i * 4)) = some (.int .u8 (rc i).th) ∧ W.cell? ((a.add (i * 4)).add 1) = some (.bool (rc i).rd) ∧ W.cell? ((a.add (i * 4)).add 2) = some (.int .u8 (rc i).od) ∧ W.cell? ((a.add (i * 4)).add 3) = some (.int .u8 (rc i).nw)) :=
      ⟨fun i => Classical.choose (el i), fun i => Classical.choose_spec (el i)⟩
    clear el parts hi
    refine ⟨some a, len, cap, rc, hcs, fun i hil => ?_, hl, hcm, fun e => (by cases e), fun i => (hrc i).1⟩
    obtain ⟨hok, hq⟩ := hrc i
    obtain ⟨q0, q1, q2, q3⟩ := hq hil
    have ha : a = ⟨a.block, a.off, none⟩ := by
      have p0 := ((hrc 0).2 (by omega)).1
      rw [show 0 * 4 = 0 from rfl, show a.add 0 = a from rfl] at p0
      exact spot_none p0
    rw [ha, Addr.add_lit] at q0 q1 q2 q3
    rw [Addr.add_lit] at q1 q2 q3
    exact ⟨a.block, a.off, congrArg some ha, hok, q0, q1, q2, q3⟩
end
end Go.Proofs.YtejlgnebofdijaaGreatDoor.Dv
