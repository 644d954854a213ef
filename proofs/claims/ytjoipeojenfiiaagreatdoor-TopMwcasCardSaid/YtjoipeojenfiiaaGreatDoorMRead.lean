/-
  How the arguments of the law TopMwcas are read.
-/
import Derived.Test.YtjoipeojenfiiaaGreatDoorMTop4
import Derived.Lib.SmallJoins
import Derived.Deep.Slices
import Derived.ChangeSlices
import Derived.SizedLaws
namespace Go.Proofs.YtjoipeojenfiiaaGreatDoor.Dv
open Go.RowKit Go.ChangeShapes Go.WideShapes
set_option linter.unusedVariables false

theorem weights_all_mem {H : Type} {P : Program} {e : TypeId} : ∀ {ds : List (DataW H)} {d : DataW H}, d ∈ ds → ∀ n ∈ d.weights P e, n ∈ DataW.weightsAll P e ds
  | [], d, h, _, _ => by cases h
  | a :: l, d, h, n, hn => by
    simp only [DataW.weightsAll, List.mem_append]
    rcases List.mem_cons.1 h with rfl | h
    · exact .inl hn
    · exact .inr (weights_all_mem h n hn)
theorem lst3 {α : Type} {l : List α} (h : l.length = 3) : ∃ a b c, l = [a, b, c] := match l, h with | [a, b, c], _ => ⟨a, b, c, rfl⟩
theorem spot_none {w : World} {a : Addr} {v : Value} (h : w.cell? a = some v) : a = ⟨a.block, a.off, none⟩ := by
  obtain ⟨b, o, s⟩ := a
  cases s with
  | none => rfl
  | some x => unfold World.cell? at h; split at h <;> simp at h
section
variable {H : Type} {enc : TypeId × Value → H} {W : World} {base : Nat} {held : Bool}

theorem bytes_of {fuel : Nat} {v : Value} {y : DataW H × List MemPlace} (h : DataW.trod enc Tryz.prog W base (fun _ => true) held fuel 24 [v] = some y) (hs : ∀ n ∈ y.1.weights Tryz.prog 24, n ≤ reachBytes) :
    ∃ a len cap, v = .slice a len cap ∧ Chs W a len ∧ len ≤ cap ∧ cap ≤ 140737488351232 ∧ (a = none → len = 0) := by
  rcases open_ints Tryz.underlying24 Tryz.underlying5 (by kernel_rfl) h with ⟨hcs, _⟩ | ⟨a, len, cap, zs, hcs, _, hl, _, hz, hx, hcell, hwf⟩
  · simp only [List.cons.injEq, and_true] at hcs
    exact ⟨none, 0, 0, hcs, ⟨by omega, fun h => absurd h (by omega)⟩, Nat.le_refl _, by omega, fun _ => rfl⟩
  · simp only [List.cons.injEq, and_true] at hcs
    have hz' : zs.length = cap := by simpa using hz
    have hw := hs (((lits .u8 (zs.take len) : List (DataW H)).length + (lits .u8 (zs.drop len) : List (DataW H)).length) * Tryz.prog.bytesOf 5) (by rw [hx]; simp [DataW.weights, Tryz.underlying24])
    rw [show Tryz.prog.bytesOf 5 = 1 from by kernel_rfl] at hw
    simp only [lits, List.length_map, List.length_take, List.length_drop, reachBytes] at hw
    refine ⟨some a, len, cap, hcs, ⟨by omega, fun h0 => ⟨a.block, a.off, congrArg some ?_, fun k hk => ?_⟩⟩, hl, by omega, fun e => by cases e⟩
    · have h0' := hcell 0 (by omega)
      rw [show a.add 0 = a from rfl] at h0'
      exact spot_none h0'
    · have h0' := hcell 0 (by omega)
      rw [show a.add 0 = a from rfl] at h0'
      have ha := spot_none h0'
      have hk' := hcell k (by omega)
      have hb := bounds_u8 (hwf (zs.getD k 0) (by rw [List.getD_eq_getElem?_getD, List.getElem?_eq_getElem (by omega)]; exact List.getElem_mem _))
      refine ⟨(zs.getD k 0).toNat, by omega, ?_⟩
      rw [ha, Addr.add_lit] at hk'
      rw [hk']
      congr 2
      omega
theorem ints_of {fuel : Nat} {v : Value} {y : DataW H × List MemPlace} (h : DataW.trod enc Tryz.prog W base (fun _ => true) held fuel 23 [v] = some y) (hs : ∀ n ∈ y.1.weights Tryz.prog 23, n ≤ reachBytes) :
    ∃ a cap zs, v = .slice a zs.length cap ∧ Nums W a zs ∧ zs.length ≤ cap ∧ cap ≤ 140737488351232 ∧ (a = none → cap = 0) := by
  rcases open_ints Tryz.underlying23 Tryz.underlying3 (by kernel_rfl) h with ⟨hcs, _⟩ | ⟨a, len, cap, zs, hcs, _, hl, _, hz, hx, hcell, hwf⟩
  · simp only [List.cons.injEq, and_true] at hcs
    exact ⟨none, 0, [], hcs, fun j z hj => by simp at hj, Nat.le_refl _, by omega, fun _ => rfl⟩
  · simp only [List.cons.injEq, and_true] at hcs
    have hz' : zs.length = cap := by simpa using hz
    have hw := hs (((lits .i64 (zs.take len) : List (DataW H)).length + (lits .i64 (zs.drop len) : List (DataW H)).length) * Tryz.prog.bytesOf 3) (by rw [hx]; simp [DataW.weights, Tryz.underlying23])
    rw [show Tryz.prog.bytesOf 3 = 8 from by kernel_rfl] at hw
    simp only [lits, List.length_map, List.length_take, List.length_drop, reachBytes] at hw
    have hlen : (zs.take len).length = len := by rw [List.length_take]; omega
    refine ⟨some a, cap, zs.take len, by rw [hlen]; exact hcs, fun j z hj => ?_, by omega, by omega, fun e => by cases e⟩
    have hj' := (List.getElem?_eq_some_iff.1 hj).1
    rw [hlen] at hj'
    rw [List.getElem?_take, if_pos hj'] at hj
    have hb := bounds_i64 (hwf z (List.mem_of_getElem? hj))
    have h0' := hcell 0 (by omega)
    rw [show a.add 0 = a from rfl] at h0'
    have ha := spot_none h0'
    have hk' := hcell j (by omega)
    rw [List.getD_eq_getElem?_getD, hj] at hk'
    refine ⟨by omega, by omega, a.block, a.off, congrArg some ha, ?_⟩
    rw [ha, Addr.add_lit] at hk'
    exact hk'
theorem helps_of {fuel : Nat} {v : Value} {y : DataW H × List MemPlace} (h : DataW.trod enc Tryz.prog W base (fun _ => true) held fuel 22 [v] = some y) (hs : ∀ n ∈ y.1.weights Tryz.prog 22, n ≤ reachBytes) :
    ∃ a len cap, v = .slice a len cap ∧ Helps W a len ∧ len ≤ 140737488351232 := by
  rcases Go.Deep.open_slice Tryz.underlying22 h with ⟨hcs, _⟩ | ⟨a, len, cap, m, n, D, Pl, hcs, _, hl, _, hmm, hx, hi⟩
  · simp only [List.cons.injEq, and_true] at hcs
    exact ⟨none, 0, 0, hcs, fun i hi => absurd hi (by omega), by omega⟩
  · simp only [List.cons.injEq, and_true] at hcs
    have hm : m = cap := by simpa using hmm
    have hc3 : Tryz.prog.cellsOf 44 = 3 := by kernel_rfl
    have hy1 : y.1 = .slice ((List.range len).map D) ((List.range (m - len)).map fun j => D (len + j)) := by rw [hx]
    have hw := hs ((((List.range len).map D).length + ((List.range (m - len)).map fun j => D (len + j)).length) * Tryz.prog.bytesOf 44) (by rw [hy1]; simp [DataW.weights, Tryz.underlying22])
    rw [show Tryz.prog.bytesOf 44 = 40 from by kernel_rfl] at hw
    simp only [List.length_map, List.length_range, reachBytes] at hw
    -- the parts of an element
    have parts : ∀ i, i < m → ∃ c0 c1 c2 n' y0 y1 y2, W.cell? (a.add (i * 3)) = some c0 ∧ W.cell? ((a.add (i * 3)).add 1) = some c1 ∧ W.cell? ((a.add (i * 3)).add 2) = some c2 ∧ D i = .agg [y0.1, y1.1, y2.1] ∧
        DataW.trod enc Tryz.prog W base (fun _ => true) held n' 24 [c0] = some y0 ∧ DataW.trod enc Tryz.prog W base (fun _ => true) held n' 4 [c1] = some y1 ∧ DataW.trod enc Tryz.prog W base (fun _ => true) held n' 3 [c2] = some y2 := by
      intro i him
      obtain ⟨cs', hc, ht'⟩ := hi i him
      rw [hc3] at hc
      obtain ⟨ys, n', _, hy, _, hyl, hf⟩ := DataW.trod_struct Tryz.underlying44 ht'
      obtain ⟨_, hcl, hat⟩ := World.cells?_some hc
      obtain ⟨c0, c1, c2, rfl⟩ := lst3 hcl
      obtain ⟨y0, y1, y2, rfl⟩ := lst3 hyl
      have k0 : Tryz.prog.cellsOf 24 = 1 := by kernel_rfl
      have k1 : Tryz.prog.cellsOf 4 = 1 := by kernel_rfl
      have k2 : Tryz.prog.cellsOf 3 = 1 := by kernel_rfl
      have f0 := hf 0 { name := "Words", type := 24, offset := 0, embedded := false, tag := "", pkgPath := "", byteOffset := 0 } rfl
      dsimp only at f0
      have f1 := hf 1 { name := "After", type := 4, offset := 1, embedded := false, tag := "", pkgPath := "", byteOffset := 24 } rfl
      dsimp only at f1
      have f2 := hf 2 { name := "Thread", type := 3, offset := 2, embedded := false, tag := "", pkgPath := "", byteOffset := 32 } rfl
      dsimp only at f2
      simp only [Prod.mk.injEq] at hy
      rw [k0] at f0
      rw [k1] at f1
      rw [k2] at f2
      exact ⟨c0, c1, c2, n', y0, y1, y2, hat 0 (by omega), hat 1 (by omega), hat 2 (by omega), hy.1, f0, f1, f2⟩
    refine ⟨some a, len, cap, hcs, fun i hil => ?_, by omega⟩
    have ha : a = ⟨a.block, a.off, none⟩ := by
      obtain ⟨c0, c1, c2, n', y0, y1, y2, q0, _⟩ := parts 0 (by omega)
      rw [show 0 * 3 = 0 from rfl, show a.add 0 = a from rfl] at q0
      exact spot_none q0
    obtain ⟨c0, c1, c2, n', y0, y1, y2, q0, q1, q2, hD, t0, t1, t2⟩ := parts i (by omega)
    have hwi : ∀ n ∈ y0.1.weights Tryz.prog 24, n ≤ reachBytes := by
      intro n hn
      refine hs n ?_
      rw [hy1]
      simp only [DataW.weights, Tryz.underlying22]
      refine List.mem_cons_of_mem _ (List.mem_append.2 (.inl (weights_all_mem (d := D i) (List.mem_map.2 ⟨i, by simpa using hil, rfl⟩) n ?_)))
      rw [hD]
      simp only [DataW.weights, Tryz.underlying44]
      exact DataW.weights_mem_each (j := 0) rfl rfl n hn
    obtain ⟨wa, wn, wc, hc0, hch, _⟩ := bytes_of t0 hwi
    obtain ⟨af, hc1, _⟩ := DataW.trod_bool Tryz.underlying4 t1
    obtain ⟨th, hc2, _, hwf⟩ := DataW.trod_int Tryz.underlying3 t2
    simp only [List.cons.injEq, and_true] at hc1 hc2
    have hb := bounds_i64 hwf
    subst hc0 hc1 hc2
    rw [ha, Addr.add_lit] at q0 q1 q2
    rw [Addr.add_lit] at q1 q2
    exact ⟨a.block, a.off, wa, wn, wc, af, th, congrArg some ha, q0, q1, q2, hb, hch⟩
end
end Go.Proofs.YtjoipeojenfiiaaGreatDoor.Dv
