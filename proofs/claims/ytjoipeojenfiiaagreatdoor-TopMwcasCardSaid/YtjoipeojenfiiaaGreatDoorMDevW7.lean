/-
  Clone of words, Arm, of, New of the package device.
-/
import Derived.Test.YtjoipeojenfiiaaGreatDoorMDevC
import Derived.Laws.MakeOwn
import Derived.Laws.OwnMore
import Derived.Deep.RegionWith
import Derived.Deep.DeepCutAuto
namespace Go.Proofs.YtjoipeojenfiiaaGreatDoor.Dv
open Go.RowKit

theorem infoU64 : (Tryz.prog.info? 31).map (fun i => (i.zero, i.size, i.bytes)) = some (some (.int .u64 0), 1, 8) := by kernel_rfl
theorem infoLine : (Tryz.prog.info? 122).map (fun i => (i.zero, i.size, i.bytes)) = some (some (.agg #[.int .u64 0, .slice none 0 0]), 2, 32) := by kernel_rfl
theorem infoByte : (Tryz.prog.info? 5).map (fun i => (i.zero, i.size, i.bytes)) = some (some (.int .u8 0), 1, 1) := by kernel_rfl

/-- A slice of words in a block of its own. -/
def WSl (w : World) (B n : Nat) (g : Nat → Nat) (v : Value) : Prop :=
  ∃ b cap, v = .slice (some ⟨b, 0, none⟩) n cap ∧ Row w b 31 n (fun x => u64 (g x)) ∧ B ≤ b ∧ n ≤ cap ∧ cap ≤ maxLen

theorem row_of_cells {w : World} {b : Nat} {e : TypeId} {n : Nat} {f : Nat → Value} {c : Array Value} (h : w.heap[b]? = some (.cells c e (0, 0))) (hc : ∀ x, x < n → c[x]? = some (f x)) : Row w b e n f := by
  refine ⟨c, h, ?_, hc⟩
  rcases Nat.eq_zero_or_pos n with h0 | h0
  · omega
  · have := hc (n - 1) (by omega)
    have := (Array.getElem?_eq_some_iff.1 this).1
    omega

theorem append_words {w : World} {b n cap : Nat} {g : Nat → Nat} {base : Option Addr} (hrow : Row w b 31 n (fun x => u64 (g x))) (hn : 1 ≤ n) (hn2 : n ≤ 1000000) :
    ∃ v' w', (∀ ty, (Builtin.append_ #[32, 32] ty #[.slice base 0 0, .slice (some ⟨b, 0, none⟩) n cap]).run Tryz.prog w = .ok v' w') ∧ WSl w' w.heap.size n g v' ∧ Below w.heap.size w w' := by
  obtain ⟨i, hi, hz, hsz, hby⟩ := info_parts infoU64
  have hsrc : Src Tryz.prog i.size 32 (.slice (some ⟨b, 0, none⟩) n cap) n ((List.range n).map (fun x => u64 (g x))) w := by
    refine Src.ofSlice w Tryz.underlying32 ⟨b, 0, none⟩ n cap _ (by rw [hsz]; simp) ?_ ?_
    · intro j u hj
      rw [List.getElem?_map] at hj
      rcases Nat.lt_or_ge j n with h | h
      · rw [List.getElem?_range h] at hj
        rw [Addr.add_lit, Nat.zero_add, hrow.cell j h, ← hj]; rfl
      · rw [List.getElem?_eq_none (by simpa using h)] at hj; cases hj
    · intro u hu
      obtain ⟨x, _, rfl⟩ := List.mem_map.1 hu
      rfl
  have hrun := fun ty => run_append_grow_src (P := Tryz.prog) w 32 32 ty 31 i _ Tryz.underlying32 hi hz base 0 0 [] (by cases base with | none => exact run_firstCells_none _ _ _ _ _ | some a => exact run_firstCells_some _ _ _ _ _ _ [] (by simp) (by simp)) _ n _ hsrc (by omega) (by omega)
      (growslice_fits (by omega) (by rw [hby]; omega))
  have hge := grownCap_ge w (0 + n) 0 31
  have hcm := grownCap_le_maxLen w (0 + n) 0 31 (by unfold maxLen; omega)
  refine ⟨_, _, hrun, ⟨w.heap.size, _, by rw [Nat.zero_add], row_of_cells (heap_alloc_new _ _) ?_, Nat.le_refl _, by omega, hcm⟩, ?_⟩
  · intro x hx
    rw [Array.getElem?_append_left (by simpa using hx)]
    simp [hx]
  · exact (((Only.refl (fun _ => False) _).drew).alloc _).below

theorem clone_words {w : World} {b n cap : Nat} {g : Nat → Nat} (hrow : Row w b 31 n (fun x => u64 (g x))) (hn : 1 ≤ n) (hn2 : n ≤ 1000000) :
    Calls Tryz.prog 61 #[.slice (some ⟨b, 0, none⟩) n cap] w fun r w' => ∃ v, r = .returned v ∧ WSl w' w.heap.size n g v ∧ Below w.heap.size w w' := by
  have q1 := fun (w : World) (a : Option Addr) (n c n' c' : Nat) => Lib.run_eql_slice_nil (P := Tryz.prog) w _ _ a n c n' c' Tryz.underlying32
  obtain ⟨v', w', hrun, h1, h2⟩ := append_words (cap := cap) (base := some ⟨w.heap.size, 0, none⟩) (hrow.alloc (.cells #[] 31)) hn hn2
  have HR := Lib.hid h1; have HB := Lib.hid h2; clear hrow h1 h2
  go_enter Tryz.func61, Tryz.ntmps61
  go_wp2_with (at_builtin; refine wpList_append_run rfl _ _ _ rfl _ _ _ _ rfl rfl hrun ?_)
  go_returns
  obtain ⟨b', c', e1, e2, e3, e4⟩ := HR.out
  simp at e3
  exact ⟨_, rfl, ⟨b', c', e1, e2, by omega, e4⟩, ((Below.refl _ _).alloc (Nat.le_refl _) _).trans (HB.out.mono (by simp))⟩

theorem arm_dev {w : World} {A : DAd} {s : DSt} {F : Nat → Option Role} (h : Dev w A s F) (n : Nat) (hn : n ≤ 1000000) (hoff : s.off = false) :
    Calls Tryz.prog 9 #[ptr A.d, i64 n] w (EndPost w A (s.ctl false true n s.ex) F) := by
  have c1 : w.cell? ⟨A.d, 11, none⟩ = some (.bool false) := by rw [← hoff]; exact h.dev.cell 11 (by omega)
  have c2 : w.cell? ⟨A.d, 12, none⟩ = some (.bool s.armed) := h.dev.cell 12 (by omega)
  have c3 : w.cell? ⟨A.d, 13, none⟩ = some (.int .i64 s.left) := h.dev.cell 13 (by omega)
  have f2 : w.frozen? ⟨A.d, 12, none⟩ = false := h.dev.free 12
  have f3 : w.frozen? ⟨A.d, 13, none⟩ = false := h.dev.free 13
  have h3 := h.setD (o := s.off) (a := true) (l := s.left) (x := s.ex) (i := 12) (v := .bool true) h.ok.left (Nat.le_refl _) h.ok.ex
    (dfun_cases (fun y hy => by rcases hy with rfl | rfl | rfl | rfl | rfl | rfl | rfl <;> simp [dfun, DSt.ctl]) (by omega))
  have h4 := h3.1.setD (o := false) (a := true) (l := n) (x := s.ex) (i := 13) (v := i64 n) hn (Nat.le_refl _) h.ok.ex
    (dfun_cases (fun y hy => by rcases hy with rfl | rfl | rfl | rfl | rfl | rfl | rfl <;> simp [dfun, DSt.ctl, hoff]) (by omega))
  have H4 := Lib.hid h4.1; have H5 := Lib.hid (h3.2.trans h4.2)
  have b0 : (0 : Int) ≤ n := by omega
  have d0 : decide ((0 : Int) ≤ n) = true := by simp
  clear h h3 h4 hoff
  simp only [ptr, i64] at *
  go_enter Tryz.func9, Tryz.ntmps9
  go_wp2_with fail

  go_returns
  exact ⟨rfl, H4.out, H5.out⟩
end Go.Proofs.YtjoipeojenfiiaaGreatDoor.Dv
