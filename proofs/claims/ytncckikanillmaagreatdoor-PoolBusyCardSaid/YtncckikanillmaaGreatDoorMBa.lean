/-
  PoolBusy, whatever its arguments.
-/
import Derived.Test.YtncckikanillmaaGreatDoorMBw
import Derived.Test.YtncckikanillmaaGreatDoorMKr0
import Derived.Test.YtncckikanillmaaGreatDoorMKr1
import Derived.Test.YtncckikanillmaaGreatDoorMKr2
import Derived.Test.YtncckikanillmaaGreatDoorMKr3
import Derived.Test.YtncckikanillmaaGreatDoorMKr4
import Derived.Test.YtncckikanillmaaGreatDoorMKr5
import Derived.Test.YtncckikanillmaaGreatDoorMKr6
import Derived.Test.YtncckikanillmaaGreatDoorMKr7
namespace Go.Proofs.YtncckikanillmaaGreatDoor.Ev
open Go Go.RowKit
set_option linter.unusedVariables false

theorem pair_inj {α : Type} {a b c : α} (h : (a, b) = (c, c)) : a = c ∧ b = c := by
  injection h with h1 h2
  exact ⟨h1, h2⟩
theorem busy_pair {x : Nat} {other : Int} {pt nt : TypeId} (h : (busyOk x false other pt nt, busyOk x true other pt nt) = (busyGood other pt nt, busyGood other pt nt)) : ∀ u : Bool, busyOk x u other pt nt = busyGood other pt nt
  | false => (pair_inj h).1
  | true => (pair_inj h).2
theorem busy_any {w : World} {pt nt : TypeId} (hw : GOk w pt nt) (thread other : Int) (u : Bool) :
    Calls Tryz.prog 4 #[.int .i64 thread, .int .i64 other, .bool u] w fun e w' => e = .returned (.bool true) ∧ Below w.heap.size w w' := by
  by_cases h : thread < 0 ∨ 8 ≤ thread
  · exact busy_out hw thread other u h
  · have h8 : thread = ((0 : Nat) : Int) ∨ thread = ((1 : Nat) : Int) ∨ thread = ((2 : Nat) : Int) ∨ thread = ((3 : Nat) : Int) ∨ thread = ((4 : Nat) : Int) ∨ thread = ((5 : Nat) : Int) ∨ thread = ((6 : Nat) : Int) ∨ thread = ((7 : Nat) : Int) := by omega
    rcases h8 with e | e | e | e | e | e | e | e
    · rw [e]; exact busy_in hw 0 u other (busy_pair (busy_run0 other pt nt) u)
    · rw [e]; exact busy_in hw 1 u other (busy_pair (busy_run1 other pt nt) u)
    · rw [e]; exact busy_in hw 2 u other (busy_pair (busy_run2 other pt nt) u)
    · rw [e]; exact busy_in hw 3 u other (busy_pair (busy_run3 other pt nt) u)
    · rw [e]; exact busy_in hw 4 u other (busy_pair (busy_run4 other pt nt) u)
    · rw [e]; exact busy_in hw 5 u other (busy_pair (busy_run5 other pt nt) u)
    · rw [e]; exact busy_in hw 6 u other (busy_pair (busy_run6 other pt nt) u)
    · rw [e]; exact busy_in hw 7 u other (busy_pair (busy_run7 other pt nt) u)
/-! ### The listed variables -/
theorem laid_block {P : Program} {w : World} : ∀ {l : List (String × DataW Unit)} {ps : List MemPlace}, DataW.LaidVars P w l ps → ∀ n d, (n, d) ∈ l →
    ∃ g cs, P.globalNamed n = some g ∧ w.var? P n = some cs ∧ ∀ i, i < cs.size → MemPlace.cell g i ∈ ps
  | [], _, _, _, _, hm => by cases hm
  | (n', d') :: r, ps, h, n, d, hm => by
    obtain ⟨g, t, cs, fuel, p, q, h1, h2, h3, h4, h5, h6⟩ := h
    rcases List.mem_cons.1 hm with e | e
    · cases e
      refine ⟨g, cs, h1, h3, fun i hi => ?_⟩
      rw [h6]
      refine List.mem_append.2 (.inl (List.mem_append.2 (.inl ?_)))
      simp [MemPlace.row, hi]
    · obtain ⟨g', cs', a, b, c⟩ := laid_block h5 n d e
      exact ⟨g', cs', a, b, fun i hi => by rw [h6]; exact List.mem_append.2 (.inr (c i hi))⟩
theorem holds_of {P : Program} {W : World} {l : List (String × DataW Unit)} (h : laidMet P l W) {name : String} {g : Nat} {d : DataW Unit} (hg : P.globalNamed name = some g) (hm : (name, d) ∈ l) :
    ∃ cs, W.var? P name = some cs ∧ g < W.heap.size ∧ (0 < cs.size → ∃ t, W.heap[g]? = some (.cells cs t (0, 0))) := by
  obtain ⟨ps, hv, _, hc⟩ := h
  obtain ⟨g', cs, h1, h2, h3⟩ := laid_block hv name d hm
  rw [hg] at h1; cases h1
  have h4 := h2
  unfold World.var? at h4
  rw [hg] at h4
  simp only [Option.bind_some] at h4
  split at h4
  case h_2 => cases h4
  rename_i cs' t' fr' hb
  cases h4
  refine ⟨cs, h2, heap_lt hb, fun hpos => ?_⟩
  obtain ⟨⟨c, t, hh⟩, _⟩ := hc g 0 (h3 0 hpos)
  rw [hb] at hh
  cases hh
  exact ⟨_, hb⟩
end Go.Proofs.YtncckikanillmaaGreatDoor.Ev
