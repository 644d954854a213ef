/-
  The device of TopMwcasLinear after Format: the plain machine's start. No program in sight.
-/
import Derived.Test.YtejlgnebofdijaaGreatDoorMLiA
namespace Go.Proofs.YtejlgnebofdijaaGreatDoor.Dv
open Go.RowKit
set_option linter.unusedVariables false

def set0 : DSt := fresh 110 (fun _ => 0)
def setF : DSt := set0.runs 0 (prog (fmtl 24))
/-- What the device is like after Format. -/
structure SetFOk : Prop where
  L : setF.L = 110
  calm : ∀ t, Calm setF t
  val : ∀ x, x = 800 ∨ x = 816 → setF.All x (fun r => r < 4611686018427387904 ∧ r % 1099511627776 = 0)
  sta : ∀ k, k < 24 → setF.All (32 * k) (fun r => r = unusedW)
  ex : setF.ex ≤ 100
  ok : setF.Ok

theorem setF_ok : SetFOk := by
  have f0 : set0.Ok := fresh_ok (by omega) (fun _ => by omega)
  have c0 : ∀ t, Calm set0 t := fun t => ⟨rfl, rfl, rfl⟩
  have hlf : ∀ p ∈ fmtl 24, p.1 % 8 = 0 ∧ p.1 < 110 * 64 := by decide +kernel
  have sf : StOk (fmtl 24) := ⟨by decide +kernel, by decide +kernel⟩
  have fitf : ∀ x ∈ prog (fmtl 24), x.Fit set0.L := prog_fit (L := 110) hlf
  have nf : (prog (fmtl 24)).length ≤ 49 := by rw [prog_length, fmtl_length]; have := plines_le (fmtl 24); rw [fmtl_length] at this; omega
  have vf : ∀ x ∈ prog (fmtl 24), x.val < 18446744073709551616 := fun x hx => (prog_ok fmtl_lt x hx).2.2.2
  have hx0 : set0.ex = 0 := rfl
  obtain ⟨b1, b2, b3⟩ := runs_calm (prog (fmtl 24)) (c0 0) fitf
  have o2 : setF.Ok := runs_ok (prog (fmtl 24)) f0 (c0 0) fitf vf (by rw [hx0]; omega)
  have tkf : ∀ j, (set0.runs 0 ((prog (fmtl 24)).take j)).Ok := fun j => runs_ok _ f0 (c0 0) (fun x hx => fitf x (List.mem_of_mem_take hx)) (fun x hx => vf x (List.mem_of_mem_take hx)) (by rw [List.length_take, hx0]; omega)
  have allf := runs_all (c0 0) tkf sf fitf
  refine ⟨b2, calm_runs _ c0 fitf, ?_, ?_, ?_, o2⟩
  · intro x hx
    refine runs_keep (prog (fmtl 24)) (c0 0) tkf fitf (fun y hy e1 e2 => ?_) (all_fresh (by decide))
    rcases prog_mem hy with ⟨p, hp, rfl⟩ | ⟨z, _, rfl⟩ | rfl
    · have hb : ∀ p ∈ fmtl 24, p.1 < 6144 := by decide +kernel
      have := hb p hp
      dsimp only at e2
      omega
    · cases e1
    · cases e1
  · intro k hk
    have hm : (256 * k, unusedW) ∈ fmtl 24 := List.mem_map.2 ⟨k, by simpa using hk, rfl⟩
    have h1 := allf _ hm
    dsimp only at h1
    rw [show 256 * k / 8 = 32 * k by omega] at h1
    exact h1
  · have : setF.ex = set0.ex + (prog (fmtl 24)).length := b3
    omega
theorem setF_start {T od nw : Nat → Nat} : LI T od nw 0 0 (ms0 setF) ∧ Ready T 0 (ms0 setF) := LI.start (by omega) setF_ok.L setF_ok.val setF_ok.sta setF_ok.calm
theorem setF_desc {T : Nat → Nat} : ∀ k, k < 24 → Desc T 96 (64 * setF.L) setF.cur k [] := fun k hk => .inl ⟨rfl, DSt.All.cur (setF_ok.sta k hk) setF_ok.ok⟩
end Go.Proofs.YtejlgnebofdijaaGreatDoor.Dv
