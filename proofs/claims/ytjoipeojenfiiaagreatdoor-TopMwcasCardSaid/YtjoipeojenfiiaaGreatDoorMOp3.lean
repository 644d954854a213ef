/-
  Open, Free of the package mwcas.
-/
import Derived.Test.YtjoipeojenfiiaaGreatDoorMOp2
import Derived.Test.YtjoipeojenfiiaaGreatDoorMMw5
import Derived.Test.YtjoipeojenfiiaaGreatDoorMMop9
namespace Go.Proofs.YtjoipeojenfiiaaGreatDoor.Dv
open Go.RowKit
set_option linter.unusedVariables false
attribute [local go_sem ↓] Go.wp_at_zero Go.wp_at_succ

/-- Descriptor k holds the entries es; none: it is unused. -/
def Desc (T : Nat → Nat) (Lr S : Nat) (val : Nat → Nat) (k : Nat) (es : List En) : Prop :=
  (es = [] ∧ val (32 * k) = unusedW) ∨ (EsOk Lr S es ∧ val (32 * k) = sst es.length (crcW T (ewords es)) ∧ ∀ i x, (ewords es)[i]? = some x → val (32 * k + 8 + i) = x)
theorem read_desc {w : World} {Lr S k fn : Nat} {first cap : Array Value} {val : Nat → Nat} {T : Nat → Nat} {es : List En} (hl : Loads w fn first cap S val) (hT : NTab w T) (hS : 256 * k + 256 ≤ S) (hd : Desc T Lr S val k es) :
    Calls Tryz.prog 66 #[rgn Lr S, .func (.func fn) first cap, u64 (256 * k)] w (RdPost w es) := by
  have e8 : 256 * k / 8 = 32 * k := by omega
  rcases hd with ⟨rfl, hv⟩ | ⟨he, hv, hw⟩
  · refine (read_unused hl (by omega) (by omega) (by rw [e8]; exact hv)).mono ?_
    rintro e w' ⟨rfl, hb⟩
    exact ⟨none, 0, 0, .slice none 0 0, rfl, World.ownsRow_nil _ _ _ _, hb⟩
  · refine (read_succ hl hT (by omega) hS he (by rw [e8]; exact hv) (fun i x hx => by rw [e8]; exact hw i x hx)).mono ?_
    rintro e w' ⟨ea, en, ec, vw, rfl, ho, hb⟩
    have : phs es = 3 := by
      unfold phs
      rw [if_neg]
      intro e
      have := he.n
      rw [e] at this
      simp at this
    exact ⟨ea, en, ec, vw, by rw [this]; rfl, ho, hb⟩

theorem all_desc {w : World} {S fn : Nat} {first cap : Array Value} {val : Nat → Nat} {T : Nat → Nat} {D : Nat → List En} (hl : Loads w fn first cap S val) (hT : NTab w T) (hS : 2048 ≤ S) (hd : ∀ k, k < 8 → Desc T 32 S val k (D k)) :
    Calls Tryz.prog 43 #[rgn 32 S, .func (.func fn) first cap] w (AlPost w D 8) := by
  refine all_any (Lr := 32) (by omega) hl.small (fun w1 k hb hk => ?_)
  exact read_desc (hl.below hb) (hT.below hb (Nat.le_refl _)) (by omega) (hd k hk)

def opz : OpS := ⟨0, 0, [], [], [], 0, 0, [], false, false, false, 0, none, 0, 0⟩
/-- A pool without operations. -/
def ms0 (s : DSt) : MS := ⟨s, none, fun _ => false, fun _ => opz⟩
def OpenPost (w : World) (A : DAd) (s : DSt) (F : Nat → Option Role) (e : Ending) (w' : World) : Prop :=
  ∃ B G, e = .returned (.tuple #[ptr B.p, .int .i64 0]) ∧ MW w' A B 32 0 (ms0 s) F G ∧ Below w.heap.size w w' ∧ (∀ b, G b ≠ none → w.heap.size ≤ b) ∧ B.nb = 8

theorem open_mw {w w' : World} {A : DAd} {s : DSt} {F : Nat → Option Role} (h : Dev w A s F) (hb : Below w.heap.size w w') {p bz : Nat} (hs : 32 ≤ s.L) (hne : p ≠ bz) (hp : w.heap.size ≤ p) (hz : w.heap.size ≤ bz)
    (hpb : w'.heap[p]? = some (.cells #[ptr A.d, .int .i64 0, .int .i64 32, .int .u64 ((64 * s.L : Nat) : Int), .slice (some ⟨bz, 0, none⟩) 8 8, .pointer none] 72 (0, 0)))
    (hbb : w'.heap[bz]? = some (.cells #[.bool false, .bool false, .bool false, .bool false, .bool false, .bool false, .bool false, .bool false] 4 (0, 0))) :
    OpenPost w A s F (.returned (.tuple #[ptr p, .int .i64 0])) w' := by
  have fn : ∀ b, w.heap.size ≤ b → F b = none := fun b hb => by
    cases e : F b with
    | none => rfl
    | some q => have := h.lt b (by rw [e]; simp); omega
  refine ⟨⟨p, bz, 8, fun _ => 0, fun _ => 0, fun _ => 0, fun _ => 0, fun _ => 0, fun _ => 0, fun _ => 0⟩, upd (upd (fun _ => none) p (some (0, 0))) bz (some (1, 0)), rfl, ?_, hb, ?_, rfl⟩
  · refine { dev := h.below hb, pool := ?_, busy := ?_, op := fun i hi => by omega, en := fun i hi => by omega, ord := fun i hi => by omega, se := fun i hi => by omega, gp := ?_, gb := upd_same _ _ _, go := fun i hi => by omega, ge := fun i hi => by omega, gr := fun i hi => by omega, gs := fun i hi => by omega, gf := ?_, ok := fun i hi => by omega, cur := fun c hc => (by cases hc), small := ?_ }
    · refine row_of_cells hpb (fun x hx => ?_)
      have : x = 0 ∨ x = 1 ∨ x = 2 ∨ x = 3 ∨ x = 4 ∨ x = 5 := by omega
      rcases this with rfl | rfl | rfl | rfl | rfl | rfl <;> rfl
    · refine row_of_cells hbb (fun x hx => ?_)
      have hx : x < 8 := hx
      have : x = 0 ∨ x = 1 ∨ x = 2 ∨ x = 3 ∨ x = 4 ∨ x = 5 ∨ x = 6 ∨ x = 7 := by omega
      rcases this with rfl | rfl | rfl | rfl | rfl | rfl | rfl | rfl <;> rfl
    · dsimp only
      rw [upd_ne _ _ hne, upd_same]
    · intro b hgb
      by_cases e1 : b = bz
      · subst e1; exact ⟨fn _ hz, heap_lt hbb⟩
      · rw [upd_ne _ _ e1] at hgb
        by_cases e2 : b = p
        · subst e2; exact ⟨fn _ hp, heap_lt hpb⟩
        · rw [upd_ne _ _ e2] at hgb
          exact absurd rfl hgb
    · exact ⟨by omega, by dsimp only; omega, by omega, hs⟩
  · intro b hgb
    by_cases e1 : b = bz
    · omega
    · rw [upd_ne _ _ e1] at hgb
      by_cases e2 : b = p
      · omega
      · rw [upd_ne _ _ e2] at hgb
        exact absurd rfl hgb
end Go.Proofs.YtjoipeojenfiiaaGreatDoor.Dv
