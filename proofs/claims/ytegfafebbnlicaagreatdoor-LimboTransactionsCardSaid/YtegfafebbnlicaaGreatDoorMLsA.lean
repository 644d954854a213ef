/-
  The state behind the law's Begin, written out; a state cut down to some blocks still fits the world.
  LimboTransactions: its code in pieces, awake as a hook.
-/
import Derived.Test.YtegfafebbnlicaaGreatDoorMGl
import Derived.Test.YtegfafebbnlicaaGreatDoorMLaw
namespace Go.Proofs.YtegfafebbnlicaaGreatDoor.Ev
open Go Go.RowKit
set_option linter.unusedVariables false
set_option linter.unusedSimpArgs false

/-- A block, its cells in a list. -/
inductive LObj where
  | cells (t n : Nat) (u : Bool) (l : List Value)
  | map (es : List MapEntry) (cl : Nat)
noncomputable def LObj.obj : LObj → EObj
  | .cells t n u l => .cells t n u (ofL l)
  | .map es cl => .map es cl
noncomputable def viewO (o : Option EObj) : Option LObj :=
  match o with
  | some (.cells t n u c) => match loadL c n 0 with
    | some l => some (.cells t n u l)
    | none => none
  | some (.map es cl) => some (.map es cl)
  | _ => none
noncomputable def mkH (l : List (Nat × LObj)) : Tr EObj := @List.rec (Nat × LObj) (fun _ => Tr EObj) .nil (fun p _ ih => ih.set p.1 p.2.obj) l
theorem mkH_get : ∀ (l : List (Nat × LObj)) (b : Nat) (o : EObj), (mkH l).get b = some o → ∃ x, (b, x) ∈ l ∧ o = x.obj
  | [], b, o, h => by
    have : (Tr.nil : Tr EObj).get b = some o := h
    rw [Tr.get_nil] at this; cases this
  | (c, y) :: l, b, o, h => by
    have h : ((mkH l).set c y.obj).get b = some o := h
    rw [Tr.get_set] at h
    split at h
    · rename_i e; cases h; subst e; exact ⟨y, .head _, rfl⟩
    · obtain ⟨x, h1, h2⟩ := mkH_get l b o h
      exact ⟨x, .tail _ h1, h2⟩
noncomputable def viewsO (h : Tr EObj) (l : List (Nat × LObj)) : List (Option LObj) := @List.rec (Nat × LObj) (fun _ => List (Option LObj)) [] (fun p _ ih => viewO (h.get p.1) :: ih) l
def somesO (l : List (Nat × LObj)) : List (Option LObj) := l.map fun p => some p.2
theorem viewsO_mem {h : Tr EObj} : ∀ {l : List (Nat × LObj)}, viewsO h l = somesO l → ∀ p, p ∈ l → viewO (h.get p.1) = some p.2
  | [], _, p, hp => by cases hp
  | q :: l, e, p, hp => by
    have e : viewO (h.get q.1) :: viewsO h l = some q.2 :: somesO l := e
    injection e with e1 e2
    rcases List.mem_cons.1 hp with rfl | hp
    · exact e1
    · exact viewsO_mem e2 p hp
theorem loadL_get {c : Tr Value} : ∀ (n o : Nat) (l : List Value), loadL c n o = some l → ∀ i, i < n → c.get (o + i) = l[i]?
  | 0, o, l, h, i, hi => by omega
  | n + 1, o, l, h, i, hi => by
    rw [loadL_succ] at h
    split at h
    case h_2 => cases h
    rename_i v hv
    split at h
    case h_2 => cases h
    rename_i l' hl
    cases h
    cases i with
    | zero => rw [Nat.add_zero, hv]; rfl
    | succ i =>
      have := loadL_get n (o + 1) l' hl i (by omega)
      rw [show o + (i + 1) = o + 1 + i by omega, this]; rfl
theorem viewO_obj {ρ : Ren} {o : Option EObj} {x : LObj} {X : Obj} (h : viewO o = some x) : ∃ o', o = some o' ∧ (ObjR ρ o' X → ObjR ρ x.obj X) := by
  unfold viewO at h
  split at h
  · rename_i t n u c
    split at h
    case h_2 => cases h
    rename_i l hl
    cases h
    refine ⟨_, rfl, fun hO => ?_⟩
    cases X with
    | cells arr t' fr =>
      obtain ⟨h1, h2, h3, h4, h5⟩ := hO
      refine ⟨h1, h2, h3, h4, fun i hi => ?_⟩
      obtain ⟨v, v', e1, e2, e3⟩ := h5 i hi
      refine ⟨v, v', ?_, e2, e3⟩
      have := loadL_get n 0 l hl i hi
      rw [Nat.zero_add, e1] at this
      rw [ofL_get, ← this]
    | _ => exact hO.elim
  · cases h
    exact ⟨_, rfl, fun hO => hO⟩
  · cases h
/-- The state of these blocks. -/
noncomputable def mkS (l : List (Nat × LObj)) (nx : Nat) : St := ⟨mkH l, nx⟩
theorem R.cut {G : Nat} {ρ : Ren} {st : St} {w : World} {l : List (Nat × LObj)} {nx : Nat} (hR : R G ρ st w) (hv : viewsO st.h l = somesO l) (hn : st.nx ≤ nx) : R G ρ (mkS l nx) w where
  live := fun b o hb => by
    obtain ⟨x, hx, rfl⟩ := mkH_get l b o hb
    obtain ⟨o', e, _⟩ := viewO_obj (ρ := ρ) (X := .map #[] 0) (viewsO_mem hv _ hx)
    obtain ⟨c, X, h1, h2, h3, h4⟩ := hR.live b o' e
    obtain ⟨o2, e2, h5⟩ := viewO_obj (ρ := ρ) (X := X) (viewsO_mem hv _ hx)
    rw [show st.h.get (b, x).1 = some o' from e] at e2; cases e2
    exact ⟨c, X, h1, h2, h5 h3, h4⟩
  inj := fun b b' o o' c hb hb' => by
    obtain ⟨x, hx, rfl⟩ := mkH_get l b o hb
    obtain ⟨x', hx', rfl⟩ := mkH_get l b' o' hb'
    obtain ⟨q, e, _⟩ := viewO_obj (ρ := ρ) (X := .map #[] 0) (viewsO_mem hv _ hx)
    obtain ⟨q', e', _⟩ := viewO_obj (ρ := ρ) (X := .map #[] 0) (viewsO_mem hv _ hx')
    exact hR.inj b b' q q' c e e'
  dom := fun b c hc => ⟨Nat.lt_of_lt_of_le (hR.dom b c hc).1 hn, (hR.dom b c hc).2⟩
  glob := hR.glob
theorem Went.cut {ρ ρ' : Ren} {st st' : St} {w w' : World} {l : List (Nat × LObj)} {nx : Nat} (hW : Went ρ st w ρ' st' w') (hv : viewsO st'.h l = somesO l) (hn : st'.nx ≤ nx) : Went ρ st w ρ' (mkS l nx) w' where
  le := hW.le
  nx := Nat.le_trans hW.nx hn
  size := hW.size
  frame := hW.frame
  fresh := fun b o c hb => by
    obtain ⟨x, hx, rfl⟩ := mkH_get l b o hb
    obtain ⟨q, e, _⟩ := viewO_obj (ρ := ρ) (X := .map #[] 0) (viewsO_mem hv _ hx)
    exact hW.fresh b q c e
  new := hW.new
  os := hW.os
  tape := hW.tape
  output := hW.output

/-! ### Behind Begin (printed by tools/cev) -/
abbrev u (n : Nat) : Value := .int .u64 (.ofNat n)
abbrev i (n : Nat) : Value := .int .i64 (.ofNat n)
abbrev pn : Value := .pointer none
abbrev pa (b o : Nat) : Option Addr := some ⟨b, o, none⟩
def lit0 (t w : TypeId) : List (Nat × LObj) := [
  (0, .cells t 5 false [i 3, i 7, i 15, i 31, i 60]),
  (1, .cells w 16 false [.int .u32 (.ofNat 0), .int .u32 (.ofNat 274646895), .int .u32 (.ofNat 549293790), .int .u32 (.ofNat 820201905), .int .u32 (.ofNat 1098587580), .int .u32 (.ofNat 1361435347), .int .u32 (.ofNat 1640403810), .int .u32 (.ofNat 1905808397), .int .u32 (.ofNat 2197175160), .int .u32 (.ofNat 2460548119), .int .u32 (.ofNat 2722870694), .int .u32 (.ofNat 2987750089), .int .u32 (.ofNat 3280807620), .int .u32 (.ofNat 3553878443), .int .u32 (.ofNat 3811616794), .int .u32 (.ofNat 4084100981)]),
  (8, .cells 29 1280 false [u 7738151121853964849, u 1, u 7318461074112513, u 8, u 0, u 0, u 0, u 5384991571, u 0, u 0, u 0, u 0, u 0, u 0, u 0, u 0, u 478392707436, u 0, u 3377704015495745, u 4637655618, u 125822818283105, u 0, u 18014402804449918, u 6711992255, u 0, u 0, u 0, u 0, u 0, u 0, u 0, u 0, u 0, u 0, u 0, u 0, u 0, u 0, u 0, u 0, u 0, u 0, u 0, u 0, u 0, u 0, u 0, u 0, u 0, u 0, u 0, u 0, u 0, u 0, u 0, u 0, u 0, u 0, u 0, u 0, u 0, u 0, u 0, u 0, u 0, u 0, u 0, u 0, u 0, u 0, u 0, u 0, u 0, u 0, u 0, u 0, u 0, u 0, u 0, u 0, u 0, u 0, u 0, u 0, u 0, u 0, u 0, u 0, u 160, u 125822818283105, u 168, u 0, u 176, u 18014402804449918, u 184, u 6711992255, u 5096, u 3047765631517589505, u 4552, u 3, u 0, u 0, u 0, u 0, u 0, u 0, u 0, u 0, u 0, u 0, u 0, u 0, u 0, u 0, u 0, u 0, u 0, u 0, u 0, u 0, u 0, u 0, u 0, u 0, u 0, u 0, u 0, u 0, u 0, u 0, u 0, u 0, u 0, u 0, u 0, u 0, u 0, u 0, u 0, u 0, u 0, u 0, u 0, u 0, u 0, u 0, u 0, u 0, u 0, u 0, u 0, u 0, u 0, u 0, u 0, u 0, u 0, u 0, u 0, u 0, u 0, u 0, u 0, u 0, u 0, u 0, u 0, u 0, u 0, u 0, u 0, u 0, u 0, u 0, u 0, u 0, u 0, u 0, u 0, u 0, u 0, u 0, u 0, u 0, u 0, u 0, u 0, u 0, u 0, u 0, u 0, u 0, u 0, u 0, u 0, u 0, u 0, u 0, u 0, u 0, u 0, u 0, u 0, u 0, u 0, u 0, u 0, u 0, u 0, u 0, u 0, u 0, u 0, u 0, u 0, u 0, u 0, u 0, u 0, u 0, u 0, u 0, u 0, u 0, u 0, u 0, u 0, u 0, u 0, u 0, u 0, u 0, u 0, u 0, u 0, u 0, u 0, u 0, u 0, u 0, u 0, u 0, u 0, u 0, u 0, u 0, u 0, u 0, u 0, u 0, u 0, u 0, u 0, u 0, u 0, u 0, u 0,
    u 0, u 0, u 0, u 0, u 0, u 0, u 0, u 0, u 0, u 0, u 0, u 0, u 0, u 0, u 0, u 0, u 0, u 0, u 0, u 0, u 0, u 0, u 0, u 0, u 0, u 0, u 0, u 0, u 0, u 0, u 0, u 0, u 0, u 0, u 0, u 0, u 0, u 0, u 0, u 0, u 0, u 0, u 0, u 0, u 0, u 0, u 0, u 0, u 0, u 0, u 0, u 0, u 0, u 0, u 0, u 0, u 0, u 0, u 0, u 0, u 0, u 0, u 0, u 0, u 0, u 0, u 0, u 0, u 0, u 0, u 0, u 0, u 0, u 0, u 0, u 0, u 0, u 0, u 0, u 0, u 0, u 0, u 0, u 0, u 0, u 0, u 0, u 0, u 0, u 0, u 0, u 0, u 0, u 0, u 0, u 0, u 0, u 0, u 0, u 0, u 0, u 0, u 0, u 0, u 0, u 0, u 0, u 0, u 0, u 0, u 0, u 0, u 0, u 0, u 0, u 0, u 0, u 0, u 0, u 0, u 0, u 0, u 0, u 0, u 0, u 0, u 0, u 0, u 0, u 0, u 0, u 0, u 0, u 0, u 0, u 0, u 0, u 0, u 0, u 0, u 0, u 0, u 0, u 0, u 0, u 0, u 0, u 0, u 0, u 0, u 0, u 0, u 0, u 0, u 0, u 0, u 0, u 0, u 0, u 0, u 0, u 0, u 0, u 0, u 0, u 0, u 0, u 0, u 0, u 0, u 0, u 0, u 0, u 0, u 0, u 0, u 0, u 0, u 0, u 0, u 0, u 0, u 0, u 0, u 0, u 0, u 0, u 0, u 0, u 0, u 0, u 0, u 0, u 0, u 0, u 0, u 0, u 0, u 0, u 0, u 0, u 0, u 0, u 0, u 0, u 0, u 0, u 0, u 0, u 0, u 0, u 0, u 0, u 0, u 0, u 0, u 0, u 0, u 0, u 0, u 0, u 0, u 0, u 0, u 0, u 0, u 0, u 0, u 0, u 0, u 0, u 0, u 0, u 0, u 0, u 0, u 0, u 0, u 0, u 1836515329, u 0, u 0, u 0, u 0, u 0, u 0, u 0, u 0, u 0, u 0, u 0, u 0, u 0, u 0, u 0, u 0, u 0, u 0, u 0, u 0, u 0, u 0, u 0, u 0, u 0, u 0, u 0, u 0, u 0, u 0, u 0, u 1836515329, u 0, u 0, u 0, u 0, u 0, u 0, u 0, u 0, u 0, u 0, u 0, u 0, u 0, u 0, u 0, u 0, u 0, u 0, u 0, u 0, u 0, u 0, u 0, u 0,
    u 0, u 0, u 0, u 0, u 0, u 0, u 0, u 7309464666214760450, u 0, u 0, u 0, u 0, u 0, u 0, u 0, u 122683016812494849, u 3, u 0, u 0, u 0, u 0, u 0, u 0, u 487148323397697537, u 0, u 0, u 0, u 0, u 0, u 0, u 0, u 0, u 0, u 0, u 0, u 0, u 0, u 0, u 0, u 0, u 0, u 0, u 0, u 0, u 0, u 0, u 0, u 0, u 0, u 0, u 0, u 0, u 0, u 0, u 0, u 0, u 0, u 0, u 0, u 0, u 0, u 0, u 0, u 0, u 0, u 0, u 0, u 0, u 0, u 0, u 0, u 0, u 0, u 0, u 0, u 0, u 0, u 0, u 0, u 0, u 0, u 0, u 0, u 0, u 3047765631517589505, u 0, u 0, u 0, u 0, u 0, u 0, u 0, u 0, u 0, u 0, u 0, u 0, u 0, u 0, u 0, u 0, u 0, u 0, u 0, u 0, u 0, u 0, u 0, u 0, u 0, u 0, u 0, u 0, u 0, u 0, u 0, u 0, u 0, u 0, u 0, u 0, u 0, u 0, u 0, u 0, u 0, u 0, u 0, u 0, u 0, u 0, u 0, u 0, u 0, u 0, u 0, u 0, u 0, u 0, u 0, u 0, u 0, u 0, u 0, u 0, u 2825889704044396545, u 0, u 0, u 0, u 0, u 0, u 0, u 0, u 0, u 0, u 0, u 0, u 0, u 0, u 0, u 0, u 0, u 0, u 0, u 0, u 0, u 0, u 0, u 0, u 0, u 0, u 0, u 0, u 0, u 0, u 0, u 0, u 0, u 0, u 0, u 0, u 0, u 0, u 0, u 0, u 0, u 0, u 0, u 0, u 0, u 0, u 0, u 0, u 0, u 0, u 0, u 0, u 0, u 0, u 0, u 0, u 0, u 0, u 0, u 0, u 0, u 2825889704044396545, u 0, u 0, u 0, u 0, u 0, u 0, u 0, u 0, u 0, u 0, u 0, u 0, u 0, u 0, u 0, u 0, u 0, u 0, u 0, u 0, u 0, u 0, u 0, u 0, u 0, u 0, u 0, u 0, u 0, u 0, u 0, u 0, u 0, u 0, u 0, u 0, u 0, u 0, u 0, u 0, u 0, u 0, u 0, u 0, u 0, u 0, u 0, u 0, u 0, u 0, u 0, u 0, u 0, u 0, u 0, u 0, u 0, u 0, u 0, u 0, u 0, u 0, u 0, u 0, u 7160393175083778049, u 0, u 0,
    u 0, u 0, u 0, u 0, u 0, u 0, u 0, u 0, u 0, u 0, u 0, u 0, u 0, u 0, u 0, u 0, u 0, u 0, u 0, u 0, u 0, u 0, u 0, u 0, u 0, u 0, u 0, u 0, u 0, u 0, u 0, u 0, u 0, u 0, u 0, u 0, u 0, u 0, u 0, u 0, u 0, u 0, u 0, u 0, u 0, u 0, u 0, u 0, u 0, u 0, u 0, u 0, u 0, u 0, u 0, u 0, u 0, u 0, u 0, u 0, u 0, u 0, u 0, u 0, u 0, u 0, u 0, u 0, u 0, u 0, u 0, u 0, u 0, u 0, u 0, u 0, u 0, u 0, u 0, u 0, u 0, u 0, u 0, u 0, u 0, u 0, u 0, u 0, u 0, u 0, u 0, u 0, u 0, u 0, u 0, u 0, u 0, u 0, u 0, u 0, u 0, u 0, u 0, u 0, u 0, u 0, u 0, u 0, u 0, u 0, u 0, u 0, u 0, u 0, u 0, u 0, u 0, u 0, u 0, u 0, u 0, u 0, u 0, u 0, u 0, u 0, u 0, u 0, u 0, u 0, u 0, u 0, u 0, u 0, u 0, u 0, u 0, u 0, u 0, u 0, u 0, u 0, u 0, u 0, u 0, u 0, u 0, u 0, u 0, u 0, u 0, u 0, u 0, u 0, u 0, u 0, u 0, u 0, u 0, u 0, u 0, u 0, u 0, u 0, u 0, u 0, u 0, u 0, u 0, u 0, u 0, u 0, u 0, u 0, u 0, u 0, u 0, u 0, u 0, u 0, u 0, u 0, u 0, u 0, u 0, u 0, u 0, u 0, u 0, u 0, u 0, u 0, u 0, u 0, u 0, u 0, u 0, u 0, u 0, u 0, u 0, u 0, u 0, u 0, u 0, u 0, u 0, u 0, u 0, u 0, u 0, u 0, u 0, u 0, u 0, u 0, u 0, u 0, u 0, u 0, u 0, u 0, u 0, u 0, u 0, u 0, u 0, u 0, u 0, u 0, u 0, u 0, u 0, u 0, u 0, u 0, u 0, u 0, u 0, u 0, u 0, u 0, u 0, u 0, u 0, u 0, u 0, u 0, u 0, u 0, u 0, u 0, u 0, u 0, u 0, u 0, u 0, u 0, u 0, u 0, u 0, u 0, u 0, u 0, u 0, u 0, u 0, u 0, u 0, u 0, u 0, u 0, u 0, u 0, u 0, u 0, u 0, u 0, u 0, u 0, u 0, u 0, u 0, u 0, u 0, u 0, u 0, u 0, u 0, u 0, u 0, u 0, u 0, u 0, u 0, u 0, u 0, u 0, u 0,
    u 0, u 0, u 0, u 0, u 0, u 0, u 0, u 0, u 0, u 0, u 0, u 0, u 0, u 0, u 0, u 0, u 0, u 0, u 0, u 0, u 0, u 0, u 0, u 0, u 0, u 0, u 0, u 0, u 0, u 0, u 0, u 0, u 0, u 0, u 0, u 0, u 0, u 0, u 0, u 0, u 0, u 0, u 0, u 0, u 0, u 0, u 0, u 0, u 0, u 0, u 0, u 0, u 0, u 0, u 0, u 0, u 0, u 0, u 0, u 0, u 0, u 0, u 0, u 0, u 0, u 0, u 0, u 0, u 0, u 0, u 0, u 0, u 0, u 0, u 0, u 0, u 0, u 0, u 0, u 0, u 0, u 0, u 0, u 0, u 0, u 0, u 0, u 0, u 0, u 0, u 0, u 0, u 0, u 0, u 0, u 0, u 0, u 0, u 0, u 0, u 0, u 0, u 0, u 0, u 0, u 0, u 0, u 0, u 0, u 0, u 0, u 0, u 0, u 0, u 0, u 0, u 0, u 0, u 0, u 0, u 0, u 0, u 0, u 0, u 0, u 0, u 0, u 0, u 0, u 0, u 0, u 0, u 0, u 0, u 0, u 0, u 0, u 0, u 0, u 0, u 0, u 0, u 0, u 0, u 0, u 0, u 0, u 0, u 0, u 0, u 0, u 0, u 0, u 0]),
  (15, .cells 394 320 false [u 11, .slice none 0 0, u 2, .slice none 0 0, u 10, .slice none 0 0, u 2, .slice none 0 0, u 2, .slice none 0 0, u 2, .slice none 0 0, u 2, .slice none 0 0, u 2, .slice none 0 0, u 2, .slice none 0 0, u 2, .slice none 0 0, u 5, .slice none 0 0, u 16, .slice none 0 0, u 8, .slice none 0 0, u 0, .slice none 0 0, u 0, .slice none 0 0, u 0, .slice none 0 0, u 0, .slice none 0 0, u 0, .slice none 0 0, u 0, .slice none 0 0, u 0, .slice none 0 0, u 0, .slice none 0 0, u 0, .slice none 0 0, u 0, .slice none 0 0, u 0, .slice none 0 0, u 0, .slice none 0 0, u 0, .slice none 0 0, u 0, .slice none 0 0, u 0, .slice none 0 0, u 0, .slice none 0 0, u 0, .slice none 0 0, u 0, .slice none 0 0, u 0, .slice none 0 0, u 0, .slice none 0 0, u 0, .slice none 0 0, u 0, .slice none 0 0, u 0, .slice none 0 0, u 1, .slice none 0 0, u 0, .slice none 0 0, u 0, .slice none 0 0, u 0, .slice none 0 0, u 0, .slice none 0 0, u 0, .slice none 0 0, u 0, .slice none 0 0, u 0, .slice none 0 0, u 0, .slice none 0 0, u 0, .slice none 0 0, u 0, .slice none 0 0, u 0, .slice none 0 0, u 0, .slice none 0 0, u 0, .slice none 0 0, u 0, .slice none 0 0, u 0, .slice none 0 0, u 0, .slice none 0 0, u 0, .slice none 0 0, u 0, .slice none 0 0, u 0, .slice none 0 0, u 0, .slice none 0 0, u 0, .slice none 0 0, u 0, .slice none 0 0, u 0, .slice none 0 0, u 0, .slice none 0 0, u 0, .slice none 0 0, u 1, .slice none 0 0, u 0, .slice none 0 0, u 0, .slice none 0 0, u 0, .slice none 0 0, u 1,
    .slice none 0 0, u 0, .slice none 0 0, u 0, .slice none 0 0, u 0, .slice none 0 0, u 9, .slice none 0 0, u 11, .slice none 0 0, u 9, .slice none 0 0, u 8, .slice none 0 0, u 8, .slice none 0 0, u 8, .slice none 0 0, u 8, .slice none 0 0, u 8, .slice none 0 0, u 8, .slice none 0 0, u 9, .slice none 0 0, u 8, .slice none 0 0, u 8, .slice none 0 0, u 8, .slice none 0 0, u 8, .slice none 0 0, u 8, .slice none 0 0, u 8, .slice none 0 0, u 8, .slice none 0 0, u 3, .slice none 0 0, u 0, .slice none 0 0, u 0, .slice none 0 0, u 0, .slice none 0 0, u 0, .slice none 0 0, u 0, .slice none 0 0, u 0, .slice none 0 0, u 1, .slice none 0 0, u 0, .slice none 0 0, u 0, .slice none 0 0, u 0, .slice none 0 0, u 0, .slice none 0 0, u 0, .slice none 0 0, u 0, .slice none 0 0, u 0, .slice none 0 0, u 0, .slice none 0 0, u 1, .slice none 0 0, u 0, .slice none 0 0, u 0, .slice none 0 0, u 0, .slice none 0 0, u 0, .slice none 0 0, u 0, .slice none 0 0, u 0, .slice none 0 0, u 0, .slice none 0 0, u 0, .slice none 0 0, u 0, .slice none 0 0, u 0, .slice none 0 0, u 0, .slice none 0 0, u 0, .slice none 0 0, u 0, .slice none 0 0, u 0, .slice none 0 0, u 0, .slice none 0 0, u 0, .slice none 0 0, u 0, .slice none 0 0, u 0, .slice none 0 0, u 0, .slice none 0 0, u 0, .slice none 0 0, u 0, .slice none 0 0, u 0, .slice none 0 0, u 0, .slice none 0 0, u 0, .slice none 0 0, u 0, .slice none 0 0, u 0, .slice none 0 0, u 0, .slice none 0 0, u 0, .slice none 0 0, u 0, .slice none 0 0, u 0, .slice none 0 0, u 0,
    .slice none 0 0, u 0, .slice none 0 0, u 0, .slice none 0 0, u 0, .slice none 0 0, u 0, .slice none 0 0, u 0, .slice none 0 0, u 0, .slice none 0 0, u 0, .slice none 0 0, u 0, .slice none 0 0, u 0, .slice none 0 0, u 0, .slice none 0 0, u 0, .slice none 0 0, u 0, .slice none 0 0, u 0, .slice none 0 0, u 0, .slice none 0 0, u 0, .slice none 0 0, u 0, .slice none 0 0, u 0, .slice none 0 0, u 0, .slice none 0 0, u 0, .slice none 0 0, u 0, .slice none 0 0, u 0, .slice none 0 0, u 0, .slice none 0 0, u 0, .slice none 0 0, u 0, .slice none 0 0, u 0, .slice none 0 0]),
  (17, .cells 218 15 false [.slice (pa 8 0) 1280 1280, .slice (some ⟨20, 0, some 1⟩) 1280 1280, .slice (pa 15 0) 160 160, .pointer (pa 22 0), .pointer (pa 24 0), .pointer (pa 26 0), .pointer (pa 28 0), .pointer (pa 30 0), .pointer (pa 32 0), .pointer (pa 34 0), .pointer (pa 36 0), .bool false, .bool false, i 0, u 298]),
  (20, .cells 29 1280 true [u 7738151121853964849, u 1, u 7318461074112513, u 8, u 0, u 0, u 0, u 5384991571, u 0, u 0, u 0, u 0, u 0, u 0, u 0, u 0, u 478392707436, u 0, u 3377704015495745, u 4637655618, u 125822818283105, u 0, u 18014402804449918, u 6711992255, u 0, u 0, u 0, u 0, u 0, u 0, u 0, u 0, u 0, u 0, u 0, u 0, u 0, u 0, u 0, u 0, u 0, u 0, u 0, u 0, u 0, u 0, u 0, u 0, u 0, u 0, u 0, u 0, u 0, u 0, u 0, u 0, u 0, u 0, u 0, u 0, u 0, u 0, u 0, u 0, u 0, u 0, u 0, u 0, u 0, u 0, u 0, u 0, u 0, u 0, u 0, u 0, u 0, u 0, u 0, u 0, u 0, u 0, u 0, u 0, u 0, u 0, u 0, u 0, u 160, u 125822818283105, u 168, u 0, u 176, u 18014402804449918, u 184, u 6711992255, u 5096, u 3047765631517589505, u 4552, u 3, u 0, u 0, u 0, u 0, u 0, u 0, u 0, u 0, u 0, u 0, u 0, u 0, u 0, u 0, u 0, u 0, u 0, u 0, u 0, u 0, u 0, u 0, u 0, u 0, u 0, u 0, u 0, u 0, u 0, u 0, u 0, u 0, u 0, u 0, u 0, u 0, u 0, u 0, u 0, u 0, u 0, u 0, u 0, u 0, u 0, u 0, u 0, u 0, u 0, u 0, u 0, u 0, u 0, u 0, u 0, u 0, u 0, u 0, u 0, u 0, u 0, u 0, u 0, u 0, u 0, u 0, u 0, u 0, u 0, u 0, u 0, u 0, u 0, u 0, u 0, u 0, u 0, u 0, u 0, u 0, u 0, u 0, u 0, u 0, u 0, u 0, u 0, u 0, u 0, u 0, u 0, u 0, u 0, u 0, u 0, u 0, u 0, u 0, u 0, u 0, u 0, u 0, u 0, u 0, u 0, u 0, u 0, u 0, u 0, u 0, u 0, u 0, u 0, u 0, u 0, u 0, u 0, u 0, u 0, u 0, u 0, u 0, u 0, u 0, u 0, u 0, u 0, u 0, u 0, u 0, u 0, u 0, u 0, u 0, u 0, u 0, u 0, u 0, u 0, u 0, u 0, u 0, u 0, u 0, u 0, u 0, u 0, u 0, u 0, u 0, u 0, u 0, u 0, u 0, u 0, u 0, u 0,
    u 0, u 0, u 0, u 0, u 0, u 0, u 0, u 0, u 0, u 0, u 0, u 0, u 0, u 0, u 0, u 0, u 0, u 0, u 0, u 0, u 0, u 0, u 0, u 0, u 0, u 0, u 0, u 0, u 0, u 0, u 0, u 0, u 0, u 0, u 0, u 0, u 0, u 0, u 0, u 0, u 0, u 0, u 0, u 0, u 0, u 0, u 0, u 0, u 0, u 0, u 0, u 0, u 0, u 0, u 0, u 0, u 0, u 0, u 0, u 0, u 0, u 0, u 0, u 0, u 0, u 0, u 0, u 0, u 0, u 0, u 0, u 0, u 0, u 0, u 0, u 0, u 0, u 0, u 0, u 0, u 0, u 0, u 0, u 0, u 0, u 0, u 0, u 0, u 0, u 0, u 0, u 0, u 0, u 0, u 0, u 0, u 0, u 0, u 0, u 0, u 0, u 0, u 0, u 0, u 0, u 0, u 0, u 0, u 0, u 0, u 0, u 0, u 0, u 0, u 0, u 0, u 0, u 0, u 0, u 0, u 0, u 0, u 0, u 0, u 0, u 0, u 0, u 0, u 0, u 0, u 0, u 0, u 0, u 0, u 0, u 0, u 0, u 0, u 0, u 0, u 0, u 0, u 0, u 0, u 0, u 0, u 0, u 0, u 0, u 0, u 0, u 0, u 0, u 0, u 0, u 0, u 0, u 0, u 0, u 0, u 0, u 0, u 0, u 0, u 0, u 0, u 0, u 0, u 0, u 0, u 0, u 0, u 0, u 0, u 0, u 0, u 0, u 0, u 0, u 0, u 0, u 0, u 0, u 0, u 0, u 0, u 0, u 0, u 0, u 0, u 0, u 0, u 0, u 0, u 0, u 0, u 0, u 0, u 0, u 0, u 0, u 0, u 0, u 0, u 0, u 0, u 0, u 0, u 0, u 0, u 0, u 0, u 0, u 0, u 0, u 0, u 0, u 0, u 0, u 0, u 0, u 0, u 0, u 0, u 0, u 0, u 0, u 0, u 0, u 0, u 0, u 0, u 0, u 0, u 0, u 0, u 0, u 0, u 0, u 1836515329, u 0, u 0, u 0, u 0, u 0, u 0, u 0, u 0, u 0, u 0, u 0, u 0, u 0, u 0, u 0, u 0, u 0, u 0, u 0, u 0, u 0, u 0, u 0, u 0, u 0, u 0, u 0, u 0, u 0, u 0, u 0, u 1836515329, u 0, u 0, u 0, u 0, u 0, u 0, u 0, u 0, u 0, u 0, u 0, u 0, u 0, u 0, u 0, u 0, u 0, u 0, u 0, u 0, u 0, u 0, u 0, u 0,
    u 0, u 0, u 0, u 0, u 0, u 0, u 0, u 7309464666214760450, u 0, u 0, u 0, u 0, u 0, u 0, u 0, u 122683016812494849, u 3, u 0, u 0, u 0, u 0, u 0, u 0, u 487148323397697537, u 0, u 0, u 0, u 0, u 0, u 0, u 0, u 0, u 0, u 0, u 0, u 0, u 0, u 0, u 0, u 0, u 0, u 0, u 0, u 0, u 0, u 0, u 0, u 0, u 0, u 0, u 0, u 0, u 0, u 0, u 0, u 0, u 0, u 0, u 0, u 0, u 0, u 0, u 0, u 0, u 0, u 0, u 0, u 0, u 0, u 0, u 0, u 0, u 0, u 0, u 0, u 0, u 0, u 0, u 0, u 0, u 0, u 0, u 0, u 0, u 3047765631517589505, u 0, u 0, u 0, u 0, u 0, u 0, u 0, u 0, u 0, u 0, u 0, u 0, u 0, u 0, u 0, u 0, u 0, u 0, u 0, u 0, u 0, u 0, u 0, u 0, u 0, u 0, u 0, u 0, u 0, u 0, u 0, u 0, u 0, u 0, u 0, u 0, u 0, u 0, u 0, u 0, u 0, u 0, u 0, u 0, u 0, u 0, u 0, u 0, u 0, u 0, u 0, u 0, u 0, u 0, u 0, u 0, u 0, u 0, u 0, u 0, u 2825889704044396545, u 0, u 0, u 0, u 0, u 0, u 0, u 0, u 0, u 0, u 0, u 0, u 0, u 0, u 0, u 0, u 0, u 0, u 0, u 0, u 0, u 0, u 0, u 0, u 0, u 0, u 0, u 0, u 0, u 0, u 0, u 0, u 0, u 0, u 0, u 0, u 0, u 0, u 0, u 0, u 0, u 0, u 0, u 0, u 0, u 0, u 0, u 0, u 0, u 0, u 0, u 0, u 0, u 0, u 0, u 0, u 0, u 0, u 0, u 0, u 0, u 2825889704044396545, u 0, u 0, u 0, u 0, u 0, u 0, u 0, u 0, u 0, u 0, u 0, u 0, u 0, u 0, u 0, u 0, u 0, u 0, u 0, u 0, u 0, u 0, u 0, u 0, u 0, u 0, u 0, u 0, u 0, u 0, u 0, u 0, u 0, u 0, u 0, u 0, u 0, u 0, u 0, u 0, u 0, u 0, u 0, u 0, u 0, u 0, u 0, u 0, u 0, u 0, u 0, u 0, u 0, u 0, u 0, u 0, u 0, u 0, u 0, u 0, u 0, u 0, u 0, u 0, u 7160393175083778049, u 0, u 0,
    u 0, u 0, u 0, u 0, u 0, u 0, u 0, u 0, u 0, u 0, u 0, u 0, u 0, u 0, u 0, u 0, u 0, u 0, u 0, u 0, u 0, u 0, u 0, u 0, u 0, u 0, u 0, u 0, u 0, u 0, u 0, u 0, u 0, u 0, u 0, u 0, u 0, u 0, u 0, u 0, u 0, u 0, u 0, u 0, u 0, u 0, u 0, u 0, u 0, u 0, u 0, u 0, u 0, u 0, u 0, u 0, u 0, u 0, u 0, u 0, u 0, u 0, u 0, u 0, u 0, u 0, u 0, u 0, u 0, u 0, u 0, u 0, u 0, u 0, u 0, u 0, u 0, u 0, u 0, u 0, u 0, u 0, u 0, u 0, u 0, u 0, u 0, u 0, u 0, u 0, u 0, u 0, u 0, u 0, u 0, u 0, u 0, u 0, u 0, u 0, u 0, u 0, u 0, u 0, u 0, u 0, u 0, u 0, u 0, u 0, u 0, u 0, u 0, u 0, u 0, u 0, u 0, u 0, u 0, u 0, u 0, u 0, u 0, u 0, u 0, u 0, u 0, u 0, u 0, u 0, u 0, u 0, u 0, u 0, u 0, u 0, u 0, u 0, u 0, u 0, u 0, u 0, u 0, u 0, u 0, u 0, u 0, u 0, u 0, u 0, u 0, u 0, u 0, u 0, u 0, u 0, u 0, u 0, u 0, u 0, u 0, u 0, u 0, u 0, u 0, u 0, u 0, u 0, u 0, u 0, u 0, u 0, u 0, u 0, u 0, u 0, u 0, u 0, u 0, u 0, u 0, u 0, u 0, u 0, u 0, u 0, u 0, u 0, u 0, u 0, u 0, u 0, u 0, u 0, u 0, u 0, u 0, u 0, u 0, u 0, u 0, u 0, u 0, u 0, u 0, u 0, u 0, u 0, u 0, u 0, u 0, u 0, u 0, u 0, u 0, u 0, u 0, u 0, u 0, u 0, u 0, u 0, u 0, u 0, u 0, u 0, u 0, u 0, u 0, u 0, u 0, u 0, u 0, u 0, u 0, u 0, u 0, u 0, u 0, u 0, u 0, u 0, u 0, u 0, u 0, u 0, u 0, u 0, u 0, u 0, u 0, u 0, u 0, u 0, u 0, u 0, u 0, u 0, u 0, u 0, u 0, u 0, u 0, u 0, u 0, u 0, u 0, u 0, u 0, u 0, u 0, u 0, u 0, u 0, u 0, u 0, u 0, u 0, u 0, u 0, u 0, u 0, u 0, u 0, u 0, u 0, u 0, u 0, u 0, u 0, u 0, u 0, u 0, u 0, u 0, u 0, u 0, u 0, u 0,
    u 0, u 0, u 0, u 0, u 0, u 0, u 0, u 0, u 0, u 0, u 0, u 0, u 0, u 0, u 0, u 0, u 0, u 0, u 0, u 0, u 0, u 0, u 0, u 0, u 0, u 0, u 0, u 0, u 0, u 0, u 0, u 0, u 0, u 0, u 0, u 0, u 0, u 0, u 0, u 0, u 0, u 0, u 0, u 0, u 0, u 0, u 0, u 0, u 0, u 0, u 0, u 0, u 0, u 0, u 0, u 0, u 0, u 0, u 0, u 0, u 0, u 0, u 0, u 0, u 0, u 0, u 0, u 0, u 0, u 0, u 0, u 0, u 0, u 0, u 0, u 0, u 0, u 0, u 0, u 0, u 0, u 0, u 0, u 0, u 0, u 0, u 0, u 0, u 0, u 0, u 0, u 0, u 0, u 0, u 0, u 0, u 0, u 0, u 0, u 0, u 0, u 0, u 0, u 0, u 0, u 0, u 0, u 0, u 0, u 0, u 0, u 0, u 0, u 0, u 0, u 0, u 0, u 0, u 0, u 0, u 0, u 0, u 0, u 0, u 0, u 0, u 0, u 0, u 0, u 0, u 0, u 0, u 0, u 0, u 0, u 0, u 0, u 0, u 0, u 0, u 0, u 0, u 0, u 0, u 0, u 0, u 0, u 0, u 0, u 0, u 0, u 0, u 0, u 0]),
  (21, .map [] 58),
  (22, .cells 241 4 false [.pointer (pa 17 0), i 0, i 0, .map (some 21)]),
  (23, .map [] 0),
  (24, .cells 241 4 false [.pointer (pa 17 0), i 1, i 0, .map (some 23)]),
  (25, .map [] 0),
  (26, .cells 241 4 false [.pointer (pa 17 0), i 2, i 0, .map (some 25)]),
  (27, .map [] 0),
  (28, .cells 241 4 false [.pointer (pa 17 0), i 3, i 0, .map (some 27)]),
  (29, .map [] 0),
  (30, .cells 241 4 false [.pointer (pa 17 0), i 4, i 0, .map (some 29)]),
  (31, .map [] 0),
  (32, .cells 241 4 false [.pointer (pa 17 0), i 5, i 0, .map (some 31)]),
  (33, .map [] 0),
  (34, .cells 241 4 false [.pointer (pa 17 0), i 6, i 0, .map (some 33)]),
  (35, .map [] 0),
  (36, .cells 241 4 false [.pointer (pa 17 0), i 7, i 0, .map (some 35)]),
  (37, .cells 41 55 false [.pointer (pa 1707 0), .pointer (pa 3239 0), .pointer (pa 11998 0), u 18014402804449918, u 0, u 0, u 0, u 0, u 0, u 0, u 0, u 0, u 0, u 0, u 0, u 0, u 0, u 0, u 0, u 0, u 0, u 0, u 0, u 0, u 0, u 0, u 0, u 0, u 0, u 0, u 0, u 0, u 0, u 0, u 0, u 0, u 0, u 0, u 0, u 0, u 0, u 0, u 0, u 0, .slice none 0 0, .slice none 0 0, u 2, u 0, u 0, u 0, u 0, u 0, u 0, u 0, u 0]),
  (1707, .cells 109 15 false [.pointer (pa 17 0), i 1, i 160, i 26, i 26, i 8, i 0, i 0, u 1, .pointer (pa 2094 0), .pointer (pa 2121 0), .pointer (pa 1946 0), .pointer (pa 1856 0), pn, .int .u8 (.ofNat 0)]),
  (1854, .cells 4 2 false [.bool false, .bool false]),
  (1856, .cells 426 6 false [.pointer (pa 17 0), i 62, i 8, u 10240, .slice (pa 1854 0) 2 2, pn]),
  (1946, .cells 208 11 false [.pointer (pa 17 0), u 4480, u 2, u 0, u 0, u 0, u 0, u 0, u 0, u 0, u 0]),
  (2023, .cells 433 2 false [.iface 94 (.pointer (pa 22 0)), .slice (some ⟨2085, 0, some 4⟩) 2 2]),
  (2085, .cells 372 8 true [i 71, i 4, i 0, .bool false, i 103, .int .i64 (.negSucc 0), .int .i64 (.negSucc 0), .bool false]),
  (2092, .map [] 2),
  (2093, .map [] 1),
  (2094, .cells 191 8 false [.iface 94 (.pointer (pa 22 0)), i 71, i 64, .pointer (pa 2023 0), .map (some 2092), .map (some 2093), .map none, .bool false]),
  (2121, .cells 196 2 false [.iface 94 (.pointer (pa 22 0)), u 128]),
  (3238, .cells 304 3 false [.iface 94 (.pointer (pa 22 0)), u 640, u 1664]),
  (3239, .cells 184 3 false [.pointer (pa 2094 0), .pointer (pa 22 0), .pointer (pa 3238 0)]),
  (11998, .cells 125 2 false [u 3377704015495745, .pointer (pa 1946 0)])]
def nx0 : Nat := 12417
noncomputable def S0 (t w : TypeId) : St := mkS (lit0 t w) nx0
def v70 : Value := .pointer (some ⟨37, 0, none⟩)
end Go.Proofs.YtegfafebbnlicaaGreatDoor.Ev

namespace Go.Proofs.YtegfafebbnlicaaGreatDoor.Ev
open Go Go.RowKit
set_option linter.unusedVariables false
set_option linter.unusedSimpArgs false

/-! ### awake as a hook -/
noncomputable def awakeH (args : List Value) (st : St) : Option (Value × St) :=
  match args with
  | [] => match glOk st with
    | some _ => some (.bool true, st)
    | none => none
  | _ => none
theorem awakeH_sound {args : List Value} {st st' : St} {v : Value} (h : awakeH args st = some (v, st')) {ρ : Ren} {w : World} {args' : Array Value} (hR : R Gn ρ st w) (har : AR ρ args.toArray args') :
    HasBody Tryz.prog 5 ∧ CallsIn (Fw none) 0 Tryz.prog 5 args' w (RetR ρ st w v st') := by
  unfold awakeH at h
  split at h
  case h_2 => cases h
  split at h
  case h_2 => cases h
  rename_i tu hg
  obtain ⟨t, u⟩ := tu
  cases h
  refine ⟨⟨_, _, Tryz.func5, rfl, rfl⟩, ?_⟩
  show CallsIn Fence.wide 0 _ _ _ _ _
  rw [callsIn_wide]
  have ha : args' = #[] := Array.eq_empty_of_size_eq_zero (by have := har.1; simpa using this.symm)
  subst ha
  refine (callG_true hkOk (awake_run t u) (glOk_holds hR hg)).mono ?_
  rintro e w' ⟨rfl, hb⟩
  exact ⟨_, rfl, ρ, R.below hR hb, Went.below hR hb, .bool true⟩
noncomputable def hk2 : HookT := fun f => ifFn f 5 (fun _ => awakeH) (hk f)
theorem hk2Ok : HookOk Tryz.prog (hooksOf hk2) := by
  intro call hcall f h hf args st v st' hv ρ w args' hR har
  unfold hooksOf at hf
  cases hh : (hk2 f).h with
  | none => rw [hh] at hf; cases hf
  | some k =>
    rw [hh] at hf; cases hf
    rcases ifFn_some hh with ⟨rfl, rfl⟩ | hh
    · exact awakeH_sound hv hR har
    · exact hkOk call hcall f (k call) (by unfold hooksOf; rw [hh]) args st v st' hv ρ w args' hR har
noncomputable def ih2 : RunX := runX TT FT hk2 100000000
noncomputable def ih2R : Run1 := run TT FT (hooksOf hk2) 100000000
theorem ih2_opt (c : Code) (env : Env) (st : St) : (ih2 c env st).opt = ih2R c env st := runX_eq TT FT hk2 100000000 c env st
theorem ih2S : RunS Tryz.prog TT 100000000 ih2R := run_sound evOk (drawS evOk) evF hk2Ok 100000000

/-! ### Code item by item -/
noncomputable def runN (ih : RunX) (n : Nat) : Code → Env → St → Option (Env × St) :=
  @Nat.rec (fun _ => Code → Env → St → Option (Env × St)) (fun _ env st => some (env, st))
    (fun _ rec c env st => match c with
      | .seq a b => match ih a env st with
        | .norm e s => rec b e s
        | _ => none
      | _ => none) n
def dropN : Nat → Code → Code
  | 0, c => c
  | n + 1, .seq _ b => dropN n b
  | _ + 1, c => c
theorem runN_succ (ih : RunX) (n : Nat) (a b : Code) (env : Env) (st : St) : runN ih (n + 1) (.seq a b) env st = match ih a env st with
        | .norm e s => runN ih n b e s
        | _ => none := rfl
theorem runN_sound {P : Program} {T : Tr TI} {ihX : RunX} {ih : Run1} {m : Nat} (hx : ∀ c env st, (ihX c env st).opt = ih c env st) (hih : RunS P T m ih) (r : Option Nat) :
    ∀ (n : Nat) (c : Code) (env : Env) (st : St) (env' : Env) (st' : St), runN ihX n c env st = some (env', st') → ∀ (ρ : Ren) (w : World) (a : Act), codeOk T c r.isSome = true → dstMax c ≤ a.tmps.size → R Gn ρ st w → EnvR ρ env a.tmps →
    ∀ Q : Exit → Act → World → Prop, (∀ ρ' w' a', Cm ρ st w a ρ' st' w' a' env' → codeOk T (dropN n c) r.isSome = true → dstMax (dropN n c) ≤ a'.tmps.size → (dropN n c).wpIn (Fw r) 0 P Q a' w') → c.wpIn (Fw r) 0 P Q a w
  | 0, c, env, st, env', st', h, ρ, w, a, hc, hm, hR, hE, Q, hQ => by
    cases h
    exact hQ ρ w a (Cm.same hR hE) hc hm
  | n + 1, c, env, st, env', st', h, ρ, w, a, hc, hm, hR, hE, Q, hQ => by
    cases c
    case seq x y =>
      rw [runN_succ] at h
      cases hxx : ihX x env st with
      | norm e s =>
        rw [hxx] at h
        have hrun := hx x env st
        rw [hxx] at hrun
        simp only [codeOk, Bool.and_eq_true] at hc
        simp only [dstMax] at hm
        refine wpIn_seq ?_
        refine wpIn_mono (hih x env st .norm e s hrun.symm r ρ w a hc.1 (max_l hm) hR hE).1 ?_
        rintro ex a1 w1 ⟨rfl, ρ1, c1⟩
        exact runN_sound hx hih r n y e s env' st' h ρ1 w1 a1 hc.2 (by rw [c1.size]; exact max_r hm) c1.r c1.env Q (fun ρ' w' a' c2 h1 h2 => hQ ρ' w' a' (c1.trans c2) h1 h2)
      | bad => rw [hxx] at h; cases h
      | exit id e s => rw [hxx] at h; cases h
      | ret e s => rw [hxx] at h; cases h
    all_goals exact absurd h (by intro h; cases h)

/-! ### LimboTransactions -/
noncomputable def lzC : Code := match Tryz.f3.body with
  | some c => c
  | none => .skip
noncomputable def lzM : Nat := match FT.get 3 with
  | some (_, m) => m
  | none => 0
/-- Begin: what the kernel finds of it. -/
noncomputable def lzA (slot : Int) (c u : Bool) (pt nt : TypeId) : Option (Env × St) := runN ih2 2 lzC (envOf lzM [.int .i64 slot, .bool c, .bool u] 0) (st0 pt nt)
/-- What mod makes of the slot. -/
noncomputable def modX (slot : Int) : Int := Int.tmod (eWrap .i64 (Int.add (Int.tmod slot (.ofNat 40)) (.ofNat 40))) (.ofNat 40)
noncomputable def m3C : Code := match dropN 3 lzC with
    | .seq a _ => a
    | c => c
noncomputable def env1 (slot : Int) (c u : Bool) : Env := ((((Env.none lzM).set 2 (.bool u)).set 1 (.bool c)).set 0 (.int .i64 slot)).set 7 v70
noncomputable def env2 (i : Nat) (c u : Bool) : Env := ((((Env.none lzM).set 2 (.bool u)).set 1 (.bool c)).set 8 (.int .i64 (.ofNat i))).set 7 v70
noncomputable def env3 (v8 v9 v10 : Value) (c u : Bool) : Env := ((((((Env.none lzM).set 1 (.bool c)).set 2 (.bool u)).set 10 v10).set 9 v9).set 8 v8).set 7 v70
noncomputable def env4 (v8 v9 v11 : Value) (c : Bool) : Env := (((((Env.none lzM).set 1 (.bool c)).set 11 v11).set 9 v9).set 8 v8).set 7 v70
/-- awake, and mod. -/
noncomputable def lzB (slot : Int) (c u : Bool) (pt nt : TypeId) : Option (Env × St) := runN ih2 1 (dropN 2 lzC) (env1 slot c u) (S0 pt nt)
end Go.Proofs.YtegfafebbnlicaaGreatDoor.Ev
