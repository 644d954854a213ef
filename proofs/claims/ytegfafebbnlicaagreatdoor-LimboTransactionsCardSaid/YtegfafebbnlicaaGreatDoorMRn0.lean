/-
  The hooks, the state at the start.
-/
import Derived.Test.YtegfafebbnlicaaGreatDoorMHk
import Derived.Test.YtegfafebbnlicaaGreatDoorMExB
import Derived.Test.YtegfafebbnlicaaGreatDoorMEvT
namespace Go.Proofs.YtegfafebbnlicaaGreatDoor.Ev
open Go
set_option linter.unusedVariables false

/-- A choice by a function's number. -/
noncomputable def ifFn (f g : FuncId) (k : HookF) (d : HC) : HC := @Bool.rec (fun _ => HookF → HC → HC) (fun _ d => d) (fun k _ => ⟨some k⟩) (Nat.beq f g) k d
noncomputable def hk : HookT := fun f =>
  ifFn f 126 loadH (ifFn f 246 unpackH (ifFn f 378 fenceH
    (ifFn f 326 (fun _ => bytesOfH) (ifFn f 69 sortedH
    (ifFn f 339 sumH (ifFn f 177 wordsH (ifFn f 129 sortH ⟨none⟩)))))))
theorem ifFn_some {f g : FuncId} {k : HookF} {d : HC} {h : HookF} (e : (ifFn f g k d).h = some h) : (f = g ∧ h = k) ∨ d.h = some h := by
  unfold ifFn at e
  cases hb : Nat.beq f g with
  | false => rw [hb] at e; exact .inr e
  | true => rw [hb] at e; cases e; exact .inl ⟨beq_iff.1 hb, rfl⟩
theorem hkOk : HookOk Tryz.prog (hooksOf hk) := by
  intro call hcall f h hf args st v st' hv ρ w args' hR har
  unfold hooksOf at hf
  cases hh : (hk f).h with
  | none => rw [hh] at hf; cases hf
  | some k =>
    rw [hh] at hf; cases hf
    rcases ifFn_some hh with ⟨rfl, rfl⟩ | hh
    · exact loadH_sound hcall hv hR har
    rcases ifFn_some hh with ⟨rfl, rfl⟩ | hh
    · exact unpackH_sound hcall hv hR har
    rcases ifFn_some hh with ⟨rfl, rfl⟩ | hh
    · exact fenceH_sound hcall hv hR har
    rcases ifFn_some hh with ⟨rfl, rfl⟩ | hh
    · exact bytesOfH_sound hv hR har
    rcases ifFn_some hh with ⟨rfl, rfl⟩ | hh
    · exact sortedH_sound hcall hv hR har
    rcases ifFn_some hh with ⟨rfl, rfl⟩ | hh
    · exact sumH_sound hcall hv hR har
    rcases ifFn_some hh with ⟨rfl, rfl⟩ | hh
    · exact wordsH_sound hcall hv hR har
    rcases ifFn_some hh with ⟨rfl, rfl⟩ | hh
    · exact sortH_sound hcall hv hR har
    cases hh
/-- The variables of the package level: sizeclass.payload, crc.nibbles. -/
noncomputable def st0 (t0 t1 : Nat) : St :=
  ⟨(Tr.nil.set 0 (.cells t0 5 false (ofL [.int .i64 (.ofNat 3), .int .i64 (.ofNat 7), .int .i64 (.ofNat 15), .int .i64 (.ofNat 31), .int .i64 (.ofNat 60)]))).set 1
    (.cells t1 16 false (ofL [.int .u32 (.ofNat 0), .int .u32 (.ofNat 274646895), .int .u32 (.ofNat 549293790), .int .u32 (.ofNat 820201905), .int .u32 (.ofNat 1098587580), .int .u32 (.ofNat 1361435347), .int .u32 (.ofNat 1640403810), .int .u32 (.ofNat 1905808397), .int .u32 (.ofNat 2197175160), .int .u32 (.ofNat 2460548119), .int .u32 (.ofNat 2722870694), .int .u32 (.ofNat 2987750089), .int .u32 (.ofNat 3280807620), .int .u32 (.ofNat 3553878443), .int .u32 (.ofNat 3811616794), .int .u32 (.ofNat 4084100981)])), 8⟩
noncomputable def call0 (g : FuncId) (args : List Value) (st : St) : Option (Value × St) := (cFn TT FT g).run (runX TT FT hk 100000000) args st
def isS {α : Type} (x : Option α) : Bool := match x with
  | some _ => true
  | none => false
end Go.Proofs.YtegfafebbnlicaaGreatDoor.Ev
