/-
  The operations of the package mwcas as a plain machine. No program in sight.
-/
import Derived.Test.YtjoipeojenfiiaaGreatDoorMMwA
namespace Go.Proofs.YtjoipeojenfiiaaGreatDoor.Dv
open Go.RowKit
set_option linter.unusedVariables false

/-- An operation in progress. -/
structure OpS where
  t : Nat
  k : Nat
  es : List (Nat × Nat × Nat)
  ord : List Nat
  seen : List Nat
  loaded : Nat
  stage : Nat
  prog : List Ins
  done : Bool
  changed : Bool
  ended : Bool
  err : Nat
  tgt : Option Nat
  inn : Nat
  next : Nat

/-- A pool with its device and its operations. -/
structure MS where
  dev : DSt
  cur : Option Nat
  busy : Nat → Bool
  op : Nat → OpS

/-- The entries with the raw words as they will be. -/
def OpS.ents (o : OpS) : List En := (List.range o.es.length).map (fun i => ((o.es.getD i (0, 0, 0)).1, (o.es.getD i (0, 0, 0)).2.1, aft (o.es.getD i (0, 0, 0)).2.2 (o.seen.getD i 0)))
def OpS.recw (o : OpS) : List (Nat × Nat) := (List.range (ewords o.ents).length).map (fun i => (256 * o.k + 64 + 8 * i, (ewords o.ents).getD i 0))
/-- The stores of a stage. -/
def OpS.stores (T : Nat → Nat) (o : OpS) (s : Nat) : List (Nat × Nat) :=
  if s = 1 then o.recw else if s = 2 then [(256 * o.k, sst o.es.length (crcW T (ewords o.ents)))] else if s = 3 then ewr o.ents else [(256 * o.k, unusedW)]

def MS.set (m : MS) (i : Nat) (o : OpS) : MS := { m with op := upd m.op i o }
def MS.finish (m : MS) (i : Nat) (b : Bool) : MS := { m.set i { m.op i with done := true, changed := b } with cur := none }
def MS.enter (T : Nat → Nat) (m : MS) (i s : Nat) : MS :=
  if s ≤ 4 then m.set i { m.op i with stage := s, prog := Dv.prog ((m.op i).stores T s) } else (m.set i { m.op i with stage := s }).finish i true
/-- The current operation c loads its next word by thread t. -/
def MS.load (T : Nat → Nat) (m : MS) (c t : Nat) : MS :=
  let o := m.op c
  let idx := o.ord.getD o.loaded 0
  let e := o.es.getD idx (0, 0, 0)
  let w := m.dev.cur (e.1 / 8)
  let m1 := { m with dev := m.dev.on t true }
  if m1.dev.err t ≠ 0 then m1
  else if w % 1099511627776 = e.2.1 then
    let m2 := m1.set c { o with seen := o.seen.set idx w, loaded := o.loaded + 1 }
    if o.loaded + 1 = o.ord.length then m2.enter T c 1 else m2
  else m1.finish c false
def MS.advance (T : Nat → Nat) (m : MS) (i c : Nat) : MS :=
  if (m.op c).stage = 0 then m.load T c (m.op i).t
  else
    let s := (m.op c).stage
    let m1 := if (m.op i).tgt = some c ∧ (m.op i).inn = s then m else m.set i { m.op i with tgt := some c, inn := s, next := 0 }
    let m2 := { m1 with dev := m1.dev.exec (m1.op i).t ((m1.op c).prog.getD (m1.op i).next ⟨3, 0, 0⟩) }
    if m2.dev.err (m2.op i).t ≠ 0 then m2
    else
      let m3 := m2.set i { m2.op i with next := (m2.op i).next + 1 }
      if (m3.op i).next = (m3.op c).prog.length then m3.enter T c (s + 1) else m3
def MS.stop (m : MS) (i e : Nat) : MS :=
  let m1 := { m.set i { m.op i with ended := true, err := e } with busy := upd m.busy (m.op i).k false }
  if (m.op i).done = false ∧ m.cur = some i ∧ (m.op i).stage < 2 then { m1 with cur := none } else m1
/-- A step of operation i, and whether it has ended. -/
def MS.step (T : Nat → Nat) (m : MS) (i : Nat) : MS × Bool :=
  if (m.op i).ended then (m, true)
  else if m.dev.err (m.op i).t ≠ 0 then (m.stop i (m.dev.err (m.op i).t), true)
  else if (m.op i).done then (m.stop i 0, true)
  else
    let m1 := { m with cur := some (m.cur.getD i) }
    let m2 := m1.advance T i (m.cur.getD i)
    if m2.dev.err (m2.op i).t ≠ 0 then (m2.stop i (m2.dev.err (m2.op i).t), true)
    else if (m2.op i).done then (m2.stop i 0, true) else (m2, false)
end Go.Proofs.YtjoipeojenfiiaaGreatDoor.Dv
