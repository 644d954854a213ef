/-
  The evaluator's operations by their classes: 0 of values alone, 1 reading, 2 making a block, 3 changing memory.
  The evaluator: code is run.
-/
import Derived.Test.YtegfafebbnlicaaGreatDoorMEvB
namespace Go.Proofs.YtegfafebbnlicaaGreatDoor.Ev
open Go
set_option linter.unusedVariables false

noncomputable def eOpd (env : Env) (x : Operand) : Option Value :=
  match x with
  | .tmp t => env.get t
  | .const v => match plainV v with
    | true => some v
    | false => none
  | .global g => match Nat.ble (Nat.succ g) Gn with
    | true => some (.pointer (some ⟨g, 0, none⟩))
    | false => none
  | .func f => some (.func (.func f) #[] #[])
noncomputable def eOpds (env : Env) (l : List Operand) : Option (List Value) :=
  List.rec (motive := fun _ => Option (List Value)) (some [])
    (fun x _ ih => match eOpd env x with
      | some v => match ih with
        | some vs => some (v :: vs)
        | none => none
      | none => none) l
noncomputable def eOpt (env : Env) (x : Option Operand) : Option (Option Value) :=
  match x with
  | none => some none
  | some x => match eOpd env x with
    | some v => some (some v)
    | none => none
noncomputable def eParts (env : Env) (l : List (Nat × Operand)) : Option (List (Nat × Value)) :=
  List.rec (motive := fun _ => Option (List (Nat × Value))) (some [])
    (fun x _ ih => match eOpd env x.2 with
      | some v => match ih with
        | some vs => some ((x.1, v) :: vs)
        | none => none
      | none => none) l

/-- Bytes. -/
noncomputable def eqBytes (a : List UInt8) : List UInt8 → Bool :=
  List.rec (motive := fun _ => List UInt8 → Bool) (fun b => match b with
      | [] => true
      | _ :: _ => false)
    (fun x _ ih b => match b with
      | [] => false
      | y :: b => match Nat.beq x.toNat y.toNat with
        | true => ih b
        | false => false) a
noncomputable def ltBytes (a : List UInt8) : List UInt8 → Bool :=
  List.rec (motive := fun _ => List UInt8 → Bool) (fun b => match b with
      | [] => false
      | _ :: _ => true)
    (fun x _ ih b => match b with
      | [] => false
      | y :: b => match Nat.ble (Nat.succ x.toNat) y.toNat with
        | true => true
        | false => match Nat.beq x.toNat y.toNat with
          | true => ih b
          | false => false) a
noncomputable def eStr (op : BinOp) (a b : ByteArray) : Option Value :=
  match op with
  | .add => match Nat.ble (Nat.add a.data.toList.length b.data.toList.length) 1048576 with
    | true => some (.string ⟨(a.data.toList ++ b.data.toList).toArray⟩)
    | false => none
  | .eql => some (.bool (eqBytes a.data.toList b.data.toList))
  | .neq => some (.bool (eNot (eqBytes a.data.toList b.data.toList)))
  | .lss => some (.bool (ltBytes a.data.toList b.data.toList))
  | .geq => some (.bool (eNot (ltBytes a.data.toList b.data.toList)))
  | .gtr => some (.bool (ltBytes b.data.toList a.data.toList))
  | .leq => some (.bool (eNot (ltBytes b.data.toList a.data.toList)))
  | _ => none
/-- Operators of values alone: not == and != of pointers. -/
noncomputable def eBin (op : BinOp) (x y : Value) : Option Value :=
  match x, y with
  | .int k a, .int k' b => match op with
    | .shl => eShift .shl k a b
    | .shr => eShift .shr k a b
    | op => match decide (k = k') with
      | true => eInt op k a b
      | false => none
  | .string a, .string b => eStr op a b
  | _, _ => none
def eUn (op : UnOp) (x : Value) : Option Value :=
  match op, x with
  | .neg, .int k n => eInt .sub k (.ofNat 0) n
  | .xor, .int k n => match k.signed with
    | false => eInt .xor k (.ofNat (Nat.sub (eMod k) 1)) n
    | true => none
  | .not, .bool b => some (.bool (eNot b))
  | _, _ => none
/-- A method's function. -/
noncomputable def methOf (m : String) (l : List (String × FuncId)) : Option FuncId :=
  List.rec (motive := fun _ => Option FuncId) none (fun x _ ih => match decide (x.1 = m) with
    | true => some x.2
    | false => ih) l
noncomputable def eNil (T : Tr TI) (x : Value) : Option Value :=
  match x with
  | .func (.method m) xs cs => match xs.toList with
    | [.iface t v] => match T.get t with
      | some ti => match methOf m ti.ms with
        | some _ => some (.func (.method m) xs cs)
        | none => none
      | none => none
    | _ => none
  | .pointer (some a) => some (.pointer (some a))
  | .func (.func f) xs cs => some (.func (.func f) xs cs)
  | .iface t v => some (.iface t v)
  | _ => none
def eConvInt (d : ED) (x : Value) : Option Value :=
  match d, x with
  | .string, .int _ (.ofNat n) => match Nat.ble n 127 with
    | true => some (.string ⟨#[UInt8.ofNat n]⟩)
    | false => none
  | .int k, .int _ n => some (.int k (eWrap k n))
  | .string, .string s => some (.string s)
  | _, _ => none
def eMin2 (mx : Bool) (x y : Value) : Option Value :=
  match x, y with
  | .int k a, .int _ b => match mx with
    | false => match eLe a b with
      | true => some (.int k a)
      | false => some (.int k b)
    | true => match eLe b a with
      | true => some (.int k a)
      | false => some (.int k b)
  | _, _ => none
noncomputable def eMinL (mx : Bool) (l : List Value) : Value → Option Value :=
  List.rec (motive := fun _ => Value → Option Value) (fun x => some x) (fun y _ ih x => match eMin2 mx x y with
    | some z => ih z
    | none => none) l
def eExtr (x : Value) (i : Nat) : Option Value :=
  match x with
  | .tuple vs => vs.toList[i]?
  | _ => none
/-- Where the parts of a struct or an array lie. -/
def ePlace (d : ED) : Nat → Option (Nat × Nat) :=
  match d with
  | .struct fs => fun i => match fs[i]? with
    | some (off, _, sz) => some (off, sz)
    | none => none
  | .array _ _ sz => fun i => some (Nat.mul i sz, sz)
  | _ => fun _ => none
/-- Cells with others in the place of some. -/
def eOver (cs : List Value) (off : Nat) (vs : List Value) : List Value := cs.take off ++ vs ++ cs.drop (Nat.add off vs.length)
noncomputable def eFill (place : Nat → Option (Nat × Nat)) (ps : List (Nat × Value)) : List Value → Option (List Value) :=
  List.rec (motive := fun _ => List Value → Option (List Value)) (fun cs => some cs)
    (fun p _ ih cs => match place p.1 with
      | none => none
      | some (off, sz) => match Nat.beq (eCells p.2).length sz, Nat.ble (Nat.add off sz) cs.length with
        | true, true => ih (eOver cs off (eCells p.2))
        | _, _ => none) ps
noncomputable def eBuild (ti : TI) (ps : List (Nat × Value)) : Option Value :=
  match ti.d.agg with
  | true => match eFill (ePlace ti.d) ps (eCells ti.zero) with
    | some cs => some (.agg cs.toArray)
    | none => none
  | false => none
noncomputable def eBuildSlice (T : Tr TI) (d : ED) (len : Nat) (ps : List (Nat × Value)) : Option Fresh :=
  match d with
  | .slice e sz _ => match T.get e with
    | some te => match Nat.beq (eCells te.zero).length sz, Nat.ble 1 sz, Nat.ble (Nat.mul len sz) 65536 with
      | true, true, true => match eFill (fun i => some (Nat.mul i sz, sz)) ps (repL (eCells te.zero) len) with
        | some cs => some ⟨.cells e cs.length false (ofL cs), fun b => .slice (some ⟨b, 0, none⟩) len len⟩
        | none => none
      | _, _, _ => none
    | none => none
  | _ => none

/-- Equality that looks at memory, or at no more than two nils. -/
noncomputable def liveCells (st : St) (b : Nat) : Bool :=
  match st.h.get b with
  | some (.cells _ _ false _) => true
  | _ => false
noncomputable def eEqPtr (T : Tr TI) (e : TypeId) (st : St) (a b : Addr) : Option Bool :=
  match T.get e with
  | some te => match Nat.ble 1 te.size with
    | true => match Nat.beq a.block b.block with
      | true => some (Nat.beq a.off b.off)
      | false => match liveCells st a.block, liveCells st b.block with
        | true, true => some false
        | _, _ => none
    | false => none
  | none => none
noncomputable def eEq (T : Tr TI) (d : ED) (st : St) (xc : Bool) (x y : Value) : Option Bool :=
  match d with
  | .bool => match x, y with
    | .bool a, .bool b => some (match a with
      | true => b
      | false => eNot b)
    | _, _ => none
  | .pointer e => match x, y with
    | .pointer none, .pointer none => some true
    | .pointer none, .pointer (some _) => some false
    | .pointer (some _), .pointer none => some false
    | .pointer (some a), .pointer (some b) => eEqPtr T e st a b
    | _, _ => none
  | .iface => match x, y with
    | .nilIface, .nilIface => match xc with
      | true => some true
      | false => none
    | .nilIface, .iface _ _ => some false
    | .iface _ _, .nilIface => some false
    | _, _ => none
  | .slice _ _ _ => match x, y with
    | .slice none _ _, .slice none _ _ => some true
    | .slice none _ _, .slice (some _) _ _ => some false
    | .slice (some _) _ _, .slice none _ _ => some false
    | _, _ => none
  | .map _ _ => match x, y with
    | .map none, .map none => some true
    | .map none, .map (some _) => some false
    | .map (some _), .map none => some false
    | _, _ => none
  | .func => match x, y with
    | .nilFunc, .nilFunc => some true
    | .nilFunc, .func _ _ _ => some false
    | .func _ _ _, .nilFunc => some false
    | _, _ => none
  | _ => none
/-- Equality of flat structs, arrays: cells of integers, strings, bools. -/
noncomputable def eEqFlat (a : List Value) : List Value → Option Bool :=
  List.rec (motive := fun _ => List Value → Option Bool) (fun b => match b with
      | [] => some true
      | _ :: _ => none)
    (fun x _ ih b => match b with
      | [] => none
      | y :: b => match x, y with
        | .int k m, .int k' n => match decide (k = k') with
          | true => match ih b with
            | some r => some (match eEqI m n with
              | true => r
              | false => false)
            | none => none
          | false => none
        | _, _ => none) a

/-- Equality of the structs and arrays of integers that the program compares. -/
noncomputable def isAggT (t : TypeId) (l : List (TypeId × Nat)) (n : Nat) : Bool :=
  List.rec (motive := fun _ => Bool) false (fun x _ ih => match Nat.beq x.1 t, Nat.beq x.2 n with
    | true, true => true
    | _, _ => ih) l
noncomputable def eEqAgg (t : TypeId) (a b : List Value) : Option Bool :=
  match isAggT t aggTs a.length, isAggT t aggTs b.length with
  | true, true => eEqFlat a b
  | _, _ => none
/-- Keys of maps. -/
noncomputable def eKeyEq (x y : Value) : Option Bool :=
  match x, y with
  | .int k a, .int k' b => match decide (k = k') with
    | true => some (eEqI a b)
    | false => none
  | .string a, .string b => some (eqBytes a.data.toList b.data.toList)
  | .bool a, .bool b => some (match a with
    | true => b
    | false => eNot b)
  | _, _ => none
noncomputable def eFind (k : Value) (es : List MapEntry) : Nat → Option (Option (Nat × MapEntry)) :=
  List.rec (motive := fun _ => Nat → Option (Option (Nat × MapEntry))) (fun _ => some none)
    (fun e _ ih i => match eKeyEq k e.key with
      | some true => some (some (i, e))
      | some false => ih (Nat.succ i)
      | none => none) es
/-- Is the type of keys one that the evaluator compares, and the key of it? -/
noncomputable def eKeyOk (T : Tr TI) (kt : TypeId) (k : Value) : Bool :=
  match T.get kt with
  | some ti => match ti.d, k with
    | .int a, .int b _ => decide (a = b)
    | .string, .string _ => true
    | .bool, .bool _ => true
    | _, _ => false
  | none => false
noncomputable def St.entries (st : St) (b : Nat) : Option (List MapEntry × Nat) :=
  match st.h.get b with
  | some (.map es cl) => some (es, cl)
  | _ => none
noncomputable def St.put (st : St) (b : Nat) (o : EObj) : St := ⟨st.h.set b o, st.nx⟩
noncomputable def eLookup (T : Tr TI) (d : ED) (x k : Value) (ok : Bool) (st : St) : Option Value :=
  match d with
  | .map kt et => match eKeyOk T kt k, T.get et with
    | true, some te => match (match x with
        | .map none => some ([], 0)
        | .map (some b) => st.entries b
        | _ => none : Option (List MapEntry × Nat)) with
      | some (es, _) => match eFind k es 0 with
        | some r => match ok with
          | true => match r with
            | some (_, e) => some (.tuple #[e.val, .bool true])
            | none => some (.tuple #[te.zero, .bool false])
          | false => match r with
            | some (_, e) => some e.val
            | none => some te.zero
        | none => none
      | none => none
    | _, _ => none
  | _ => none
/-- The list with another element at a place. -/
noncomputable def notIn (l : List Nat) (n : Nat) : Bool :=
  List.rec (motive := fun _ => Bool) true (fun x _ ih => match Nat.beq x n with
    | true => false
    | false => ih) l
noncomputable def unseen (seen : List Nat) (es : List MapEntry) : List MapEntry :=
  List.rec (motive := fun _ => List MapEntry) [] (fun e _ ih => match notIn seen e.born with
    | true => e :: ih
    | false => ih) es
noncomputable def allFrom (n : Nat) (es : List MapEntry) : Bool :=
  List.rec (motive := fun _ => Bool) true (fun e _ ih => match Nat.ble n e.born with
    | true => ih
    | false => false) es
noncomputable def byStamp (n : Nat) (es : List MapEntry) : Option MapEntry :=
  List.rec (motive := fun _ => Option MapEntry) none (fun e _ ih => match Nat.beq e.born n with
    | true => some e
    | false => ih) es
def lastOf (l : List Nat) : Option Nat := l.getLast?
noncomputable def eRange (d : ED) (x : Value) (st : St) : Option (Value × St) :=
  match d, x with
  | .map _ _, .map none => some (ptrTo st.nx, st.new (.iter none 0 [] 0))
  | .map _ _, .map (some b) => match st.entries b with
    | some (_, cl) => some (ptrTo st.nx, st.new (.iter (some b) cl [] cl))
    | none => none
  | _, _ => none
noncomputable def eStale (seen : List Nat) (es : List MapEntry) (last : Nat) : Bool :=
  match seen, es with
  | _ :: _, _ :: _ => allFrom last es
  | _, _ => false
noncomputable def eNext (x : Value) (str : Bool) (st : St) : Option (Value × St) :=
  match x, str with
  | .pointer (some ⟨r, 0, none⟩), false => match st.h.get r with
    | some (.iter none _ _ _) => some (.tuple #[.bool false], st)
    | some (.iter (some m) since seen last) => match st.entries m with
      | some (es, cl) => match eStale seen es last, unseen seen es with
        | false, [] => some (.tuple #[.bool false], st)
        | false, [e] => match Nat.ble (Nat.succ e.born) since with
          | true => some (.tuple #[.bool true, e.key, e.val], st.put r (.iter (some m) since (seen ++ [e.born]) cl))
          | false => none
        | _, _ => none
      | none => none
    | _ => none
  | _, _ => none
noncomputable def eEntry (x : Value) (st : St) : Option Value :=
  match x with
  | .pointer (some ⟨r, 0, none⟩) => match st.h.get r with
    | some (.iter (some m) _ seen last) => match lastOf seen, st.entries m with
      | some n, some (es, cl) => match Nat.beq cl last with
        | true => match byStamp n es with
          | some e => some (.tuple #[e.key, e.val])
          | none => none
        | false => none
      | _, _ => none
    | _ => none
  | _ => none
noncomputable def modL (l : List MapEntry) : Nat → (MapEntry → MapEntry) → List MapEntry :=
  List.rec (motive := fun _ => Nat → (MapEntry → MapEntry) → List MapEntry) (fun _ _ => [])
    (fun e l ih i f => match i with
      | 0 => f e :: l
      | i + 1 => e :: ih i f) l
noncomputable def delL (l : List MapEntry) : Nat → List MapEntry :=
  List.rec (motive := fun _ => Nat → List MapEntry) (fun _ => [])
    (fun e l ih i => match i with
      | 0 => l
      | i + 1 => e :: ih i) l
noncomputable def eMapSet (T : Tr TI) (d : ED) (x k v : Value) (st : St) : Option St :=
  match d, x with
  | .map kt _, .map (some b) => match eKeyOk T kt k, st.entries b with
    | true, some (es, cl) => match eFind k es 0 with
      | some (some (i, _)) => some (st.put b (.map (modL es i fun e => ⟨e.key, v, e.born⟩) cl))
      | some none => some (st.put b (.map (es ++ [⟨k, v, cl⟩]) (Nat.succ cl)))
      | none => none
    | _, _ => none
  | _, _ => none
noncomputable def eMapEntry (T : Tr TI) (d : ED) (x k : Value) (st : St) : Option (Value × St) :=
  match d, x with
  | .map kt et, .map (some b) => match eKeyOk T kt k, st.entries b, T.get et with
    | true, some (es, cl), some te => match eFind k es 0 with
      | some (some (_, e)) => some (.tuple #[e.val, .int .i64 (.ofNat e.born)], st)
      | some none => some (.tuple #[te.zero, .int .i64 (.ofNat cl)], st.put b (.map (es ++ [⟨k, te.zero, cl⟩]) (Nat.succ cl)))
      | none => none
    | _, _, _ => none
  | _, _ => none
noncomputable def eStamp (n : Nat) (es : List MapEntry) : Nat → Option Nat :=
  List.rec (motive := fun _ => Nat → Option Nat) (fun _ => none)
    (fun e _ ih i => match Nat.beq e.born n with
      | true => some i
      | false => ih (Nat.succ i)) es
noncomputable def eEntryStore (x s v : Value) (st : St) : Option St :=
  match x, s with
  | .map (some b), .int _ (.ofNat n) => match st.entries b with
    | some (es, cl) => match eStamp n es 0 with
      | some i => some (st.put b (.map (modL es i fun e => ⟨e.key, v, e.born⟩) cl))
      | none => none
    | none => none
  | _, _ => none
noncomputable def eDelete (T : Tr TI) (d : ED) (x k : Value) (st : St) : Option St :=
  match d, x with
  | .map kt _, .map none => match eKeyOk T kt k with
    | true => some st
    | false => none
  | .map kt _, .map (some b) => match eKeyOk T kt k, st.entries b with
    | true, some (es, cl) => match eFind k es 0 with
      | some (some (i, _)) => some (st.put b (.map (delL es i) cl))
      | some none => some st
      | none => none
    | _, _ => none
  | _, _ => none
/-- len, cap. -/
noncomputable def eLen (d : ED) (x : Value) (st : St) : Option Value :=
  match d, x with
  | .string, .string s => some (.int .i64 (.ofNat s.data.toList.length))
  | .array n _ _, _ => some (.int .i64 (.ofNat n))
  | .slice _ _ _, .slice _ n _ => some (.int .i64 (.ofNat n))
  | .map _ _, .map none => some (.int .i64 (.ofNat 0))
  | .map _ _, .map (some b) => match st.entries b with
    | some (es, _) => some (.int .i64 (.ofNat es.length))
    | none => none
  | _, _ => none
/-- The cells that append and copy take. -/
def bytesOfS (l : List UInt8) : List Value := l.map fun b => .int .u8 b.toNat
noncomputable def eData (sz : Nat) (x : Value) (n : Nat) (st : St) : Option (List Value) :=
  match x with
  | .slice none _ _ => match n with
    | 0 => some []
    | _ + 1 => none
  | .slice (some a) len _ => match Nat.ble n len with
    | true => st.load a.block a.off (Nat.mul n sz)
    | false => none
  | _ => none
def eLenOf (x : Value) : Option Nat :=
  match x with
  | .slice _ n _ => some n
  | _ => none
/-- append of n elements, whose cells are given. -/
noncomputable def eAppend (e : TypeId) (sz by_ : Nat) (s : Value) (n : Nat) (data : List Value) (st : St) : Option (Value × St) :=
  match s with
  | .slice base len cap => match Nat.ble (Nat.add len n) 1048576, Nat.ble by_ 1024, Nat.ble 1 sz, oneCells data with
    | true, true, true, true => match base with
      | none => match n with
        | 0 => some (.slice none 0 0, st)
        | _ + 1 => some (.slice (some ⟨st.nx, 0, some sz⟩) n n, st.new (.cells e data.length true (ofL data)))
      | some ⟨b, o, none⟩ => match Nat.ble (Nat.add len n) cap with
        | true => match st.store b (Nat.add o (Nat.mul len sz)) data with
          | some st' => some (.slice (some ⟨b, o, none⟩) (Nat.add len n) cap, st')
          | none => none
        | false => match st.load b o (Nat.mul len sz) with
          | some old => some (.slice (some ⟨st.nx, 0, some sz⟩) (Nat.add len n) (Nat.add len n), st.new (.cells e (Nat.add old.length data.length) true (storeL data (ofL old) old.length)))
          | none => none
      | some ⟨b, o, some z⟩ => match n with
        | 0 => some (.slice (some ⟨b, o, some z⟩) len len, st)
        | _ + 1 => match Nat.beq z sz, Nat.beq o 0, st.h.get b with
          | true, true, some (.cells t m _ c) => match Nat.beq t e, Nat.ble (Nat.mul len sz) m with
            | true, true => some (.slice (some ⟨st.nx, 0, some sz⟩) (Nat.add len n) (Nat.add len n),
                ⟨(st.h.del b).set st.nx (.cells e (Nat.add (Nat.mul len sz) data.length) true (storeL data c (Nat.mul len sz))), Nat.succ st.nx⟩)
            | _, _ => none
          | _, _, _ => none
    | _, _, _, _ => none
  | _ => none
/-- append: of a slice; of so many zeros. -/
noncomputable def eAppendOp (T : Tr TI) (d d' : ED) (s x : Value) (st : St) : Option (Value × St) :=
  match d, d' with
  | .slice e sz by_, .slice _ _ _ => match eLenOf x with
    | some n => match eData sz x n st with
      | some data => eAppend e sz by_ s n data st
      | none => none
    | none => none
  | .slice e sz by_, .int _ => match x, T.get e with
    | .int .i64 (.ofNat n), some te => match Nat.beq (eCells te.zero).length sz, Nat.ble n 1048576 with
      | true, true => eAppend e sz by_ s n (repL (eCells te.zero) n) st
      | _, _ => none
    | _, _ => none
  | _, _ => none
def eCap (x : Value) : Option Value :=
  match x with
  | .slice none _ _ => some (.int .i64 (.ofNat 0))
  | .slice (some ⟨_, _, none⟩) _ c => some (.int .i64 (.ofNat c))
  | _ => none
def eMinN (a b : Nat) : Nat :=
  match Nat.ble a b with
  | true => a
  | false => b
noncomputable def eCopy (d : ED) (x y : Value) (st : St) : Option (Value × St) :=
  match d, x, eLenOf y with
  | .slice _ sz _, .slice base len _, some m => match eData sz y (eMinN m len) st with
    | some data => match oneCells data with
      | false => none
      | true => match base with
      | none => some (.int .i64 (.ofNat (eMinN m len)), st)
      | some a => match st.store a.block a.off data with
        | some st' => some (.int .i64 (.ofNat (eMinN m len)), st')
        | none => none
    | none => none
  | _, _, _ => none
noncomputable def eClear (T : Tr TI) (d : ED) (x : Value) (st : St) : Option St :=
  match d, x with
  | .map _ _, .map none => some st
  | .map _ _, .map (some b) => match st.entries b with
    | some (_, cl) => some (st.put b (.map [] cl))
    | none => none
  | .slice _ _ _, .slice _ 0 _ => some st
  | .slice e sz _, .slice (some a) n _ => match T.get e with
    | some te => match Nat.beq (eCells te.zero).length sz, oneCells (eCells te.zero) with
      | true, true => st.store a.block a.off (repL (eCells te.zero) n)
      | _, _ => none
    | none => none
  | _, _ => none
/-- The bytes of integers. -/
noncomputable def toBytes (l : List Value) : Option (List UInt8) :=
  List.rec (motive := fun _ => Option (List UInt8)) (some [])
    (fun v _ ih => match v with
      | .int .u8 (.ofNat n) => match ih with
        | some l => some (UInt8.ofNat n :: l)
        | none => none
      | _ => none) l
noncomputable def eToString (x : Value) (st : St) : Option Value :=
  match x with
  | .slice none _ _ => some (.string .empty)
  | .slice (some a) n _ => match st.load a.block a.off n with
    | some l => match toBytes l with
      | some bs => some (.string ⟨bs.toArray⟩)
      | none => none
    | none => none
  | _ => none

noncomputable def eToBytes (T : Tr TI) (e : TypeId) (b : ByteArray) : Option Fresh :=
  match T.get e with
  | some te => match te.d with
    | .int .u8 => some ⟨.cells e b.data.toList.length true (ofL (bytesOfS b.data.toList)), fun k => .slice (some ⟨k, 0, some 1⟩) b.data.toList.length b.data.toList.length⟩
    | _ => none
  | none => none
/-- The class of an operation. -/
noncomputable def classOf (T : Tr TI) (op : Op) : Nat :=
  match op with
  | .move _ | .assign _ | .pick _ _ _ | .build _ _ | .nilCheck _ | .unOp _ _ _ | .makeInterface _ _ | .makeFunc _ _ _ | .slice _ _ _ _ _ | .fieldAddr _ _ _ | .field _ _ _
  | .indexAddr _ _ _ | .index _ _ _ | .extract _ _ => 0
  | .binOp .eql _ _ _ _ => 1
  | .binOp .neq _ _ _ _ => 1
  | .binOp _ _ _ _ _ => 0
  | .load _ _ | .lookup _ _ _ _ => 1
  | .convert s _ _ => match T.get s with
    | some ti => match ti.d with
      | .int _ => 0
      | .slice _ _ _ => 1
      | .string => 2
      | _ => 3
    | none => 3
  | .alloc _ | .box _ _ | .buildSlice _ _ _ | .makeMap _ _ | .makeSlice _ _ _ => 2
  | .call c => match c.callee with
    | .builtin .min => 0
    | .builtin .max => 0
    | .builtin .len => 1
    | .builtin .cap => 0
    | _ => 3
  | _ => 3

noncomputable def ePure (T : Tr TI) (env : Env) (op : Op) : Option Value :=
  match op with
  | .move x => eOpd env x
  | .assign x => eOpd env x
  | .pick c a b => match eOpd env c with
    | some (.bool t) => match eOpd env a, eOpd env b with
      | some va, some vb => match t with
        | true => some va
        | false => some vb
      | _, _ => none
    | _ => none
  | .build t ps => match T.get t, eParts env ps.toList with
    | some ti, some l => eBuild ti l
    | _, _ => none
  | .nilCheck x => match eOpd env x with
    | some v => eNil T v
    | none => none
  | .binOp op _ x y _ => match eOpd env x, eOpd env y with
    | some a, some b => eBin op a b
    | _, _ => none
  | .unOp op _ x => match eOpd env x with
    | some v => eUn op v
    | none => none
  | .convert s d x => match T.get s, T.get d, eOpd env x with
    | some _, some ti, some v => eConvInt ti.d v
    | _, _, _ => none
  | .makeInterface t x => match T.get t, eOpd env x with
    | some ti, some v => match ti.d with
      | .iface => none
      | _ => some (.iface t v)
    | _, _ => none
  | .makeFunc fn first captured => match fnOk fn, eOpds env first.toList, eOpds env captured.toList with
    | true, some xs, some cs => some (.func fn xs.toArray cs.toArray)
    | _, _, _ => none
  | .slice t x lo hi mx => match T.get t, eOpd env x, eOpt env lo, eOpt env hi, eOpt env mx with
    | some ti, some v, some l, some h, some m => eSlice ti.d v l h m
    | _, _, _, _, _ => none
  | .fieldAddr t x f => match T.get t, eOpd env x with
    | some ti, some v => eFieldAddr ti.d v f
    | _, _ => none
  | .field t x f => match T.get t, eOpd env x with
    | some ti, some v => eField T ti.d v f
    | _, _ => none
  | .indexAddr t x i => match T.get t, eOpd env x, eOpd env i with
    | some ti, some v, some j => eIndexAddr ti.d v j
    | _, _, _ => none
  | .index t x i => match T.get t, eOpd env x, eOpd env i with
    | some ti, some v, some j => eIndex T ti.d v j
    | _, _, _ => none
  | .extract x i => match eOpd env x with
    | some v => eExtr v i
    | none => none
  | .call c => match c.callee, eOpds env c.args.toList with
    | .builtin .cap, some [x] => match c.argTypes.toList with
      | t :: _ => match T.get t with
        | some ti => match ti.d with
          | .slice _ _ _ => eCap x
          | _ => none
        | none => none
      | [] => none
    | .builtin .min, some (x :: l) => eMinL false l x
    | .builtin .max, some (x :: l) => eMinL true l x
    | _, _ => none
  | _ => none

def isConstB (x : Operand) : Bool :=
  match x with
  | .const _ => true
  | _ => false
noncomputable def eRead (T : Tr TI) (env : Env) (op : Op) (st : St) : Option Value :=
  match op with
  | .load t x => match T.get t, eOpd env x with
    | some ti, some v => eLoad ti v st
    | _, _ => none
  | .lookup t x k ok => match T.get t, eOpd env x, eOpd env k with
    | some ti, some v, some j => eLookup T ti.d v j ok st
    | _, _, _ => none
  | .binOp op t x y _ => match eOpd env x, eOpd env y with
    | some (.int k a), some (.int k' b) => eBin op (.int k a) (.int k' b)
    | some (.string a), some (.string b) => eStr op a b
    | some (.agg a), some (.agg b) => match eEqAgg t a.toList b.toList with
      | some r => match op with
        | .eql => some (.bool r)
        | .neq => some (.bool (eNot r))
        | _ => none
      | none => none
    | some a, some b => match T.get t with
      | some ti => match eEq T ti.d st (match isConstB x with | true => true | false => isConstB y) a b with
        | some r => match op with
          | .eql => some (.bool r)
          | .neq => some (.bool (eNot r))
          | _ => none
        | none => none
      | none => none
    | _, _ => none
  | .convert s d x => match T.get s, T.get d, eOpd env x with
    | some si, some di, some v => match si.d, di.d with
      | .slice e _ _, .string => match T.get e with
        | some te => match te.d with
          | .int .u8 => eToString v st
          | _ => none
        | none => none
      | _, _ => none
    | _, _, _ => none
  | .call c => match c.callee, c.args.toList, c.argTypes.toList with
    | .builtin .len, [x], t :: _ => match T.get t, eOpd env x with
      | some ti, some v => eLen ti.d v st
      | _, _ => none
    | _, _, _ => none
  | _ => none

noncomputable def eFresh (T : Tr TI) (env : Env) (op : Op) : Option Fresh :=
  match op with
  | .alloc t => match T.get t with
    | some ti => eVar t ti.zero
    | none => none
  | .box t x => match eOpd env x with
    | some v => eVar t v
    | none => none
  | .buildSlice t len ps => match T.get t, eParts env ps.toList with
    | some ti, some l => eBuildSlice T ti.d len l
    | _, _ => none
  | .makeMap _ r => match r with
    | none => some ⟨.map [] 0, fun b => .map (some b)⟩
    | some _ => none
  | .makeSlice t l c => match T.get t, eOpd env l, eOpd env c with
    | some ti, some n, some m => eMakeSlice T ti.d n m
    | _, _, _ => none
  | .convert s d x => match T.get s, T.get d, eOpd env x with
    | some si, some di, some (.string b) => match si.d, di.d with
      | .string, .slice e _ _ => eToBytes T e b
      | _, _ => none
    | _, _, _ => none
  | _ => none

def undefV : Value := .tuple #[]
/-- What changes memory, but for calls. -/
noncomputable def eEff (T : Tr TI) (env : Env) (op : Op) (st : St) : Option (Value × St) :=
  match op with
  | .store t x v => match T.get t, eOpd env x, eOpd env v with
    | some ti, some a, some b => match eStore ti a b st with
      | some st' => some (undefV, st')
      | none => none
    | _, _, _ => none
  | .mapUpdate t m k v => match T.get t, eOpd env m, eOpd env k, eOpd env v with
    | some ti, some a, some b, some c => match eMapSet T ti.d a b c st with
      | some st' => some (undefV, st')
      | none => none
    | _, _, _, _ => none
  | .mapEntry t m k => match T.get t, eOpd env m, eOpd env k with
    | some ti, some a, some b => eMapEntry T ti.d a b st
    | _, _, _ => none
  | .range t x => match T.get t, eOpd env x with
    | some ti, some v => eRange ti.d v st
    | _, _ => none
  | .next it str => match eOpd env it with
    | some v => eNext v str st
    | none => none
  | .entry it => match eOpd env it with
    | some v => match eEntry v st with
      | some r => some (r, st)
      | none => none
    | none => none
  | .entryStore t m s v => match eOpd env m, eOpd env s, eOpd env v with
    | some a, some b, some c => match eEntryStore a b c st with
      | some st' => some (undefV, st')
      | none => none
    | _, _, _ => none
  | .call c => match c.callee, c.args.toList, c.argTypes.toList with
    | .builtin .append, [x, y], [t, t'] => match T.get t, T.get t', eOpd env x, eOpd env y with
      | some ti, some ti', some a, some b => eAppendOp T ti.d ti'.d a b st
      | _, _, _, _ => none
    | .builtin .copy, [x, y], t :: _ => match T.get t, eOpd env x, eOpd env y with
      | some ti, some a, some b => eCopy ti.d a b st
      | _, _, _ => none
    | .builtin .delete, [x, y], t :: _ => match T.get t, eOpd env x, eOpd env y with
      | some ti, some a, some b => match eDelete T ti.d a b st with
        | some st' => some (undefV, st')
        | none => none
      | _, _, _ => none
    | .builtin .clear, [x], t :: _ => match T.get t, eOpd env x with
      | some ti, some a => match eClear T ti.d a st with
        | some st' => some (undefV, st')
        | none => none
      | _, _ => none
    | _, _, _ => none
  | _ => none
end Go.Proofs.YtegfafebbnlicaaGreatDoor.Ev

namespace Go.Proofs.YtegfafebbnlicaaGreatDoor.Ev
open Go
set_option linter.unusedVariables false

inductive Ex where
  | norm
  | exit (id : Nat)
  | ret

/-- What is called: a function, or the body of a range over a function. -/
inductive Tgt where
  | fn (g : FuncId)
  | yield (l : Nat)
/-- The function that a call leads to, with all its arguments. -/
noncomputable def eCallee (T : Tr TI) (env : Env) (c : Call) : Option (Tgt × List Value) :=
  match eOpds env c.args.toList with
  | some args => match c.callee with
    | .value f => match eOpd env f with
      | some (.func (.func g) xs cs) => some (.fn g, xs.toList ++ (args ++ cs.toList))
      | some (.func (.yield l) _ _) => some (.yield l, args)
      | some (.func (.method m) xs _) => match xs.toList with
        | [.iface t v] => match T.get t with
          | some ti => match methOf m ti.ms with
            | some g => some (.fn g, v :: args)
            | none => none
          | none => none
        | _ => none
      | _ => none
    | .invoke r m => match eOpd env r with
      | some (.iface t v) => match T.get t with
        | some ti => match methOf m ti.ms with
          | some g => some (.fn g, v :: args)
          | none => none
        | none => none
      | _ => none
    | .builtin _ => none
  | none => none
/-- Is the operation to be run? -/
noncomputable def eWanted (ops : List Oper) (env : Env) (o : Oper) : Option Bool :=
  match o.guard with
  | none => some true
  | some (j, want) => match ops[j]? with
    | some oj => match oj.dst with
      | some t => match env.get t with
        | some v => match v with
          | .bool b => some (match want with
            | true => b
            | false => eNot b)
          | _ => some false
        | none => none
      | none => none
    | none => none
noncomputable def ePut (env : Env) (dst : Option Tmp) (v : Value) : Env :=
  match dst with
  | some t => env.set t v
  | none => env

abbrev Call1 := Tgt → List Value → St → Option (Value × St)
/-- What changes memory. -/
noncomputable def eAct (T : Tr TI) (call : Call1) (env : Env) (o : Oper) (st : St) : Option (Value × St) :=
  match o.op with
  | .call c => match c.callee with
    | .builtin _ => eEff T env o.op st
    | _ => match eCallee T env c with
      | some (g, args) => call g args st
      | none => none
  | op => eEff T env op st
/-- One operation, in its order. -/
noncomputable def eOper (T : Tr TI) (call : Call1) (env : Env) (o : Oper) (st : St) : Option (Value × St) :=
  match classOf T o.op with
  | 0 => match ePure T env o.op with
    | some v => some (v, st)
    | none => none
  | 1 => match eRead T env o.op st with
    | some v => some (v, st)
    | none => none
  | 2 => match eFresh T env o.op with
    | some fr => some (fr.val st.nx, st.new fr.obj)
    | none => none
  | _ => eAct T call env o st
noncomputable def runOps (T : Tr TI) (call : Call1) (ops : List Oper) (l : List Oper) : Env → St → Option (Env × St) :=
  List.rec (motive := fun _ => Env → St → Option (Env × St)) (fun env st => some (env, st))
    (fun o _ ih env st => match eWanted ops env o with
      | some true => match eOper T call env o st with
        | some (v, st') => ih (ePut env o.dst v) st'
        | none => none
      | some false => ih (ePut env o.dst undefV) st
      | none => none) l

/-! ### Regions whose order is drawn -/
def bindsB (e : Edge) : Bool :=
  match e.ground with
  | .textOnly _ => false
  | .gcOnly _ => false
  | _ => true
def maskAt (masks : List Nat) (i : Nat) : Nat :=
  match masks[i]? with
  | some m => m
  | none => 0
noncomputable def edgeBits (masks : List Nat) (l : List Edge) : Nat :=
  List.rec (motive := fun _ => Nat) 0 (fun e _ ih => match bindsB e with
    | true => Nat.lor (Nat.lor (Nat.pow 2 e.on) (maskAt masks e.on)) ih
    | false => ih) l
/-- Of each operation: which stand ahead of it. -/
noncomputable def masksOf (l : List Oper) : List Nat → List Nat :=
  List.rec (motive := fun _ => List Nat → List Nat) (fun acc => acc) (fun o _ ih acc => ih (acc ++ [edgeBits acc o.after.toList])) l
/-- Does the operation change memory? -/
noncomputable def isEff (T : Tr TI) (ops : List Oper) (i : Nat) : Bool :=
  match ops[i]? with
  | some o => Nat.ble 3 (classOf T o.op)
  | none => false
noncomputable def effsOf (T : Tr TI) (ops : List Oper) : List Nat := (List.range ops.length).filter (isEff T ops)
/-- The least and the greatest number of changes that may lie ahead of a read. -/
noncomputable def rangeOf (T : Tr TI) (ops : List Oper) (i : Nat) : Nat × Nat :=
  (((effsOf T ops).filter fun j => Nat.testBit (maskAt (masksOf ops []) i) j).length, ((effsOf T ops).filter fun j => !Nat.testBit (maskAt (masksOf ops []) j) i).length)
/-- Values of one cell that are the same. -/
def eSameP (x y : Value) : Bool :=
  match x, y with
  | .bool a, .bool b => match a with
    | true => b
    | false => eNot b
  | .int k a, .int k' b => match decide (k = k') with
    | true => eEqI a b
    | false => false
  | .pointer none, .pointer none => true
  | .pointer (some ⟨b, o, none⟩), .pointer (some ⟨b', o', none⟩) => match Nat.beq b b' with
    | true => Nat.beq o o'
    | false => false
  | .slice none l c, .slice none l' c' => match Nat.beq l l' with
    | true => Nat.beq c c'
    | false => false
  | .slice (some ⟨b, o, none⟩) l c, .slice (some ⟨b', o', none⟩) l' c' => match Nat.beq b b', Nat.beq o o', Nat.beq l l' with
    | true, true, true => Nat.beq c c'
    | _, _, _ => false
  | .slice (some ⟨b, o, some z⟩) l c, .slice (some ⟨b', o', some z'⟩) l' c' => match Nat.beq b b', Nat.beq o o', Nat.beq l l', Nat.beq z z' with
    | true, true, true, true => Nat.beq c c'
    | _, _, _, _ => false
  | .map none, .map none => true
  | .map (some a), .map (some b) => Nat.beq a b
  | .nilIface, .nilIface => true
  | .nilFunc, .nilFunc => true
  | _, _ => false
/-- The same, or two interfaces that hold such values. -/
def eSame0 (x y : Value) : Bool :=
  match x, y with
  | .iface t v, .iface t' v' => match Nat.beq t t' with
    | true => eSameP v v'
    | false => false
  | _, _ => eSameP x y
noncomputable def eSameL (a : List Value) : List Value → Bool :=
  List.rec (motive := fun _ => List Value → Bool) (fun b => match b with
      | [] => true
      | _ :: _ => false)
    (fun x _ ih b => match b with
      | [] => false
      | y :: b => match eSame0 x y with
        | true => ih b
        | false => false) a
noncomputable def eSame (x y : Value) : Bool :=
  match x, y with
  | .agg a, .agg b => eSameL a.toList b.toList
  | .tuple a, .tuple b => eSameL a.toList b.toList
  | .iface t v, .iface t' v' => match Nat.beq t t' with
    | true => eSame0 v v'
    | false => false
  | .string a, .string b => eqBytes a.data.toList b.data.toList
  | _, _ => eSame0 x y
/-- A read's value in the states from one to another. -/
noncomputable def againAt (T : Tr TI) (env : Env) (op : Op) (v : Value) (ss : List St) : Nat → Nat → Nat → Bool :=
  List.rec (motive := fun _ => Nat → Nat → Nat → Bool) (fun _ _ _ => true)
    (fun s _ ih k lo hi => match Nat.ble lo k, Nat.ble k hi with
      | true, true => match eRead T env op s with
        | some v' => match eSame v' v with
          | true => ih (Nat.succ k) lo hi
          | false => false
        | none => false
      | _, _ => ih (Nat.succ k) lo hi) ss
abbrev Rd := Nat × Env × Op × Value
noncomputable def againAll (T : Tr TI) (ops : List Oper) (ss : List St) (rs : List Rd) : Bool :=
  List.rec (motive := fun _ => Bool) true (fun r _ ih => match r with
    | (i, env, op, v) => match rangeOf T ops i with
      | (lo, hi) => match Nat.ble hi lo with
        | true => ih
        | false => match againAt T env op v ss 0 lo hi with
          | true => ih
          | false => false) rs
/-- The operations in their order; s: the memory behind the last change, t: that with the new blocks. -/
noncomputable def runD (T : Tr TI) (call : Call1) (ops : List Oper) (nx : Nat) (l : List Oper) : Nat → Env → St → St → List St → List Rd → Option (Env × St × List St × List Rd) :=
  List.rec (motive := fun _ => Nat → Env → St → St → List St → List Rd → Option (Env × St × List St × List Rd)) (fun _ env _ t ss rs => some (env, t, ss, rs))
    (fun o _ ih i env s t ss rs => match eWanted ops env o with
      | none => none
      | some wn => match classOf T o.op with
        | 0 => match wn with
          | true => match ePure T env o.op with
            | some v => ih (Nat.succ i) (ePut env o.dst v) s t ss rs
            | none => none
          | false => ih (Nat.succ i) (ePut env o.dst undefV) s t ss rs
        | 1 => match wn with
          | true => match eRead T env o.op s with
            | some v => ih (Nat.succ i) (ePut env o.dst v) s t ss (rs ++ [(i, env, o.op, v)])
            | none => none
          | false => ih (Nat.succ i) (ePut env o.dst undefV) s t ss rs
        | 2 => match wn with
          | true => match eFresh T env o.op with
            | some fr => ih (Nat.succ i) (ePut env o.dst (fr.val (Nat.add nx i))) s ⟨t.h.set (Nat.add nx i) fr.obj, t.nx⟩ ss rs
            | none => none
          | false => ih (Nat.succ i) (ePut env o.dst undefV) s t ss rs
        | _ => match wn with
          | true => match eAct T call env o t with
            | some (v, t') => ih (Nat.succ i) (ePut env o.dst v) t' t' (ss ++ [t']) rs
            | none => none
          | false => ih (Nat.succ i) (ePut env o.dst undefV) t t (ss ++ [t]) rs) l
noncomputable def runDraw (T : Tr TI) (call : Call1) (ops : List Oper) (env : Env) (st : St) : Option (Env × St) :=
  match runD T call ops st.nx ops 0 env ⟨st.h, Nat.add st.nx ops.length⟩ ⟨st.h, Nat.add st.nx ops.length⟩ [⟨st.h, Nat.add st.nx ops.length⟩] [] with
  | some (env', t, ss, rs) => match againAll T ops ss rs with
    | true => some (env', t)
    | false => none
  | none => none

/-- The temporaries at a function's start. -/
noncomputable def envOf (m : Nat) (args : List Value) : Nat → Env :=
  List.rec (motive := fun _ => Nat → Env) (fun _ => .none m) (fun v _ ih i => (ih (Nat.succ i)).set i v) args
/-- A function, and which of its temporaries are kept. -/
abbrev FI := Func × Nat
noncomputable def eResult (T : Tr TI) (env : Env) (st : St) (r : ResultVar) : Option Value :=
  match r with
  | .tmp t => env.get t
  | .cell a t => match T.get t, env.get a with
    | some ti, some v => eLoad ti v st
    | _, _ => none
noncomputable def eResultL (T : Tr TI) (env : Env) (st : St) (l : List ResultVar) : Option (List Value) :=
  List.rec (motive := fun _ => Option (List Value)) (some [])
    (fun r _ ih => match eResult T env st r with
      | some v => match ih with
        | some vs => some (v :: vs)
        | none => none
      | none => none) l
noncomputable def eResults (T : Tr TI) (env : Env) (st : St) (l : List ResultVar) : Option Value :=
  match eResultL T env st l with
  | some [v] => some v
  | some vs => some (.tuple vs.toArray)
  | none => none
abbrev Run1 := Code → Env → St → Option (Ex × Env × St)
noncomputable def callG (T : Tr TI) (F : Tr FI) (ih : Run1) (g : FuncId) (args : List Value) (st : St) : Option (Value × St) :=
  match F.get g with
  | some (fn, m) => match fn.body with
    | some c => match ih c (envOf m args 0) st with
      | some (e, env, st') => match e with
        | .exit _ => none
        | _ => match eResults T env st' fn.results.toList with
          | some v => some (v, st')
          | none => none
      | none => none
    | none => none
  | none => none
/-- The loop's variables. -/
noncomputable def setPs (ps : List Tmp) : List Value → Env → Option Env :=
  List.rec (motive := fun _ => List Value → Env → Option Env) (fun vs env => match vs with
      | [] => some env
      | _ :: _ => none)
    (fun p _ ih vs env => match vs with
      | [] => none
      | v :: vs => ih vs (env.set p v)) ps
noncomputable def St.setLoop (st : St) (l : Nat) (s : LoopState) (j : Option Code) : Option St :=
  match st.h.get l with
  | some (.loop m env ps asg body _ _) => some (st.put l (.loop m env ps asg body s j))
  | _ => none
/-- The temporaries that code writes: one more than the greatest. -/
def dstMaxL (l : List Oper) : Nat := l.foldr (fun o n => match o.dst with | some d => Nat.max (d + 1) n | none => n) 0
def psMax (ps : List Tmp) : Nat := ps.foldr (fun p n => Nat.max (p + 1) n) 0
def dstMax : Code → Nat
  | .region _ ops _ => dstMaxL ops.toList
  | .seq a b => Nat.max (dstMax a) (dstMax b)
  | .cond _ a b => Nat.max (dstMax a) (dstMax b)
  | .block _ a => dstMax a
  | .loop a => dstMax a
  | .scope a => dstMax a
  | .rangeFunc _ ps asg body => Nat.max (psMax ps.toList) (Nat.max (dstMax asg) (dstMax body))
  | _ => 0
/-- The temporaries that an operation looks at. -/
def tmpsOf (l : List Operand) : List Tmp := l.filterMap fun | .tmp t => some t | _ => none
def looksL (ops : List Oper) (o : Oper) : List Tmp :=
  tmpsOf o.op.operands.toList ++ (match o.guard with
    | some (g, _) => match ops[g]? with
      | some og => og.dst.toList
      | none => []
    | none => [])
def onsOf (o : Oper) : List Nat := o.after.toList.filterMap fun e => match bindsB e with
  | true => some e.on
  | false => none
/-- Two operations of a drawn region: i stands ahead of j in the text (or is j). -/
noncomputable def pairOk (T : Tr TI) (ops : List Oper) (i j : Nat) (oi oj : Oper) : Bool :=
  (!(Nat.ble 3 (classOf T oj.op)) || !(Nat.ble 2 (classOf T oi.op)) || Nat.testBit (maskAt (masksOf ops []) j) i) &&
  (match oi.dst with
    | none => true
    | some t => (match oj.dst with
      | none => true
      | some u => !(Nat.beq t u)) && (!((looksL ops oj).contains t) || Nat.testBit (maskAt (masksOf ops []) j) i)) &&
  (match oj.dst with
    | none => true
    | some u => !((looksL ops oi).contains u) || Nat.testBit (maskAt (masksOf ops []) j) i)
/-- Is the order that a drawn region leaves open without weight? -/
noncomputable def rgnOk (T : Tr TI) (ops : List Oper) : Bool :=
  (List.range ops.length).all fun j => match ops[j]? with
    | none => false
    | some oj => ((onsOf oj).all fun n => Nat.ble (Nat.succ n) j) && (List.range j).all fun i => match ops[i]? with
      | none => false
      | some oi => pairOk T ops i j oi oj
/-- What is asked of a function's code. -/
noncomputable def codeOk (T : Tr TI) : Code → Bool → Bool
  | .region _ ops draw, _ => !draw || rgnOk T ops.toList
  | .seq a b, r => codeOk T a r && codeOk T b r
  | .cond _ a b, r => codeOk T a r && codeOk T b r
  | .block _ a, r => codeOk T a r
  | .loop a, r => codeOk T a r
  | .scope a, r => codeOk T a r
  | .rangeFunc _ _ _ _, r => !r
  | _, _ => true
/-- One round of a range over a function. -/
noncomputable def yieldG (T : Tr TI) (ih : Run1) (l : Nat) (args : List Value) (st : St) : Option (Value × St) :=
  match st.h.get l with
  | some (.loop m env ps asg body .ready _) => match codeOk T asg true, codeOk T body true, Nat.ble (Nat.max (psMax ps) (Nat.max (dstMax asg) (dstMax body))) m with
    | true, true, true => match setPs ps args env with
      | some env1 => match ih asg env1 st with
        | some (.norm, env2, st1) => match st1.h.get l with
          | some (.loop _ _ _ _ _ .ready j) => match st1.setLoop l .busy j with
            | some st2 => match ih body env2 st2 with
              | some (.norm, _, st3) => match st3.setLoop l .ready none with
                | some st4 => some (.bool true, st4)
                | none => none
              | some (.ret, _, st3) => match st3.setLoop l .done (some .ret) with
                | some st4 => some (.bool false, st4)
                | none => none
              | some (.exit id, _, st3) => match st3.setLoop l .done (some (.exit id)) with
                | some st4 => some (.bool false, st4)
                | none => none
              | none => none
            | none => none
          | _ => none
        | _ => none
      | none => none
    | _, _, _ => none
  | _ => none
/-- Functions that are answered by other means. -/
abbrev Hooks := Call1 → FuncId → Option (List Value → St → Option (Value × St))
noncomputable def callT (T : Tr TI) (F : Tr FI) (ih : Run1) : Call1 := fun g args st =>
  match g with
  | .fn g => callG T F ih g args st
  | .yield l => yieldG T ih l args st
noncomputable def callW (T : Tr TI) (F : Tr FI) (H : Hooks) (ih : Run1) : Call1 := fun g args st =>
  match g with
  | .fn f => match H (callT T F ih) f with
    | some h => h args st
    | none => callG T F ih f args st
  | .yield l => yieldG T ih l args st
def isBusy (s : LoopState) : Bool :=
  match s with
  | .busy => true
  | _ => false
/-- How a range over a function goes on. -/
def jumpEx (j : Option Code) (env : Env) (st : St) : Option (Ex × Env × St) :=
  match j with
  | none => some (.norm, env, st)
  | some c => match c with
    | .ret => some (.ret, env, st)
    | .exit id => some (.exit id, env, st)
    | _ => none
noncomputable def endRF (st : St) (l : Nat) (env : Env) : Option (Ex × Env × St) :=
  match st.h.get l with
  | some (.loop _ _ _ _ _ s j) => match isBusy s with
    | true => none
    | false => match st.setLoop l .exhausted j with
      | some st2 => jumpEx j env st2
      | none => none
  | _ => none
noncomputable def runF (T : Tr TI) (F : Tr FI) (H : Hooks) (ih : Run1) : Run1 := fun c env st =>
  match c with
  | .skip => some (.norm, env, st)
  | .label _ => some (.norm, env, st)
  | .region _ ops draw => match (match draw with
      | false => runOps T (callW T F H ih) ops.toList ops.toList env st
      | true => runDraw T (callW T F H ih) ops.toList env st) with
    | some (env', st') => some (.norm, env'.flush, st')
    | none => none
  | .seq a b => match ih a env st with
    | some (.norm, env', st') => ih b env' st'
    | r => r
  | .cond x a b => match eOpd env x with
    | some (.bool true) => ih a env st
    | some (.bool false) => ih b env st
    | _ => none
  | .block id body => match ih body env st with
    | some (.exit id', env', st') => match Nat.beq id' id with
      | true => some (.norm, env', st')
      | false => some (.exit id', env', st')
    | r => r
  | .loop body => match ih body env st with
    | some (.norm, env', st') => ih (.loop body) env' st'
    | r => r
  | .exit id => some (.exit id, env, st)
  | .ret => some (.ret, env, st)
  | .rangeFunc f ps asg body => match eOpd env f with
    | some (.func (.func g) xs cs) => match callW T F H ih (.fn g) (xs.toList ++ (.func (.yield st.nx) #[] #[] :: cs.toList)) (st.new (.loop (Nat.max (psMax ps.toList) (Nat.max (dstMax asg) (dstMax body))) env ps.toList asg body .ready none)) with
      | some (_, st1) => endRF st1 st.nx env
      | none => none
    | _ => none
  | _ => none
noncomputable def run (T : Tr TI) (F : Tr FI) (H : Hooks) (n : Nat) : Run1 :=
  Nat.rec (motive := fun _ => Run1) (fun _ _ _ => none) (fun _ ih => runF T F H ih) n
end Go.Proofs.YtegfafebbnlicaaGreatDoor.Ev
