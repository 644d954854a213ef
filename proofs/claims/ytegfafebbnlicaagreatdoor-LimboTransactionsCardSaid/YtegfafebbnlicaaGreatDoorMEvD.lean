/-
  Operations of values alone: what the evaluator says holds in the world.
  Nil checks, built structs, arrays, slices.
  Reading operations hold in the world.
-/
import Derived.Test.YtegfafebbnlicaaGreatDoorMEvC
import Derived.Laws.Concat
import Derived.Laws.StructEq
import Derived.LaidEqlPtr
import Derived.Laws.BytesString
namespace Go.Proofs.YtegfafebbnlicaaGreatDoor.Ev
open Go
set_option linter.unusedVariables false
set_option linter.unusedSimpArgs false

variable {P : Program} {ρ : Ren}

def isIB : Value → Bool
  | .int _ _ => true
  | .bool _ => true
  | .string _ => true
  | _ => false
theorem VR.same {v : Value} (h : isIB v = true) : VR ρ v v := by
  cases v <;> first | exact .bool _ | exact .int _ _ | exact .str _ | (cases h; done)
theorem VR.ib {v v' : Value} (h : VR ρ v v') (hi : isIB v = true) : v' = v := by
  cases h <;> first | rfl | (cases hi; done)

theorem eInt_ib {op : BinOp} {k : IntKind} {a b : Int} {v : Value} (h : eInt op k a b = some v) : isIB v = true := by
  cases op <;> simp only [eInt] at h <;> first
    | (cases h; done)
    | (cases h; rfl)
    | (split at h <;> first | (cases h; done) | (cases h; rfl))
theorem eShift_ib {op : BinOp} {k : IntKind} {a b : Int} {v : Value} (h : eShift op k a b = some v) : isIB v = true := by
  unfold eShift at h
  split at h
  · cases h
  · cases op <;> simp only at h <;> first
      | (cases h; done)
      | (cases h; rfl)
      | (split at h <;> first | (cases h; done) | (cases h; rfl))

/-! ### Strings -/
theorem u8_beq (x y : UInt8) : Nat.beq x.toNat y.toNat = (x == y) := by
  rw [Bool.eq_iff_iff, beq_iff, beq_iff_eq]
  exact ⟨fun h => UInt8.toNat_inj.1 h, fun h => h ▸ rfl⟩
theorem u8_lt (x y : UInt8) : Nat.ble (Nat.succ x.toNat) y.toNat = decide (x < y) := by
  rw [Bool.eq_iff_iff, ble_iff, decide_eq_true_eq, UInt8.lt_iff_toNat_lt]; exact Iff.rfl
theorem eqBytes_eq : ∀ (a b : List UInt8), eqBytes a b = (a == b)
  | [], [] => rfl
  | [], _ :: _ => rfl
  | _ :: _, [] => rfl
  | x :: a, y :: b => by
    show (match Nat.beq x.toNat y.toNat with | true => eqBytes a b | false => false) = _
    rw [u8_beq, eqBytes_eq a b]
    cases h : (x == y) <;> simp [List.cons_beq_cons, h]
theorem ltBytes_eq : ∀ (a b : List UInt8), ltBytes a b = Op.bytesLess a b
  | [], [] => rfl
  | [], _ :: _ => rfl
  | _ :: _, [] => rfl
  | x :: a, y :: b => by
    show (match Nat.ble (Nat.succ x.toNat) y.toNat with
      | true => true
      | false => match Nat.beq x.toNat y.toNat with
        | true => ltBytes a b
        | false => false) = _
    rw [u8_lt, u8_beq, ltBytes_eq a b, Op.bytesLess]
    cases h : decide (x < y) <;> cases h2 : (x == y) <;> simp_all
theorem less_total : ∀ (a b : List UInt8), (Op.bytesLess a b || a == b) = !Op.bytesLess b a
  | [], [] => rfl
  | [], _ :: _ => rfl
  | _ :: _, [] => rfl
  | x :: a, y :: b => by
    rw [Op.bytesLess, Op.bytesLess]
    have ih := less_total a b
    have hb : (x :: a == y :: b) = (x == y && a == b) := List.cons_beq_cons ..
    rw [hb]
    rcases Nat.lt_trichotomy x.toNat y.toNat with h | h | h
    · have h1 : decide (x < y) = true := by rw [decide_eq_true_eq, UInt8.lt_iff_toNat_lt]; exact h
      have h2 : decide (y < x) = false := by rw [decide_eq_false_iff_not, UInt8.lt_iff_toNat_lt]; omega
      have h3 : (y == x) = false := by rw [← u8_beq]; cases hq : Nat.beq y.toNat x.toNat with
        | false => rfl
        | true => have := beq_iff.1 hq; omega
      simp [h1, h2, h3]
    · have he : x = y := UInt8.toNat_inj.1 h
      subst he
      simpa using ih
    · have h1 : decide (x < y) = false := by rw [decide_eq_false_iff_not, UInt8.lt_iff_toNat_lt]; omega
      have h2 : decide (y < x) = true := by rw [decide_eq_true_eq, UInt8.lt_iff_toNat_lt]; exact h
      have h3 : (x == y) = false := by rw [← u8_beq]; cases hq : Nat.beq x.toNat y.toNat with
        | false => rfl
        | true => have := beq_iff.1 hq; omega
      simp [h1, h2, h3]
theorem less_not (a b : List UInt8) : Op.bytesLess b a = !(Op.bytesLess a b || a == b) := by rw [less_total]; simp

theorem eStr_sound {op : BinOp} {a b : ByteArray} {v : Value} (h : eStr op a b = some v) (w : World) : (Op.stringOp op a b).run P w = .ok v w ∧ isIB v = true := by
  unfold eStr at h
  cases op <;> simp only at h <;> first | (cases h; done) | skip
  · split at h
    case h_2 => cases h
    rename_i hb
    cases h
    refine ⟨?_, rfl⟩
    have hle := ble_iff.1 hb
    have hs : a.size + b.size ≤ 1048576 := hle
    rw [run_string_add_sum w a b (by omega)]
    have : (a ++ b) = ⟨(a.data.toList ++ b.data.toList).toArray⟩ := by
      apply ByteArray.ext
      apply Array.ext'
      simp [ByteArray.data_append]
    rw [this]
  all_goals
    cases h
    refine ⟨?_, rfl⟩
    simp only [Op.stringOp, eqBytes_eq, ltBytes_eq, ByteArray.toList_eq, eNot_eq, less_total, Sem.run_pure, Bool.not_not]

/-- Operators of integers, strings. -/
theorem eBin_sound {op : BinOp} {x y x' y' v : Value} (h : eBin op x y = some v) (hx : VR ρ x x') (hy : VR ρ y y') (t : TypeId) (w : World) :
    (binOp op t x' y').run P w = .ok v w ∧ isIB v = true := by
  unfold eBin at h
  split at h
  · rename_i k a k' b
    cases hx; cases hy
    split at h
    · exact ⟨eShift_sound P h t w, eShift_ib h⟩
    · exact ⟨eShift_sound P h t w, eShift_ib h⟩
    · split at h
      · rename_i hk
        have hk := of_decide_eq_true hk
        subst hk
        exact ⟨eInt_sound P h t w, eInt_ib h⟩
      · cases h
  · rename_i a b
    cases hx; cases hy
    have := eStr_sound (P := P) h w
    refine ⟨?_, this.2⟩
    rw [← this.1]
    cases op <;> rfl
  · cases h
theorem eUn_sound {op : UnOp} {x x' v : Value} (h : eUn op x = some v) (hx : VR ρ x x') (w : World) : (Op.unary op x').run P w = .ok v w ∧ isIB v = true := by
  unfold eUn at h
  split at h
  · rename_i k n
    cases hx
    refine ⟨?_, eInt_ib h⟩
    have := eInt_sound P h 0 w
    simpa [binOp, Op.unary] using this
  · rename_i k n
    cases hx
    split at h
    case h_2 => cases h
    rename_i hs
    refine ⟨?_, eInt_ib h⟩
    have := eInt_sound P h 0 w
    have hm : (k.max : Int) = Int.ofNat (Nat.sub (eMod k) 1) := by cases k <;> first | rfl | (cases hs; done)
    simp only [Op.unary, hs, Bool.false_eq_true, if_false, hm]
    simpa [binOp] using this
  · cases h
    cases hx
    refine ⟨?_, rfl⟩
    simp [Op.unary, eNot_eq]
  · cases h

theorem encode_ascii {n : Nat} (h : n ≤ 127) : Utf8.encode (n : Int) = ⟨#[UInt8.ofNat n]⟩ := by
  unfold Utf8.encode
  have hv : Utf8.valid (n : Int) = true := by simp [Utf8.valid]; omega
  simp only [hv, if_true, Int.toNat_natCast]
  rw [if_pos (by omega)]
theorem eConvInt_sound {s d : TypeId} {si di : TI} (hs : TIok P s si) (hd : TIok P d di) {x x' v : Value} (h : eConvInt di.d x = some v) (hx : VR ρ x x') (w : World) :
    (convert s d x').run P w = .ok v w ∧ isIB v = true := by
  obtain ⟨ds, hds, _⟩ := hs.desc
  obtain ⟨dd, hdd, hr⟩ := hd.desc
  unfold eConvInt at h
  split at h
  · rename_i k n he
    rw [he] at hr
    cases dd <;> simp only [DescR] at hr
    cases hx
    split at h
    case h_2 => cases h
    rename_i hb
    cases h
    refine ⟨?_, rfl⟩
    simp only [convert, Sem.run_bind, run_underlying hds, run_underlying hdd, Result.andThen_ok, Conv.intToString, Sem.run_pure]
    rw [show (Int.ofNat n) = (n : Int) from rfl, encode_ascii (ble_iff.1 hb)]
  · rename_i k k' n he
    rw [he] at hr
    cases dd <;> simp only [DescR] at hr
    subst hr
    cases hx
    cases h
    refine ⟨?_, rfl⟩
    simp only [convert, Sem.run_bind, run_underlying hds, run_underlying hdd, Result.andThen_ok, Conv.intToInt, Sem.run_pure, eWrap_eq]
  · rename_i s' he
    rw [he] at hr
    cases dd <;> simp only [DescR] at hr
    cases hx
    cases h
    refine ⟨?_, rfl⟩
    simp only [convert, Sem.run_bind, run_underlying hds, run_underlying hdd, Result.andThen_ok, Sem.run_pure]
  · cases h

theorem eMin2_sound {mx : Bool} {x y x' y' v : Value} (h : eMin2 mx x y = some v) (hx : VR ρ x x') (hy : VR ρ y y') (w : World) :
    (if mx then Builtin.max2 x' y' else Builtin.min2 x' y').run P w = .ok v w ∧ VR ρ v v := by
  unfold eMin2 at h
  split at h
  case h_2 => cases h
  rename_i k a k' b
  cases hx; cases hy
  cases mx <;> simp only [eLe_eq] at h
  · simp only [Bool.false_eq_true, if_false, Builtin.min2, Sem.run_pure]
    by_cases hab : a ≤ b
    · rw [decide_eq_true hab] at h; cases h
      rw [if_neg (by omega)]; exact ⟨rfl, .int _ _⟩
    · rw [decide_eq_false hab] at h; cases h
      rw [if_pos (by omega)]; exact ⟨rfl, .int _ _⟩
  · simp only [if_true, Builtin.max2, Sem.run_pure]
    by_cases hab : b ≤ a
    · rw [decide_eq_true hab] at h; cases h
      rw [if_neg (by omega)]; exact ⟨rfl, .int _ _⟩
    · rw [decide_eq_false hab] at h; cases h
      rw [if_pos (by omega)]; exact ⟨rfl, .int _ _⟩
theorem eMinL_cons (mx : Bool) (y : Value) (l : List Value) (x : Value) : eMinL mx (y :: l) x = match eMin2 mx x y with
    | some z => eMinL mx l z
    | none => none := rfl
theorem eMinL_sound {mx : Bool} (w : World) : ∀ (l l' : List Value) (x x' v : Value), eMinL mx l x = some v → VR ρ x x' → AR ρ l.toArray l'.toArray →
    ∃ v', (l'.foldlM (fun a b => if mx then Builtin.max2 a b else Builtin.min2 a b) x').run P w = .ok v' w ∧ VR ρ v v'
  | [], l', x, x', v, h, hx, hl => by
    have : l' = [] := List.length_eq_zero_iff.1 (by have := hl.1; simpa using this.symm)
    subst this
    cases h
    exact ⟨x', rfl, hx⟩
  | y :: l, [], x, x', v, h, hx, hl => by have := hl.1; simp at this
  | y :: l, y' :: l', x, x', v, h, hx, hl => by
    obtain ⟨hy, hl'⟩ := hl.of_list
    rw [eMinL_cons] at h
    cases hm : eMin2 mx x y with
    | none => rw [hm] at h; cases h
    | some z =>
      rw [hm] at h
      obtain ⟨h1, h2⟩ := eMin2_sound (P := P) hm hx hy w
      obtain ⟨v', h3, h4⟩ := eMinL_sound w l l' z z v h h2 hl'
      refine ⟨v', ?_, h4⟩
      rw [List.foldlM_cons, Sem.run_bind, h1, Result.andThen_ok, h3]

theorem eExtr_sound {x x' v : Value} {i : Nat} (h : eExtr x i = some v) (hx : VR ρ x x') (w : World) : ∃ v', (Instr.extract x' i).run P w = .ok v' w ∧ VR ρ v v' := by
  unfold eExtr at h
  split at h
  case h_2 => cases h
  cases hx with
  | tup cs ds hc hcs =>
    obtain ⟨y, hy, hr⟩ := (AR.get (ρ := ρ) ⟨hc, hcs⟩ (by simpa using h) : ∃ y, _)
    exact ⟨y, by simp [Instr.extract, hy], hr⟩

theorem eIface_sound {t : TypeId} {ti : TI} (ht : TIok P t ti) (hn : ti.d ≠ .iface) {x x' : Value} (hx : VR ρ x x') (w : World) :
    (Instr.makeInterface t x').run P w = .ok (.iface t x') w ∧ VR ρ (.iface t x) (.iface t x') := by
  obtain ⟨d, hd, hr⟩ := ht.desc
  refine ⟨?_, .iface _ _ _ hx⟩
  simp only [Instr.makeInterface, Sem.run_bind, run_underlying hd, Result.andThen_ok]
  cases d <;> first | rfl | skip
  cases he : ti.d <;> rw [he] at hr <;> first | (exact hr.elim) | exact absurd he hn
end Go.Proofs.YtegfafebbnlicaaGreatDoor.Ev

namespace Go.Proofs.YtegfafebbnlicaaGreatDoor.Ev
open Go
set_option linter.unusedVariables false
set_option linter.unusedSimpArgs false

variable {P : Program} {ρ : Ren}

theorem decide_str {a b : String} (h : decide (a = b) = true) : a = b := of_decide_eq_true h
theorem methOf_cons (m : String) (x : String × FuncId) (l : List (String × FuncId)) : methOf m (x :: l) = match decide (x.1 = m) with
    | true => some x.2
    | false => methOf m l := rfl
theorem methOf_mem (m : String) : ∀ (l : List (String × FuncId)) (f : FuncId), methOf m l = some f → (m, f) ∈ l
  | [], f, h => by cases h
  | x :: l, f, h => by
    rw [methOf_cons] at h
    split at h
    · rename_i hd
      cases h
      have := of_decide_eq_true hd
      subst this
      exact List.mem_cons_self
    · exact List.mem_cons_of_mem _ (methOf_mem m l f h)
theorem AR.single {cs ds : Array Value} (h : AR ρ cs ds) {x : Value} (hx : cs.toList = [x]) : ∃ y, ds[0]? = some y ∧ ds.size = 1 ∧ VR ρ x y := by
  have h0 : cs[0]? = some x := by rw [← Array.getElem?_toList, hx]; rfl
  obtain ⟨y, hy, hr⟩ := h.get h0
  refine ⟨y, hy, ?_, hr⟩
  rw [← h.1, ← Array.length_toList, hx]; rfl
/-- The method of an interface value with a pointer in it. -/
theorem run_nilAhead {t : TypeId} {ti : TI} (ht : TIok P t ti) {m : String} {f : FuncId} (hm : (m, f) ∈ ti.ms) (v : Value) (w : World) (k : Nat) :
    (nilAhead (k + 1) t v m).run P w = .ok (some false) w := by
  obtain ⟨e, he, i, x, hi, hx, hp, hf⟩ := ht.meth m f hm
  simp [nilAhead, typeInfo, hi, hx, hp, hf, followBlind]
theorem run_method {t : TypeId} {ti : TI} (ht : TIok P t ti) {m : String} {f : FuncId} (hm : (m, f) ∈ ti.ms) (v : Value) (w : World) (k : Nat) :
    (method (k + 1) t v m).run P w = .ok (f, v) w := by
  obtain ⟨e, he, i, x, hi, hx, hp, hf⟩ := ht.meth m f hm
  simp [method, typeInfo, hi, hx, hp, hf, follow, receiverAt, run_underlying he, Place.get]

theorem eNil_sound {T : Tr TI} (hT : TOk P T) {x x' v : Value} (h : eNil T x = some v) (hx : VR ρ x x') {o : Oper} {ev : Operand → Value} {y : Operand} (ho : o.op = .nilCheck y) (he : ev y = x') (w : World) :
    ∃ v', (execOp ev o).run P w = .ok (.value v') w ∧ VR ρ v v' := by
  unfold eNil at h
  split at h
  · rename_i m xs cs
    split at h
    case h_2 => cases h
    rename_i t v0 hl
    split at h
    case h_2 => cases h
    rename_i ti hg
    split at h
    case h_2 => cases h
    rename_i f hm
    cases h
    cases hx with
    | fn f' hf xs ys cs ds h1 h2 h3 h4 =>
      obtain ⟨y', hy, hs, hr⟩ := AR.single (ρ := ρ) ⟨h1, h2⟩ hl
      cases hr with
      | iface _ _ v0' hv =>
        refine ⟨.func (.method m) ys ds, ?_, .fn _ hf _ _ _ _ h1 h2 h3 h4⟩
        have hn := run_nilAhead (hT _ _ hg) (methOf_mem _ _ _ hm) v0' w (P.types.size + 99)
        simp only [execOp, ho, he, hy, Sem.run_bind, run_program, Result.andThen_ok]
        rw [show P.types.size + Made.depth = P.types.size + 99 + 1 from rfl, hn]
        simp
  · rename_i a
    cases h
    cases hx with
    | ptr b c o' hb => exact ⟨.pointer (some ⟨c, o', none⟩), by simp [execOp, ho, he], .ptr b c o' hb⟩
  · rename_i f xs cs
    cases h
    cases hx with
    | fn f' hf xs ys cs ds h1 h2 h3 h4 => exact ⟨.func (.func f) ys ds, by simp [execOp, ho, he], .fn _ hf _ _ _ _ h1 h2 h3 h4⟩
  · rename_i t v0
    cases h
    cases hx with
    | iface _ _ v0' hv => exact ⟨.iface t v0', by simp [execOp, ho, he], .iface _ _ _ hv⟩
  · cases h

/-! ### Filled cells -/
theorem foldl_set_size (off : Nat) : ∀ (l : List (Value × Nat)) (cs : Array Value), (l.foldl (fun cs p => cs.setIfInBounds (off + p.2) p.1) cs).size = cs.size
  | [], cs => rfl
  | p :: l, cs => by rw [List.foldl_cons, foldl_set_size off l]; simp
theorem foldl_set_get (off : Nat) : ∀ (l : List Value) (k : Nat) (cs : Array Value) (i : Nat), off + k + l.length ≤ cs.size →
    ((l.zipIdx k).foldl (fun cs p => cs.setIfInBounds (off + p.2) p.1) cs)[i]? = if off + k ≤ i ∧ i < off + k + l.length then l[i - (off + k)]? else cs[i]?
  | [], k, cs, i, h => by rw [if_neg (by simp)]; rfl
  | v :: l, k, cs, i, h => by
    rw [List.zipIdx_cons, List.foldl_cons, foldl_set_get off l (k + 1) _ i (by simp at h ⊢; omega)]
    simp only [List.length_cons] at h ⊢
    by_cases h1 : off + (k + 1) ≤ i ∧ i < off + (k + 1) + l.length
    · rw [if_pos h1, if_pos (by omega), show i - (off + k) = (i - (off + (k + 1))) + 1 by omega]; rfl
    · rw [if_neg h1]
      by_cases h2 : i = off + k
      · subst h2
        rw [if_pos (by omega), Nat.sub_self, Array.getElem?_setIfInBounds_self]
        simp; omega
      · rw [if_neg (by omega), Array.getElem?_setIfInBounds_ne (by omega)]
theorem eOver_get (cs : List Value) (off : Nat) (vs : List Value) (h : off + vs.length ≤ cs.length) (i : Nat) :
    (eOver cs off vs)[i]? = if off ≤ i ∧ i < off + vs.length then vs[i - off]? else cs[i]? := by
  unfold eOver
  have hl : (cs.take off).length = off := by rw [List.length_take]; omega
  rw [List.append_assoc, List.getElem?_append]
  by_cases h1 : i < off
  · rw [if_pos (by omega), if_neg (by omega), List.getElem?_take, if_pos h1]
  · rw [if_neg (by omega), hl, List.getElem?_append]
    by_cases h2 : i - off < vs.length
    · rw [if_pos h2, if_pos (by omega)]
    · rw [if_neg h2, if_neg (by omega), List.getElem?_drop]
      congr 1
      show off + vs.length + (i - off - vs.length) = i
      omega
theorem eOver_len (cs : List Value) (off : Nat) (vs : List Value) (h : off + vs.length ≤ cs.length) : (eOver cs off vs).length = cs.length := by
  unfold eOver
  simp only [List.length_append, List.length_take, List.length_drop]
  show min off cs.length + vs.length + (cs.length - (off + vs.length)) = cs.length
  omega
theorem AR.over {cs : List Value} {ds : Array Value} (h : AR ρ cs.toArray ds) {off : Nat} {v v' : Value} (hv : VR ρ v v') (hle : off + (eCells v).length ≤ cs.length) :
    AR ρ (eOver cs off (eCells v)).toArray (v'.cells.zipIdx.foldl (fun cs (c, j) => cs.setIfInBounds (off + j) c) ds) := by
  have hc := hv.cells
  have hlen : (eCells v').length = (eCells v).length := by have := hc.1; simpa using this.symm
  have hds : ds.size = cs.length := by have := h.1; simpa using this.symm
  have hfold : v'.cells.zipIdx.foldl (fun cs (c, j) => cs.setIfInBounds (off + j) c) ds = ((eCells v').zipIdx 0).foldl (fun cs p => cs.setIfInBounds (off + p.2) p.1) ds := by
    rw [← Array.foldl_toList, Array.toList_zipIdx, cells_list]
  rw [hfold]
  refine ⟨?_, fun i x y hx hy => ?_⟩
  · rw [foldl_set_size, hds]
    simpa using eOver_len cs off (eCells v) hle
  · rw [foldl_set_get off (eCells v') 0 ds i (by omega)] at hy
    have hx' : (eOver cs off (eCells v))[i]? = some x := by simpa using hx
    rw [eOver_get cs off (eCells v) hle] at hx'
    rw [hlen, Nat.add_zero] at hy
    split at hx'
    · rename_i hi
      rw [if_pos hi] at hy
      exact hc.2 (i - off) x y (by simpa using hx') (by simpa using hy)
    · rename_i hi
      rw [if_neg hi] at hy
      exact h.2 i x y (by simpa using hx') hy

/-- Parts of a literal. -/
inductive PR (ρ : Ren) : List (Nat × Value) → List (Nat × Value) → Prop
  | nil : PR ρ [] []
  | cons (i : Nat) (v v' : Value) (l m : List (Nat × Value)) (hv : VR ρ v v') (h : PR ρ l m) : PR ρ ((i, v) :: l) ((i, v') :: m)
theorem eFill_cons (place : Nat → Option (Nat × Nat)) (p : Nat × Value) (ps : List (Nat × Value)) (cs : List Value) : eFill place (p :: ps) cs = match place p.1 with
      | none => none
      | some (off, sz) => match Nat.beq (eCells p.2).length sz, Nat.ble (Nat.add off sz) cs.length with
        | true, true => eFill place ps (eOver cs off (eCells p.2))
        | _, _ => none := rfl
theorem eFill_sound {place place' : Nat → Option (Nat × Nat)} (hp : ∀ i x, place i = some x → place' i = some x) {ps ps' : List (Nat × Value)} (hr : PR ρ ps ps') :
    ∀ (cs r : List Value) (ds : Array Value), eFill place ps cs = some r → AR ρ cs.toArray ds → ∃ r', Instr.fill place' ds ps' = some r' ∧ AR ρ r.toArray r' := by
  induction hr with
  | nil => intro cs r ds h ha; cases h; exact ⟨ds, rfl, ha⟩
  | cons i v v' l m hv _ ih =>
    intro cs r ds h ha
    rw [eFill_cons] at h
    split at h
    · cases h
    · rename_i off sz hpl
      split at h
      case h_2 => cases h
      rename_i h1 h2
      have e1 : (eCells v).length = sz := beq_iff.1 h1
      have e2 := ble_iff.1 h2
      have e2' : off + sz ≤ cs.length := e2
      have hlen : v'.cells.size = sz := by
        rw [← Array.length_toList, cells_list]
        have := hv.cells.1
        simp at this; omega
      have hds : ds.size = cs.length := by have := ha.1; simpa using this.symm
      obtain ⟨r', h3, h4⟩ := ih _ r _ h (ha.over hv (by rw [e1]; exact e2'))
      refine ⟨r', ?_, h4⟩
      rw [Instr.fill]
      simp only [hp _ _ hpl, hlen, ne_eq, not_true_eq_false, decide_false, Bool.false_or, hds]
      rw [if_neg (by simp; omega)]
      exact h3

theorem run_mapM_list {α β : Type} (f : α → Sem β) (g : α → β) (w : World) : ∀ (l : List α), (∀ x ∈ l, (f x).run P w = .ok (g x) w) → (l.mapM f).run P w = .ok (l.map g) w
  | [], _ => by simp
  | x :: l, h => by
    rw [List.mapM_cons]
    simp only [Sem.run_bind, h x List.mem_cons_self, Result.andThen_ok, run_mapM_list f g w l (fun y hy => h y (List.mem_cons_of_mem _ hy)), Sem.run_pure, List.map_cons]
theorem run_mapM_array {α β : Type} (f : α → Sem β) (g : α → β) (w : World) (xs : Array α) (h : ∀ x ∈ xs, (f x).run P w = .ok (g x) w) : (xs.mapM f).run P w = .ok (xs.map g) w := by
  have h1 : xs.mapM f = (List.toArray <$> xs.toList.mapM f) := by rw [Array.mapM_eq_mapM_toList]
  rw [h1, map_eq_pure_bind, Sem.run_bind, run_mapM_list f g w xs.toList (fun x hx => h x (by simpa using hx)), Result.andThen_ok, Sem.run_pure]
  congr 1
  apply Array.ext'
  simp

theorem eBuild_sound {t : TypeId} {ti : TI} (ht : TIok P t ti) {ps : List (Nat × Value)} {parts : Array (Nat × Value)} (hps : PR ρ ps parts.toList) {v : Value} (h : eBuild ti ps = some v) (w : World) :
    ∃ v', (Instr.build t parts).run P w = .ok v' w ∧ VR ρ v v' := by
  obtain ⟨d, hd, hr⟩ := ht.desc
  have hz : AR ρ (eCells ti.zero).toArray ti.zero.cells := by
    have := (VR.plain ρ ht.plain).cells
    rw [← cells_list] at this ⊢
    simpa using this
  unfold eBuild at h
  split at h
  case h_2 => cases h
  rename_i hagg
  split at h
  case h_2 => cases h
  rename_i cs hf
  cases h
  cases he : ti.d <;> rw [he] at hagg <;> (try (cases hagg; done)) <;> rw [he] at hr hf <;> cases d <;> simp only [DescR] at hr
  · rename_i n e sz n' e'
    obtain ⟨rfl, rfl, hs⟩ := hr
    obtain ⟨r', h1, h2⟩ := eFill_sound (place' := fun i => some (i * sz, sz)) (fun i x hx => hx) hps _ _ _ hf hz
    refine ⟨.agg r', ?_, .agg _ _ h2.1 h2.2⟩
    simp only [Instr.build, Sem.run_bind, ht.run_zero, run_underlying hd, Result.andThen_ok, run_sizeIs hs, h1, Sem.run_pure]
  · rename_i fs gs
    obtain ⟨hsz, hfs⟩ := hr
    have hg : ∀ x ∈ gs, ((do pure (x.offset, ← sizeOf x.type)) : Sem (Nat × Nat)).run P w = .ok (x.offset, ((P.info? x.type).map (·.size)).getD 0) w := by
      intro x hx
      obtain ⟨i, hi, hxi⟩ := Array.mem_iff_getElem.1 hx
      obtain ⟨y, hy⟩ : ∃ y, fs[i]? = some y := ⟨fs[i]'(by omega), List.getElem?_eq_getElem (by omega)⟩
      obtain ⟨g, hg, h1, h2, h3⟩ := hfs i y hy
      rw [Array.getElem?_eq_getElem hi] at hg
      cases hg
      rw [hxi] at h1 h2
      rw [← h2] at h3
      obtain ⟨inf, hinf, hsize⟩ := h3
      simp only [Sem.run_bind, run_sizeIs ⟨inf, hinf, rfl⟩, Result.andThen_ok, Sem.run_pure, hinf, Option.map_some, Option.getD_some]
    have hm := run_mapM_array (P := P) (fun (x : Field) => (do pure (x.offset, ← sizeOf x.type) : Sem (Nat × Nat))) (fun x => (x.offset, ((P.info? x.type).map (·.size)).getD 0)) w gs hg
    obtain ⟨r', h1, h2⟩ := eFill_sound (place' := fun i => (gs.map (fun x => (x.offset, ((P.info? x.type).map (·.size)).getD 0)))[i]?) (by
      intro i x hx
      simp only [ePlace] at hx
      split at hx
      case h_2 => cases hx
      rename_i off ty sz hfi
      cases hx
      obtain ⟨g, hg, h1, h2, h3⟩ := hfs i _ hfi
      obtain ⟨inf, hinf, hsize⟩ := h3
      simp only at h1 h2 hinf hsize
      simp [hg, h1, h2, hinf, hsize]) hps _ _ _ hf hz
    refine ⟨.agg r', ?_, .agg _ _ h2.1 h2.2⟩
    simp only [Instr.build, Sem.run_bind, ht.run_zero, run_underlying hd, Result.andThen_ok, hm, h1, Sem.run_pure]

theorem eBuildSlice_sound {T : Tr TI} (hT : TOk P T) {t : TypeId} {ti : TI} (ht : TIok P t ti) {len : Nat} {ps : List (Nat × Value)} {parts : Array (Nat × Value)} (hps : PR ρ ps parts.toList) {fr : Fresh}
    (h : eBuildSlice T ti.d len ps = some fr) : FreshOk P ρ (Instr.buildSlice t len parts) fr := by
  obtain ⟨d, hd, hr⟩ := ht.desc
  unfold eBuildSlice at h
  split at h
  case h_2 => cases h
  rename_i e0 sz by_ he
  rw [he] at hr
  cases d <;> simp only [DescR] at hr
  rename_i e
  obtain ⟨he2, hs, hby⟩ := hr
  subst he2
  split at h
  case h_2 => cases h
  rename_i te hte
  split at h
  case h_2 => cases h
  rename_i b1 b2 b3
  split at h
  case h_2 => cases h
  rename_i cs hf
  cases h
  have hzl := beq_iff.1 b1
  have hsz := ble_iff.1 b2
  have hsm := ble_iff.1 b3
  have hsm' : len * sz ≤ 65536 := hsm
  obtain ⟨i, hi, hi1, hi2, hi3⟩ := (hT _ _ hte).info
  have harr : te.zero.cells = (eCells te.zero).toArray := by rw [← cells_list]
  have hself : AR ρ (eCells te.zero).toArray (eCells te.zero).toArray := (VR.plain ρ (hT _ _ hte).plain).cells
  have hzpos : 0 < (eCells te.zero).length := by omega
  have hrep : ∀ (zc : Array Value), (len * sz ≠ 0 → zc = (eCells te.zero).toArray) → AR ρ (repL (eCells te.zero) len).toArray ((Array.range (len * sz)).map (zc[· % zc.size]!)) := by
    intro zc hzc
    refine ⟨by simp [repL_length, hzl], fun k x y hx hy => ?_⟩
    have hk : k < len * sz := by
      rcases Nat.lt_or_ge k (len * sz) with h' | h'
      · exact h'
      · rw [Array.getElem?_eq_none (by simp; omega)] at hy; cases hy
    have hzc' := hzc (by omega)
    subst hzc'
    have hmod : k % (eCells te.zero).length < (eCells te.zero).length := Nat.mod_lt _ hzpos
    have hx' : (repL (eCells te.zero) len)[k]? = some x := by simpa using hx
    rw [repL_get _ hzpos len k (by rw [hzl]; exact hk)] at hx'
    rw [Array.getElem?_eq_getElem (by simpa using hk)] at hy
    simp only [Array.getElem_map, Array.getElem_range, List.size_toArray, Option.some.injEq] at hy
    rw [getElem!_pos _ _ (by simpa using hmod)] at hy
    refine hself.2 (k % (eCells te.zero).length) x y (by simpa using hx') ?_
    rw [← hy, Array.getElem?_eq_getElem (by simpa using hmod)]
  intro w
  obtain ⟨zc, hz1, hz2⟩ : ∃ zc : Array Value, (len * sz = 0 → zc = #[]) ∧ (len * sz ≠ 0 → zc = (eCells te.zero).toArray) := by
    by_cases h0 : len * sz = 0
    · exact ⟨#[], fun _ => rfl, fun h => absurd h0 h⟩
    · exact ⟨_, fun h => absurd h h0, fun _ => rfl⟩
  obtain ⟨r', h1, h2⟩ := eFill_sound (place' := fun i => some (i * sz, sz)) (fun i x hx => hx) hps _ _ _ hf (hrep zc hz2)
  refine ⟨.cells r' e (0, 0), fun b => .slice (some ⟨b, 0, none⟩) len len, w.drawn, ?_, ?_, ?_⟩
  · simp only [Instr.buildSlice, Sem.run_bind, run_underlying hd, run_sizeIs hs, Result.andThen_ok]
    rw [if_neg (by omega)]
    by_cases h0 : len * sz = 0
    · rw [if_pos h0]
      have := hz1 h0
      subst this
      simp only [Sem.run_bind, Sem.run_pure, Result.andThen_ok, h1, newRow, run_newObj]
    · rw [if_neg h0]
      have := hz2 h0
      subst this
      simp only [Sem.run_bind, (hT _ _ hte).run_zero, harr, Sem.run_pure, Result.andThen_ok, h1, newRow, run_newObj]
  · intro ρ' hle
    have hsz' : r'.size = cs.length := by have := h2.1; simpa using this.symm
    exact ⟨rfl, fun i _ h => absurd h.2 (Nat.not_lt_zero _), by omega, fun _ => ⟨hsz', rfl⟩, CR.ofL (h2.mono hle)⟩
  · intro ρ' b hle hb _
    exact .slc b _ 0 len len hb
end Go.Proofs.YtegfafebbnlicaaGreatDoor.Ev

namespace Go.Proofs.YtegfafebbnlicaaGreatDoor.Ev
open Go
set_option linter.unusedVariables false
set_option linter.unusedSimpArgs false

variable {P : Program} {ρ : Ren} {st : St} {w : World}

theorem run_getMap {r : Nat} {es : Array MapEntry} {c : Nat} (h : w.heap[r]? = some (.map es c)) : (getObj r).run P w = .ok (.map es c) w := by
  simp [getObj, Sem.run, h]
theorem ER.length {l m : List MapEntry} (h : ER ρ l m) : l.length = m.length := by
  induction h with
  | nil => rfl
  | cons k v v' n l m hk hv _ ih => simp [ih]

/-! ### Equality -/
theorem liveCells_spec {b : Nat} (h : liveCells st b = true) : ∃ t n c, st.h.get b = some (.cells t n false c) := by
  unfold liveCells at h
  split at h
  · rename_i t n c hg
    exact ⟨t, n, c, hg⟩
  · cases h
theorem eEqPtr_sound {T : Tr TI} (hT : TOk P T) {G : Nat} (hR : R G ρ st w) {t e : TypeId} (hp : P.underlying t = some (.pointer e)) {a b : Addr} {c c' : Nat} {r : Bool} (h : eEqPtr T e st a b = some r)
    (ha : ρ a.block = some c) (hb : ρ b.block = some c') (o o' : Nat) (ho : o = a.off) (ho' : o' = b.off) :
    ∀ k, (Op.equalIn (k + 1) t (.pointer (some ⟨c, o, none⟩)) (.pointer (some ⟨c', o', none⟩))).run P w = .ok r w := by
  intro k
  subst ho ho'
  unfold eEqPtr at h
  split at h
  case h_2 => cases h
  rename_i te hte
  split at h
  case h_2 => cases h
  rename_i hsz
  obtain ⟨i, hi, hi1, _⟩ := (hT _ _ hte).info
  have hpos : i.size ≠ 0 := by have := ble_iff.1 hsz; omega
  split at h
  · rename_i hbl
    have hbl := beq_iff.1 hbl
    cases h
    rw [hbl] at ha
    rw [ha] at hb; cases hb
    simp only [Op.equalIn, Sem.run_bind, run_underlying hp, Result.andThen_ok, sizeOf, typeInfo, run_program, hi, Sem.run_pure, ne_eq, hpos, not_false_eq_true, if_true, sameAddr, beq_self_eq_true]
    congr 1
    rw [Bool.eq_iff_iff, beq_iff]
    simp
  · rename_i hbl
    split at h
    case h_2 => cases h
    rename_i l1 l2
    cases h
    obtain ⟨t1, n1, c1, g1⟩ := liveCells_spec l1
    obtain ⟨t2, n2, c2, g2⟩ := liveCells_spec l2
    obtain ⟨x1, arr1, fr1, hx1, hw1, _, _, hu1, _, _⟩ := hR.cells g1
    obtain ⟨x2, arr2, fr2, hx2, hw2, _, _, hu2, _, _⟩ := hR.cells g2
    rw [ha] at hx1; cases hx1
    rw [hb] at hx2; cases hx2
    have f1 := (hu1 rfl).2
    have f2 := (hu2 rfl).2
    subst f1 f2
    have hne : c ≠ c' := by
      intro he
      subst he
      have := hR.inj _ _ _ _ c g1 g2 ha hb
      rw [this, Nat.beq_refl] at hbl
      cases hbl
    simp only [Op.equalIn, Sem.run_bind, run_underlying hp, Result.andThen_ok, sizeOf, typeInfo, run_program, hi, Sem.run_pure, ne_eq, hpos, not_false_eq_true, if_true]
    exact run_sameAddr_other w (by intro hh; exact hne (congrArg Addr.block hh)) hw1 hw2

theorem eqk {t : TypeId} {x y : Value} {r : Bool} (h : ∀ k, (Op.equalIn (k + 1) t x y).run P w = .ok r w) : (Op.equal t x y).run P w = .ok r w := h 9999
theorem eEq_sound {T : Tr TI} (hT : TOk P T) {G : Nat} (hR : R G ρ st w) {t : TypeId} {ti : TI} (ht : TIok P t ti) {xc : Bool} {x y x' y' : Value} {r : Bool} (h : eEq T ti.d st xc x y = some r)
    (hx : VR ρ x x') (hy : VR ρ y y') (op : BinOp) (hop : op = .eql ∨ op = .neq) {xo yo : Operand} (hxc : xc = (match isConstB xo with | true => true | false => isConstB yo)) :
    (eqGuard op t xo yo x' y').run P w = .ok () w ∧ (Op.equal t x' y').run P w = .ok r w ∧
      (binOp op t x' y' = (match op with | .eql => (do pure (.bool (← Op.equal t x' y'))) | _ => (do pure (.bool (!(← Op.equal t x' y')))))) := by
  obtain ⟨d, hd, hr⟩ := ht.desc
  unfold eEq at h
  split at h
  · -- bool
    rename_i he
    rw [he] at hr
    cases d <;> simp only [DescR] at hr
    split at h
    case h_2 => cases h
    rename_i a b
    cases h; cases hx; cases hy
    refine ⟨by rcases hop with rfl | rfl <;> rfl, ?_, by rcases hop with rfl | rfl <;> rfl⟩
    rw [run_equal_bool w t a b hd]
    cases a <;> cases b <;> rfl
  · rename_i e he
    rw [he] at hr
    cases d <;> simp only [DescR] at hr
    subst hr
    split at h
    · cases h; cases hx; cases hy
      exact ⟨by rcases hop with rfl | rfl <;> rfl, eqk fun k => by rw [Op.equalIn]; simp only [Sem.run_bind, run_underlying hd, Result.andThen_ok, Sem.run_pure, Option.isNone], by rcases hop with rfl | rfl <;> rfl⟩
    · cases h; cases hx; cases hy
      exact ⟨by rcases hop with rfl | rfl <;> rfl, eqk fun k => by rw [Op.equalIn]; simp only [Sem.run_bind, run_underlying hd, Result.andThen_ok, Sem.run_pure, Option.isNone], by rcases hop with rfl | rfl <;> rfl⟩
    · cases h; cases hx; cases hy
      exact ⟨by rcases hop with rfl | rfl <;> rfl, eqk fun k => by rw [Op.equalIn]; simp only [Sem.run_bind, run_underlying hd, Result.andThen_ok, Sem.run_pure, Option.isNone], by rcases hop with rfl | rfl <;> rfl⟩
    · cases hx; cases hy
      rename_i b1 c1 o1 h1 b2 c2 o2 h2
      exact ⟨by rcases hop with rfl | rfl <;> rfl, eqk (eEqPtr_sound hT hR hd h h1 h2 _ _ rfl rfl), by rcases hop with rfl | rfl <;> rfl⟩
    · cases h
  · rename_i he
    rw [he] at hr
    cases d <;> simp only [DescR] at hr
    split at h
    · split at h
      case h_2 => cases h
      cases h; cases hx; cases hy
      refine ⟨?_, eqk fun k => by rw [Op.equalIn]; simp only [Sem.run_bind, run_underlying hd, Result.andThen_ok, Sem.run_pure], by rcases hop with rfl | rfl <;> rfl⟩
      cases xo with
      | const v => rcases hop with rfl | rfl <;> rfl
      | _ =>
        cases yo with
        | const v => rcases hop with rfl | rfl <;> rfl
        | _ => cases hxc
    · cases h; cases hx; cases hy
      exact ⟨by rcases hop with rfl | rfl <;> rfl, eqk fun k => by rw [Op.equalIn]; simp only [Sem.run_bind, run_underlying hd, Result.andThen_ok, Sem.run_pure, Option.isNone], by rcases hop with rfl | rfl <;> rfl⟩
    · cases h; cases hx; cases hy
      exact ⟨by rcases hop with rfl | rfl <;> rfl, eqk fun k => by rw [Op.equalIn]; simp only [Sem.run_bind, run_underlying hd, Result.andThen_ok, Sem.run_pure, Option.isNone], by rcases hop with rfl | rfl <;> rfl⟩
    · cases h
  · rename_i e sz by_ he
    rw [he] at hr
    cases d <;> simp only [DescR] at hr
    split at h
    · cases h; cases hx; cases hy
      exact ⟨by rcases hop with rfl | rfl <;> rfl, eqk fun k => by rw [Op.equalIn]; simp only [Sem.run_bind, run_underlying hd, Result.andThen_ok, Sem.run_pure, Option.isNone], by rcases hop with rfl | rfl <;> rfl⟩
    · cases h; cases hx; cases hy <;>
      exact ⟨by rcases hop with rfl | rfl <;> rfl, eqk fun k => by rw [Op.equalIn]; simp only [Sem.run_bind, run_underlying hd, Result.andThen_ok, Sem.run_pure, Option.isNone], by rcases hop with rfl | rfl <;> rfl⟩
    · cases h; cases hy; cases hx <;>
      exact ⟨by rcases hop with rfl | rfl <;> rfl, eqk fun k => by rw [Op.equalIn]; simp only [Sem.run_bind, run_underlying hd, Result.andThen_ok, Sem.run_pure, Option.isNone], by rcases hop with rfl | rfl <;> rfl⟩
    · cases h
  · rename_i k e he
    rw [he] at hr
    cases d <;> simp only [DescR] at hr
    split at h
    · cases h; cases hx; cases hy
      exact ⟨by rcases hop with rfl | rfl <;> rfl, eqk fun k => by rw [Op.equalIn]; simp only [Sem.run_bind, run_underlying hd, Result.andThen_ok, Sem.run_pure, Option.isNone], by rcases hop with rfl | rfl <;> rfl⟩
    · cases h; cases hx; cases hy
      exact ⟨by rcases hop with rfl | rfl <;> rfl, eqk fun k => by rw [Op.equalIn]; simp only [Sem.run_bind, run_underlying hd, Result.andThen_ok, Sem.run_pure, Option.isNone], by rcases hop with rfl | rfl <;> rfl⟩
    · cases h; cases hx; cases hy
      exact ⟨by rcases hop with rfl | rfl <;> rfl, eqk fun k => by rw [Op.equalIn]; simp only [Sem.run_bind, run_underlying hd, Result.andThen_ok, Sem.run_pure, Option.isNone], by rcases hop with rfl | rfl <;> rfl⟩
    · cases h
  · rename_i he
    rw [he] at hr
    cases d <;> simp only [DescR] at hr
    split at h
    · cases h; cases hx; cases hy
      exact ⟨by rcases hop with rfl | rfl <;> rfl, eqk fun k => by rw [Op.equalIn]; simp only [Sem.run_bind, run_underlying hd, Result.andThen_ok, Sem.run_pure, Option.isNone], by rcases hop with rfl | rfl <;> rfl⟩
    · cases h; cases hx; cases hy <;>
      exact ⟨by rcases hop with rfl | rfl <;> rfl, eqk fun k => by rw [Op.equalIn]; simp only [Sem.run_bind, run_underlying hd, Result.andThen_ok, Sem.run_pure, Option.isNone], by rcases hop with rfl | rfl <;> rfl⟩
    · cases h; cases hy; cases hx <;>
      exact ⟨by rcases hop with rfl | rfl <;> rfl, eqk fun k => by rw [Op.equalIn]; simp only [Sem.run_bind, run_underlying hd, Result.andThen_ok, Sem.run_pure, Option.isNone], by rcases hop with rfl | rfl <;> rfl⟩
    · cases h
  · cases h

/-! ### Structs and arrays of integers -/
/-- What is asked of the program's types that are compared. -/
def AggOk (P : Program) : Prop := ∀ t a b r, isAggT t aggTs a.length = true → isAggT t aggTs b.length = true → eEqFlat a b = some r →
  ∀ w : World, P.eqGuardType P.depth t = false ∧ (Op.equal t (.agg a.toArray) (.agg b.toArray)).run P w = .ok r w
theorem eEqFlat_cons (x : Value) (a : List Value) (y : Value) (b : List Value) : eEqFlat (x :: a) (y :: b) = match x, y with
        | .int k m, .int k' n => match decide (k = k') with
          | true => match eEqFlat a b with
            | some r => some (match eEqI m n with
              | true => r
              | false => false)
            | none => none
          | false => none
        | _, _ => none := rfl
theorem eEqFlat_same : ∀ (a b : List Value) (r : Bool), eEqFlat a b = some r → ∀ (a' b' : List Value), AR ρ a.toArray a'.toArray → AR ρ b.toArray b'.toArray → a' = a ∧ b' = b
  | [], [], r, h, a', b', ha, hb => by
    have h1 : a'.length = 0 := by have := ha.1; simpa using this.symm
    have h2 : b'.length = 0 := by have := hb.1; simpa using this.symm
    exact ⟨List.length_eq_zero_iff.1 h1, List.length_eq_zero_iff.1 h2⟩
  | [], _ :: _, r, h, a', b', ha, hb => by cases h
  | _ :: _, [], r, h, a', b', ha, hb => by cases h
  | x :: a, y :: b, r, h, [], b', ha, hb => by have := ha.1; simp at this
  | x :: a, y :: b, r, h, x' :: a', [], ha, hb => by have := hb.1; simp at this
  | x :: a, y :: b, r, h, x' :: a', y' :: b', ha, hb => by
    obtain ⟨hx, ha'⟩ := ha.of_list
    obtain ⟨hy, hb'⟩ := hb.of_list
    rw [eEqFlat_cons] at h
    split at h
    case h_2 => cases h
    split at h
    case h_2 => cases h
    split at h
    case h_2 => cases h
    rename_i r' hr'
    obtain ⟨e1, e2⟩ := eEqFlat_same a b r' hr' a' b' ha' hb'
    cases hx; cases hy
    exact ⟨by rw [e1], by rw [e2]⟩
theorem eEqAgg_sound (hA : AggOk P) {t : TypeId} {a b a' b' : Array Value} {r : Bool} (h : eEqAgg t a.toList b.toList = some r) (ha : AR ρ a a') (hb : AR ρ b b') (op : BinOp) (hop : op = .eql ∨ op = .neq) (xo yo : Operand) :
    (eqGuard op t xo yo (.agg a') (.agg b')).run P w = .ok () w ∧ (binOp op t (.agg a') (.agg b')).run P w = .ok (.bool (match op with | .eql => r | _ => !r)) w := by
  unfold eEqAgg at h
  split at h
  case h_2 => cases h
  rename_i h1 h2
  obtain ⟨e1, e2⟩ := eEqFlat_same (ρ := ρ) _ _ _ h a'.toList b'.toList (by simpa using ha) (by simpa using hb)
  obtain ⟨g1, g2⟩ := hA t _ _ r h1 h2 h w
  have ea : a' = a := Array.ext' e1
  have eb : b' = b := Array.ext' e2
  subst ea eb
  refine ⟨run_eqGuard_agg w op t xo yo _ _ g1, ?_⟩
  rcases hop with rfl | rfl
  · simp only [binOp, Sem.run_bind, g2, Result.andThen_ok, Sem.run_pure]
  · simp only [binOp, Sem.run_bind, g2, Result.andThen_ok, Sem.run_pure]

/-! ### Maps -/
theorem eKeyOk_spec {T : Tr TI} (hT : TOk P T) {kt : TypeId} {k : Value} (h : eKeyOk T kt k = true) :
    ∃ d, P.underlying kt = some d ∧ ((∃ kd n, d = .int kd ∧ k = .int kd n) ∨ (d = .string ∧ ∃ s, k = .string s) ∨ (d = .bool ∧ ∃ b, k = .bool b)) := by
  unfold eKeyOk at h
  split at h
  case h_2 => cases h
  rename_i ti hti
  obtain ⟨d, hd, hr⟩ := (hT _ _ hti).desc
  refine ⟨d, hd, ?_⟩
  split at h
  · rename_i a b n he
    rw [he] at hr
    cases d <;> simp only [DescR] at hr
    have := of_decide_eq_true h
    subst this hr
    exact .inl ⟨_, n, rfl, rfl⟩
  · rename_i s he
    rw [he] at hr
    cases d <;> simp only [DescR] at hr
    exact .inr (.inl ⟨rfl, s, rfl⟩)
  · rename_i b he
    rw [he] at hr
    cases d <;> simp only [DescR] at hr
    exact .inr (.inr ⟨rfl, b, rfl⟩)
  · cases h
theorem key_ib {d : TypeDesc} {k : Value} (h : (∃ kd n, d = .int kd ∧ k = .int kd n) ∨ (d = .string ∧ ∃ s, k = .string s) ∨ (d = .bool ∧ ∃ b, k = .bool b)) : isIB k = true := by
  rcases h with ⟨kd, n, rfl, rfl⟩ | ⟨rfl, s, rfl⟩ | ⟨rfl, b, rfl⟩ <;> rfl
theorem run_checkKey {kt : TypeId} {d : TypeDesc} {k : Value} (hd : P.underlying kt = some d) (h : (∃ kd n, d = .int kd ∧ k = .int kd n) ∨ (d = .string ∧ ∃ s, k = .string s) ∨ (d = .bool ∧ ∃ b, k = .bool b)) (e : Bool) (w : World) :
    (Instr.checkKey e 10000 kt k).run P w = .ok () w := by
  suffices hk : ∀ n, (Instr.checkKey e (n + 1) kt k).run P w = .ok () w from hk 9999
  intro n
  rcases h with ⟨kd, n, rfl, rfl⟩ | ⟨rfl, s, rfl⟩ | ⟨rfl, b, rfl⟩ <;> simp [Instr.checkKey, run_underlying hd]
theorem eKeyEq_sound {d : TypeDesc} {k k' : Value} {r : Bool} (h : (∃ kd n, d = .int kd ∧ k = .int kd n) ∨ (d = .string ∧ ∃ s, k = .string s) ∨ (d = .bool ∧ ∃ b, k = .bool b)) (he : eKeyEq k k' = some r) :
    Instr.sameNow d k k' = some r ∧ (r = true → k' = k) := by
  unfold eKeyEq at he
  rcases h with ⟨kd, n, rfl, rfl⟩ | ⟨rfl, s, rfl⟩ | ⟨rfl, b, rfl⟩
  · split at he
    · rename_i k1 a k2 b e
      cases e
      split at he
      · rename_i hk
        have := of_decide_eq_true hk
        subst this
        cases he
        refine ⟨by simp only [Instr.sameNow, if_true, eEqI_eq]; congr 1, fun hh => ?_⟩
        rw [eEqI_eq] at hh
        rw [of_decide_eq_true hh]
      · cases he
    · rename_i e; cases e
    · rename_i e; cases e
    · cases he
  · split at he
    · rename_i e; cases e
    · rename_i e
      cases e
      cases he
      refine ⟨by simp only [Instr.sameNow, eqBytes_eq, beq_toListBytes, ByteArray.toList_eq], fun hh => ?_⟩
      rw [eqBytes_eq] at hh
      have := eq_of_beq hh
      congr 1
      apply ByteArray.ext
      exact (Array.ext' this).symm
    · rename_i e; cases e
    · cases he
  · split at he
    · rename_i e; cases e
    · rename_i e; cases e
    · rename_i a b2 e
      have e' := Value.bool.inj e
      subst e'
      cases he
      refine ⟨by cases b <;> cases b2 <;> rfl, fun hh => ?_⟩
      cases b <;> cases b2 <;> first | rfl | (cases hh; done)
    · cases he
theorem eFind_cons (k : Value) (e : MapEntry) (es : List MapEntry) (i : Nat) : eFind k (e :: es) i = match eKeyEq k e.key with
      | some true => some (some (i, e))
      | some false => eFind k es (Nat.succ i)
      | none => none := rfl
/-- A found entry, in both. -/
theorem eFind_sound {d : TypeDesc} {k : Value} (hk : (∃ kd n, d = .int kd ∧ k = .int kd n) ∨ (d = .string ∧ ∃ s, k = .string s) ∨ (d = .bool ∧ ∃ b, k = .bool b)) {l m : List MapEntry} (hl : ER ρ l m) :
    ∀ (i : Nat) (r : Option (Nat × MapEntry)), eFind k l i = some r →
      (r = none ∧ Instr.findNow d k m i = some none) ∨
      ∃ j e v', r = some (i + j, e) ∧ Instr.findNow d k m i = some (some (i + j, v')) ∧ VR ρ e.val v' ∧ l[j]? = some e ∧ e.key = k ∧ m[j]? = some ⟨k, v', e.born⟩ := by
  induction hl with
  | nil => intro i r h; cases h; exact .inl ⟨rfl, rfl⟩
  | cons kk v v' n l m hkk hv _ ih =>
    intro i r h
    rw [eFind_cons] at h
    cases he : eKeyEq k kk with
    | none => simp only [he] at h; cases h
    | some b =>
      obtain ⟨h1, h2⟩ := eKeyEq_sound hk he
      simp only [he] at h
      cases b with
      | true =>
        cases h
        refine .inr ⟨0, ⟨kk, v, n⟩, v', rfl, ?_, hv, rfl, h2 rfl, ?_⟩
        · simp [Instr.findNow, h1]
        · rw [h2 rfl]; rfl
      | false =>
        rcases ih (i + 1) r h with ⟨e1, e2⟩ | ⟨j, e, v2, e1, e2, e3, e4, e5, e6⟩
        · exact .inl ⟨e1, by simp [Instr.findNow, h1, e2]⟩
        · refine .inr ⟨j + 1, e, v2, by rw [e1, show i + 1 + j = i + (j + 1) by omega], ?_, e3, e4, e5, e6⟩
          simp only [Instr.findNow, h1, e2]
          rw [show i + 1 + j = i + (j + 1) by omega]
theorem run_findKey {kt : TypeId} {d : TypeDesc} (hd : P.underlying kt = some d) {k : Value} {es : List MapEntry} {r : Option (Nat × Value)} (h : Instr.findNow d k es 0 = some r) (w : World) :
    (Instr.findKey kt k es).run P w = .ok r w := by
  simp only [Instr.findKey, Sem.run_bind, run_underlying hd, Result.andThen_ok, h, Sem.run_pure]

theorem St.entries_spec {b : Nat} {es : List MapEntry} {cl : Nat} (h : st.entries b = some (es, cl)) : st.h.get b = some (.map es cl) := by
  unfold St.entries at h
  split at h
  · rename_i hg; cases h; exact hg
  · cases h
theorem eLookup_sound {T : Tr TI} (hT : TOk P T) {G : Nat} (hR : R G ρ st w) {t : TypeId} {ti : TI} (ht : TIok P t ti) {x x' k k' v : Value} {ok : Bool} (h : eLookup T ti.d x k ok st = some v) (hx : VR ρ x x') (hk : VR ρ k k') :
    ∃ v', (Instr.lookup t x' k' ok).run P w = .ok v' w ∧ VR ρ v v' := by
  obtain ⟨d, hd, hr⟩ := ht.desc
  unfold eLookup at h
  split at h
  case h_2 => cases h
  rename_i kt et he
  rw [he] at hr
  cases d <;> simp only [DescR] at hr
  obtain ⟨rfl, rfl⟩ := hr
  split at h
  case h_2 => cases h
  rename_i te hko hte
  obtain ⟨dk, hdk, hkc⟩ := eKeyOk_spec hT hko
  have hk' := hk.ib (key_ib hkc)
  subst hk'
  split at h
  case h_2 => cases h
  rename_i es cl hes
  have hents : ∃ ents : Array MapEntry, ER ρ es ents.toList ∧ ∀ r, Instr.findNow dk k' ents.toList 0 = some r →
      (Instr.lookup t x' k' ok).run P w = .ok (match r with
        | some (_, v2) => if ok then .tuple #[v2, .bool true] else v2
        | none => if ok then .tuple #[te.zero, .bool false] else te.zero) w := by
    split at hes
    · cases hes; cases hx
      refine ⟨#[], .nil, fun r hr => ?_⟩
      simp only [Instr.lookup, Sem.run_bind, run_underlying hd, Result.andThen_ok, Sem.run_pure, run_checkKey hdk hkc, run_findKey hdk hr]
      cases r with
      | none => simp only [Sem.run_bind, (hT _ _ hte).run_zero, Result.andThen_ok, Sem.run_pure]
      | some q => simp only [Sem.run_pure, Sem.run_bind, Result.andThen_ok]
    · rename_i b
      cases hx with
      | map _ c hb =>
        obtain ⟨g, ents, hg, hw, her, _⟩ := hR.map (St.entries_spec hes)
        rw [hb] at hg; cases hg
        refine ⟨ents, her, fun r hr => ?_⟩
        simp only [Instr.lookup, Sem.run_bind, run_underlying hd, run_getMap hw, Result.andThen_ok, Sem.run_pure, run_checkKey hdk hkc, run_findKey hdk hr]
        cases r with
        | none => simp only [Sem.run_bind, (hT _ _ hte).run_zero, Result.andThen_ok, Sem.run_pure]
        | some q => simp only [Sem.run_pure, Sem.run_bind, Result.andThen_ok]
    · cases hes
  obtain ⟨ents, her, hrun⟩ := hents
  cases hf : eFind k' es 0 with
  | none => rw [hf] at h; cases h
  | some r =>
    rw [hf] at h
    simp only at h
    rcases eFind_sound hkc her 0 r hf with ⟨e1, e2⟩ | ⟨j, e, v2, e1, e2, e3, e4, e5, e6⟩
    · subst e1
      refine ⟨if ok then .tuple #[te.zero, .bool false] else te.zero, hrun _ e2, ?_⟩
      cases ok <;> cases h
      · exact VR.plain ρ (hT _ _ hte).plain
      · exact .tup _ _ rfl ((AR.one (VR.plain ρ (hT _ _ hte).plain)).push (.bool false)).2
    · subst e1
      refine ⟨if ok then .tuple #[v2, .bool true] else v2, hrun _ e2, ?_⟩
      cases ok <;> cases h
      · exact e3
      · exact .tup _ _ rfl ((AR.one e3).push (.bool true)).2

theorem eLen_sound {G : Nat} (hR : R G ρ st w) {t : TypeId} {ti : TI} (ht : TIok P t ti) {x x' v : Value} (h : eLen ti.d x st = some v) (hx : VR ρ x x') (ts : Array TypeId) (hts : ts[0]? = some t) (ty : TypeId) :
    (Builtin.len_ ts ty #[x']).run P w = .ok v w ∧ isIB v = true := by
  obtain ⟨d, hd, hr⟩ := ht.desc
  have h0 : (#[x'] : Array Value)[0]? = some x' := rfl
  unfold eLen at h
  split at h
  · rename_i s he
    rw [he] at hr
    cases d <;> simp only [DescR] at hr
    cases hx; cases h
    refine ⟨?_, rfl⟩
    simp only [Builtin.len_, hts, h0, Sem.run_bind, run_underlying hd, Result.andThen_ok, Sem.run_pure, goInt]
    rfl
  · rename_i n e sz he
    rw [he] at hr
    cases d <;> simp only [DescR] at hr
    obtain ⟨rfl, rfl, _⟩ := hr
    cases h
    refine ⟨?_, rfl⟩
    simp only [Builtin.len_, hts, h0, Sem.run_bind, run_underlying hd, Result.andThen_ok, Sem.run_pure, goInt]
    rfl
  · rename_i n he
    rw [he] at hr
    cases d <;> simp only [DescR] at hr
    cases h
    refine ⟨?_, rfl⟩
    cases hx <;> (simp only [Builtin.len_, hts, h0, Sem.run_bind, run_underlying hd, Result.andThen_ok, Sem.run_pure, goInt]; rfl)
  · rename_i he
    rw [he] at hr
    cases d <;> simp only [DescR] at hr
    cases h; cases hx
    refine ⟨?_, rfl⟩
    simp only [Builtin.len_, hts, h0, Sem.run_bind, run_underlying hd, Result.andThen_ok, Sem.run_pure, goInt]
    rfl
  · rename_i b he
    rw [he] at hr
    cases d <;> simp only [DescR] at hr
    split at h
    case h_2 => cases h
    rename_i es cl hes
    cases h
    cases hx with
    | map _ c hb =>
      obtain ⟨g, ents, hg, hw, her, _⟩ := hR.map (St.entries_spec hes)
      rw [hb] at hg; cases hg
      refine ⟨?_, rfl⟩
      simp only [Builtin.len_, hts, h0, Sem.run_bind, run_underlying hd, Result.andThen_ok, run_getMap hw, Sem.run_pure, goInt, her.length, Array.length_toList]
      rfl
  · cases h

theorem eCap_sound {t : TypeId} {ti : TI} (ht : TIok P t ti) (hsl : ∃ e sz by_, ti.d = .slice e sz by_) {x x' v : Value} (h : eCap x = some v) (hx : VR ρ x x') (ts : Array TypeId) (hts : ts[0]? = some t) (ty : TypeId) :
    (Builtin.cap_ ts ty #[x']).run P w = .ok v w ∧ isIB v = true := by
  obtain ⟨d, hd, hr⟩ := ht.desc
  obtain ⟨e, sz, by_, he⟩ := hsl
  rw [he] at hr
  cases d <;> simp only [DescR] at hr
  have h0 : (#[x'] : Array Value)[0]? = some x' := rfl
  unfold eCap at h
  split at h
  · cases h; cases hx
    refine ⟨?_, rfl⟩
    simp only [Builtin.cap_, hts, h0, Sem.run_bind, run_underlying hd, Result.andThen_ok, Sem.run_pure, goInt]
    rfl
  · cases h; cases hx
    refine ⟨?_, rfl⟩
    simp only [Builtin.cap_, hts, h0, Sem.run_bind, run_underlying hd, Result.andThen_ok, Sem.run_pure, goInt]
    rfl
  · cases h

/-! ### Strings of bytes -/
theorem toBytes_cons (v : Value) (l : List Value) : toBytes (v :: l) = match v with
      | .int .u8 (.ofNat n) => match toBytes l with
        | some l => some (UInt8.ofNat n :: l)
        | none => none
      | _ => none := rfl
theorem toBytes_spec : ∀ (l : List Value) (bs : List UInt8), toBytes l = some bs → ∃ ns : List Nat, l = ns.map (fun n => Value.int .u8 (Int.ofNat n)) ∧ bs = ns.map UInt8.ofNat
  | [], bs, h => by cases h; exact ⟨[], rfl, rfl⟩
  | v :: l, bs, h => by
    rw [toBytes_cons] at h
    split at h
    case h_2 => cases h
    split at h
    case h_2 => cases h
    rename_i n _ bs' hbs
    cases h
    obtain ⟨ns, e1, e2⟩ := toBytes_spec l bs' hbs
    exact ⟨n :: ns, by rw [e1]; rfl, by rw [e2]; rfl⟩
theorem AR.ints {ns : List Nat} {ds : Array Value} (h : AR ρ (ns.map (fun n => Value.int .u8 (Int.ofNat n))).toArray ds) : ds = ((ns.map Int.ofNat).map (Value.int .u8)).toArray := by
  apply Array.ext_getElem?
  intro i
  have hsz : ds.size = ns.length := by have := h.1; simpa using this.symm
  by_cases hi : i < ns.length
  · have h1 : (ns.map (fun n => Value.int .u8 (Int.ofNat n))).toArray[i]? = some (Value.int .u8 (Int.ofNat ns[i])) := by simp [hi]
    obtain ⟨y, hy, hr⟩ := h.get h1
    rw [hy]
    cases hr
    simp [hi]
  · rw [Array.getElem?_eq_none (by omega), Array.getElem?_eq_none (by simp; omega)]
theorem push_fold : ∀ (ns : List Int) (s : ByteArray), (ns.foldl (fun (r : ByteArray) n => r.push (UInt8.ofNat n.toNat)) s).data = s.data ++ (ns.map fun n => UInt8.ofNat n.toNat).toArray
  | [], s => by simp
  | n :: ns, s => by
    rw [List.foldl_cons, push_fold ns]
    apply Array.ext'
    simp [ByteArray.push]
theorem eToString_sound {T : Tr TI} (hT : TOk P T) {G : Nat} (hR : R G ρ st w) {s d : TypeId} {si di : TI} (hs : TIok P s si) (hd : TIok P d di) {e : TypeId} {sz by_ : Nat} (hse : si.d = .slice e sz by_) (hde : di.d = .string)
    {te : TI} (hte : T.get e = some te) (hteu : te.d = .int .u8) {x x' v : Value} (h : eToString x st = some v) (hx : VR ρ x x') :
    (convert s d x').run P w = .ok v w ∧ isIB v = true := by
  obtain ⟨ds, hds, hr⟩ := hs.desc
  rw [hse] at hr
  cases ds <;> simp only [DescR] at hr
  obtain ⟨rfl, _⟩ := hr
  obtain ⟨dd, hdd, hr⟩ := hd.desc
  rw [hde] at hr
  cases dd <;> simp only [DescR] at hr
  obtain ⟨du, hdu, hr⟩ := (hT _ _ hte).desc
  rw [hteu] at hr
  cases du <;> simp only [DescR] at hr
  subst hr
  unfold eToString at h
  split at h
  · cases h; cases hx
    refine ⟨?_, rfl⟩
    rw [run_convert_bytes_string w s d _ _ _ _ hds hdu hdd]
    rfl
  · rename_i a n c
    split at h
    case h_2 => cases h
    rename_i l hl
    split at h
    case h_2 => cases h
    rename_i bs hbs
    cases h
    refine ⟨?_, rfl⟩
    obtain ⟨ns, e1, e2⟩ := toBytes_spec _ _ hbs
    have hgo : ∀ (o : Nat) (cap : Nat), (∃ ds, (loadCells ⟨o, a.off, none⟩ n).run P w = .ok ds w ∧ AR ρ l.toArray ds) →
        (convert s d (.slice (some ⟨o, a.off, none⟩) n cap)).run P w = .ok (.string ⟨bs.toArray⟩) w := by
      rintro o cap ⟨ds, hload, har⟩
      rw [e1] at har
      rw [AR.ints har] at hload
      rw [run_convert_bytes_string w s d _ _ _ _ hds hdu hdd, run_bytesToString w _ n cap (ns.map Int.ofNat) hload]
      congr 2
      apply ByteArray.ext
      rw [push_fold, e2]
      apply Array.ext'
      have he : ByteArray.empty.data = #[] := rfl
      simp [he]
    obtain ⟨_, g, ds, hg, hload, har, _⟩ := hR.load P hl
    cases hx with
    | slc b c' o len cap hb =>
      simp only at hg hload
      rw [hb] at hg; cases hg
      exact hgo _ _ ⟨ds, hload, har⟩
    | slu b c' o o' len cap z hb hle ho hz =>
      simp only at hg hload
      rw [hb] at hg; cases hg
      rcases ho with rfl | h0
      · exact hgo _ _ ⟨ds, hload, har⟩
      · have hn : n = 0 := by omega
        subst hn
        have hl0 : l = [] := List.length_eq_zero_iff.1 (hR.load P hl).1
        subst hl0
        cases hbs
        rw [run_convert_bytes_string w s d _ _ _ _ hds hdu hdd, run_bytesToString w _ 0 cap [] (by simp [loadCells, loadCellsFrom])]
        rfl
  · cases h
end Go.Proofs.YtegfafebbnlicaaGreatDoor.Ev
