/-
  The arithmetic of the evaluator: integers, as the kernel reckons them fast.
  The table of types, and the operations that leave the memory alone.
  The operations that read or write memory, one by one.
-/
import Derived.Test.YtegfafebbnlicaaGreatDoorMEvA
import Derived.Laws.Entries
namespace Go.Proofs.YtegfafebbnlicaaGreatDoor.Ev
open Go
set_option linter.unusedVariables false

/-- The number that an integer kind keeps of n. -/
def eMod (k : IntKind) : Nat :=
  match k with
  | .i8 => 256 | .i16 => 65536 | .i32 => 4294967296 | .i64 => 18446744073709551616
  | .u8 => 256 | .u16 => 65536 | .u32 => 4294967296 | .u64 => 18446744073709551616
def eHalf (k : IntKind) : Nat :=
  match k with
  | .i8 => 128 | .i16 => 32768 | .i32 => 2147483648 | .i64 => 9223372036854775808
  | _ => 0
/-- n modulo m, m > 0. -/
def eMd (n : Int) (m : Nat) : Nat :=
  match n with
  | .ofNat a => Nat.mod a m
  | .negSucc a => Nat.sub (Nat.sub m 1) (Nat.mod a m)
def eWrap (k : IntKind) (n : Int) : Int :=
  match eHalf k with
  | 0 => .ofNat (eMd n (eMod k))
  | h + 1 => match Nat.ble (Nat.succ h) (eMd n (eMod k)) with
    | false => .ofNat (eMd n (eMod k))
    | true => Int.subNatNat (eMd n (eMod k)) (eMod k)
theorem eMd_eq (n : Int) (m : Nat) (hm : 0 < m) : ((eMd n m : Nat) : Int) = n % (m : Int) := by
  cases n with
  | ofNat a => rfl
  | negSucc a =>
    show ((m - 1 - a % m : Nat) : Int) = _
    rw [Int.negSucc_emod _ (by omega)]
    have : a % m < m := Nat.mod_lt _ hm
    have h2 : ((a : Int) % (m : Int)) = ((a % m : Nat) : Int) := rfl
    rw [h2]; omega
theorem eWrap_eq (k : IntKind) (n : Int) : eWrap k n = k.wrap n := by
  have key : ∀ m : Nat, 0 < m → ((eMd n m : Nat) : Int) = n % (m : Int) := fun m => eMd_eq n m
  cases k <;> simp only [eWrap, eHalf, eMod, IntKind.wrap, IntKind.bits, IntKind.signed]
  case u8 => exact key 256 (by decide)
  case u16 => exact key 65536 (by decide)
  case u32 => exact key 4294967296 (by decide)
  case u64 => exact key 18446744073709551616 (by decide)
  case i8 =>
    have h := key 256 (by decide)
    generalize eMd n 256 = e at h ⊢
    simp only [Bool.true_and, decide_eq_true_eq, show ((2 : Int) ^ 8) = ((256 : Nat) : Int) by decide, show ((2 : Int) ^ (8 - 1)) = 128 by decide, ← h]
    cases hb : Nat.ble (127).succ e with
    | false => rw [if_neg]; · rfl
               · intro hge; have := (ble_iff (a := 128) (b := e)).2 (by omega); rw [this] at hb; cases hb
    | true => rw [if_pos]; · exact (Int.subNatNat_eq_coe ..).trans rfl
              · have := ble_iff.1 hb; omega
  case i16 =>
    have h := key 65536 (by decide)
    generalize eMd n 65536 = e at h ⊢
    simp only [Bool.true_and, decide_eq_true_eq, show ((2 : Int) ^ 16) = ((65536 : Nat) : Int) by decide, show ((2 : Int) ^ (16 - 1)) = 32768 by decide, ← h]
    cases hb : Nat.ble (32767).succ e with
    | false => rw [if_neg]; · rfl
               · intro hge; have := (ble_iff (a := 32768) (b := e)).2 (by omega); rw [this] at hb; cases hb
    | true => rw [if_pos]; · exact (Int.subNatNat_eq_coe ..).trans rfl
              · have := ble_iff.1 hb; omega
  case i32 =>
    have h := key 4294967296 (by decide)
    generalize eMd n 4294967296 = e at h ⊢
    simp only [Bool.true_and, decide_eq_true_eq, show ((2 : Int) ^ 32) = ((4294967296 : Nat) : Int) by decide, show ((2 : Int) ^ (32 - 1)) = 2147483648 by decide, ← h]
    cases hb : Nat.ble (2147483647).succ e with
    | false => rw [if_neg]; · rfl
               · intro hge; have := (ble_iff (a := 2147483648) (b := e)).2 (by omega); rw [this] at hb; cases hb
    | true => rw [if_pos]; · exact (Int.subNatNat_eq_coe ..).trans rfl
              · have := ble_iff.1 hb; omega
  case i64 =>
    have h := key 18446744073709551616 (by decide)
    generalize eMd n 18446744073709551616 = e at h ⊢
    simp only [Bool.true_and, decide_eq_true_eq, show ((2 : Int) ^ 64) = ((18446744073709551616 : Nat) : Int) by decide, show ((2 : Int) ^ (64 - 1)) = 9223372036854775808 by decide, ← h]
    cases hb : Nat.ble (9223372036854775807).succ e with
    | false => rw [if_neg]; · rfl
               · intro hge; have := (ble_iff (a := 9223372036854775808) (b := e)).2 (by omega); rw [this] at hb; cases hb
    | true => rw [if_pos]; · exact (Int.subNatNat_eq_coe ..).trans rfl
              · have := ble_iff.1 hb; omega

/-- Comparisons. -/
def eLe : Int → Int → Bool
  | .ofNat a, .ofNat b => Nat.ble a b
  | .ofNat _, .negSucc _ => false
  | .negSucc _, .ofNat _ => true
  | .negSucc a, .negSucc b => Nat.ble b a
def eEqI : Int → Int → Bool
  | .ofNat a, .ofNat b => Nat.beq a b
  | .negSucc a, .negSucc b => Nat.beq a b
  | _, _ => false
theorem beq_iff {a b : Nat} : Nat.beq a b = true ↔ a = b := ⟨Nat.eq_of_beq_eq_true, fun h => h ▸ Nat.beq_refl a⟩
theorem eLe_eq (a b : Int) : eLe a b = decide (a ≤ b) := by
  cases a <;> cases b <;> simp only [eLe]
  · rename_i a b
    rw [Bool.eq_iff_iff, ble_iff, decide_eq_true_eq]; exact Int.ofNat_le.symm
  · rename_i x y; symm; rw [decide_eq_false_iff_not]; have : Int.ofNat x = (x : Int) := rfl; omega
  · rename_i x y; symm; rw [decide_eq_true_eq]; have : Int.ofNat y = (y : Int) := rfl; omega
  · rw [Bool.eq_iff_iff, ble_iff, decide_eq_true_eq]; omega
theorem eEqI_eq (a b : Int) : eEqI a b = decide (a = b) := by
  cases a <;> cases b <;> simp only [eEqI]
  · rename_i a b
    rw [Bool.eq_iff_iff, beq_iff, decide_eq_true_eq]; exact ⟨fun h => h ▸ rfl, fun h => Int.ofNat.inj h⟩
  · symm; rw [decide_eq_false_iff_not]; intro h; cases h
  · symm; rw [decide_eq_false_iff_not]; intro h; cases h
  · rw [Bool.eq_iff_iff, beq_iff, decide_eq_true_eq]; exact ⟨fun h => h ▸ rfl, fun h => Int.negSucc.inj h⟩
def eNot : Bool → Bool
  | true => false
  | false => true

/-- Bits of numbers that are not negative and fit. -/
def eBits (op : BinOp) (k : IntKind) (a b : Int) : Option Int :=
  match a, b with
  | .ofNat x, .ofNat y =>
    match Nat.ble (Nat.succ x) (eMod k), Nat.ble (Nat.succ y) (eMod k) with
    | true, true => match op with
      | .and => some (eWrap k (.ofNat (Nat.land x y)))
      | .or => some (eWrap k (.ofNat (Nat.lor x y)))
      | .xor => some (eWrap k (.ofNat (Nat.xor x y)))
      | .andNot => some (eWrap k (.ofNat (Nat.xor x (Nat.land x y))))
      | _ => none
    | _, _ => none
  | _, _ => none

/-- The operators on two integers of one kind; not the shifts. -/
def eInt (op : BinOp) (k : IntKind) (a b : Int) : Option Value :=
  match op with
  | .add => some (.int k (eWrap k (Int.add a b)))
  | .sub => some (.int k (eWrap k (Int.sub a b)))
  | .mul => some (.int k (eWrap k (Int.mul a b)))
  | .quo => match eEqI b (.ofNat 0) with
    | true => none
    | false => some (.int k (eWrap k (Int.tdiv a b)))
  | .rem => match eEqI b (.ofNat 0) with
    | true => none
    | false => some (.int k (Int.tmod a b))
  | .eql => some (.bool (eEqI a b))
  | .neq => some (.bool (eNot (eEqI a b)))
  | .lss => some (.bool (eNot (eLe b a)))
  | .leq => some (.bool (eLe a b))
  | .gtr => some (.bool (eNot (eLe a b)))
  | .geq => some (.bool (eLe b a))
  | .and | .or | .xor | .andNot => match eBits op k a b with
    | some n => some (.int k n)
    | none => none
  | _ => none
/-- A shift. -/
def eShift (op : BinOp) (k : IntKind) (a : Int) (b : Int) : Option Value :=
  match b with
  | .negSucc _ => none
  | .ofNat y => match op with
    | .shl => some (.int k (eWrap k (Int.mul a (.ofNat (Nat.pow 2 (match Nat.ble y k.bits with | true => y | false => k.bits))))))
    | .shr => match a with
      | .ofNat x => some (.int k (.ofNat (Nat.div x (Nat.pow 2 (match Nat.ble y k.bits with | true => y | false => k.bits)))))
      | .negSucc _ => none
    | _ => none

theorem eMod_eq (k : IntKind) : eMod k = 2 ^ k.bits := by cases k <;> decide
theorem ofInt_nat {n x : Nat} (h : x < 2 ^ n) : (BitVec.ofInt n (x : Int)) = BitVec.ofNat n x := by
  apply BitVec.eq_of_toNat_eq
  simp [Nat.mod_eq_of_lt h]
theorem eBits_sound (P : Program) {op : BinOp} {k : IntKind} {a b n : Int} (h : eBits op k a b = some n) (w : World) : (Op.intBits op k a b).run P w = .ok (.int k n) w := by
  unfold eBits at h
  split at h
  case h_2 => cases h
  rename_i x y
  split at h
  case h_2 => cases h
  rename_i hx hy
  have hx' : x < 2 ^ k.bits := by rw [← eMod_eq]; exact ble_iff.1 hx
  have hy' : y < 2 ^ k.bits := by rw [← eMod_eq]; exact ble_iff.1 hy
  have ea : BitVec.ofInt k.bits (Int.ofNat x) = BitVec.ofNat k.bits x := ofInt_nat hx'
  have eb : BitVec.ofInt k.bits (Int.ofNat y) = BitVec.ofNat k.bits y := ofInt_nat hy'
  unfold Op.intBits
  simp only [ea, eb]
  cases op <;> simp only [Option.some.injEq] at h <;> first | (cases h; done) | skip
  all_goals subst h
  · have e : (BitVec.ofNat k.bits x &&& BitVec.ofNat k.bits y).toNat = Nat.land x y := by
      rw [BitVec.toNat_and, BitVec.toNat_ofNat, BitVec.toNat_ofNat, Nat.mod_eq_of_lt hx', Nat.mod_eq_of_lt hy']; rfl
    rw [e, eWrap_eq]; rfl
  · have e : (BitVec.ofNat k.bits x ||| BitVec.ofNat k.bits y).toNat = Nat.lor x y := by
      rw [BitVec.toNat_or, BitVec.toNat_ofNat, BitVec.toNat_ofNat, Nat.mod_eq_of_lt hx', Nat.mod_eq_of_lt hy']; rfl
    rw [e, eWrap_eq]; rfl
  · have e : (BitVec.ofNat k.bits x ^^^ BitVec.ofNat k.bits y).toNat = Nat.xor x y := by
      rw [BitVec.toNat_xor, BitVec.toNat_ofNat, BitVec.toNat_ofNat, Nat.mod_eq_of_lt hx', Nat.mod_eq_of_lt hy']; rfl
    rw [e, eWrap_eq]; rfl
  · have e0 : BitVec.ofNat k.bits x &&& ~~~(BitVec.ofNat k.bits y) = BitVec.ofNat k.bits x ^^^ (BitVec.ofNat k.bits x &&& BitVec.ofNat k.bits y) := by
      ext i hi
      simp only [BitVec.getElem_and, BitVec.getElem_not, BitVec.getElem_xor]
      cases (BitVec.ofNat k.bits x)[i] <;> cases (BitVec.ofNat k.bits y)[i] <;> rfl
    have e : (BitVec.ofNat k.bits x &&& ~~~(BitVec.ofNat k.bits y)).toNat = Nat.xor x (Nat.land x y) := by
      rw [e0, BitVec.toNat_xor, BitVec.toNat_and, BitVec.toNat_ofNat, BitVec.toNat_ofNat, Nat.mod_eq_of_lt hx', Nat.mod_eq_of_lt hy']; rfl
    rw [e, eWrap_eq]; rfl
theorem eNot_eq (b : Bool) : eNot b = !b := by cases b <;> rfl

theorem eInt_sound (P : Program) {op : BinOp} {k : IntKind} {a b : Int} {v : Value} (h : eInt op k a b = some v) (t : TypeId) (w : World) :
    (binOp op t (.int k a) (.int k b)).run P w = .ok v w := by
  have h0 : ∀ c : Int, eEqI c (Int.ofNat 0) = false → c ≠ 0 := by
    intro c hc he; subst he; cases hc
  cases op <;> simp only [eInt] at h
  case add => cases h; simp only [binOp, ne_eq, not_true_eq_false, if_false, Op.intArith, eWrap_eq]; rfl
  case sub => cases h; simp only [binOp, ne_eq, not_true_eq_false, if_false, Op.intArith, eWrap_eq]; rfl
  case mul => cases h; simp only [binOp, ne_eq, not_true_eq_false, if_false, Op.intArith, eWrap_eq]; rfl
  case quo =>
    cases hb : eEqI b (Int.ofNat 0) with
    | true => rw [hb] at h; cases h
    | false =>
      rw [hb] at h; cases h
      simp only [binOp, ne_eq, not_true_eq_false, if_false, Op.intDiv, eWrap_eq]
      rw [if_neg (h0 b hb)]; rfl
  case rem =>
    cases hb : eEqI b (Int.ofNat 0) with
    | true => rw [hb] at h; cases h
    | false =>
      rw [hb] at h; cases h
      simp only [binOp, ne_eq, not_true_eq_false, if_false, Op.intDiv]
      rw [if_neg (h0 b hb)]; rfl
  case eql => cases h; simp only [binOp, ne_eq, not_true_eq_false, if_false, Op.intCmp, eEqI_eq]; rfl
  case neq => cases h; simp only [binOp, ne_eq, not_true_eq_false, if_false, Op.intCmp, eEqI_eq, eNot_eq]; simp [bne]; rfl
  case lss =>
    cases h; simp only [binOp, ne_eq, not_true_eq_false, if_false, Op.intCmp, eLe_eq, eNot_eq, Sem.run_pure, ← decide_not]
    congr 2; rw [Bool.eq_iff_iff, decide_eq_true_eq, decide_eq_true_eq]; omega
  case leq => cases h; simp only [binOp, ne_eq, not_true_eq_false, if_false, Op.intCmp, eLe_eq]; rfl
  case gtr =>
    cases h; simp only [binOp, ne_eq, not_true_eq_false, if_false, Op.intCmp, eLe_eq, eNot_eq, Sem.run_pure, ← decide_not]
    congr 2; rw [Bool.eq_iff_iff, decide_eq_true_eq, decide_eq_true_eq]; omega
  case geq => cases h; simp only [binOp, ne_eq, not_true_eq_false, if_false, Op.intCmp, eLe_eq]; rfl
  case and =>
    cases hb : eBits .and k a b with
    | none => rw [hb] at h; cases h
    | some n => rw [hb] at h; cases h; simp only [binOp, ne_eq, not_true_eq_false, if_false]; exact eBits_sound P hb w
  case or =>
    cases hb : eBits .or k a b with
    | none => rw [hb] at h; cases h
    | some n => rw [hb] at h; cases h; simp only [binOp, ne_eq, not_true_eq_false, if_false]; exact eBits_sound P hb w
  case xor =>
    cases hb : eBits .xor k a b with
    | none => rw [hb] at h; cases h
    | some n => rw [hb] at h; cases h; simp only [binOp, ne_eq, not_true_eq_false, if_false]; exact eBits_sound P hb w
  case andNot =>
    cases hb : eBits .andNot k a b with
    | none => rw [hb] at h; cases h
    | some n => rw [hb] at h; cases h; simp only [binOp, ne_eq, not_true_eq_false, if_false]; exact eBits_sound P hb w
  all_goals cases h

theorem eMin_eq (y m : Nat) : (match Nat.ble y m with | true => y | false => m) = min y m := by
  cases h : Nat.ble y m with
  | true => have := ble_iff.1 h; simp only; omega
  | false =>
    have : ¬ y ≤ m := fun hle => by rw [ble_iff.2 hle] at h; cases h
    simp only; omega
theorem eShift_sound (P : Program) {op : BinOp} {k k' : IntKind} {a b : Int} {v : Value} (h : eShift op k a b = some v) (t : TypeId) (w : World) :
    (binOp op t (.int k a) (.int k' b)).run P w = .ok v w := by
  cases b with
  | negSucc y => cases h
  | ofNat y =>
    have hy : ¬ (Int.ofNat y < 0) := by have : Int.ofNat y = (y : Int) := rfl; omega
    have ht : (Int.ofNat y).toNat = y := rfl
    simp only [eShift] at h
    cases op <;> simp only [eMin_eq] at h <;> first | (cases h; done) | skip
    · cases h
      simp only [binOp, Op.shift, if_neg hy, ht, eWrap_eq]
      show Result.ok _ w = Result.ok _ w
      congr 3
    · cases a with
      | negSucc x => cases h
      | ofNat x =>
        cases h
        simp only [binOp, Op.shift, if_neg hy, ht]
        show Result.ok _ w = Result.ok _ w
        congr 2
        show Int.fdiv (x : Int) ((2 : Int) ^ (min y k.bits)) = ((x / 2 ^ min y k.bits : Nat) : Int)
        have : ((2 : Int) ^ (min y k.bits)) = ((2 ^ min y k.bits : Nat) : Int) := by rw [Int.natCast_pow]; rfl
        rw [this, Int.fdiv_eq_ediv_of_nonneg _ (Int.natCast_nonneg _)]; rfl
end Go.Proofs.YtegfafebbnlicaaGreatDoor.Ev

namespace Go.Proofs.YtegfafebbnlicaaGreatDoor.Ev
open Go
set_option linter.unusedVariables false

/-- What a type is, as far as the evaluator asks; sz: the cells of an element or a field. -/
inductive ED where
  | int (k : IntKind)
  | bool
  | string
  | pointer (e : TypeId)
  | slice (e : TypeId) (sz by_ : Nat)
  | array (n : Nat) (e : TypeId) (sz : Nat)
  | map (k e : TypeId)
  | struct (fs : List (Nat × TypeId × Nat))
  | func
  | iface
  | tuple

structure TI where
  d : ED
  size : Nat
  bytes : Nat
  zero : Value
  ms : List (String × FuncId)

def sizeIs (P : Program) (t : TypeId) (n : Nat) : Prop := ∃ i, P.info? t = some i ∧ i.size = n
def DescR (P : Program) : ED → TypeDesc → Prop
  | .int k, .int k' => k' = k
  | .bool, .bool => True
  | .string, .string => True
  | .pointer e, .pointer e' => e' = e
  | .slice e sz by_, .slice e' => e' = e ∧ sizeIs P e sz ∧ P.bytesOf e = by_
  | .array n e sz, .array n' e' => n' = n ∧ e' = e ∧ sizeIs P e sz
  | .map k e, .map k' e' => k' = k ∧ e' = e
  | .struct fs, .struct gs => gs.size = fs.length ∧ ∀ (i : Nat) x, fs[i]? = some x → ∃ g, gs[i]? = some g ∧ g.offset = x.1 ∧ g.type = x.2.1 ∧ sizeIs P x.2.1 x.2.2
  | .func, .func _ _ _ => True
  | .iface, .interface _ => True
  | .tuple, .tuple _ => True
  | _, _ => False
structure TIok (P : Program) (t : TypeId) (ti : TI) : Prop where
  info : ∃ i, P.info? t = some i ∧ i.size = ti.size ∧ i.bytes = ti.bytes ∧ i.zero = some ti.zero
  plain : plainV ti.zero = true
  zsize : ti.zero.cells.size = ti.size
  desc : ∃ d, P.underlying t = some d ∧ DescR P ti.d d
  meth : ∀ m f, (m, f) ∈ ti.ms → ∃ e, P.underlying t = some (.pointer e) ∧ ∃ i x, P.info? t = some i ∧ i.methods.find? (·.name == m) = some x ∧ x.path = #[] ∧ x.func = some (f, true)
def TOk (P : Program) (T : Tr TI) : Prop := ∀ t ti, T.get t = some ti → TIok P t ti

variable {P : Program} {ρ : Ren}

theorem run_sizeIs {t : TypeId} {n : Nat} (h : sizeIs P t n) (w : World) : (sizeOf t).run P w = .ok n w := by
  obtain ⟨i, hi, rfl⟩ := h
  simp [sizeOf, typeInfo, hi]
theorem TIok.size {t : TypeId} {ti : TI} (h : TIok P t ti) : sizeIs P t ti.size := by
  obtain ⟨i, hi, hs, _⟩ := h.info; exact ⟨i, hi, hs⟩
theorem TIok.run_zero {t : TypeId} {ti : TI} (h : TIok P t ti) (w : World) : (zeroValue t).run P w = .ok ti.zero w := by
  obtain ⟨i, hi, _, _, hz⟩ := h.info
  simp [zeroValue, typeInfo, hi, hz]
/-- Does a value of the type have several cells under one name? -/
def ED.agg : ED → Bool
  | .struct _ => true
  | .array _ _ _ => true
  | _ => false
theorem TIok.run_isAgg {t : TypeId} {ti : TI} (h : TIok P t ti) (w : World) : (isAgg t).run P w = .ok ti.d.agg w := by
  obtain ⟨d, hd, hr⟩ := h.desc
  have := run_underlying hd w
  cases he : ti.d <;> cases d <;> rw [he] at hr <;> simp only [DescR] at hr <;> simp [isAgg, this, ED.agg]

/-- The address of a field. -/
def eFieldAddr (d : ED) (x : Value) (f : Nat) : Option Value :=
  match d, x with
  | .struct fs, .pointer (some a) => match fs[f]? with
    | some (off, _, sz) => match sz with
      | 0 => none
      | _ + 1 => some (.pointer (some ⟨a.block, Nat.add a.off off, none⟩))
    | none => none
  | _, _ => none
theorem eFieldAddr_sound {t : TypeId} {ti : TI} (ht : TIok P t ti) {x x' v : Value} {f : Nat} (h : eFieldAddr ti.d x f = some v) (hx : VR ρ x x') (w : World) :
    ∃ v', (Instr.fieldAt t x' f).run P w = .ok v' w ∧ VR ρ v v' := by
  obtain ⟨d, hd, hr⟩ := ht.desc
  unfold eFieldAddr at h
  split at h
  case h_2 => cases h
  rename_i fs a he
  rw [he] at hr
  cases d <;> simp only [DescR] at hr
  rename_i gs
  cases hx with
  | ptr b c o hb =>
    cases hf : fs[f]? with
    | none => rw [hf] at h; cases h
    | some y =>
      obtain ⟨off, ty, sz⟩ := y
      rw [hf] at h
      cases sz with
      | zero => cases h
      | succ sz =>
        cases h
        obtain ⟨g, hg, h1, h2, h3⟩ := hr.2 f _ hf
        refine ⟨.pointer (some ⟨c, o + off, none⟩), ?_, .ptr b c (o + off) hb⟩
        rw [← h2] at h3
        simp only [Instr.fieldAt, Sem.run_bind, run_underlying hd, Result.andThen_ok, hg, Instr.sureAddr, Sem.run_pure, fieldPlace, run_sizeIs h3, Nat.succ_ne_zero, if_false, h1, add_none]

/-- The address of an element. -/
def eIndexAddr (d : ED) (x i : Value) : Option Value :=
  match d, x, i with
  | .array n _ sz, .pointer (some a), .int _ (.ofNat j) => match Nat.ble (Nat.succ j) n with
    | true => some (.pointer (some ⟨a.block, Nat.add a.off (Nat.mul j sz), none⟩))
    | false => none
  | .slice _ sz _, .slice (some a) len _, .int _ (.ofNat j) => match Nat.ble (Nat.succ j) len with
    | true => some (.pointer (some ⟨a.block, Nat.add a.off (Nat.mul j sz), none⟩))
    | false => none
  | _, _, _ => none
theorem eIndexAddr_sound {t : TypeId} {ti : TI} (ht : TIok P t ti) {x x' i i' v : Value} (h : eIndexAddr ti.d x i = some v) (hx : VR ρ x x') (hi : VR ρ i i') (w : World) :
    ∃ v', (Instr.indexAt t x' i').run P w = .ok v' w ∧ VR ρ v v' := by
  obtain ⟨d, hd, hr⟩ := ht.desc
  unfold eIndexAddr at h
  split at h
  case h_3 => cases h
  case h_1 =>
    rename_i n e sz a k j he
    rw [he] at hr
    cases d <;> simp only [DescR] at hr
    obtain ⟨rfl, rfl, hs⟩ := hr
    split at h
    case h_2 => cases h
    rename_i hb
    cases h
    have hlt := ble_iff.1 hb
    cases hi
    cases hx with
    | ptr b c o hb =>
      refine ⟨.pointer (some ⟨c, o + j * sz, none⟩), ?_, .ptr b c (o + j * sz) hb⟩
      have h1 : (0 : Int) ≤ Int.ofNat j ∧ Int.ofNat j < ((_ : Nat) : Int) := ⟨Int.natCast_nonneg j, Int.ofNat_lt.2 hlt⟩
      simp only [Instr.indexAt, Sem.run_bind, run_underlying hd, Result.andThen_ok, Instr.sureAddr, Sem.run_pure, asIntOf, if_pos h1, run_sizeIs hs, add_none]
      rfl
  case h_2 =>
    rename_i e sz by_ a len cap k j he
    rw [he] at hr
    cases d <;> simp only [DescR] at hr
    obtain ⟨rfl, hs, _⟩ := hr
    split at h
    case h_2 => cases h
    rename_i hb
    cases h
    have hlt := ble_iff.1 hb
    cases hi
    have h1 : (0 : Int) ≤ Int.ofNat j ∧ Int.ofNat j < (len : Int) := ⟨Int.natCast_nonneg j, Int.ofNat_lt.2 hlt⟩
    cases hx with
    | slc b c o len cap hb =>
      refine ⟨.pointer (some ⟨c, o + j * sz, none⟩), ?_, .ptr b c (o + j * sz) hb⟩
      simp only [Instr.indexAt, Sem.run_bind, run_underlying hd, Result.andThen_ok, Sem.run_pure, asIntOf, if_pos h1, run_sizeIs hs, add_none]
      rfl
    | slu b c o o' len cap z hb hl ho hz =>
      have ho' : o' = o := by rcases ho with h | h; exact h; omega
      subst ho'
      refine ⟨.pointer (some ⟨c, o' + j * sz, none⟩), ?_, .ptr b c (o' + j * sz) hb⟩
      simp only [Instr.indexAt, Sem.run_bind, run_underlying hd, Result.andThen_ok, Sem.run_pure, asIntOf, if_pos h1, run_sizeIs hs, add_none]
      rfl

/-- Some cells out of many. -/
def eExtract (cs : List Value) (off n : Nat) : List Value := (cs.drop off).take n
theorem AR.extract {cs ds : Array Value} (h : AR ρ cs ds) (i j : Nat) : AR ρ (cs.extract i j) (ds.extract i j) := by
  refine ⟨by simp [h.1], fun k x y hx hy => ?_⟩
  rw [Array.getElem?_extract] at hx hy
  split at hx
  · rename_i hk
    rw [if_pos (by rw [← h.1]; exact hk)] at hy
    exact h.2 _ x y hx hy
  · cases hx
theorem extract_list (cs : Array Value) (off n : Nat) : cs.extract off (off + n) = (eExtract cs.toList off n).toArray := by
  apply Array.ext'
  simp [eExtract, List.take_drop]
theorem extract_listG {α : Type} (cs : Array α) (off n : Nat) : cs.extract off (off + n) = ((cs.toList.drop off).take n).toArray := by
  apply Array.ext'
  simp [List.take_drop]
/-- A part of a value of several cells. -/
def ePart (agg : Bool) (cs : Array Value) (off sz : Nat) : Option Value :=
  match agg with
  | true => some (.agg (eExtract cs.toList off sz).toArray)
  | false => cs.toList[off]?
theorem ePart_sound {t : TypeId} {ti : TI} (ht : TIok P t ti) {cs ds : Array Value} {off : Nat} {v : Value} (h : ePart ti.d.agg cs off ti.size = some v) (hx : AR ρ cs ds) (w : World) :
    ∃ v', (part t ds off).run P w = .ok v' w ∧ VR ρ v v' := by
  unfold ePart at h
  split at h
  · rename_i ha
    cases h
    refine ⟨.agg (ds.extract off (off + ti.size)), ?_, ?_⟩
    · simp only [part, Sem.run_bind, ht.run_isAgg, Result.andThen_ok, ha, if_true, run_sizeIs ht.size, Sem.run_pure]
    · rw [← extract_list]
      exact .agg _ _ (hx.extract _ _).1 (hx.extract _ _).2
  · rename_i ha
    obtain ⟨y, hy, hr⟩ := hx.get (by simpa using h)
    refine ⟨y, ?_, hr⟩
    simp only [part, Sem.run_bind, ht.run_isAgg, Result.andThen_ok, ha, Bool.false_eq_true, if_false, hy, Sem.run_pure]

/-- A field of a struct value. -/
noncomputable def eField (T : Tr TI) (d : ED) (x : Value) (f : Nat) : Option Value :=
  match d, x with
  | .struct fs, .agg cs => match fs[f]? with
    | some (off, ty, _) => match T.get ty with
      | some ti => ePart ti.d.agg cs off ti.size
      | none => none
    | none => none
  | _, _ => none
theorem eField_sound {T : Tr TI} (hT : TOk P T) {t : TypeId} {ti : TI} (ht : TIok P t ti) {x x' v : Value} {f : Nat} (h : eField T ti.d x f = some v) (hx : VR ρ x x') (w : World) :
    ∃ v', (Instr.field t x' f).run P w = .ok v' w ∧ VR ρ v v' := by
  obtain ⟨d, hd, hr⟩ := ht.desc
  unfold eField at h
  split at h
  case h_2 => cases h
  rename_i fs cs he
  rw [he] at hr
  cases d <;> simp only [DescR] at hr
  rename_i gs
  cases hx with
  | agg cs ds hc hcs =>
    cases hf : fs[f]? with
    | none => rw [hf] at h; cases h
    | some y =>
      obtain ⟨off, ty, sz⟩ := y
      rw [hf] at h
      cases hg : T.get ty with
      | none => simp only [hg] at h; cases h
      | some tj =>
        simp only [hg] at h
        obtain ⟨g, hg', h1, h2, h3⟩ := hr.2 f _ hf
        obtain ⟨v', hv, hvr⟩ := ePart_sound (hT _ _ hg) h ⟨hc, hcs⟩ w
        refine ⟨v', ?_, hvr⟩
        simp only [Instr.field, Sem.run_bind, run_underlying hd, Result.andThen_ok, hg', asAgg, Sem.run_pure, h1, h2]
        exact hv

/-- An element of an array value, a byte of a string. -/
noncomputable def eIndex (T : Tr TI) (d : ED) (x i : Value) : Option Value :=
  match d, x, i with
  | .array n e sz, .agg cs, .int _ (.ofNat j) => match Nat.ble (Nat.succ j) n with
    | true => match T.get e with
      | some ti => ePart ti.d.agg cs (Nat.mul j sz) ti.size
      | none => none
    | false => none
  | .string, .string s, .int _ (.ofNat j) => match s.data.toList[j]? with
    | some b => some (.int .u8 b.toNat)
    | none => none
  | _, _, _ => none
theorem eIndex_sound {T : Tr TI} (hT : TOk P T) {t : TypeId} {ti : TI} (ht : TIok P t ti) {x x' i i' v : Value} (h : eIndex T ti.d x i = some v) (hx : VR ρ x x') (hi : VR ρ i i') (w : World) :
    ∃ v', (Instr.index t x' i').run P w = .ok v' w ∧ VR ρ v v' := by
  obtain ⟨d, hd, hr⟩ := ht.desc
  unfold eIndex at h
  split at h
  case h_3 => cases h
  case h_1 =>
    rename_i n e sz cs k j he
    rw [he] at hr
    cases d <;> simp only [DescR] at hr
    obtain ⟨rfl, rfl, hs⟩ := hr
    split at h
    case h_2 => cases h
    rename_i hb
    have hlt := ble_iff.1 hb
    cases hi
    cases hx with
    | agg cs ds hc hcs =>
      split at h
      case h_2 => cases h
      case h_1 tj hg =>
        obtain ⟨v', hv, hvr⟩ := ePart_sound (hT _ _ hg) h ⟨hc, hcs⟩ w
        refine ⟨v', ?_, hvr⟩
        have h1 : (0 : Int) ≤ Int.ofNat j ∧ Int.ofNat j < ((_ : Nat) : Int) := ⟨Int.natCast_nonneg j, Int.ofNat_lt.2 hlt⟩
        simp only [Instr.index, Sem.run_bind, run_underlying hd, Result.andThen_ok, asIntOf, Sem.run_pure, if_pos h1, run_sizeIs hs]
        exact hv
  case h_2 =>
    rename_i s k j he
    rw [he] at hr
    cases d <;> simp only [DescR] at hr
    split at h
    case h_2 => cases h
    rename_i b hb
    cases h
    cases hi
    cases hx
    refine ⟨.int .u8 b.toNat, ?_, .int _ _⟩
    have h1 : (0 : Int) ≤ Int.ofNat j := Int.natCast_nonneg j
    have h2 : s[(Int.ofNat j).toNat]? = some b := by
      show s[j]? = some b
      rw [Array.getElem?_toList] at hb
      obtain ⟨hlt, he2⟩ := Array.getElem?_eq_some_iff.1 hb
      have hlt' : j < s.size := hlt
      rw [getElem?_pos s j hlt']
      exact congrArg some he2
    simp only [Instr.index, Sem.run_bind, run_underlying hd, Result.andThen_ok, asIntOf, Sem.run_pure, if_pos h1, h2]

/-- The bounds of a slice expression, of known capacity. -/
def eB (o : Option Value) (d : Nat) : Option Nat :=
  match o with
  | none => some d
  | some (.int _ (.ofNat j)) => some j
  | _ => none
/-- A part of a slice. -/
def eSlice (d : ED) (x : Value) (lo hi mx : Option Value) : Option Value :=
  match d, x with
  | .slice _ sz _, .slice (some ⟨b, o, none⟩) len cap => match eB mx cap, eB hi len, eB lo 0 with
    | some m, some h, some l => match Nat.ble m cap, Nat.ble h m, Nat.ble l h with
      | true, true, true => match mx, hi with
        | some _, none => none
        | _, _ => some (.slice (some (match Nat.beq m l with | true => ⟨b, o, none⟩ | false => ⟨b, Nat.add o (Nat.mul l sz), none⟩)) (Nat.sub h l) (Nat.sub m l))
      | _, _, _ => none
    | _, _, _ => none
  | .slice _ sz _, .slice (some ⟨b, o, some z⟩) len cap => match Nat.beq z sz with
    | true => match mx, eB hi len, eB lo 0 with
      | none, some h, some l => match Nat.ble h len, Nat.ble l h with
        | true, true => some (.slice (some ⟨b, Nat.add o (Nat.mul l sz), some z⟩) (Nat.sub h l) (Nat.sub h l))
        | _, _ => none
      | some (.int _ (.ofNat m)), some h, some l => match Nat.ble m len, Nat.ble h m, Nat.ble l h with
        | true, true, true => match hi with
          | none => none
          | some _ => match Nat.beq m l with
            | true => some (.slice (some ⟨b, o, some z⟩) 0 0)
            | false => some (.slice (some ⟨b, Nat.add o (Nat.mul l sz), none⟩) (Nat.sub h l) (Nat.sub m l))
        | _, _, _ => none
      | _, _, _ => none
    | false => none
  | .slice _ _ _, .slice none _ _ => match eB mx 0, eB hi 0, eB lo 0 with
    | some 0, some 0, some 0 => match mx, hi with
      | some _, none => none
      | _, _ => some (.slice none 0 0)
    | _, _, _ => none
  | .string, .string s => match eB hi s.data.toList.length, eB lo 0 with
    | some h, some l => match Nat.ble h s.data.toList.length, Nat.ble l h with
      | true, true => match mx with
        | some _ => none
        | none => some (.string ⟨((s.data.toList.drop l).take (Nat.sub h l)).toArray⟩)
      | _, _ => none
    | _, _ => none
  | .array n _ sz, .pointer (some ⟨b, o, none⟩) => match eB mx n, eB hi n, eB lo 0 with
    | some m, some h, some l => match Nat.ble m n, Nat.ble h m, Nat.ble l h with
      | true, true, true => match mx, hi with
        | some _, none => none
        | _, _ => some (.slice (some (match Nat.beq m l with | true => ⟨b, o, none⟩ | false => ⟨b, Nat.add o (Nat.mul l sz), none⟩)) (Nat.sub h l) (Nat.sub m l))
      | _, _, _ => none
    | _, _, _ => none
  | _, _ => none


theorem bound_sound {i i' : Value} {n y : Nat} (h : eB (some i) 0 = some n) (hi : VR ρ i i') (hn : n ≤ y) (code : BoundsCode) (w : World) :
    (Instr.sliceBound i' y code).run P w = .ok n w := by
  unfold eB at h
  split at h
  · rename_i e; cases e
  · rename_i k j e
    cases e; cases h; cases hi
    have h1 : (0 : Int) ≤ Int.ofNat n ∧ Int.ofNat n ≤ (y : Int) := ⟨Int.natCast_nonneg n, Int.ofNat_le.2 hn⟩
    simp only [Instr.sliceBound, asIntOf, Sem.run_bind, Sem.run_pure, Result.andThen_ok, if_pos h1]
    rfl
  · cases h
theorem eB_some {i : Value} {d n : Nat} (h : eB (some i) d = some n) : eB (some i) 0 = some n := by
  unfold eB at h ⊢
  split at h
  · rename_i e; cases e
  · rename_i k j e; cases e; exact h
  · cases h
/-- Optional values. -/
def OR (ρ : Ren) : Option Value → Option Value → Prop
  | none, none => True
  | some x, some y => VR ρ x y
  | _, _ => False
theorem bounds_sound {isSlice : Bool} {lo hi mx lo' hi' mx' : Option Value} {len cap m h l : Nat} (hm : eB mx cap = some m) (hh : eB hi len = some h) (hl : eB lo 0 = some l)
    (h1 : m ≤ cap) (h2 : h ≤ m) (h3 : l ≤ h) (hmh : mx = none ∨ hi ≠ none) (r1 : OR ρ lo lo') (r2 : OR ρ hi hi') (r3 : OR ρ mx mx') (w : World) :
    (Instr.sliceBounds isSlice len cap lo' hi' mx').run P w = .ok (l, h, m) w := by
  have em : ∀ v code, mx' = some v → (Instr.sliceBound v cap code).run P w = .ok m w := by
    intro v code e; subst e
    cases mx with
    | none => cases r3
    | some q => exact bound_sound (eB_some hm) r3 h1 code w
  have em0 : mx' = none → m = cap := by
    intro e; subst e
    cases mx with
    | none => cases hm; rfl
    | some q => cases r3
  have eh : ∀ v code, hi' = some v → (Instr.sliceBound v m code).run P w = .ok h w := by
    intro v code e; subst e
    cases hi with
    | none => cases r2
    | some q => exact bound_sound (eB_some hh) r2 h2 code w
  have eh0 : hi' = none → h = len ∧ mx' = none := by
    intro e; subst e
    cases hi with
    | some q => cases r2
    | none =>
      refine ⟨by cases hh; rfl, ?_⟩
      have hn : mx = none := hmh.resolve_right (fun x => x rfl)
      subst hn
      cases mx' with
      | none => rfl
      | some q => cases r3
  have el : ∀ v code, lo' = some v → (Instr.sliceBound v h code).run P w = .ok l w := by
    intro v code e; subst e
    cases lo with
    | none => cases r1
    | some q => exact bound_sound (eB_some hl) r1 h3 code w
  have el0 : lo' = none → l = 0 := by
    intro e; subst e
    cases lo with
    | none => cases hl; rfl
    | some q => cases r1
  clear hm hh hl r1 r2 r3 hmh
  unfold Instr.sliceBounds
  cases mx' with
  | none =>
    have e0 := em0 rfl
    subst e0
    cases hi' with
    | none =>
      obtain ⟨e1, _⟩ := eh0 rfl
      subst e1
      cases lo' with
      | none => have e2 := el0 rfl; subst e2; simp only [Sem.run_bind, Sem.run_pure, Result.andThen_ok]
      | some v => simp only [Sem.run_bind, Sem.run_pure, Result.andThen_ok, el v _ rfl]
    | some u => cases lo' with
      | none => have e2 := el0 rfl; subst e2; simp only [Sem.run_bind, Sem.run_pure, Result.andThen_ok, eh u _ rfl]
      | some v => simp only [Sem.run_bind, Sem.run_pure, Result.andThen_ok, eh u _ rfl, el v _ rfl]
  | some q => cases hi' with
    | none => obtain ⟨_, e1⟩ := eh0 rfl; cases e1
    | some u => cases lo' with
      | none => have e2 := el0 rfl; subst e2; simp only [Sem.run_bind, Sem.run_pure, Result.andThen_ok, em q _ rfl, eh u _ rfl]
      | some v => simp only [Sem.run_bind, Sem.run_pure, Result.andThen_ok, em q _ rfl, eh u _ rfl, el v _ rfl]

theorem eSlice_sound {t : TypeId} {ti : TI} (ht : TIok P t ti) {x x' v : Value} {lo hi mx lo' hi' mx' : Option Value} (h : eSlice ti.d x lo hi mx = some v) (hx : VR ρ x x')
    (r1 : OR ρ lo lo') (r2 : OR ρ hi hi') (r3 : OR ρ mx mx') (w : World) : ∃ v', (Instr.sliceAt t x' lo' hi' mx').run P w = .ok v' w ∧ VR ρ v v' := by
  obtain ⟨d, hd, hr⟩ := ht.desc
  unfold eSlice at h
  split at h
  case h_1 =>
    rename_i e sz by_ b o len cap he
    rw [he] at hr
    cases d <;> simp only [DescR] at hr
    obtain ⟨he2, hs, _⟩ := hr
    rw [← he2] at hs
    split at h
    case h_2 => cases h
    rename_i m h0 l em eh el
    split at h
    case h_2 => cases h
    rename_i b1 b2 b3
    have hmh : mx = none ∨ hi ≠ none := by
      cases mx with
      | none => exact .inl rfl
      | some q => cases hi with
        | none => cases h
        | some q' => exact .inr (by simp)
    have h : some (Value.slice (some (match Nat.beq m l with | true => ⟨b, o, none⟩ | false => ⟨b, Nat.add o (Nat.mul l sz), none⟩)) (Nat.sub h0 l) (Nat.sub m l)) = some v := by
      cases mx with
      | none => exact h
      | some q => cases hi with
        | none => cases h
        | some q' => exact h
    cases h
    cases hx with
    | slc b c o len cap hb =>
      have hbs := bounds_sound (P := P) (isSlice := true) em eh el (ble_iff.1 b1) (ble_iff.1 b2) (ble_iff.1 b3) hmh r1 r2 r3 w
      refine ⟨.slice (some (if m = l then ⟨c, o, none⟩ else (⟨c, o, none⟩ : Addr).add (l * sz))) (h0 - l) (m - l), ?_, ?_⟩
      · simp only [Instr.sliceAt, Instr.slice, Sem.run_bind, run_underlying hd, Result.andThen_ok, hbs, run_sizeIs hs, Sem.run_pure]
        by_cases hml : m = l
        · simp [hml]
        · simp [hml]
      · by_cases hml : m = l
        · subst hml; simp only [Nat.beq_refl, if_true]; exact .slc b c o _ _ hb
        · have : Nat.beq m l = false := by
            cases hq : Nat.beq m l with
            | false => rfl
            | true => exact absurd (beq_iff.1 hq) hml
          simp only [this, hml, if_false, add_none]
          exact .slc b c _ _ _ hb
  case h_2 =>
    rename_i e sz by_ b o z0 len cap he
    rw [he] at hr
    cases d <;> simp only [DescR] at hr
    obtain ⟨he2, hs, _⟩ := hr
    rw [← he2] at hs
    cases hx with
    | slu b c o o' len cap z hb hl ho hz =>
    split at h
    case h_2 => cases h
    rename_i hzs
    have hzs := (beq_iff.1 hzs).symm
    subst hzs
    split at h
    case h_3 => cases h
    case h_1 =>
      rename_i h0 l eh el
      split at h
      case h_2 => cases h
      rename_i b2 b3
      cases h
      cases mx' with
      | some q => cases r3
      | none =>
      have hhc : h0 ≤ cap := Nat.le_trans (ble_iff.1 b2) hl
      have hbs := bounds_sound (P := P) (isSlice := true) (mx := none) (mx' := none) (cap := cap) (m := cap) rfl eh el (Nat.le_refl _) hhc (ble_iff.1 b3) (.inl rfl) r1 r2 trivial w
      refine ⟨.slice (some (if cap = l then ⟨c, o', none⟩ else (⟨c, o', none⟩ : Addr).add (l * sz))) (h0 - l) (cap - l), ?_, ?_⟩
      · simp only [Instr.sliceAt, Instr.slice, Sem.run_bind, run_underlying hd, Result.andThen_ok, hbs, run_sizeIs hs, Sem.run_pure]
        by_cases hml : cap = l
        · simp [hml]
        · simp [hml]
      · have hlh := ble_iff.1 b3
        have hsub : h0 - l ≤ cap - l := by omega
        by_cases hml : cap = l
        · simp only [hml, if_true]; exact .slu b c _ _ (h0 - l) (l - l) sz hb (by omega) (.inr (by omega)) (fun h => absurd (Nat.sub_self l) h)
        · simp only [hml, if_false, add_none]
          refine .slu b c _ _ (h0 - l) (cap - l) sz hb hsub (.inl ?_) (fun _ => ?_)
          · rcases ho with ho | ho
            · rw [ho]; rfl
            · omega
          · have hcz := hz (by omega)
            show o + l * sz + (cap - l) * sz ≤ _
            rw [Nat.add_assoc, ← Nat.add_mul, show l + (cap - l) = cap by omega]
            exact hcz
    case h_2 =>
      rename_i k m h0 l eh el
      split at h
      case h_2 => cases h
      rename_i b1 b2 b3
      cases hi with
      | none => cases h
      | some qh =>
      cases mx' with
      | none => cases r3
      | some q =>
      have hmc : m ≤ cap := Nat.le_trans (ble_iff.1 b1) hl
      have hbs := bounds_sound (P := P) (isSlice := true) (mx := some (.int k (.ofNat m))) (mx' := some q) (cap := cap) (m := m) rfl eh el hmc (ble_iff.1 b2) (ble_iff.1 b3) (.inr (by simp)) r1 r2 r3 w
      refine ⟨.slice (some (if m = l then ⟨c, o', none⟩ else (⟨c, o', none⟩ : Addr).add (l * sz))) (h0 - l) (m - l), ?_, ?_⟩
      · simp only [Instr.sliceAt, Instr.slice, Sem.run_bind, run_underlying hd, Result.andThen_ok, hbs, run_sizeIs hs, Sem.run_pure]
        by_cases hml : m = l
        · simp [hml]
        · simp [hml]
      · have hlh := ble_iff.1 b3
        have hhm := ble_iff.1 b2
        by_cases hml : m = l
        · have e1 : Nat.beq m l = true := beq_iff.2 hml
          have e2 : h0 - l = 0 := by omega
          have e3 : m - l = 0 := by omega
          rw [e1] at h
          cases h
          simp only [hml, if_true]
          rw [show h0 - l = 0 by omega, Nat.sub_self]
          exact .slu b c _ _ 0 0 sz hb (Nat.le_refl _) (.inr rfl) (fun h => absurd rfl h)
        · have e1 : Nat.beq m l = false := by
            cases hq : Nat.beq m l with
            | false => rfl
            | true => exact absurd (beq_iff.1 hq) hml
          rw [e1] at h
          cases h
          have ho' : o' = o := by rcases ho with ho | ho; exact ho; omega
          subst ho'
          simp only [hml, if_false, add_none]
          exact .slc b c _ _ _ hb
  case h_3 =>
    rename_i e sz by_ len cap he
    rw [he] at hr
    cases d <;> simp only [DescR] at hr
    obtain ⟨he2, hs, _⟩ := hr
    rw [← he2] at hs
    split at h
    case h_2 => cases h
    rename_i em eh el
    have hmh : mx = none ∨ hi ≠ none := by
      cases mx with
      | none => exact .inl rfl
      | some q => cases hi with
        | none => cases h
        | some q' => exact .inr (by simp)
    have h : some (Value.slice none 0 0) = some v := by
      cases mx with
      | none => exact h
      | some q => cases hi with
        | none => cases h
        | some q' => exact h
    cases h
    cases hx
    have hbs := bounds_sound (P := P) (isSlice := true) em eh el (Nat.le_refl _) (Nat.le_refl _) (Nat.le_refl _) hmh r1 r2 r3 w
    refine ⟨.slice none 0 0, ?_, .nils⟩
    simp only [Instr.sliceAt, Instr.slice, Sem.run_bind, run_underlying hd, Result.andThen_ok, hbs, run_sizeIs hs, Sem.run_pure]
    rfl
  case h_4 =>
    rename_i s he
    rw [he] at hr
    cases d <;> simp only [DescR] at hr
    split at h
    case h_2 => cases h
    rename_i h0 l eh el
    split at h
    case h_2 => cases h
    rename_i b2 b3
    cases mx with
    | some q => cases h
    | none =>
    cases mx' with
    | some q => cases r3
    | none =>
    cases h
    cases hx
    have hlen : s.size = s.data.toList.length := rfl
    have hbs := bounds_sound (P := P) (isSlice := false) (mx := none) (mx' := none) (cap := s.size) (m := s.size) rfl eh el (Nat.le_refl _) (ble_iff.1 b2) (ble_iff.1 b3) (.inl rfl) r1 r2 trivial w
    refine ⟨_, ?_, .str _⟩
    simp only [Instr.sliceAt, Instr.slice, Sem.run_bind, run_underlying hd, Result.andThen_ok, Option.isSome_none, Bool.false_eq_true, if_false, Sem.run_pure]
    have hbs' : (Instr.sliceBounds false s.size s.size lo' hi' none).run P w = .ok (l, h0, s.size) w := hbs
    rw [hbs']
    show Result.ok _ w = Result.ok _ w
    congr 2
    apply ByteArray.ext
    have hle := ble_iff.1 b3
    rw [ByteArray.data_extract]
    have := extract_listG s.data l (h0 - l)
    rw [show l + (h0 - l) = h0 by omega] at this
    rw [this]; rfl
  case h_5 =>
    rename_i n e sz b o he
    rw [he] at hr
    cases d <;> simp only [DescR] at hr
    obtain ⟨hn, he2, hs⟩ := hr
    rw [← he2] at hs
    rename_i n' e'
    subst hn
    split at h
    case h_2 => cases h
    rename_i m h0 l em eh el
    split at h
    case h_2 => cases h
    rename_i b1 b2 b3
    have hmh : mx = none ∨ hi ≠ none := by
      cases mx with
      | none => exact .inl rfl
      | some q => cases hi with
        | none => cases h
        | some q' => exact .inr (by simp)
    have h : some (Value.slice (some (match Nat.beq m l with | true => ⟨b, o, none⟩ | false => ⟨b, Nat.add o (Nat.mul l sz), none⟩)) (Nat.sub h0 l) (Nat.sub m l)) = some v := by
      cases mx with
      | none => exact h
      | some q => cases hi with
        | none => cases h
        | some q' => exact h
    cases h
    cases hx with
    | ptr b c o hb =>
      have hbs := bounds_sound (P := P) (isSlice := false) em eh el (ble_iff.1 b1) (ble_iff.1 b2) (ble_iff.1 b3) hmh r1 r2 r3 w
      refine ⟨.slice (some (if m = l then ⟨c, o, none⟩ else (⟨c, o, none⟩ : Addr).add (l * sz))) (h0 - l) (m - l), ?_, ?_⟩
      · simp only [Instr.sliceAt, Sem.run_bind, run_underlying hd, Result.andThen_ok, Instr.sureAddr, Sem.run_pure, hbs, run_sizeIs hs]
      · by_cases hml : m = l
        · subst hml; simp only [Nat.beq_refl, if_true]; exact .slc b c o _ _ hb
        · have : Nat.beq m l = false := by
            cases hq : Nat.beq m l with
            | false => rfl
            | true => exact absurd (beq_iff.1 hq) hml
          simp only [this, hml, if_false, add_none]
          exact .slc b c _ _ _ hb
  case h_6 => cases h

end Go.Proofs.YtegfafebbnlicaaGreatDoor.Ev

namespace Go.Proofs.YtegfafebbnlicaaGreatDoor.Ev
open Go
set_option linter.unusedVariables false

variable {P : Program} {G : Nat} {ρ : Ren} {st : St} {w : World}

/-- A load. -/
noncomputable def eLoad (ti : TI) (x : Value) (st : St) : Option Value :=
  match x with
  | .pointer (some a) => match ti.d.agg with
    | true => match st.load a.block a.off ti.size with
      | some l => some (.agg l.toArray)
      | none => none
    | false => match st.load a.block a.off 1 with
      | some (v :: _) => some v
      | _ => none
  | _ => none
theorem eLoad_sound {t : TypeId} {ti : TI} (ht : TIok P t ti) (hR : R G ρ st w) {x x' v : Value} (h : eLoad ti x st = some v) (hx : VR ρ x x') :
    ∃ v', (Instr.loadAt t x').run P w = .ok v' w ∧ VR ρ v v' := by
  unfold eLoad at h
  split at h
  case h_2 => cases h
  rename_i a
  cases hx with
  | ptr b c o hb =>
    split at h
    · rename_i ha
      split at h
      case h_2 => cases h
      rename_i l hl
      cases h
      obtain ⟨h1, g, ds, hg, hr, har, _⟩ := hR.load P hl
      rw [hb] at hg; cases hg
      refine ⟨.agg ds, ?_, .agg _ _ har.1 har.2⟩
      simp only [Instr.loadAt, Instr.sureAddr, loadVar, Sem.run_bind, Sem.run_pure, Result.andThen_ok, ht.run_isAgg, ha, if_true, run_sizeIs ht.size, hr]
    · rename_i ha
      split at h
      case h_2 => cases h
      rename_i x l hl
      cases h
      obtain ⟨h1, g, ds, hg, hr, har, hcell⟩ := hR.load P hl
      rw [hb] at hg; cases hg
      obtain ⟨y, hy, hvr⟩ := har.get (i := 0) (x := v) (by simp)
      have := hcell 0 (by omega)
      rw [hy] at this
      refine ⟨y, ?_, hvr⟩
      simp only [Instr.loadAt, Instr.sureAddr, loadVar, Sem.run_bind, Sem.run_pure, Result.andThen_ok, ht.run_isAgg, ha, Bool.false_eq_true, if_false, run_load]
      rw [show (⟨c, o, none⟩ : Addr) = ⟨c, o + 0, none⟩ from rfl, this]

/-- The cells of a value. -/
def eCells (v : Value) : List Value :=
  match v with
  | .agg cs => cs.toList
  | v => [v]
theorem cells_list (v : Value) : v.cells.toList = eCells v := by cases v <;> rfl
theorem VR.cells {v v' : Value} (h : VR ρ v v') : AR ρ (eCells v).toArray (eCells v').toArray := by
  cases h with
  | agg cs ds hc hcs => exact ⟨by simpa [eCells] using hc, fun i x y hx hy => hcs i x y (by simpa [eCells] using hx) (by simpa [eCells] using hy)⟩
  | bool b => exact AR.one (.bool b)
  | int k n => exact AR.one (.int k n)
  | str s => exact AR.one (.str s)
  | nilp => exact AR.one .nilp
  | ptr b c o h => exact AR.one (.ptr b c o h)
  | nils => exact AR.one .nils
  | slc b c o len cap h => exact AR.one (.slc b c o len cap h)
  | slu b c o o' len cap z h hl ho hz => exact AR.one (.slu b c o o' len cap z h hl ho hz)
  | nilm => exact AR.one .nilm
  | map b c h => exact AR.one (.map b c h)
  | nilf => exact AR.one .nilf
  | fn f hf xs ys cs ds hx h hc h' => exact AR.one (.fn f hf xs ys cs ds hx h hc h')
  | yld b c h => exact AR.one (.yld b c h)
  | nili => exact AR.one .nili
  | iface t v v' h => exact AR.one (.iface t v v' h)
  | tup cs ds hc h => exact AR.one (.tup cs ds hc h)
/-- Is each of one cell? -/
noncomputable def oneCells (l : List Value) : Bool := List.rec (motive := fun _ => Bool) true (fun v _ ih => match v with
  | .agg _ => false
  | .tuple _ => false
  | _ => ih) l
theorem oneCells_iff : ∀ (l : List Value), oneCells l = true → ∀ v ∈ l, v.oneCell' = true
  | [], _, v, hv => by cases hv
  | x :: l, h, v, hv => by
    have hx : x.oneCell' = true ∧ oneCells l = true := by
      cases x <;> first | (cases h; done) | exact ⟨rfl, h⟩
    cases hv with
    | head => exact hx.1
    | tail _ hv => exact oneCells_iff l hx.2 v hv

/-- A store. -/
noncomputable def eStore (ti : TI) (x v : Value) (st : St) : Option St :=
  match x with
  | .pointer (some a) => match Nat.beq (eCells v).length ti.size, oneCells (eCells v) with
    | true, true => st.store a.block a.off (eCells v)
    | _, _ => none
  | _ => none
theorem eStore_sound {t : TypeId} {ti : TI} (ht : TIok P t ti) (hR : R G ρ st w) {x x' v v' : Value} {st' : St} (h : eStore ti x v st = some st') (hx : VR ρ x x') (hv : VR ρ v v') :
    ∃ w', (Instr.storeAt t x' v').run P w = .ok () w' ∧ R G ρ st' w' ∧ Went ρ st w ρ st' w' := by
  unfold eStore at h
  split at h
  case h_2 => cases h
  rename_i a
  split at h
  case h_2 => cases h
  rename_i h1 h2
  cases hx with
  | ptr b c o hb =>
    obtain ⟨g, w', hg, hrun, hR', hW⟩ := hR.store P h hv.cells (oneCells_iff _ h2)
    rw [hb] at hg; cases hg
    refine ⟨w', ?_, hR', hW⟩
    have hsz : v'.cells.size = ti.size := by
      have e1 := beq_iff.1 h1
      have e2 := hv.cells.1
      rw [← Array.length_toList, cells_list]
      simpa [e1] using e2.symm
    simp only [Instr.storeAt, Instr.sureAddr, storeVar, Sem.run_bind, Sem.run_pure, Result.andThen_ok, run_sizeIs ht.size, hsz, ne_eq, not_true_eq_false, if_false, cells_list]
    exact hrun

/-- A trie of cells. -/
noncomputable def ofL (l : List Value) : Tr Value := storeL l .nil 0
theorem storeL_get : ∀ (l : List Value) (c : Tr Value) (o m : Nat), (storeL l c o).get m = if o ≤ m ∧ m < o + l.length then l[m - o]? else c.get m
  | [], c, o, m => by rw [storeL_nil, if_neg (by simp only [List.length_nil]; omega)]
  | v :: l, c, o, m => by
    rw [storeL_cons, storeL_get l (c.set o v) (o + 1) m]
    by_cases h1 : o + 1 ≤ m ∧ m < o + 1 + l.length
    · rw [if_pos h1, if_pos (by simp; omega), show m - o = (m - (o + 1)) + 1 by omega]; rfl
    · rw [if_neg h1, Tr.get_set]
      by_cases h2 : m = o
      · rw [if_pos h2, if_pos (by simp; omega), h2, Nat.sub_self]; rfl
      · rw [if_neg h2, if_neg (by simp; omega)]
theorem CR.ofL {l : List Value} {arr : Array Value} (h : AR ρ l.toArray arr) : CR ρ l.length (Ev.ofL l) arr := by
  intro i hi
  have hx : l.toArray[i]? = some l[i] := by simp [hi]
  obtain ⟨y, hy, hr⟩ := h.get hx
  refine ⟨l[i], y, ?_, hy, hr⟩
  unfold Ev.ofL
  rw [storeL_get, if_pos (by omega)]
  simp [hi]

/-- A new block and the value that names it. -/
structure Fresh where
  obj : EObj
  val : Nat → Value
def ptrTo (b : Nat) : Value := .pointer (some ⟨b, 0, none⟩)
/-- What a fresh block's operation does in the world. -/
def FreshOk (P : Program) (ρ : Ren) (s : Sem Value) (fr : Fresh) : Prop :=
  ∀ w : World, ∃ (x : Obj) (mk' : Nat → Value) (d : Nat), s.run P w = .ok (mk' w.heap.size) { w with heap := w.heap.push x, drawn := d } ∧ (∀ ρ', ρ.le ρ' → ObjR ρ' fr.obj x) ∧
    ∀ ρ' b, ρ.le ρ' → ρ' b = some w.heap.size → ρ'.sz w.heap.size = objN x → VR ρ' (fr.val b) (mk' w.heap.size)
noncomputable def eVar (t : TypeId) (v : Value) : Option Fresh := some ⟨.cells t (eCells v).length false (ofL (eCells v)), ptrTo⟩
theorem eVar_sound {t : TypeId} {v v' : Value} {fr : Fresh} (h : eVar t v = some fr) (hv : VR ρ v v') : FreshOk P ρ (Instr.box t v') fr := by
  cases h
  intro w
  refine ⟨.cells v'.cells t (0, 0), ptrTo, w.drawn, rfl, ?_, fun ρ' b hle hb _ => .ptr b _ 0 hb⟩
  intro ρ' hle
  have ha := (hv.mono hle).cells
  have hs : v'.cells.size = (eCells v).length := by
    rw [← Array.length_toList, cells_list]; simpa using ha.1.symm
  refine ⟨rfl, fun i _ h => absurd h.2 (Nat.not_lt_zero _), by omega, fun _ => ⟨hs, rfl⟩, ?_⟩
  refine CR.ofL ⟨?_, fun i x y hx hy => ha.2 i x y hx ?_⟩
  · simpa using hs.symm
  · rw [← Array.getElem?_toList, cells_list] at hy; simpa using hy
theorem eAlloc_sound {t : TypeId} {ti : TI} (ht : TIok P t ti) {fr : Fresh} (h : eVar t ti.zero = some fr) : FreshOk P ρ (Instr.alloc t true (.tuple #[])) fr := by
  intro w
  obtain ⟨x, mk', d, h1, h2, h3⟩ := eVar_sound (P := P) h (VR.plain ρ ht.plain) w
  refine ⟨x, mk', d, ?_, h2, h3⟩
  simp only [Instr.alloc, Sem.run_bind, ht.run_zero, Result.andThen_ok]
  exact h1
theorem eMakeMap_sound (t : TypeId) : FreshOk P ρ (Instr.makeMap t none) ⟨.map [] 0, fun b => .map (some b)⟩ := by
  intro w
  refine ⟨.map #[] 0, fun b => .map (some b), w.drawn, rfl, fun ρ' hle => ⟨.nil, rfl⟩, fun ρ' b hle hb _ => .map b _ hb⟩

/-- Repeated cells. -/
noncomputable def repL (z : List Value) (n : Nat) : List Value := Nat.rec (motive := fun _ => List Value) [] (fun _ ih => z ++ ih) n
theorem repL_length (z : List Value) : ∀ n, (repL z n).length = n * z.length
  | 0 => by rw [Nat.zero_mul]; rfl
  | n + 1 => by
    show (z ++ repL z n).length = _
    rw [List.length_append, repL_length z n, Nat.succ_mul]; omega
theorem repL_get (z : List Value) (hz : 0 < z.length) : ∀ (n i : Nat), i < n * z.length → (repL z n)[i]? = z[i % z.length]?
  | 0, i, h => by simp at h
  | n + 1, i, h => by
    show (z ++ repL z n)[i]? = _
    rw [List.getElem?_append]
    split
    · rename_i hi; rw [Nat.mod_eq_of_lt hi]
    · rename_i hi
      rw [Nat.succ_mul] at h
      rw [repL_get z hz n (i - z.length) (by omega), ← Nat.mod_eq_sub_mod (by omega)]
/-- make of a slice. -/
noncomputable def eMakeSlice (T : Tr TI) (d : ED) (l c : Value) : Option Fresh :=
  match d, l, c with
  | .slice e sz by_, .int .i64 (.ofNat l), .int .i64 (.ofNat c) => match Nat.ble l c, Nat.ble c 1048576, Nat.ble by_ 1024, Nat.ble 1 sz with
    | true, true, true, true => match T.get e with
      | some te => match Nat.beq (eCells te.zero).length sz with
        | true => some ⟨.cells e (Nat.mul c sz) false (ofL (repL (eCells te.zero) c)), fun b => .slice (some ⟨b, 0, none⟩) l c⟩
        | false => none
      | none => none
    | _, _, _, _ => none
  | _, _, _ => none
theorem wrap_small {n : Nat} (h : n ≤ 1048576) : IntKind.i64.wrap (n : Int) = n := by
  rw [← eWrap_eq]
  have e1 : eMd (n : Int) (eMod .i64) = n := Nat.mod_eq_of_lt (by show n < 18446744073709551616; omega)
  unfold eWrap
  simp only [eHalf, e1]
  have : Nat.ble (9223372036854775807).succ n = false := by
    cases hq : Nat.ble (9223372036854775807).succ n with
    | false => rfl
    | true => have := ble_iff.1 hq; omega
  rw [this]; rfl
theorem eMakeSlice_sound {T : Tr TI} (hT : TOk P T) {t : TypeId} {ti : TI} (ht : TIok P t ti) {l l' c c' : Value} {fr : Fresh} (h : eMakeSlice T ti.d l c = some fr) (hl : VR ρ l l') (hc : VR ρ c c') :
    FreshOk P ρ (Instr.makeSlice t l' c') fr := by
  obtain ⟨d, hd, hr⟩ := ht.desc
  unfold eMakeSlice at h
  split at h
  case h_2 => cases h
  rename_i e sz by_ n m he
  rw [he] at hr
  cases d <;> simp only [DescR] at hr
  rename_i el
  obtain ⟨he2, hs, hby⟩ := hr
  subst he2
  split at h
  case h_2 => cases h
  rename_i b1 b2 b3 b4
  split at h
  case h_2 => cases h
  rename_i te hte
  split at h
  case h_2 => cases h
  rename_i b5
  cases h
  cases hl; cases hc
  have hle := ble_iff.1 b1
  have hm := ble_iff.1 b2
  have hb := ble_iff.1 b3
  have hsz := ble_iff.1 b4
  have hzl := beq_iff.1 b5
  obtain ⟨i, hi, hi1, hi2, hi3⟩ := (hT _ _ hte).info
  intro w
  have e1 : IntKind.i64.wrap (Int.ofNat n) = (n : Int) := wrap_small (by omega)
  have e2 : IntKind.i64.wrap (Int.ofNat m) = (m : Int) := wrap_small hm
  have hbi : i.bytes = by_ := by rw [← hby, Program.bytesOf, hi]; rfl
  have hbm : by_ * m ≤ 1024 * 1048576 := Nat.mul_le_mul hb hm
  have hnt : ¬ ((decide ((m : Int) < 0) || decide (((i.bytes : Nat) : Int) * (m : Int) > 2 ^ 48)) || decide ((n : Int) < 0) || decide ((n : Int) > (m : Int))) = true := by
    rw [hbi]
    simp only [Bool.or_eq_true, decide_eq_true_eq, not_or]
    have : ((by_ : Int) * (m : Int)) = ((by_ * m : Nat) : Int) := by simp
    rw [this]
    refine ⟨⟨⟨by omega, by omega⟩, by omega⟩, by omega⟩
  refine ⟨.cells ((Array.range (m * sz)).map ((eCells te.zero).toArray[· % (eCells te.zero).toArray.size]!)) el (0, 0), fun b => .slice (some ⟨b, 0, none⟩) n m, w.drawn, ?_, ?_, ?_⟩
  · have harr : te.zero.cells = (eCells te.zero).toArray := by rw [← cells_list]
    simp only [Instr.makeSlice, Sem.run_bind, run_underlying hd, Result.andThen_ok, asInt, asIntOf, Sem.run_pure, typeInfo, hi, run_program, e1, e2]
    rw [if_neg hnt]
    simp only [Sem.run_bind, run_askRoom, Result.andThen_ok, run_sizeIs hs, Int.toNat_natCast]
    by_cases h0 : m * sz = 0
    · rw [if_pos h0, h0]
      simp only [newRow, Sem.run_bind, run_newObj, Result.andThen_ok, Sem.run_pure]
      have : ∀ f g : Nat → Value, Array.map f (Array.range 0) = Array.map g (Array.range 0) := fun f g => by simp
      rw [this]
    · rw [if_neg h0]
      simp only [newRow, Sem.run_bind, run_newObj, Result.andThen_ok, Sem.run_pure, (hT _ _ hte).run_zero, harr]
  · intro ρ' hle'
    refine ⟨rfl, fun i _ h => absurd h.2 (Nat.not_lt_zero _), by simp, fun _ => by simp, ?_⟩
    intro k hk
    have hk' : k < m * sz := hk
    have hzpos : 0 < (eCells te.zero).length := by omega
    have hmod : k % (eCells te.zero).length < (eCells te.zero).length := Nat.mod_lt _ hzpos
    have hself : AR ρ' (eCells te.zero).toArray (eCells te.zero).toArray := (VR.plain ρ' (hT _ _ hte).plain).cells
    refine ⟨(eCells te.zero)[k % (eCells te.zero).length], (eCells te.zero)[k % (eCells te.zero).length], ?_, ?_, ?_⟩
    · unfold Ev.ofL
      have hlen := repL_length (eCells te.zero) m
      rw [storeL_get, if_pos (by rw [hlen, hzl]; omega), Nat.sub_zero, repL_get _ hzpos m k (by rw [hzl]; exact hk')]
      simp [hmod]
    · rw [Array.getElem?_eq_getElem (by simpa using hk')]
      simp only [Array.getElem_map, Array.getElem_range, List.size_toArray]
      congr 1
      rw [getElem!_pos _ _ (by simpa using hmod)]
      simp
    · exact hself.2 (k % (eCells te.zero).length) _ _ (by simp [hmod]) (by simp [hmod])
  · intro ρ' b hle' hb' _
    exact .slc b _ 0 n m hb'
end Go.Proofs.YtegfafebbnlicaaGreatDoor.Ev
