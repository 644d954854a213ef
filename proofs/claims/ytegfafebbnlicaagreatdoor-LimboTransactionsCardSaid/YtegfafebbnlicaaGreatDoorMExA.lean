/-
  The evaluator's operations on values, with closed alternatives; the same functions.
  The evaluator's leaf functions with closed alternatives; the same functions (printed by gen_ex3.py).
  The evaluator, staged: what hangs on the code alone is reckoned once; the same function.
-/
import Derived.Test.YtegfafebbnlicaaGreatDoorMEvC
namespace Go.Proofs.YtegfafebbnlicaaGreatDoor.Ev
open Go
set_option linter.unusedVariables false
set_option linter.unusedSimpArgs false

abbrev OV := Option Value
abbrev NN := IntKind → Nat → IntKind → Nat → OV
/-- The limit below which a number is not wrapped. -/
noncomputable def limK : IntKind → Nat :=
  @IntKind.rec (fun _ => Nat) 128 32768 2147483648 9223372036854775808 256 65536 4294967296 18446744073709551616
noncomputable def modK : IntKind → Nat :=
  @IntKind.rec (fun _ => Nat) 256 65536 4294967296 18446744073709551616 256 65536 4294967296 18446744073709551616
noncomputable def numK : IntKind → Nat := @IntKind.rec (fun _ => Nat) 0 1 2 3 4 5 6 7
theorem modK_eq (k : IntKind) : modK k = eMod k := by cases k <;> rfl
theorem numK_eq (k k' : IntKind) : Nat.beq (numK k) (numK k') = decide (k = k') := by cases k <;> cases k' <;> rfl
theorem wrap_lt {k : IntKind} {z : Nat} (h : z < limK k) : eWrap k (.ofNat z) = .ofNat z := by
  have key : ∀ H M : Nat, H + 1 ≤ M → z < H + 1 → (match Nat.ble (Nat.succ H) (eMd (.ofNat z) M) with
    | false => Int.ofNat (eMd (.ofNat z) M)
    | true => Int.subNatNat (eMd (.ofNat z) M) M) = .ofNat z := by
    intro H M h1 h2
    have e : eMd (.ofNat z) M = z := Nat.mod_eq_of_lt (by omega)
    rw [e]
    have hb : Nat.ble (Nat.succ H) z = false := by
      cases hb : Nat.ble (Nat.succ H) z with
      | false => rfl
      | true => have := Nat.le_of_ble_eq_true hb; omega
    rw [hb]
  have key2 : ∀ M : Nat, z < M → Int.ofNat (eMd (.ofNat z) M) = .ofNat z := by
    intro M h1
    have e : eMd (.ofNat z) M = z := Nat.mod_eq_of_lt h1
    rw [e]
  cases k
  · exact key 127 256 (by omega) h
  · exact key 32767 65536 (by omega) h
  · exact key 2147483647 4294967296 (by omega) h
  · exact key 9223372036854775807 18446744073709551616 (by omega) h
  · exact key2 256 h
  · exact key2 65536 h
  · exact key2 4294967296 h
  · exact key2 18446744073709551616 h

/-- Two integers that are not negative, or something else. -/
noncomputable def vN2 : Value → IntKind → Nat → NN → OV → OV :=
  @Value.rec (fun _ => IntKind → Nat → NN → OV → OV) (fun _ => PUnit) (fun _ => PUnit)
    (fun _ _ _ _ d => d) (fun k' b k m f d => @Int.rec (fun _ => IntKind → IntKind → Nat → NN → OV → OV) (fun n k' k m f d => f k m k' n) (fun _ _ _ _ _ d => d) b k' k m f d)
    (fun _ _ _ _ _ d => d) (fun _ _ _ _ _ _ d => d) (fun _ _ _ _ d => d) (fun _ _ _ _ d => d) (fun _ _ _ _ _ _ d => d) (fun _ _ _ _ d => d) (fun _ _ _ _ d => d) (fun _ _ _ _ _ _ _ _ d => d) (fun _ _ _ d => d) (fun _ _ _ _ _ _ d => d) (fun _ _ _ d => d) (fun _ _ _ _ _ d => d) (fun _ _ _ _ _ d => d)
    (fun _ _ => PUnit.unit) PUnit.unit (fun _ _ _ _ => PUnit.unit)
noncomputable def vNN : Value → Value → NN → OV → OV :=
  @Value.rec (fun _ => Value → NN → OV → OV) (fun _ => PUnit) (fun _ => PUnit)
    (fun _ _ _ d => d) (fun k a y f d => @Int.rec (fun _ => IntKind → Value → NN → OV → OV) (fun m k y f d => vN2 y k m f d) (fun _ _ _ _ d => d) a k y f d)
    (fun _ _ _ _ d => d) (fun _ _ _ _ _ d => d) (fun _ _ _ d => d) (fun _ _ _ d => d) (fun _ _ _ _ _ d => d) (fun _ _ _ d => d) (fun _ _ _ d => d) (fun _ _ _ _ _ _ _ d => d) (fun _ _ d => d) (fun _ _ _ _ _ d => d) (fun _ _ d => d) (fun _ _ _ _ d => d) (fun _ _ _ _ d => d)
    (fun _ _ => PUnit.unit) PUnit.unit (fun _ _ _ _ => PUnit.unit)
theorem vNN_eq {x y : Value} {f : NN} {d : OV} (h : ∀ k m k' n, x = .int k (.ofNat m) → y = .int k' (.ofNat n) → f k m k' n = d) : vNN x y f d = d := by
  cases x
  case int k a =>
    cases a with
    | negSucc m => rfl
    | ofNat m =>
      cases y
      case int k' b =>
        cases b with
        | negSucc n => rfl
        | ofNat n => exact h k m k' n rfl rfl
      all_goals rfl
  all_goals rfl
/-- A natural number, reckoned, as an integer of a kind. -/
noncomputable def fW2 (z : Nat) (k : IntKind) : OV :=
  @Bool.rec (fun _ => Nat → IntKind → OV) (fun z k => some (.int k (eWrap k (.ofNat z)))) (fun z k => some (.int k (.ofNat z))) (Nat.ble (Nat.succ z) (limK k)) z k
noncomputable def fW (z : Nat) (k : IntKind) : OV :=
  @Nat.rec (fun _ => IntKind → OV) (fun k => some (.int k (.ofNat 0))) (fun m _ k => fW2 (Nat.succ m) k) z k
theorem fW_eq (z : Nat) (k : IntKind) : fW z k = some (.int k (eWrap k (.ofNat z))) := by
  cases z with
  | zero =>
    show some (Value.int k (.ofNat 0)) = _
    rw [wrap_lt (by cases k <;> decide)]
  | succ m =>
    show fW2 (Nat.succ m) k = _
    unfold fW2
    cases hb : Nat.ble (Nat.succ (Nat.succ m)) (limK k) with
    | false => rfl
    | true =>
      show some (Value.int k (.ofNat (Nat.succ m))) = _
      rw [wrap_lt (Nat.le_of_ble_eq_true hb)]
/-- The same without wrapping. -/
noncomputable def fN (z : Nat) (k : IntKind) : OV :=
  @Nat.rec (fun _ => IntKind → OV) (fun k => some (.int k (.ofNat 0))) (fun m _ k => some (.int k (.ofNat (Nat.succ m)))) z k
theorem fN_eq (z : Nat) (k : IntKind) : fN z k = some (.int k (.ofNat z)) := by cases z <;> rfl
noncomputable def fB (b : Bool) : OV := @Bool.rec (fun _ => OV) (some (.bool false)) (some (.bool true)) b
theorem fB_eq (b : Bool) : fB b = some (.bool b) := by cases b <;> rfl
noncomputable def fNotB (b : Bool) : OV := @Bool.rec (fun _ => OV) (some (.bool true)) (some (.bool false)) b
theorem fNotB_eq (b : Bool) : fNotB b = some (.bool (eNot b)) := by cases b <;> rfl
/-- Of one kind. -/
noncomputable def same (f : Nat → Nat → IntKind → OV) : NN := fun k m k' n =>
  @Bool.rec (fun _ => (Nat → Nat → IntKind → OV) → Nat → Nat → IntKind → OV) (fun _ _ _ _ => none) (fun f m n k => f m n k) (Nat.beq (numK k) (numK k')) f m n k
theorem same_eq {f : Nat → Nat → IntKind → OV} {op : BinOp} (hop : ∀ k a k' b, eBin op (.int k a) (.int k' b) = (match decide (k = k') with
      | true => eInt op k a b
      | false => none)) (h : ∀ k m n, f m n k = eInt op k (.ofNat m) (.ofNat n)) (k : IntKind) (m : Nat) (k' : IntKind) (n : Nat) : same f k m k' n = eBin op (.int k (.ofNat m)) (.int k' (.ofNat n)) := by
  rw [hop]
  unfold same
  rw [numK_eq]
  cases decide (k = k') with
  | true => exact h k m n
  | false => rfl
noncomputable def fSub (m n : Nat) (k : IntKind) : OV :=
  @Bool.rec (fun _ => Nat → Nat → IntKind → OV) (fun m n k => some (.int k (eWrap k (Int.sub (.ofNat m) (.ofNat n))))) (fun m n k => fW (Nat.sub m n) k) (Nat.ble n m) m n k
theorem fSub_eq (k : IntKind) (m n : Nat) : fSub m n k = eInt .sub k (.ofNat m) (.ofNat n) := by
  show fSub m n k = some (.int k (eWrap k (Int.sub (.ofNat m) (.ofNat n))))
  unfold fSub
  cases hb : Nat.ble n m with
  | false => rfl
  | true =>
    have h1 := Nat.le_of_ble_eq_true hb
    have e : Int.sub (.ofNat m) (.ofNat n) = .ofNat (Nat.sub m n) := (Int.ofNat_sub h1).symm
    rw [e]
    exact fW_eq _ _
noncomputable def fQuo (m n : Nat) (k : IntKind) : OV := @Nat.rec (fun _ => Nat → IntKind → OV) (fun _ _ => none) (fun n _ m k => fW (Nat.div m (Nat.succ n)) k) n m k
theorem fQuo_eq (k : IntKind) (m n : Nat) : fQuo m n k = eInt .quo k (.ofNat m) (.ofNat n) := by
  cases n with
  | zero => rfl
  | succ n => exact fW_eq _ _
noncomputable def fRem (m n : Nat) (k : IntKind) : OV := @Nat.rec (fun _ => Nat → IntKind → OV) (fun _ _ => none) (fun n _ m k => fN (Nat.mod m (Nat.succ n)) k) n m k
theorem fRem_eq (k : IntKind) (m n : Nat) : fRem m n k = eInt .rem k (.ofNat m) (.ofNat n) := by
  cases n with
  | zero => rfl
  | succ n => exact fN_eq _ _
/-- Both fit. -/
noncomputable def fFit1 (f : Nat → Nat → Nat) (m n : Nat) (k : IntKind) : OV :=
  @Bool.rec (fun _ => (Nat → Nat → Nat) → Nat → Nat → IntKind → OV) (fun _ _ _ _ => none) (fun f m n k => fW (f m n) k) (Nat.ble (Nat.succ n) (modK k)) f m n k
noncomputable def fFit (f : Nat → Nat → Nat) (m n : Nat) (k : IntKind) : OV :=
  @Bool.rec (fun _ => (Nat → Nat → Nat) → Nat → Nat → IntKind → OV) (fun _ _ _ _ => none) fFit1 (Nat.ble (Nat.succ m) (modK k)) f m n k
theorem fFit_eq (f : Nat → Nat → Nat) (k : IntKind) (m n : Nat) : fFit f m n k = (match Nat.ble (Nat.succ m) (eMod k), Nat.ble (Nat.succ n) (eMod k) with
    | true, true => some (.int k (eWrap k (.ofNat (f m n))))
    | _, _ => none) := by
  have h1 : fFit1 f m n k = (match Nat.ble (Nat.succ n) (eMod k) with
    | true => some (.int k (eWrap k (.ofNat (f m n))))
    | _ => none) := by
    unfold fFit1
    rw [modK_eq]
    cases Nat.ble (Nat.succ n) (eMod k) with
    | false => rfl
    | true => exact fW_eq _ _
  unfold fFit
  rw [modK_eq]
  cases Nat.ble (Nat.succ m) (eMod k) with
  | false => rfl
  | true =>
    show fFit1 f m n k = _
    rw [h1]
    cases Nat.ble (Nat.succ n) (eMod k) <;> rfl
noncomputable def bitsK : IntKind → Nat := @IntKind.rec (fun _ => Nat) 8 16 32 64 8 16 32 64
theorem bitsK_eq (k : IntKind) : bitsK k = k.bits := by cases k <;> rfl
noncomputable def fShl : NN := fun k m k' n => @Bool.rec (fun _ => IntKind → Nat → Nat → OV) (fun k m n => fW (Nat.mul m (Nat.pow 2 (bitsK k))) k) (fun k m n => fW (Nat.mul m (Nat.pow 2 n)) k) (Nat.ble n (bitsK k)) k m n
noncomputable def fShr : NN := fun k m k' n => @Bool.rec (fun _ => IntKind → Nat → Nat → OV) (fun k m n => fN (Nat.div m (Nat.pow 2 (bitsK k))) k) (fun k m n => fN (Nat.div m (Nat.pow 2 n)) k) (Nat.ble n (bitsK k)) k m n
theorem fShl_eq (k : IntKind) (m : Nat) (k' : IntKind) (n : Nat) : fShl k m k' n = eBin .shl (.int k (.ofNat m)) (.int k' (.ofNat n)) := by
  show fShl k m k' n = some (.int k (eWrap k (Int.mul (.ofNat m) (.ofNat (Nat.pow 2 (match Nat.ble n k.bits with | true => n | false => k.bits))))))
  unfold fShl
  rw [bitsK_eq]
  cases Nat.ble n k.bits with
  | true => exact fW_eq _ _
  | false =>
    show fW (Nat.mul m (Nat.pow 2 (bitsK k))) k = _
    rw [bitsK_eq]
    exact fW_eq _ _
theorem fShr_eq (k : IntKind) (m : Nat) (k' : IntKind) (n : Nat) : fShr k m k' n = eBin .shr (.int k (.ofNat m)) (.int k' (.ofNat n)) := by
  show fShr k m k' n = some (.int k (.ofNat (Nat.div m (Nat.pow 2 (match Nat.ble n k.bits with | true => n | false => k.bits)))))
  unfold fShr
  rw [bitsK_eq]
  cases Nat.ble n k.bits with
  | true => exact fN_eq _ _
  | false =>
    show fN (Nat.div m (Nat.pow 2 (bitsK k))) k = _
    rw [bitsK_eq]
    exact fN_eq _ _

structure BC where
  f : Value → Value → OV
noncomputable def cBin (op : BinOp) : BC :=
  match op with
  | .add => ⟨fun x y => vNN x y (same fun m n k => fW (Nat.add m n) k) (eBin .add x y)⟩
  | .sub => ⟨fun x y => vNN x y (same fSub) (eBin .sub x y)⟩
  | .mul => ⟨fun x y => vNN x y (same fun m n k => fW (Nat.mul m n) k) (eBin .mul x y)⟩
  | .quo => ⟨fun x y => vNN x y (same fQuo) (eBin .quo x y)⟩
  | .rem => ⟨fun x y => vNN x y (same fRem) (eBin .rem x y)⟩
  | .eql => ⟨fun x y => vNN x y (same fun m n _ => fB (Nat.beq m n)) (eBin .eql x y)⟩
  | .neq => ⟨fun x y => vNN x y (same fun m n _ => fNotB (Nat.beq m n)) (eBin .neq x y)⟩
  | .lss => ⟨fun x y => vNN x y (same fun m n _ => fNotB (Nat.ble n m)) (eBin .lss x y)⟩
  | .leq => ⟨fun x y => vNN x y (same fun m n _ => fB (Nat.ble m n)) (eBin .leq x y)⟩
  | .gtr => ⟨fun x y => vNN x y (same fun m n _ => fNotB (Nat.ble m n)) (eBin .gtr x y)⟩
  | .geq => ⟨fun x y => vNN x y (same fun m n _ => fB (Nat.ble n m)) (eBin .geq x y)⟩
  | .and => ⟨fun x y => vNN x y (same (fFit Nat.land)) (eBin .and x y)⟩
  | .or => ⟨fun x y => vNN x y (same (fFit Nat.lor)) (eBin .or x y)⟩
  | .xor => ⟨fun x y => vNN x y (same (fFit Nat.xor)) (eBin .xor x y)⟩
  | .shl => ⟨fun x y => vNN x y fShl (eBin .shl x y)⟩
  | .shr => ⟨fun x y => vNN x y fShr (eBin .shr x y)⟩
  | op => ⟨eBin op⟩
theorem bits_eq (op : BinOp) (f : Nat → Nat → Nat) (hop : ∀ k x y, eBits op k (.ofNat x) (.ofNat y) = (match Nat.ble (Nat.succ x) (eMod k), Nat.ble (Nat.succ y) (eMod k) with
    | true, true => some (eWrap k (.ofNat (f x y)))
    | _, _ => none)) (hi : ∀ k a b, eInt op k a b = (match eBits op k a b with
    | some n => some (.int k n)
    | none => none)) (k : IntKind) (m n : Nat) : fFit f m n k = eInt op k (.ofNat m) (.ofNat n) := by
  rw [fFit_eq, hi, hop]
  cases Nat.ble (Nat.succ m) (eMod k) <;> cases Nat.ble (Nat.succ n) (eMod k) <;> rfl
theorem cBin_eq (op : BinOp) (x y : Value) : (cBin op).f x y = eBin op x y := by
  cases op
  case add => exact vNN_eq fun k m k' n hx hy => by subst hx; subst hy; exact same_eq (fun _ _ _ _ => rfl) (fun k m n => fW_eq _ _) k m k' n
  case sub => exact vNN_eq fun k m k' n hx hy => by subst hx; subst hy; exact same_eq (fun _ _ _ _ => rfl) fSub_eq k m k' n
  case mul => exact vNN_eq fun k m k' n hx hy => by subst hx; subst hy; exact same_eq (fun _ _ _ _ => rfl) (fun k m n => fW_eq _ _) k m k' n
  case quo => exact vNN_eq fun k m k' n hx hy => by subst hx; subst hy; exact same_eq (fun _ _ _ _ => rfl) fQuo_eq k m k' n
  case rem => exact vNN_eq fun k m k' n hx hy => by subst hx; subst hy; exact same_eq (fun _ _ _ _ => rfl) fRem_eq k m k' n
  case eql => exact vNN_eq fun k m k' n hx hy => by subst hx; subst hy; exact same_eq (fun _ _ _ _ => rfl) (fun k m n => fB_eq _) k m k' n
  case neq => exact vNN_eq fun k m k' n hx hy => by subst hx; subst hy; exact same_eq (fun _ _ _ _ => rfl) (fun k m n => fNotB_eq _) k m k' n
  case lss => exact vNN_eq fun k m k' n hx hy => by subst hx; subst hy; exact same_eq (fun _ _ _ _ => rfl) (fun k m n => fNotB_eq _) k m k' n
  case leq => exact vNN_eq fun k m k' n hx hy => by subst hx; subst hy; exact same_eq (fun _ _ _ _ => rfl) (fun k m n => fB_eq _) k m k' n
  case gtr => exact vNN_eq fun k m k' n hx hy => by subst hx; subst hy; exact same_eq (fun _ _ _ _ => rfl) (fun k m n => fNotB_eq _) k m k' n
  case geq => exact vNN_eq fun k m k' n hx hy => by subst hx; subst hy; exact same_eq (fun _ _ _ _ => rfl) (fun k m n => fB_eq _) k m k' n
  case and => exact vNN_eq fun k m k' n hx hy => by subst hx; subst hy; exact same_eq (fun _ _ _ _ => rfl) (bits_eq .and Nat.land (fun _ _ _ => rfl) (fun _ _ _ => rfl)) k m k' n
  case or => exact vNN_eq fun k m k' n hx hy => by subst hx; subst hy; exact same_eq (fun _ _ _ _ => rfl) (bits_eq .or Nat.lor (fun _ _ _ => rfl) (fun _ _ _ => rfl)) k m k' n
  case xor => exact vNN_eq fun k m k' n hx hy => by subst hx; subst hy; exact same_eq (fun _ _ _ _ => rfl) (bits_eq .xor Nat.xor (fun _ _ _ => rfl) (fun _ _ _ => rfl)) k m k' n
  case shl => exact vNN_eq fun k m k' n hx hy => by subst hx; subst hy; exact fShl_eq k m k' n
  case shr => exact vNN_eq fun k m k' n hx hy => by subst hx; subst hy; exact fShr_eq k m k' n
  all_goals rfl
end Go.Proofs.YtegfafebbnlicaaGreatDoor.Ev

namespace Go.Proofs.YtegfafebbnlicaaGreatDoor.Ev
open Go
set_option linter.unusedVariables false
set_option linter.unusedSimpArgs false

/-! Tries, temporaries. -/
noncomputable def bgetO : Bt EObj → Nat → Option EObj :=
  @Bt.rec EObj (fun _ => Nat → Option EObj) (fun _ => none)
    (fun v _ _ gl gr n => @Nat.rec (fun _ => Option EObj → (Nat → Option EObj) → (Nat → Option EObj) → Option EObj) (fun v _ _ => v) (fun k _ _ gl gr => @Bool.rec (fun _ => (Nat → Option EObj) → (Nat → Option EObj) → Nat → Option EObj) (fun _ gr k => gr (Nat.div k 2)) (fun gl _ k => gl (Nat.div k 2)) (Nat.beq (Nat.mod k 2) 0) gl gr k) n v gl gr)
theorem bgetO_eq (t : Bt EObj) : ∀ n, bgetO t n = t.get n := by
  induction t with
  | nil => intro n; rfl
  | node v l r ihl ihr =>
    intro n
    cases n with
    | zero => rfl
    | succ k =>
      rw [Bt.get_succ]
      show @Bool.rec (fun _ => (Nat → Option EObj) → (Nat → Option EObj) → Nat → Option EObj) (fun _ gr k => gr (Nat.div k 2)) (fun gl _ k => gl (Nat.div k 2)) (Nat.beq (Nat.mod k 2) 0) (bgetO l) (bgetO r) k = _
      cases h : Nat.beq (Nat.mod k 2) 0 with
      | true => rw [if_pos (show k % 2 = 0 from Nat.eq_of_beq_eq_true h)]; exact ihl _
      | false => rw [if_neg (fun e => by rw [show Nat.mod k 2 = 0 from e] at h; cases h)]; exact ihr _
noncomputable def rgetO : RL EObj → Nat → Bt EObj → Option EObj :=
  @RL.rec EObj (fun _ => Nat → Bt EObj → Option EObj) (fun k t => bgetO t k)
    (fun j x _ ih k t => @Bool.rec (fun _ => (Nat → Bt EObj → Option EObj) → EObj → Nat → Bt EObj → Option EObj) (fun ih _ k t => ih k t) (fun _ x _ _ => some x) (Nat.beq j k) ih x k t)
theorem rgetO_eq (t : Bt EObj) (k : Nat) : ∀ l : RL EObj, rgetO l k t = l.get k (t.get k)
  | .nil => bgetO_eq t k
  | .cons j x l => by
    have ih := rgetO_eq t k l
    show @Bool.rec (fun _ => (Nat → Bt EObj → Option EObj) → EObj → Nat → Bt EObj → Option EObj) (fun ih _ k t => ih k t) (fun _ x _ _ => some x) (Nat.beq j k) (rgetO l) x k t = _
    rw [RL.get_cons]
    cases h : Nat.beq j k with
    | true => rw [if_pos (Nat.eq_of_beq_eq_true h).symm]
    | false => rw [if_neg (fun e => by subst e; rw [Nat.beq_refl] at h; cases h)]; exact ih
noncomputable def getO : Tr EObj → Nat → Option EObj := @Tr.rec EObj (fun _ => Nat → Option EObj) (fun _ r t k => rgetO r k t)
theorem getO_eq (t : Tr EObj) (n : Nat) : getO t n = t.get n := by
  obtain ⟨m, r, t⟩ := t
  exact rgetO_eq t n r
noncomputable def rmemO : RL EObj → Nat → Bool :=
  @RL.rec EObj (fun _ => Nat → Bool) (fun _ => false) (fun j _ _ ih k => @Bool.rec (fun _ => (Nat → Bool) → Nat → Bool) (fun ih k => ih k) (fun _ _ => true) (Nat.beq j k) ih k)
noncomputable def rupdO : RL EObj → Nat → EObj → RL EObj :=
  @RL.rec EObj (fun _ => Nat → EObj → RL EObj) (fun _ _ => .nil)
    (fun j y l ih k x => @Bool.rec (fun _ => Nat → EObj → RL EObj → (Nat → EObj → RL EObj) → Nat → EObj → RL EObj) (fun j y _ ih k x => .cons j y (ih k x)) (fun _ _ l _ k x => .cons k x l) (Nat.beq j k) j y l ih k x)
noncomputable def pushO (n : Nat) (r : RL EObj) (t : Bt EObj) (k : Nat) (x : EObj) : Tr EObj :=
  @Bool.rec (fun _ => Nat → RL EObj → Bt EObj → Nat → EObj → Tr EObj) (fun n r t k x => .mk (Nat.succ n) (.cons k x r) t) (fun _ r t k x => .mk 1 (.cons k x .nil) (r.flush t)) (Nat.beq n 8) n r t k x
noncomputable def setO : Tr EObj → Nat → EObj → Tr EObj :=
  @Tr.rec EObj (fun _ => Nat → EObj → Tr EObj)
    (fun n r t k x => @Bool.rec (fun _ => Nat → RL EObj → Bt EObj → Nat → EObj → Tr EObj) pushO (fun n r t k x => .mk n (rupdO r k x) t) (rmemO r k) n r t k x)
theorem setO_eq (t : Tr EObj) (n : Nat) (x : EObj) : setO t n x = t.set n x := rfl
noncomputable def bgetV : Bt Value → Nat → Option Value :=
  @Bt.rec Value (fun _ => Nat → Option Value) (fun _ => none)
    (fun v _ _ gl gr n => @Nat.rec (fun _ => Option Value → (Nat → Option Value) → (Nat → Option Value) → Option Value) (fun v _ _ => v) (fun k _ _ gl gr => @Bool.rec (fun _ => (Nat → Option Value) → (Nat → Option Value) → Nat → Option Value) (fun _ gr k => gr (Nat.div k 2)) (fun gl _ k => gl (Nat.div k 2)) (Nat.beq (Nat.mod k 2) 0) gl gr k) n v gl gr)
theorem bgetV_eq (t : Bt Value) : ∀ n, bgetV t n = t.get n := by
  induction t with
  | nil => intro n; rfl
  | node v l r ihl ihr =>
    intro n
    cases n with
    | zero => rfl
    | succ k =>
      rw [Bt.get_succ]
      show @Bool.rec (fun _ => (Nat → Option Value) → (Nat → Option Value) → Nat → Option Value) (fun _ gr k => gr (Nat.div k 2)) (fun gl _ k => gl (Nat.div k 2)) (Nat.beq (Nat.mod k 2) 0) (bgetV l) (bgetV r) k = _
      cases h : Nat.beq (Nat.mod k 2) 0 with
      | true => rw [if_pos (show k % 2 = 0 from Nat.eq_of_beq_eq_true h)]; exact ihl _
      | false => rw [if_neg (fun e => by rw [show Nat.mod k 2 = 0 from e] at h; cases h)]; exact ihr _
noncomputable def rgetV : RL Value → Nat → Bt Value → Option Value :=
  @RL.rec Value (fun _ => Nat → Bt Value → Option Value) (fun k t => bgetV t k)
    (fun j x _ ih k t => @Bool.rec (fun _ => (Nat → Bt Value → Option Value) → Value → Nat → Bt Value → Option Value) (fun ih _ k t => ih k t) (fun _ x _ _ => some x) (Nat.beq j k) ih x k t)
theorem rgetV_eq (t : Bt Value) (k : Nat) : ∀ l : RL Value, rgetV l k t = l.get k (t.get k)
  | .nil => bgetV_eq t k
  | .cons j x l => by
    have ih := rgetV_eq t k l
    show @Bool.rec (fun _ => (Nat → Bt Value → Option Value) → Value → Nat → Bt Value → Option Value) (fun ih _ k t => ih k t) (fun _ x _ _ => some x) (Nat.beq j k) (rgetV l) x k t = _
    rw [RL.get_cons]
    cases h : Nat.beq j k with
    | true => rw [if_pos (Nat.eq_of_beq_eq_true h).symm]
    | false => rw [if_neg (fun e => by subst e; rw [Nat.beq_refl] at h; cases h)]; exact ih
noncomputable def getV : Tr Value → Nat → Option Value := @Tr.rec Value (fun _ => Nat → Option Value) (fun _ r t k => rgetV r k t)
theorem getV_eq (t : Tr Value) (n : Nat) : getV t n = t.get n := by
  obtain ⟨m, r, t⟩ := t
  exact rgetV_eq t n r
noncomputable def rmemV : RL Value → Nat → Bool :=
  @RL.rec Value (fun _ => Nat → Bool) (fun _ => false) (fun j _ _ ih k => @Bool.rec (fun _ => (Nat → Bool) → Nat → Bool) (fun ih k => ih k) (fun _ _ => true) (Nat.beq j k) ih k)
noncomputable def rupdV : RL Value → Nat → Value → RL Value :=
  @RL.rec Value (fun _ => Nat → Value → RL Value) (fun _ _ => .nil)
    (fun j y l ih k x => @Bool.rec (fun _ => Nat → Value → RL Value → (Nat → Value → RL Value) → Nat → Value → RL Value) (fun j y _ ih k x => .cons j y (ih k x)) (fun _ _ l _ k x => .cons k x l) (Nat.beq j k) j y l ih k x)
noncomputable def pushV (n : Nat) (r : RL Value) (t : Bt Value) (k : Nat) (x : Value) : Tr Value :=
  @Bool.rec (fun _ => Nat → RL Value → Bt Value → Nat → Value → Tr Value) (fun n r t k x => .mk (Nat.succ n) (.cons k x r) t) (fun _ r t k x => .mk 1 (.cons k x .nil) (r.flush t)) (Nat.beq n 8) n r t k x
noncomputable def setV : Tr Value → Nat → Value → Tr Value :=
  @Tr.rec Value (fun _ => Nat → Value → Tr Value)
    (fun n r t k x => @Bool.rec (fun _ => Nat → RL Value → Bt Value → Nat → Value → Tr Value) pushV (fun n r t k x => .mk n (rupdV r k x) t) (rmemV r k) n r t k x)
theorem setV_eq (t : Tr Value) (n : Nat) (x : Value) : setV t n x = t.set n x := rfl
noncomputable def envGet : Env → Nat → OV :=
  @Env.rec (fun _ => Nat → OV) (fun m l t k => @Bool.rec (fun _ => EL → Tr Value → Nat → OV) (fun l _ k => l.get k) (fun _ t k => getV t k) (keepB m k) l t k)
theorem envGet_eq (e : Env) (k : Nat) : envGet e k = e.get k := by
  obtain ⟨m, l, t⟩ := e
  show @Bool.rec (fun _ => EL → Tr Value → Nat → OV) (fun l _ k => l.get k) (fun _ t k => getV t k) (keepB m k) l t k = @Bool.rec (fun _ => EL → Tr Value → Nat → OV) (fun l _ k => l.get k) (fun _ t k => t.get k) (keepB m k) l t k
  cases keepB m k with
  | false => rfl
  | true => exact getV_eq t k
noncomputable def envSet : Env → Nat → Value → Env :=
  @Env.rec (fun _ => Nat → Value → Env)
    (fun m l t k v => @Bool.rec (fun _ => Nat → EL → Tr Value → Nat → Value → Env) (fun m l t k v => .mk m (.cons k v l) t) (fun m l t k v => .mk m l (setV t k v)) (keepB m k) m l t k v)
theorem envSet_eq (e : Env) (k : Nat) (v : Value) : envSet e k v = e.set k v := rfl

/-- A pointer that is not nil. -/
noncomputable def vPtr : Value → (Nat → Nat → St → OV) → St → OV :=
  @Value.rec (fun _ => (Nat → Nat → St → OV) → St → OV) (fun _ => PUnit) (fun _ => PUnit)
    (fun _ _ _ => none) (fun _ _ _ _ => none) (fun _ _ _ _ => none) (fun _ _ _ _ _ => none) (fun _ _ _ => none) (fun a f st => @Option.rec Addr (fun _ => (Nat → Nat → St → OV) → St → OV) (fun _ _ => none) (fun ad f st => @Addr.rec (fun _ => (Nat → Nat → St → OV) → St → OV) (fun b o _ f st => f b o st) ad f st) a f st) (fun _ _ _ _ _ => none) (fun _ _ _ => none) (fun _ _ _ => none) (fun _ _ _ _ _ _ _ => none) (fun _ _ => none) (fun _ _ _ _ _ => none) (fun _ _ => none) (fun _ _ _ _ => none) (fun _ _ _ _ => none)
    (fun _ _ => PUnit.unit) PUnit.unit (fun _ _ _ _ => PUnit.unit)
noncomputable def ldBytes (n : Nat) (c : Tr Value) (o : Nat) : OV :=
  match Nat.ble (Nat.add o 1) n with
  | true => match loadB c 1 o with
    | some (v :: _) => some v
    | _ => none
  | false => none
noncomputable def ldCell : EObj → Nat → OV :=
  @EObj.rec (fun _ => Nat → OV) (fun _ n _ c o => @Bool.rec (fun _ => Tr Value → Nat → OV) (fun _ _ => none) getV (Nat.ble (Nat.succ o) n) c o) (fun _ _ _ => none) (fun n c o => ldBytes n c o) (fun _ _ _ _ _ => none) (fun _ _ _ _ _ _ _ _ => none)
noncomputable def ldB : Option EObj → Nat → OV := @Option.rec EObj (fun _ => Nat → OV) (fun _ => none) ldCell
noncomputable def ld1 (b o : Nat) (st : St) : OV := @St.rec (fun _ => Nat → Nat → OV) (fun h _ b o => ldB (getO h b) o) st b o
theorem ld1_eq (b o : Nat) (st : St) : ld1 b o st = (match st.load b o 1 with
      | some (v :: _) => some v
      | _ => none) := by
  obtain ⟨h, nx⟩ := st
  show ldB (getO h b) o = _
  rw [getO_eq]
  show ldB (h.get b) o = (match (match h.get b with
    | some (.cells _ m _ c) => match Nat.ble (Nat.add o 1) m with
      | true => loadL c 1 o
      | false => none
    | some (.bytes m c) => match Nat.ble (Nat.add o 1) m with
      | true => loadB c 1 o
      | false => none
    | _ => none) with
      | some (v :: _) => some v
      | _ => none)
  cases h.get b with
  | none => rfl
  | some ob =>
    cases ob
    case cells t n u c =>
      show @Bool.rec (fun _ => Tr Value → Nat → OV) (fun _ _ => none) getV (Nat.ble (Nat.succ o) n) c o = (match (match Nat.ble (Nat.add o 1) n with
      | true => loadL c 1 o
      | false => none) with
      | some (v :: _) => some v
      | _ => none)
      show @Bool.rec (fun _ => Tr Value → Nat → OV) (fun _ _ => none) getV (Nat.ble (Nat.succ o) n) c o = (match (match Nat.ble (Nat.succ o) n with
      | true => (match c.get o with
        | some v => some [v]
        | none => none)
      | false => none) with
      | some (v :: _) => some v
      | _ => none)
      cases Nat.ble (Nat.succ o) n with
      | false => rfl
      | true =>
        show getV c o = _
        rw [getV_eq]
        cases c.get o <;> rfl
    case bytes n c =>
      show (match Nat.ble (Nat.add o 1) n with
        | true => (match loadB c 1 o with
          | some (v :: _) => some v
          | _ => none)
        | false => none) = (match (match Nat.ble (Nat.add o 1) n with
      | true => loadB c 1 o
      | false => none) with
      | some (v :: _) => some v
      | _ => none)
      cases Nat.ble (Nat.add o 1) n <;> rfl
    all_goals rfl
/-- Loads. -/
structure LdC where
  f : Value → St → OV
noncomputable def cLoad (ti : TI) : LdC :=
  match ti.d.agg with
  | true => ⟨eLoad ti⟩
  | false => ⟨fun v st => vPtr v ld1 st⟩
theorem cLoad_eq (ti : TI) (v : Value) (st : St) : (cLoad ti).f v st = eLoad ti v st := by
  unfold cLoad
  cases ha : ti.d.agg with
  | true => rfl
  | false =>
    show vPtr v ld1 st = eLoad ti v st
    unfold eLoad
    cases v
    case pointer a =>
      cases a with
      | none => rfl
      | some a =>
        simp only [ha]
        obtain ⟨b, o, s⟩ := a
        exact ld1_eq b o st
    all_goals rfl

noncomputable def stCell : EObj → Tr EObj → Nat → Nat → Nat → Value → Option St :=
  @EObj.rec (fun _ => Tr EObj → Nat → Nat → Nat → Value → Option St)
    (fun t n u c h nx b o v => @Bool.rec (fun _ => TypeId → Nat → Bool → Tr Value → Tr EObj → Nat → Nat → Nat → Value → Option St) (fun _ _ _ _ _ _ _ _ _ => none)
      (fun t n u c h nx b o v => some ⟨setO h b (.cells t n u (setV c o v)), nx⟩) (Nat.ble (Nat.succ o) n) t n u c h nx b o v)
    (fun _ _ _ _ _ _ _ => none) (fun _ _ _ _ _ _ _ => none) (fun _ _ _ _ _ _ _ _ _ => none) (fun _ _ _ _ _ _ _ _ _ _ _ _ => none)
noncomputable def stB : Option EObj → Tr EObj → Nat → Nat → Nat → Value → Option St := @Option.rec EObj (fun _ => Tr EObj → Nat → Nat → Nat → Value → Option St) (fun _ _ _ _ _ => none) stCell
noncomputable def stA (b o : Nat) (v : Value) (st : St) : Option St := @St.rec (fun _ => Nat → Nat → Value → Option St) (fun h nx b o v => stB (getO h b) h nx b o v) st b o v
noncomputable def vPtrS : Value → Value → St → Option St :=
  @Value.rec (fun _ => Value → St → Option St) (fun _ => PUnit) (fun _ => PUnit)
    (fun _ _ _ => none) (fun _ _ _ _ => none) (fun _ _ _ _ => none) (fun _ _ _ _ _ => none) (fun _ _ _ => none) (fun a v st => @Option.rec Addr (fun _ => Value → St → Option St) (fun _ _ => none) (fun ad v st => @Addr.rec (fun _ => Value → St → Option St) (fun b o _ v st => stA b o v st) ad v st) a v st) (fun _ _ _ _ _ => none) (fun _ _ _ => none) (fun _ _ _ => none) (fun _ _ _ _ _ _ _ => none) (fun _ _ => none) (fun _ _ _ _ _ => none) (fun _ _ => none) (fun _ _ _ _ => none) (fun _ _ _ _ => none)
    (fun _ _ => PUnit.unit) PUnit.unit (fun _ _ _ _ => PUnit.unit)
/-- A value of one cell, or something else. -/
noncomputable def vOne : Value → Option St → Option St → Option St :=
  @Value.rec (fun _ => Option St → Option St → Option St) (fun _ => PUnit) (fun _ => PUnit)
    (fun _ a0 _ => a0) (fun _ _ a0 _ => a0) (fun _ _ a0 _ => a0) (fun _ _ _ a0 _ => a0) (fun _ a0 _ => a0) (fun _ a0 _ => a0) (fun _ _ _ a0 _ => a0) (fun _ a0 _ => a0) (fun _ a0 _ => a0) (fun _ _ _ _ _ a0 _ => a0) (fun a0 _ => a0) (fun _ _ _ a0 _ => a0) (fun a0 _ => a0) (fun _ _ _ d => d) (fun _ _ _ d => d)
    (fun _ _ => PUnit.unit) PUnit.unit (fun _ _ _ _ => PUnit.unit)
theorem stA_eq (b o : Nat) (v : Value) (st : St) : stA b o v st = st.store b o [v] := by
  obtain ⟨h, nx⟩ := st
  show stB (getO h b) h nx b o v = _
  rw [getO_eq]
  show stB (h.get b) h nx b o v = (match h.get b with
    | some (.cells t m u c) => match Nat.ble (Nat.add o 1) m with
      | true => some ⟨h.set b (.cells t m u (storeL [v] c o)), nx⟩
      | false => none
    | _ => none)
  cases h.get b with
  | none => rfl
  | some ob =>
    cases ob
    case cells t n u c =>
      show @Bool.rec (fun _ => TypeId → Nat → Bool → Tr Value → Tr EObj → Nat → Nat → Nat → Value → Option St) (fun _ _ _ _ _ _ _ _ _ => none)
        (fun t n u c h nx b o v => some ⟨setO h b (.cells t n u (setV c o v)), nx⟩) (Nat.ble (Nat.succ o) n) t n u c h nx b o v = (match Nat.ble (Nat.succ o) n with
      | true => some ⟨h.set b (.cells t n u (storeL [v] c o)), nx⟩
      | false => none)
      cases Nat.ble (Nat.succ o) n <;> rfl
    all_goals rfl
/-- Stores. -/
structure StC where
  f : Value → Value → St → Option St
noncomputable def cStore (ti : TI) : StC :=
  match Nat.beq 1 ti.size with
  | true => ⟨fun x v st => vOne v (vPtrS x v st) (eStore ti x v st)⟩
  | false => ⟨eStore ti⟩
theorem cStore_eq (ti : TI) (x v : Value) (st : St) : (cStore ti).f x v st = eStore ti x v st := by
  unfold cStore
  cases hs : Nat.beq 1 ti.size with
  | false => rfl
  | true =>
    show vOne v (vPtrS x v st) (eStore ti x v st) = eStore ti x v st
    have h1 : ti.size = 1 := (beq_iff.1 hs).symm
    have key : oneCells [v] = true → eCells v = [v] → vPtrS x v st = eStore ti x v st := by
      intro h2 h3
      unfold eStore
      rw [h3, h1]
      cases x
      case pointer a =>
        cases a with
        | none => rfl
        | some a =>
          obtain ⟨b, o, s⟩ := a
          show stA b o v st = (match Nat.beq [v].length 1, oneCells [v] with
            | true, true => st.store b o [v]
            | _, _ => none)
          rw [h2]
          exact stA_eq b o v st
      all_goals rfl
    cases v
    case agg => rfl
    case tuple => rfl
    all_goals exact key rfl rfl

/-- A pointer, its place reckoned. -/
noncomputable def pAt (z b : Nat) : OV := @Nat.rec (fun _ => Nat → OV) (fun b => some (.pointer (some ⟨b, 0, none⟩))) (fun m _ b => some (.pointer (some ⟨b, Nat.succ m, none⟩))) z b
theorem pAt_eq (z b : Nat) : pAt z b = some (.pointer (some ⟨b, z, none⟩)) := by cases z <;> rfl
noncomputable def vField : Value → Nat → OV :=
  @Value.rec (fun _ => Nat → OV) (fun _ => PUnit) (fun _ => PUnit)
    (fun _ _ => none) (fun _ _ _ => none) (fun _ _ _ => none) (fun _ _ _ _ => none) (fun _ _ => none) (fun a off => @Option.rec Addr (fun _ => Nat → OV) (fun _ => none) (fun ad off => @Addr.rec (fun _ => Nat → OV) (fun b o _ off => pAt (Nat.add o off) b) ad off) a off) (fun _ _ _ _ => none) (fun _ _ => none) (fun _ _ => none) (fun _ _ _ _ _ _ => none) (fun _ => none) (fun _ _ _ _ => none) (fun _ => none) (fun _ _ _ => none) (fun _ _ _ => none)
    (fun _ _ => PUnit.unit) PUnit.unit (fun _ _ _ _ => PUnit.unit)
structure VC where
  f : Value → OV
structure V2C where
  f : Value → Value → OV
noncomputable def cFieldAddr (d : ED) (i : Nat) : VC :=
  match d with
  | .struct fs => match fs[i]? with
    | some (off, _, sz) => match sz with
      | 0 => ⟨fun _ => none⟩
      | _ + 1 => ⟨fun v => vField v off⟩
    | none => ⟨fun _ => none⟩
  | _ => ⟨fun _ => none⟩
theorem cFieldAddr_eq (d : ED) (i : Nat) (v : Value) : (cFieldAddr d i).f v = eFieldAddr d v i := by
  cases d
  case struct fs =>
    have hL : (cFieldAddr (.struct fs) i).f v = (match fs[i]? with
      | some (off, _, sz) => (match sz with
        | 0 => none
        | _ + 1 => vField v off)
      | none => none) := by
      simp only [cFieldAddr]
      cases fs[i]? with
      | none => rfl
      | some y => obtain ⟨off, ty, sz⟩ := y; cases sz <;> rfl
    have hN : (∀ off, vField v off = none) → (cFieldAddr (.struct fs) i).f v = none := by
      intro h
      rw [hL]
      cases fs[i]? with
      | none => rfl
      | some y =>
        obtain ⟨off, ty, sz⟩ := y
        cases sz with
        | zero => rfl
        | succ sz => exact h off
    cases v
    case pointer a =>
      cases a with
      | none => exact hN (fun _ => rfl)
      | some a =>
        rw [hL]
        show _ = (match fs[i]? with
          | some (off, _, sz) => (match sz with
            | 0 => none
            | _ + 1 => some (Value.pointer (some ⟨a.block, Nat.add a.off off, none⟩)))
          | none => none)
        cases fs[i]? with
        | none => rfl
        | some y =>
          obtain ⟨off, ty, sz⟩ := y
          cases sz with
          | zero => rfl
          | succ sz => obtain ⟨b, o, s⟩ := a; exact pAt_eq _ _
    all_goals exact hN (fun _ => rfl)
  all_goals (cases v <;> rfl)
/-- A natural number. -/
noncomputable def vNat : Value → (Nat → OV) → OV :=
  @Value.rec (fun _ => (Nat → OV) → OV) (fun _ => PUnit) (fun _ => PUnit)
    (fun _ _ => none) (fun _ n f => @Int.rec (fun _ => (Nat → OV) → OV) (fun m f => f m) (fun _ _ => none) n f) (fun _ _ _ => none) (fun _ _ _ _ => none) (fun _ _ => none) (fun _ _ => none) (fun _ _ _ _ => none) (fun _ _ => none) (fun _ _ => none) (fun _ _ _ _ _ _ => none) (fun _ => none) (fun _ _ _ _ => none) (fun _ => none) (fun _ _ _ => none) (fun _ _ _ => none)
    (fun _ _ => PUnit.unit) PUnit.unit (fun _ _ _ _ => PUnit.unit)
noncomputable def idx (b o len sz j : Nat) : OV := @Bool.rec (fun _ => Nat → Nat → Nat → Nat → OV) (fun _ _ _ _ => none) (fun b o sz j => pAt (Nat.add o (Nat.mul j sz)) b) (Nat.ble (Nat.succ j) len) b o sz j
noncomputable def vSlI : Value → Value → Nat → OV :=
  @Value.rec (fun _ => Value → Nat → OV) (fun _ => PUnit) (fun _ => PUnit)
    (fun _ _ _ => none) (fun _ _ _ _ => none) (fun _ _ _ _ => none) (fun _ _ _ _ _ => none) (fun _ _ _ => none) (fun _ _ _ => none) (fun a len _ i sz => @Option.rec Addr (fun _ => Nat → Value → Nat → OV) (fun _ _ _ => none) (fun ad len i sz => @Addr.rec (fun _ => Nat → Value → Nat → OV) (fun b o _ len i sz => vNat i (idx b o len sz)) ad len i sz) a len i sz) (fun _ _ _ => none) (fun _ _ _ => none) (fun _ _ _ _ _ _ _ => none) (fun _ _ => none) (fun _ _ _ _ _ => none) (fun _ _ => none) (fun _ _ _ _ => none) (fun _ _ _ _ => none)
    (fun _ _ => PUnit.unit) PUnit.unit (fun _ _ _ _ => PUnit.unit)
noncomputable def vArI : Value → Value → Nat → Nat → OV :=
  @Value.rec (fun _ => Value → Nat → Nat → OV) (fun _ => PUnit) (fun _ => PUnit)
    (fun _ _ _ _ => none) (fun _ _ _ _ _ => none) (fun _ _ _ _ _ => none) (fun _ _ _ _ _ _ => none) (fun _ _ _ _ => none) (fun a i n sz => @Option.rec Addr (fun _ => Value → Nat → Nat → OV) (fun _ _ _ => none) (fun ad i n sz => @Addr.rec (fun _ => Value → Nat → Nat → OV) (fun b o _ i n sz => vNat i (idx b o n sz)) ad i n sz) a i n sz) (fun _ _ _ _ _ _ => none) (fun _ _ _ _ => none) (fun _ _ _ _ => none) (fun _ _ _ _ _ _ _ _ => none) (fun _ _ _ => none) (fun _ _ _ _ _ _ => none) (fun _ _ _ => none) (fun _ _ _ _ _ => none) (fun _ _ _ _ _ => none)
    (fun _ _ => PUnit.unit) PUnit.unit (fun _ _ _ _ => PUnit.unit)
theorem idx_eq (b o len sz j : Nat) : idx b o len sz j = (match Nat.ble (Nat.succ j) len with
    | true => some (.pointer (some ⟨b, Nat.add o (Nat.mul j sz), none⟩))
    | false => none) := by
  unfold idx
  cases Nat.ble (Nat.succ j) len with
  | true => exact pAt_eq _ _
  | false => rfl
noncomputable def cIndexAddr (d : ED) : V2C :=
  match d with
  | .array n _ sz => ⟨fun x i => vArI x i n sz⟩
  | .slice _ sz _ => ⟨fun x i => vSlI x i sz⟩
  | _ => ⟨fun _ _ => none⟩
theorem cIndexAddr_eq (d : ED) (x i : Value) : (cIndexAddr d).f x i = eIndexAddr d x i := by
  cases d
  case array n e sz =>
    show vArI x i n sz = eIndexAddr (.array n e sz) x i
    cases x
    case pointer a =>
      cases a with
      | none => rfl
      | some a =>
        obtain ⟨b, o, s⟩ := a
        cases i
        case int k z => cases z with
          | ofNat j => exact idx_eq b o n sz j
          | negSucc j => rfl
        all_goals rfl
    all_goals rfl
  case slice e sz by_ =>
    show vSlI x i sz = eIndexAddr (.slice e sz by_) x i
    cases x
    case slice a len cap =>
      cases a with
      | none => rfl
      | some a =>
        obtain ⟨b, o, s⟩ := a
        cases i
        case int k z => cases z with
          | ofNat j => exact idx_eq b o len sz j
          | negSucc j => rfl
        all_goals rfl
    all_goals rfl
  all_goals (cases x <;> rfl)

/-! Parts of tuples; nil; lengths; conversions. -/
structure NthC where
  f : List Value → OV
noncomputable def nth (i : Nat) : NthC := @Nat.rec (fun _ => NthC) ⟨fun l => @List.rec Value (fun _ => OV) none (fun v _ _ => some v) l⟩ (fun _ ih => match ih with
  | ⟨f⟩ => ⟨fun l => @List.rec Value (fun _ => OV) none (fun _ l _ => f l) l⟩) i
theorem nth_eq : ∀ (i : Nat) (l : List Value), (nth i).f l = l[i]?
  | 0, [] => rfl
  | 0, v :: l => rfl
  | i + 1, l => by
    have ih := nth_eq i
    show ((match nth i with
      | ⟨f⟩ => (⟨fun l => @List.rec Value (fun _ => OV) none (fun _ l _ => f l) l⟩ : NthC))).f l = _
    generalize nth i = q at ih
    cases q with
    | mk f =>
      cases l with
      | nil => rfl
      | cons v l => rw [List.getElem?_cons_succ]; exact ih l
noncomputable def vTup : Value → (List Value → OV) → OV :=
  @Value.rec (fun _ => (List Value → OV) → OV) (fun _ => PUnit) (fun _ => PUnit)
    (fun _ _ => none) (fun _ _ _ => none) (fun _ _ _ => none) (fun _ _ _ _ => none) (fun _ _ => none) (fun _ _ => none) (fun _ _ _ _ => none) (fun _ _ => none) (fun _ _ => none) (fun _ _ _ _ _ _ => none) (fun _ => none) (fun _ _ _ _ => none) (fun _ => none) (fun _ _ _ => none) (fun vs _ f => @Array.rec Value (fun _ => (List Value → OV) → OV) (fun l f => f l) vs f)
    (fun _ _ => PUnit.unit) PUnit.unit (fun _ _ _ _ => PUnit.unit)
noncomputable def cExtr (i : Nat) : VC :=
  match nth i with
  | ⟨f⟩ => ⟨fun v => vTup v f⟩
theorem cExtr_eq (i : Nat) (v : Value) : (cExtr i).f v = eExtr v i := by
  have h := nth_eq i
  unfold cExtr
  generalize nth i = q at h
  cases q with
  | mk f =>
    show vTup v f = eExtr v i
    cases v
    case tuple vs => obtain ⟨l⟩ := vs; exact h l
    all_goals rfl
noncomputable def vNil : Value → Value → OV → OV :=
  @Value.rec (fun _ => Value → OV → OV) (fun _ => PUnit) (fun _ => PUnit)
    (fun _ _ a1 => a1) (fun _ _ _ a1 => a1) (fun _ _ _ a1 => a1) (fun _ _ _ _ a1 => a1) (fun _ _ a1 => a1) (fun a v d => @Option.rec Addr (fun _ => Value → OV → OV) (fun _ d => d) (fun _ v _ => some v) a v d) (fun _ _ _ _ a1 => a1) (fun _ _ a1 => a1) (fun _ _ a1 => a1) (fun _ _ _ _ _ _ a1 => a1) (fun _ a1 => a1) (fun _ _ _ _ a1 => a1) (fun _ a1 => a1) (fun _ _ _ a1 => a1) (fun _ _ _ a1 => a1)
    (fun _ _ => PUnit.unit) PUnit.unit (fun _ _ _ _ => PUnit.unit)
theorem vNil_eq (T : Tr TI) (v : Value) : vNil v v (eNil T v) = eNil T v := by
  cases v
  case pointer a => cases a <;> rfl
  all_goals rfl
noncomputable def vLen : Value → OV :=
  @Value.rec (fun _ => OV) (fun _ => PUnit) (fun _ => PUnit)
    (fun _ => none) (fun _ _ => none) (fun _ _ => none) (fun _ _ _ => none) (fun _ => none) (fun _ => none) (fun _ n _ => @Nat.rec (fun _ => OV) (some (.int .i64 (.ofNat 0))) (fun m _ => some (.int .i64 (.ofNat (Nat.succ m)))) n) (fun _ => none) (fun _ => none) (fun _ _ _ _ _ => none) (none) (fun _ _ _ => none) (none) (fun _ _ => none) (fun _ _ => none)
    (fun _ _ => PUnit.unit) PUnit.unit (fun _ _ _ _ => PUnit.unit)
structure LenC where
  f : Value → St → OV
noncomputable def cLen (d : ED) : LenC :=
  match d with
  | .slice _ _ _ => ⟨fun v _ => vLen v⟩
  | d => ⟨eLen d⟩
theorem cLen_eq (d : ED) (v : Value) (st : St) : (cLen d).f v st = eLen d v st := by
  cases d
  case slice e sz by_ =>
    show vLen v = eLen (.slice e sz by_) v st
    cases v
    case slice a n c => cases n <;> rfl
    all_goals rfl
  all_goals rfl
noncomputable def vConv : Value → IntKind → OV → OV :=
  @Value.rec (fun _ => IntKind → OV → OV) (fun _ => PUnit) (fun _ => PUnit)
    (fun _ _ a1 => a1) (fun _ n k d => @Int.rec (fun _ => IntKind → OV → OV) (fun m k _ => fW m k) (fun _ _ d => d) n k d) (fun _ _ _ a1 => a1) (fun _ _ _ _ a1 => a1) (fun _ _ a1 => a1) (fun _ _ a1 => a1) (fun _ _ _ _ a1 => a1) (fun _ _ a1 => a1) (fun _ _ a1 => a1) (fun _ _ _ _ _ _ a1 => a1) (fun _ a1 => a1) (fun _ _ _ _ a1 => a1) (fun _ a1 => a1) (fun _ _ _ a1 => a1) (fun _ _ _ a1 => a1)
    (fun _ _ => PUnit.unit) PUnit.unit (fun _ _ _ _ => PUnit.unit)
noncomputable def cConv (d : ED) : VC :=
  match d with
  | .int k => ⟨fun v => vConv v k (eConvInt (.int k) v)⟩
  | d => ⟨eConvInt d⟩
theorem cConv_eq (d : ED) (v : Value) : (cConv d).f v = eConvInt d v := by
  cases d
  case int k =>
    show vConv v k (eConvInt (.int k) v) = eConvInt (.int k) v
    cases v
    case int k' n => cases n with
      | ofNat m => exact fW_eq _ _
      | negSucc m => rfl
    all_goals rfl
  all_goals rfl
end Go.Proofs.YtegfafebbnlicaaGreatDoor.Ev

namespace Go.Proofs.YtegfafebbnlicaaGreatDoor.Ev
open Go
set_option linter.unusedVariables false
set_option linter.unusedSimpArgs false

abbrev RV := Option (Value × St)
/-- An operand. -/
structure DC where
  get : Env → Option Value
/-- Operands. -/
structure LC where
  get : Env → Option (List Value)
/-- An operation. -/
structure OC where
  run : Call1 → Env → St → RV
/-- Operations one after another. -/
structure GC where
  run : Call1 → Env → St → Option (Env × St)

noncomputable def cOpd (x : Operand) : DC :=
  match x with
  | .tmp t => ⟨fun env => envGet env t⟩
  | .const v => match plainV v with
    | true => ⟨fun _ => some v⟩
    | false => ⟨fun _ => none⟩
  | .global g => match Nat.ble (Nat.succ g) Gn with
    | true => ⟨fun _ => some (.pointer (some ⟨g, 0, none⟩))⟩
    | false => ⟨fun _ => none⟩
  | .func f => ⟨fun _ => some (.func (.func f) #[] #[])⟩
theorem cOpd_get (x : Operand) (env : Env) : (cOpd x).get env = eOpd env x := by
  cases x with
  | tmp t => exact envGet_eq env t
  | const v => simp only [cOpd, eOpd]; cases plainV v <;> rfl
  | global g => simp only [cOpd, eOpd]; cases Nat.ble (Nat.succ g) Gn <;> rfl
  | func f => rfl

/-! Ways to go on, with closed alternatives. -/
noncomputable def kPure (x : Option Value) (st : St) : RV := @Option.rec Value (fun _ => St → RV) (fun _ => none) (fun v st => some (v, st)) x st
theorem kPure_eq (x : Option Value) (st : St) : kPure x st = match x with
    | some v => some (v, st)
    | none => none := by cases x <;> rfl
noncomputable def k1 (f : Value → Option Value) (x : Option Value) (st : St) : RV :=
  @Option.rec Value (fun _ => (Value → Option Value) → St → RV) (fun _ _ => none) (fun v f st => kPure (f v) st) x f st
noncomputable def k2b (f : Value → Value → Option Value) (a : Value) (y : Option Value) (st : St) : RV :=
  @Option.rec Value (fun _ => (Value → Value → Option Value) → Value → St → RV) (fun _ _ _ => none) (fun b f a st => kPure (f a b) st) y f a st
noncomputable def k2 (f : Value → Value → Option Value) (x y : Option Value) (st : St) : RV :=
  @Option.rec Value (fun _ => (Value → Value → Option Value) → Option Value → St → RV) (fun _ _ _ => none) (fun a f y st => k2b f a y st) x f y st
noncomputable def u1 (d : DC) (f : Value → Option Value) : OC :=
  match d with
  | ⟨g⟩ => ⟨fun _ env st => k1 f (g env) st⟩
noncomputable def u2 (d e : DC) (f : Value → Value → Option Value) : OC :=
  match d, e with
  | ⟨g⟩, ⟨h⟩ => ⟨fun _ env st => k2 f (g env) (h env) st⟩
noncomputable def bad : OC := ⟨fun _ _ _ => none⟩
theorem u1_run (x : Operand) (f : Value → Option Value) (call : Call1) (env : Env) (st : St) : (u1 (cOpd x) f).run call env st = match eOpd env x with
    | some v => (match f v with
      | some r => some (r, st)
      | none => none)
    | none => none := by
  rw [← cOpd_get]
  generalize cOpd x = d
  cases d with
  | mk g =>
    show k1 f (g env) st = (match g env with
    | some v => (match f v with
      | some r => some (r, st)
      | none => none)
    | none => none)
    cases g env with
    | none => rfl
    | some v => exact kPure_eq _ _
theorem u2_run (x y : Operand) (f : Value → Value → Option Value) (call : Call1) (env : Env) (st : St) : (u2 (cOpd x) (cOpd y) f).run call env st = match eOpd env x, eOpd env y with
    | some a, some b => (match f a b with
      | some r => some (r, st)
      | none => none)
    | _, _ => none := by
  rw [← cOpd_get x, ← cOpd_get y]
  generalize cOpd x = d
  generalize cOpd y = e
  cases d with
  | mk g => cases e with
    | mk h =>
      show k2 f (g env) (h env) st = (match g env, h env with
    | some a, some b => (match f a b with
      | some r => some (r, st)
      | none => none)
    | _, _ => none)
      cases g env with
      | none => cases h env <;> rfl
      | some a => cases h env with
        | none => rfl
        | some b => exact kPure_eq _ _

noncomputable def cPure (T : Tr TI) (op : Op) : OC :=
  match op with
  | .move x => u1 (cOpd x) some
  | .assign x => u1 (cOpd x) some
  | .nilCheck x => u1 (cOpd x) (fun v => vNil v v (eNil T v))
  | .binOp op _ x y _ => match cBin op with
    | ⟨f⟩ => u2 (cOpd x) (cOpd y) f
  | .unOp op _ x => u1 (cOpd x) (eUn op)
  | .convert s d x => match T.get s, T.get d with
    | some _, some ti => match cConv ti.d with
      | ⟨f⟩ => u1 (cOpd x) f
    | _, _ => bad
  | .fieldAddr t x f => match T.get t with
    | some ti => match cFieldAddr ti.d f with
      | ⟨g⟩ => u1 (cOpd x) g
    | none => bad
  | .field t x f => match T.get t with
    | some ti => u1 (cOpd x) (fun v => eField T ti.d v f)
    | none => bad
  | .indexAddr t x i => match T.get t with
    | some ti => match cIndexAddr ti.d with
      | ⟨g⟩ => u2 (cOpd x) (cOpd i) g
    | none => bad
  | .index t x i => match T.get t with
    | some ti => u2 (cOpd x) (cOpd i) (eIndex T ti.d)
    | none => bad
  | .extract x i => match cExtr i with
    | ⟨g⟩ => u1 (cOpd x) g
  | op => ⟨fun _ env st => kPure (ePure T env op) st⟩
theorem cPure_run (T : Tr TI) (op : Op) (call : Call1) (env : Env) (st : St) : (cPure T op).run call env st = match ePure T env op with
    | some v => some (v, st)
    | none => none := by
  cases op
  case move x => simp only [cPure, ePure, u1_run]; try (cases eOpd env x <;> rfl)
  case assign x => simp only [cPure, ePure, u1_run]; try (cases eOpd env x <;> rfl)
  case nilCheck x => simp only [cPure, ePure, u1_run, vNil_eq]; try (cases eOpd env x <;> rfl)
  case binOp o t x y r =>
    simp only [cPure, ePure]
    have hb := cBin_eq o
    generalize cBin o = q at hb
    cases q with
    | mk f =>
      have hb : ∀ x y, f x y = eBin o x y := hb
      simp only [u2_run, hb]
      cases eOpd env x <;> cases eOpd env y <;> rfl
  case unOp o t x => simp only [cPure, ePure, u1_run]; try (cases eOpd env x <;> rfl)
  case convert s d x =>
    simp only [cPure, ePure]
    cases T.get s with
    | none => cases T.get d <;> cases eOpd env x <;> rfl
    | some si => cases T.get d with
      | none => cases eOpd env x <;> rfl
      | some di =>
        have hb := cConv_eq di.d
        simp only
        generalize cConv di.d = q at hb
        cases q with
        | mk f =>
          have hb : ∀ v, f v = eConvInt di.d v := hb
          simp only [u1_run, hb]; cases eOpd env x <;> rfl
  case fieldAddr t x f =>
    simp only [cPure, ePure]
    cases T.get t with
    | none => cases eOpd env x <;> rfl
    | some ti =>
      have hb := cFieldAddr_eq ti.d f
      simp only
      generalize cFieldAddr ti.d f = q at hb
      cases q with
      | mk g =>
        have hb : ∀ v, g v = eFieldAddr ti.d v f := hb
        simp only [u1_run, hb]; cases eOpd env x <;> rfl
  case field t x f =>
    simp only [cPure, ePure]
    cases T.get t with
    | none => cases eOpd env x <;> rfl
    | some ti => simp only [u1_run]; cases eOpd env x <;> rfl
  case indexAddr t x i =>
    simp only [cPure, ePure]
    cases T.get t with
    | none => cases eOpd env x <;> cases eOpd env i <;> rfl
    | some ti =>
      have hb := cIndexAddr_eq ti.d
      simp only
      generalize cIndexAddr ti.d = q at hb
      cases q with
      | mk g =>
        have hb : ∀ v w, g v w = eIndexAddr ti.d v w := hb
        simp only [u2_run, hb]; cases eOpd env x <;> cases eOpd env i <;> rfl
  case index t x i =>
    simp only [cPure, ePure]
    cases T.get t with
    | none => cases eOpd env x <;> cases eOpd env i <;> rfl
    | some ti => simp only [u2_run]; cases eOpd env x <;> cases eOpd env i <;> rfl
  case extract x i =>
    simp only [cPure, ePure]
    have hb := cExtr_eq i
    generalize cExtr i = q at hb
    cases q with
    | mk g =>
      have hb : ∀ v, g v = eExtr v i := hb
      simp only [u1_run, hb]; cases eOpd env x <;> rfl
  all_goals (simp only [cPure]; exact kPure_eq _ _)

/-! Reading. -/
noncomputable def k1s (f : Value → St → Option Value) (x : Option Value) (st : St) : RV :=
  @Option.rec Value (fun _ => (Value → St → Option Value) → St → RV) (fun _ _ => none) (fun v f st => kPure (f v st) st) x f st
noncomputable def k2sb (f : Value → Value → St → Option Value) (a : Value) (y : Option Value) (st : St) : RV :=
  @Option.rec Value (fun _ => (Value → Value → St → Option Value) → Value → St → RV) (fun _ _ _ => none) (fun b f a st => kPure (f a b st) st) y f a st
noncomputable def k2s (f : Value → Value → St → Option Value) (x y : Option Value) (st : St) : RV :=
  @Option.rec Value (fun _ => (Value → Value → St → Option Value) → Option Value → St → RV) (fun _ _ _ => none) (fun a f y st => k2sb f a y st) x f y st
noncomputable def u1s (d : DC) (f : Value → St → Option Value) : OC :=
  match d with
  | ⟨g⟩ => ⟨fun _ env st => k1s f (g env) st⟩
noncomputable def u2s (d e : DC) (f : Value → Value → St → Option Value) : OC :=
  match d, e with
  | ⟨g⟩, ⟨h⟩ => ⟨fun _ env st => k2s f (g env) (h env) st⟩
theorem u1s_run (x : Operand) (f : Value → St → Option Value) (call : Call1) (env : Env) (st : St) : (u1s (cOpd x) f).run call env st = match eOpd env x with
    | some v => (match f v st with
      | some r => some (r, st)
      | none => none)
    | none => none := by
  rw [← cOpd_get]
  generalize cOpd x = d
  cases d with
  | mk g =>
    show k1s f (g env) st = (match g env with
    | some v => (match f v st with
      | some r => some (r, st)
      | none => none)
    | none => none)
    cases g env with
    | none => rfl
    | some v => exact kPure_eq _ _
theorem u2s_run (x y : Operand) (f : Value → Value → St → Option Value) (call : Call1) (env : Env) (st : St) : (u2s (cOpd x) (cOpd y) f).run call env st = match eOpd env x, eOpd env y with
    | some a, some b => (match f a b st with
      | some r => some (r, st)
      | none => none)
    | _, _ => none := by
  rw [← cOpd_get x, ← cOpd_get y]
  generalize cOpd x = d
  generalize cOpd y = e
  cases d with
  | mk g => cases e with
    | mk h =>
      show k2s f (g env) (h env) st = (match g env, h env with
    | some a, some b => (match f a b st with
      | some r => some (r, st)
      | none => none)
    | _, _ => none)
      cases g env with
      | none => cases h env <;> rfl
      | some a => cases h env with
        | none => rfl
        | some b => exact kPure_eq _ _
/-- Operators that read memory. -/
noncomputable def eqSlow (T : Tr TI) (op : BinOp) (t : TypeId) (xc : Bool) (a b : Value) (st : St) : Option Value :=
  match a, b with
  | .int k a, .int k' b => eBin op (.int k a) (.int k' b)
  | .string a, .string b => eStr op a b
  | .agg a, .agg b => match eEqAgg t a.toList b.toList with
    | some r => match op with
      | .eql => some (.bool r)
      | .neq => some (.bool (eNot r))
      | _ => none
    | none => none
  | a, b => match T.get t with
    | some ti => match eEq T ti.d st xc a b with
      | some r => match op with
        | .eql => some (.bool r)
        | .neq => some (.bool (eNot r))
        | _ => none
      | none => none
    | none => none
noncomputable def eqFast (T : Tr TI) (op : BinOp) (f : Value → Value → OV) (t : TypeId) (xc : Bool) (a b : Value) (st : St) : Option Value :=
  @Value.rec (fun _ => (Value → Value → OV) → Value → OV → OV) (fun _ => PUnit) (fun _ => PUnit)
    (fun _ _ _ d => d) (fun k a f b d => @Value.rec (fun _ => (Value → Value → OV) → IntKind → Int → OV → OV) (fun _ => PUnit) (fun _ => PUnit)
      (fun _ _ _ _ d => d) (fun k' b f k a d => f (.int k a) (.int k' b))
      (fun _ _ _ _ _ d => d) (fun _ _ _ _ _ _ d => d) (fun _ _ _ _ d => d) (fun _ _ _ _ d => d) (fun _ _ _ _ _ _ d => d) (fun _ _ _ _ d => d) (fun _ _ _ _ d => d) (fun _ _ _ _ _ _ _ _ d => d) (fun _ _ _ d => d) (fun _ _ _ _ _ _ d => d) (fun _ _ _ d => d) (fun _ _ _ _ _ d => d) (fun _ _ _ _ _ d => d)
      (fun _ _ => PUnit.unit) PUnit.unit (fun _ _ _ _ => PUnit.unit) b f k a d)
    (fun _ _ _ _ d => d) (fun _ _ _ _ _ d => d) (fun _ _ _ d => d) (fun _ _ _ d => d) (fun _ _ _ _ _ d => d) (fun _ _ _ d => d) (fun _ _ _ d => d) (fun _ _ _ _ _ _ _ d => d) (fun _ _ d => d) (fun _ _ _ _ _ d => d) (fun _ _ d => d) (fun _ _ _ _ d => d) (fun _ _ _ _ d => d)
    (fun _ _ => PUnit.unit) PUnit.unit (fun _ _ _ _ => PUnit.unit) a f b (eqSlow T op t xc a b st)
theorem eqFast_eq (T : Tr TI) (op : BinOp) {f : Value → Value → OV} (hf : ∀ x y, f x y = eBin op x y) (t : TypeId) (xc : Bool) (a b : Value) (st : St) : eqFast T op f t xc a b st = eqSlow T op t xc a b st := by
  cases a
  case int k a =>
    cases b
    case int k' b => exact hf _ _
    all_goals rfl
  all_goals rfl
noncomputable def cRead (T : Tr TI) (op : Op) : OC :=
  match op with
  | .load t x => match T.get t with
    | some ti => match cLoad ti with
      | ⟨f⟩ => u1s (cOpd x) f
    | none => bad
  | .binOp op t x y _ => match cBin op with
    | ⟨f⟩ => u2s (cOpd x) (cOpd y) (eqFast T op f t (match isConstB x with | true => true | false => isConstB y))
  | .call c => match c.callee, c.args.toList, c.argTypes.toList with
    | .builtin .len, [x], t :: _ => match T.get t with
      | some ti => match cLen ti.d with
        | ⟨f⟩ => u1s (cOpd x) f
      | none => bad
    | _, _, _ => bad
  | op => ⟨fun _ env st => kPure (eRead T env op st) st⟩
theorem cRead_run (T : Tr TI) (op : Op) (call : Call1) (env : Env) (st : St) : (cRead T op).run call env st = match eRead T env op st with
    | some v => some (v, st)
    | none => none := by
  cases op
  case load t x =>
    simp only [cRead, eRead]
    cases T.get t with
    | none => cases eOpd env x <;> rfl
    | some ti =>
      have hb := cLoad_eq ti
      simp only
      generalize cLoad ti = q at hb
      cases q with
      | mk g =>
        have hb : ∀ v st, g v st = eLoad ti v st := hb
        simp only [u1s_run, hb]; cases eOpd env x <;> rfl
  case binOp o t x y r =>
    simp only [cRead, eRead]
    have hb := cBin_eq o
    generalize cBin o = q at hb
    cases q with
    | mk f =>
      have hb : ∀ x y, f x y = eBin o x y := hb
      simp only [u2s_run]
      cases hx : eOpd env x with
      | none => cases eOpd env y <;> rfl
      | some a => cases hy : eOpd env y with
        | none => cases a <;> rfl
        | some b =>
          simp only [eqFast_eq T o hb]
          cases a <;> cases b <;> rfl
  case call c =>
    simp only [cRead, eRead]
    generalize c.callee = ca
    generalize c.args.toList = ar
    generalize c.argTypes.toList = ty
    have hb : bad.run call env st = none := rfl
    cases ca with
    | value f => rfl
    | invoke r m => rfl
    | builtin b =>
      cases b
      case len =>
        cases ar with
        | nil => rfl
        | cons x l => cases l with
          | cons y l => rfl
          | nil => cases ty with
            | nil => rfl
            | cons t l =>
              cases hT : T.get t with
              | none => simp only [hT]; cases eOpd env x <;> rfl
              | some ti =>
                have hq := cLen_eq ti.d
                simp only [hT]
                generalize cLen ti.d = q at hq
                cases q with
                | mk g =>
                  have hq : ∀ v st, g v st = eLen ti.d v st := hq
                  simp only [u1s_run, hq]; cases eOpd env x <;> rfl
      all_goals rfl
  all_goals (simp only [cRead]; exact kPure_eq _ _)

/-! New blocks. -/
noncomputable def kFresh (x : Option Fresh) (st : St) : RV := @Option.rec Fresh (fun _ => St → RV) (fun _ => none) (fun fr st => some (fr.val st.nx, st.new fr.obj)) x st
theorem kFresh_eq (x : Option Fresh) (st : St) : kFresh x st = match x with
    | some fr => some (fr.val st.nx, st.new fr.obj)
    | none => none := by cases x <;> rfl
noncomputable def kBox (t : TypeId) (x : Option Value) (st : St) : RV := @Option.rec Value (fun _ => TypeId → St → RV) (fun _ _ => none) (fun v t st => kFresh (eVar t v) st) x t st
noncomputable def cFresh (T : Tr TI) (op : Op) : OC :=
  match op with
  | .alloc t => match T.get t with
    | some ti => ⟨fun _ _ st => kFresh (eVar t ti.zero) st⟩
    | none => bad
  | .box t x => match cOpd x with
    | ⟨g⟩ => ⟨fun _ env st => kBox t (g env) st⟩
  | op => ⟨fun _ env st => kFresh (eFresh T env op) st⟩
theorem cFresh_run (T : Tr TI) (op : Op) (call : Call1) (env : Env) (st : St) : (cFresh T op).run call env st = match eFresh T env op with
    | some fr => some (fr.val st.nx, st.new fr.obj)
    | none => none := by
  cases op
  case alloc t =>
    simp only [cFresh, eFresh]
    cases T.get t with
    | none => rfl
    | some ti => exact kFresh_eq (eVar t ti.zero) st
  case box t x =>
    simp only [cFresh, eFresh]
    rw [← cOpd_get]
    generalize cOpd x = d
    cases d with
    | mk g =>
      show kBox t (g env) st = (match (match g env with
        | some v => eVar t v
        | none => none) with
    | some fr => some (fr.val st.nx, st.new fr.obj)
    | none => none)
      cases g env with
      | none => rfl
      | some v => exact kFresh_eq (eVar t v) st
  all_goals (simp only [cFresh]; exact kFresh_eq _ _)

/-! Changes and calls. -/
noncomputable def cOpds (l : List Operand) : LC :=
  @List.rec Operand (fun _ => LC) ⟨fun _ => some []⟩ (fun x _ ih => match cOpd x, ih with
    | ⟨g⟩, ⟨h⟩ => ⟨fun env => @Option.rec Value (fun _ => Option (List Value) → Option (List Value)) (fun _ => none) (fun v y => @Option.rec (List Value) (fun _ => Value → Option (List Value)) (fun _ => none) (fun vs v => some (v :: vs)) y v) (g env) (h env)⟩) l
theorem cOpds_get (env : Env) : ∀ l : List Operand, (cOpds l).get env = eOpds env l
  | [] => rfl
  | x :: l => by
    have ih := cOpds_get env l
    have h1 := cOpd_get x env
    show (match cOpd x, cOpds l with
      | ⟨g⟩, ⟨h⟩ => (⟨fun env => @Option.rec Value (fun _ => Option (List Value) → Option (List Value)) (fun _ => none) (fun v y => @Option.rec (List Value) (fun _ => Value → Option (List Value)) (fun _ => none) (fun vs v => some (v :: vs)) y v) (g env) (h env)⟩ : LC)).get env = (match eOpd env x with
      | some v => match eOpds env l with
        | some vs => some (v :: vs)
        | none => none
      | none => none)
    rw [← ih, ← h1]
    generalize cOpd x = d
    generalize cOpds l = e
    cases d with
    | mk g => cases e with
      | mk h =>
        show @Option.rec Value (fun _ => Option (List Value) → Option (List Value)) (fun _ => none) (fun v y => @Option.rec (List Value) (fun _ => Value → Option (List Value)) (fun _ => none) (fun vs v => some (v :: vs)) y v) (g env) (h env) = (match g env with
      | some v => match h env with
        | some vs => some (v :: vs)
        | none => none
      | none => none)
        cases g env with
        | none => rfl
        | some v => cases h env <;> rfl
noncomputable def kCall (g : FuncId) (x : Option (List Value)) (call : Call1) (st : St) : RV := @Option.rec (List Value) (fun _ => FuncId → Call1 → St → RV) (fun _ _ _ => none) (fun l g call st => call (.fn g) l st) x g call st
noncomputable def kSt (x : Option St) : RV := @Option.rec St (fun _ => RV) none (fun st => some (undefV, st)) x
noncomputable def kStoreB (f : Value → Value → St → Option St) (a : Value) (y : Option Value) (st : St) : RV := @Option.rec Value (fun _ => (Value → Value → St → Option St) → Value → St → RV) (fun _ _ _ => none) (fun b f a st => kSt (f a b st)) y f a st
noncomputable def kStore (f : Value → Value → St → Option St) (x y : Option Value) (st : St) : RV := @Option.rec Value (fun _ => (Value → Value → St → Option St) → Option Value → St → RV) (fun _ _ _ => none) (fun a f y st => kStoreB f a y st) x f y st
noncomputable def cAct (T : Tr TI) (o : Oper) : OC :=
  match o.op with
  | .store t x v => match T.get t, cOpd x, cOpd v with
    | some ti, ⟨g⟩, ⟨h⟩ => match cStore ti with
      | ⟨f⟩ => ⟨fun _ env st => kStore f (g env) (h env) st⟩
    | none, _, _ => bad
  | .call c => match c.callee with
    | .value (.func g) => match cOpds c.args.toList with
      | ⟨h⟩ => ⟨fun call env st => kCall g (h env) call st⟩
    | _ => ⟨fun call env st => eAct T call env o st⟩
  | _ => ⟨fun call env st => eAct T call env o st⟩
theorem cAct_run (T : Tr TI) (o : Oper) (call : Call1) (env : Env) (st : St) : (cAct T o).run call env st = eAct T call env o st := by
  unfold cAct
  split
  · rename_i t x v ho
    rw [eAct, ho]
    simp only [eEff]
    rw [← cOpd_get x, ← cOpd_get v]
    generalize cOpd x = d
    generalize cOpd v = e
    cases d with
    | mk g => cases e with
      | mk h =>
        cases T.get t with
        | none => cases hg : g env <;> cases hh : h env <;> rfl
        | some ti =>
          have hb := cStore_eq ti
          simp only
          generalize cStore ti = q at hb
          cases q with
          | mk f =>
          have hb : ∀ x v st, f x v st = eStore ti x v st := hb
          have key : ∀ x y : Option Value, kStore f x y st = (match some ti, x, y with
            | some ti, some a, some b => (match eStore ti a b st with
              | some st' => some (undefV, st')
              | none => none)
            | _, _, _ => none) := by
            intro x y
            cases x with
            | none => cases y <;> rfl
            | some a => cases y with
              | none => rfl
              | some b =>
                show kSt (f a b st) = (match eStore ti a b st with
                  | some st' => some (undefV, st')
                  | none => none)
                rw [hb]
                cases eStore ti a b st <;> rfl
          exact key (g env) (h env)
  · rename_i c ho
    split
    · rename_i g hc
      rw [eAct, ho]
      show _ = (match c.callee with
        | .builtin _ => eEff T env (.call c) st
        | _ => match eCallee T env c with
          | some (g, args) => call g args st
          | none => none)
      rw [hc]
      show _ = (match eCallee T env c with
          | some (g, args) => call g args st
          | none => none)
      unfold eCallee
      rw [← cOpds_get, hc]
      generalize cOpds c.args.toList = e
      cases e with
      | mk h =>
        show kCall g (h env) call st = _
        cases hh : h env with
        | none => simp only [hh]; rfl
        | some l =>
          simp only [hh, eOpd]
          show call (.fn g) l st = call (.fn g) ([] ++ (l ++ [])) st
          rw [List.append_nil, List.nil_append]
    · rfl
  · rfl

noncomputable def cOper (T : Tr TI) (o : Oper) : OC :=
  match classOf T o.op with
  | 0 => cPure T o.op
  | 1 => cRead T o.op
  | 2 => cFresh T o.op
  | _ => cAct T o
theorem cOper_run (T : Tr TI) (o : Oper) (call : Call1) (env : Env) (st : St) : (cOper T o).run call env st = eOper T call env o st := by
  unfold cOper eOper
  generalize classOf T o.op = k
  match k with
  | 0 => exact cPure_run T o.op call env st
  | 1 => exact cRead_run T o.op call env st
  | 2 => exact cFresh_run T o.op call env st
  | n + 3 => exact cAct_run T o call env st
end Go.Proofs.YtegfafebbnlicaaGreatDoor.Ev
