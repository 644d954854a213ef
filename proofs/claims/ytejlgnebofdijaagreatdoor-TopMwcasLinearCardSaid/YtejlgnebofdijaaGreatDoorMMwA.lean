/-
  The small functions of the package mwcas: valid, count, at, outside, possible, satisfied, after, Value, succeeded.
  read, all of the package mwcas.
  read of the package mwcas, of a descriptor that is decided.
-/
import Derived.Test.YtejlgnebofdijaaGreatDoorMMemA
namespace Go.Proofs.YtejlgnebofdijaaGreatDoor.Dv
open Go.RowKit
set_option linter.unusedVariables false

/-- The region of lines 0 to Lr - 1 of a device of S bytes. -/
def rgn (Lr S : Nat) : Value := .agg #[.int .i64 0, .int .i64 Lr, .int .u64 S]
def ent (off old new : Nat) : Value := .agg #[u64 off, u64 old, u64 new, .bool false]

theorem rvalid_any {w : World} {Lr S : Nat} (h1 : 4 ≤ Lr) (h2 : Lr * 64 ≤ S) (h3 : S ≤ 1000000) :
    Calls Tryz.prog 17 #[rgn Lr S] w fun e w' => e = .returned (.bool true) ∧ Below w.heap.size w w' := by
  have b1 : (4 : Int) ≤ Lr := by omega
  have b2 : (Lr : Int) * 64 ≤ S := by omega
  have b3 : (S : Int) ≤ 1000000 := by omega
  have d1 : decide ((0 : Int) ≤ 0) = true := by decide
  have d2 : decide ((4 : Int) ≤ Lr) = true := decide_eq_true b1
  have d3 : decide ((0 : Int) ≤ (S : Int) / 64) = true := decide_eq_true (by omega)
  have d4 : decide ((Lr : Int) ≤ (S : Int) / 64) = true := decide_eq_true (by omega)
  have d5 : decide (4 ≤ Lr) = true := decide_eq_true h1
  have b5 : (Lr : Int) ≤ (S : Int) / 64 := by omega
  have b6 : (0 : Int) ≤ (S : Int) / 64 := by omega
  unfold rgn
  go_enter Tryz.func17, Tryz.ntmps17
  go_wp2_with fail
  go_returns
  exact ⟨rfl, below_alloc (Below.refl _ _)⟩

theorem count_any {w : World} {Lr S : Nat} (h1 : Lr ≤ 1000000) :
    Calls Tryz.prog 18 #[rgn Lr S] w fun e w' => e = .returned (i64 (Lr / 4)) ∧ Below w.heap.size w w' := by
  have b1 : (Lr : Int) ≤ 1000000 := by omega
  have e : ((Lr / 4 : Nat) : Int) = (Lr : Int) / 4 := by omega
  unfold rgn i64
  rw [e]
  clear e
  go_enter Tryz.func18, Tryz.ntmps18
  go_wp2_with fail
  go_returns
  exact ⟨rfl, below_alloc (Below.refl _ _)⟩

theorem at_any {w : World} {Lr S k : Nat} (h1 : k ≤ 1000000) :
    Calls Tryz.prog 19 #[rgn Lr S, i64 k] w fun e w' => e = .returned (u64 (256 * k)) ∧ Below w.heap.size w w' := by
  have b1 : (k : Int) ≤ 1000000 := by omega
  have e : ((256 * k : Nat) : Int) = (k : Int) * 4 * 64 := by omega
  unfold rgn i64 u64
  rw [e]
  clear e
  go_enter Tryz.func19, Tryz.ntmps19
  go_wp2_with fail
  go_returns
  refine ⟨?_, below_alloc (Below.refl _ _)⟩
  simp

theorem outside_any {w : World} {Lr S off : Nat} (h1 : off % 8 = 0) (h2 : off < S) (h3 : Lr * 64 ≤ off) (h4 : S ≤ 1000000) :
    Calls Tryz.prog 59 #[rgn Lr S, u64 off] w fun e w' => e = .returned (.bool true) ∧ Below w.heap.size w w' := by
  have b1 : (off : Int) < S := by omega
  have b2 : (S : Int) ≤ 1000000 := by omega
  have d1 : ((off : Int) % 8 != 0) = false := by simp; omega
  have d2 : decide ((S : Int) ≤ off) = false := decide_eq_false (by omega)
  have d2' : decide (S ≤ off) = false := decide_eq_false (by omega)
  have b3 : ¬ (S : Int) ≤ off := by omega
  have b4 : (Lr : Int) ≤ (off : Int) / 64 := by omega
  have d3 : decide ((off : Int) / 64 < 0) = false := decide_eq_false (by omega)
  have d4 : decide ((Lr : Int) ≤ (off : Int) / 64) = true := decide_eq_true b4
  have d5 : decide ((Lr : Int) ≤ (off : Int) / 64 - 0) = true := decide_eq_true (by omega)
  have b5 : ¬ (off : Int) / 64 < 0 := by omega
  unfold rgn u64
  go_enter Tryz.func59, Tryz.ntmps59
  go_wp2_with fail
  go_returns
  refine ⟨?_, below_alloc (Below.refl _ _)⟩
  simp

theorem possible_any {w : World} {off old new : Nat} (h1 : old < 1099511627776) (h2 : new < 1099511627776) :
    Calls Tryz.prog 62 #[ent off old new] w fun e w' => e = .returned (.bool true) ∧ Below w.heap.size w w' := by
  have b1 : (old : Int) < 1099511627776 := by omega
  have b2 : ¬ (1099511627776 : Int) ≤ new := by omega
  have d1 : decide ((old : Int) < 1099511627776) = true := decide_eq_true b1
  have d2 : decide ((1099511627776 : Int) ≤ new) = false := decide_eq_false b2
  unfold ent u64
  go_enter Tryz.func62, Tryz.ntmps62
  go_wp2_with fail
  go_returns
  exact ⟨rfl, below_alloc (Below.refl _ _)⟩

theorem and40 (x : Nat) : x &&& 1099511627775 = x % 1099511627776 := Nat.and_two_pow_sub_one_eq_mod x 40
theorem and22 (x : Nat) : x &&& 4194303 = x % 4194304 := Nat.and_two_pow_sub_one_eq_mod x 22

theorem satisfied_any {w : World} {off old new raw : Nat} (hr : raw < 18446744073709551616) (b : Bool) (hb : b = decide (raw % 1099511627776 = old)) :
    Calls Tryz.prog 180 #[ent off old new, u64 raw] w fun e w' => e = .returned (.bool b) ∧ Below w.heap.size w w' := by
  have e1 := u64_and_nat raw 1099511627775 hr (by omega)
  rw [and40] at e1
  obtain ⟨r, hrr⟩ : ∃ r, r = raw % 1099511627776 := ⟨_, rfl⟩
  rw [← hrr] at e1 hb
  have e2 : ((r : Int) == (old : Int)) = b := by
    rw [hb, Bool.eq_iff_iff]
    simp
    omega
  have q3 : ((1099511627775 : Nat) : Int) = 1099511627775 := rfl
  rw [q3] at e1
  clear hrr hb q3
  unfold ent u64
  go_enter Tryz.func180, Tryz.ntmps180
  go_wp2_with fail
  go_returns
  refine ⟨?_, below_alloc (Below.refl _ _)⟩
  simp

/-- The raw word that follows raw. -/
def aft (new raw : Nat) : Nat := new + (raw / 1099511627776 + 1) % 4194304 * 1099511627776
theorem aft_lt {new raw : Nat} (h : new < 1099511627776) : aft new raw < 4611686018427387904 := by unfold aft; omega
theorem aft_mod {new raw : Nat} (h : new < 1099511627776) : aft new raw % 1099511627776 = new := by unfold aft; omega

theorem after_any {w : World} {off old new raw : Nat} (hn : new < 1099511627776) (hr : raw < 18446744073709551616) :
    Calls Tryz.prog 182 #[ent off old new, u64 raw] w fun e w' => e = .returned (u64 (aft new raw)) ∧ Below w.heap.size w w' := by
  obtain ⟨q, hq⟩ : ∃ q, q = raw / 1099511627776 := ⟨_, rfl⟩
  have hq2 : q < 16777216 := by omega
  have e0 : (raw : Int) / 1099511627776 = (q : Int) := by omega
  have e1 := u64_and_nat (q + 1) 4194303 (by omega) (by omega)
  rw [and22] at e1
  obtain ⟨c, hc⟩ : ∃ c, c = (q + 1) % 4194304 := ⟨_, rfl⟩
  have hc2 : c < 4194304 := by omega
  have e2 := u64_or_nat new (c * 1099511627776) (by omega) (by omega)
  rw [Nat.or_comm, nat_join 40 (c * 1099511627776) new (by omega) (by omega), Nat.add_comm] at e2
  have e3 : new + c * 1099511627776 = aft new raw := by unfold aft; rw [hc, hq]
  rw [e3] at e2
  rw [← hc] at e1
  have q1 : ((q + 1 : Nat) : Int) = (q : Int) + 1 := rfl
  have q2 : ((4194303 : Nat) : Int) = 4194303 := rfl
  have q3 : ((c * 1099511627776 : Nat) : Int) = (c : Int) * 1099511627776 := by omega
  rw [q1, q2] at e1
  rw [q3] at e2
  have b1 : (raw : Int) < 18446744073709551616 := by omega
  have b2 : (q : Int) < 16777216 := by omega
  have b3 : (c : Int) < 4194304 := by omega
  generalize aft new raw = Z at *
  clear hq hc q1 q2 q3 e3
  unfold ent u64
  go_enter Tryz.func182, Tryz.ntmps182
  go_wp2_with fail
  go_returns
  exact ⟨rfl, below_alloc (Below.refl _ _)⟩

theorem and63 {x : Nat} (h : x < 9223372036854775808) : x &&& 9223372036854775808 = 0 := by
  apply Nat.eq_of_testBit_eq
  intro i
  rw [Nat.testBit_and, Nat.zero_testBit]
  by_cases e : i = 63
  · subst e
    rw [Nat.testBit_lt_two_pow (show x < 2 ^ 63 from h)]; rfl
  · have : (9223372036854775808 : Nat).testBit i = false := by
      rw [show (9223372036854775808 : Nat) = 2 ^ 63 from rfl, Nat.testBit_two_pow]
      simp; omega
    rw [this, Bool.and_false]

theorem value_any {w : World} {raw : Nat} (hr : raw < 9223372036854775808) :
    Calls Tryz.prog 12 #[u64 raw] w fun e w' => e = .returned (.tuple #[u64 (raw % 1099511627776), .bool true]) ∧ w = w' := by
  have e1 := u64_and_nat raw 9223372036854775808 (by omega) (by omega)
  rw [and63 hr] at e1
  have e2 := u64_and_nat raw 1099511627775 (by omega) (by omega)
  rw [and40] at e2
  generalize raw % 1099511627776 = r at *
  have q1 : ((9223372036854775808 : Nat) : Int) = 9223372036854775808 := rfl
  have q2 : ((1099511627775 : Nat) : Int) = 1099511627775 := rfl
  have q3 : ((0 : Nat) : Int) = 0 := rfl
  rw [q1, q3] at e1
  rw [q2] at e2
  clear q1 q2 q3
  unfold u64
  go_enter Tryz.func12, Tryz.ntmps12
  go_wp2_with fail
  go_returns
  exact ⟨rfl, rfl⟩

/-- The status of a descriptor that is decided. -/
def sst (n c : Nat) : Nat := 1836515331 + 256 * n + c * 4294967296
theorem sst_or {n c : Nat} (hn : n ≤ 6) (hc : c < 4294967296) : ((3 ||| n * 256) ||| 1836515328) ||| c * 4294967296 = sst n c := by
  have e1 : 3 ||| n * 256 = 3 + n * 256 := by
    rw [Nat.or_comm, nat_join 8 (n * 256) 3 (by omega) (by omega), Nat.add_comm]
  have e2 : (3 + n * 256) ||| 1836515328 = 1836515331 + 256 * n := by
    rw [Nat.or_comm, nat_join 16 1836515328 (3 + n * 256) (by omega) (by omega)]
    omega
  rw [e1, e2, Nat.or_comm, nat_join 32 (c * 4294967296) (1836515331 + 256 * n) (by omega) (by omega)]
  unfold sst
  omega

theorem succeeded_any {w : World} {T : Nat → Nat} (hT : NTab w T) {b o c : Nat} {l : List Nat} (hs : Seen w b o (l.map u64)) (hl : ∀ x ∈ l, x < 18446744073709551616) (hn : l.length ≤ 18) :
    Calls Tryz.prog 78 #[.slice (some ⟨b, o, none⟩) l.length c] w fun e w' => e = .returned (u64 (sst (l.length / 3) (crcW T l))) ∧ w = w' := by
  have HW := Lib.hid (words_any (c := c) hT hs hl (by omega))
  have hC := crcW_lt hT l
  obtain ⟨C, hCC⟩ : ∃ C, C = crcW T l := ⟨_, rfl⟩
  rw [← hCC] at HW hC ⊢
  obtain ⟨n, hnn⟩ : ∃ n, n = l.length / 3 := ⟨_, rfl⟩
  rw [← hnn]
  have e0 : (l.length : Int) / 3 = (n : Int) := by omega
  have hn6 : n ≤ 6 := by omega
  have e1 := u64_or_nat 3 (n * 256) (by omega) (by omega)
  have e2 := u64_or_nat (3 ||| n * 256) 1836515328 (Nat.or_lt_two_pow (n := 64) (by omega) (by omega)) (by omega)
  have e3 := u64_or_nat ((3 ||| n * 256) ||| 1836515328) (C * 4294967296) (Nat.or_lt_two_pow (n := 64) (Nat.or_lt_two_pow (n := 64) (by omega) (by omega)) (by omega)) (by omega)
  rw [sst_or hn6 hC] at e3
  generalize sst n C = Z at *
  generalize (3 ||| n * 256) ||| 1836515328 = Y at *
  generalize 3 ||| n * 256 = X at *
  have q1 : ((n * 256 : Nat) : Int) = (n : Int) * 256 := by omega
  have q2 : ((C * 4294967296 : Nat) : Int) = (C : Int) * 4294967296 := by rw [Int.natCast_mul]; rfl
  have q3 : ((1836515328 : Nat) : Int) = 1836515328 := rfl
  have q4 : ((3 : Nat) : Int) = 3 := rfl
  rw [q1, q4] at e1
  rw [q3] at e2
  rw [q2] at e3
  have b1 : (n : Int) ≤ 6 := by omega
  have b2 : (C : Int) < 4294967296 := by omega
  have b3 : (l.length : Int) ≤ 18 := by omega
  clear q1 q2 q3 q4 hCC hnn hT hs hl
  unfold u64
  go_enter Tryz.func78, Tryz.ntmps78
  go_wp2_with fail
  refine HW.out.mono ?_
  rintro e w' ⟨rfl, rfl⟩
  go_wp2_with fail
  go_returns
  exact ⟨rfl, rfl⟩
end Go.Proofs.YtejlgnebofdijaaGreatDoor.Dv

namespace Go.Proofs.YtejlgnebofdijaaGreatDoor.Dv
open Go.RowKit
set_option linter.unusedVariables false

/-- The function value loads words: the word at off is val (off / 8), for words of a memory of S bytes. -/
structure Loads (w0 : World) (fn : Nat) (first cap : Array Value) (S : Nat) (val : Nat → Nat) : Prop where
  call : ∀ (args : Array Value) (w : World), (callFunc fn args).run Tryz.prog w = .ok (.enter fn args) w
  get : ∀ (w : World) (off : Nat), Below w0.heap.size w0 w → off % 8 = 0 → off < S → Calls Tryz.prog fn (first.push (u64 off) ++ cap) w fun e w' => e = .returned (u64 (val (off / 8))) ∧ w = w'
  lt : ∀ x, val x < 18446744073709551616
  small : S ≤ 1000000
theorem Loads.below {w w' : World} {fn : Nat} {first cap : Array Value} {S : Nat} {val : Nat → Nat} (h : Loads w fn first cap S val) (hb : Below w.heap.size w w') : Loads w' fn first cap S val :=
  { h with get := fun w1 off h1 h2 h3 => h.get w1 off (hb.trans (h1.mono hb.size)) h2 h3 }

def unusedW : Nat := 1836515329

theorem callFunc42 (args : Array Value) (w : World) : (callFunc 24 args).run Tryz.prog w = .ok (.enter 24 args) w := by kernel_rfl
theorem callFunc46 (args : Array Value) (w : World) : (callFunc 13 args).run Tryz.prog w = .ok (.enter 13 args) w := by kernel_rfl

set_option maxRecDepth 8000 in
theorem read_unused {w : World} {Lr S at0 fn : Nat} {first cap : Array Value} {val : Nat → Nat} (hl : Loads w fn first cap S val) (h8 : at0 % 8 = 0) (hS : at0 < S) (hv : val (at0 / 8) = unusedW) :
    Calls Tryz.prog 55 #[rgn Lr S, .func (.func fn) first cap, u64 at0] w fun e w' => e = .returned (.tuple #[.agg #[.int .u8 1, .slice none 0 0, .slice none 0 0], .bool true]) ∧ Below w.heap.size w w' := by
  have hcall := hl.call
  have hg := fun w' hb => hl.get w' at0 hb h8 hS
  rw [hv] at hg
  have HG := Lib.hid hg
  clear hl hg hv
  unfold rgn u64 at *
  go_enter Tryz.func55, Tryz.ntmps55
  go_wp2_with fail
  refine (HG.out _ (below_alloc (below_alloc (Below.refl _ _)))).mono ?_
  rintro e w' ⟨rfl, rfl⟩
  unfold unusedW
  go_wp2_with fail
  go_returns
  exact ⟨rfl, below_alloc (below_alloc (Below.refl _ _))⟩
end Go.Proofs.YtejlgnebofdijaaGreatDoor.Dv

namespace Go.Proofs.YtejlgnebofdijaaGreatDoor.Dv
open Go.RowKit
set_option linter.unusedVariables false

/-- Entries of a descriptor: offset, old value, new raw word. -/
abbrev En := Nat × Nat × Nat
def ewords (l : List En) : List Nat := l.flatMap (fun e => [e.1, e.2.1, e.2.2])
def ecells (l : List En) : List Value := l.flatMap (fun e => [u64 e.1, u64 e.2.1, u64 (e.2.2 % 1099511627776), .bool false])
def ewr (l : List En) : List (Nat × Nat) := l.map (fun e => (e.1, e.2.2))
def uc (l : List Nat) : List Value := l.map u64
theorem uc_snoc (l : List Nat) (x : Nat) : uc (l ++ [x]) = uc l ++ [u64 x] := by simp [uc]
theorem uc_length (l : List Nat) : (uc l).length = l.length := by simp [uc]
structure EsOk (Lr S : Nat) (l : List En) : Prop where
  n : 1 ≤ l.length ∧ l.length ≤ 6
  off : ∀ e ∈ l, e.1 % 8 = 0 ∧ Lr * 64 ≤ e.1 ∧ e.1 < S
  old : ∀ e ∈ l, e.2.1 < 1099511627776
  new : ∀ e ∈ l, e.2.2 < 4611686018427387904
  nd : (l.map (·.1)).Nodup

theorem ewords_length (l : List En) : (ewords l).length = 3 * l.length := by
  induction l with
  | nil => rfl
  | cons a l ih => simp [ewords] at *; omega
theorem ewords_get : ∀ {l : List En} {k : Nat} {e : En}, l[k]? = some e → (ewords l)[3 * k]? = some e.1 ∧ (ewords l)[3 * k + 1]? = some e.2.1 ∧ (ewords l)[3 * k + 2]? = some e.2.2
  | [], k, p, h => by simp at h
  | a :: l, 0, p, h => by simp at h; subst h; simp [ewords]
  | a :: l, k + 1, p, h => by
    have h' : l[k]? = some p := by simpa using h
    have := ewords_get h'
    rw [show 3 * (k + 1) = 3 * k + 3 by omega]
    simpa [ewords] using this
theorem ewords_lt {Lr S : Nat} {l : List En} (h : EsOk Lr S l) (hS : S ≤ 1000000) : ∀ x ∈ ewords l, x < 18446744073709551616 := by
  intro x hx
  obtain ⟨e, he, hx⟩ := List.mem_flatMap.1 hx
  have h1 := h.off e he
  have h2 := h.old e he
  have h3 := h.new e he
  simp at hx
  rcases hx with rfl | rfl | rfl <;> omega

theorem ecells_get : ∀ {l : List En} {k : Nat} {e : En}, l[k]? = some e → (ecells l)[4 * k]? = some (u64 e.1) ∧ (ecells l)[4 * k + 1]? = some (u64 e.2.1) ∧ (ecells l)[4 * k + 2]? = some (u64 (e.2.2 % 1099511627776)) ∧ (ecells l)[4 * k + 3]? = some (.bool false)
  | [], k, p, h => by simp at h
  | a :: l, 0, p, h => by simp at h; subst h; simp [ecells]
  | a :: l, k + 1, p, h => by
    have h' : l[k]? = some p := by simpa using h
    have := ecells_get h'
    rw [show 4 * (k + 1) = 4 * k + 4 by omega]
    simpa [ecells] using this
theorem ecells_snoc (l : List En) (e : En) : ecells (l ++ [e]) = ecells l ++ [u64 e.1, u64 e.2.1, u64 (e.2.2 % 1099511627776), .bool false] := by simp [ecells]
theorem wcells_snoc (l : List (Nat × Nat)) (p : Nat × Nat) : wcells (l ++ [p]) = wcells l ++ [u64 p.1, u64 p.2] := by simp [wcells]

theorem infoEntry : (Tryz.prog.info? 110).map (fun i => (i.zero, i.size, i.bytes)) = some (some (.agg #[.int .u64 0, .int .u64 0, .int .u64 0, .bool false]), 4, 32) := by kernel_rfl
theorem elEntries : El Tryz.prog 99 110 4 32 := El.of Tryz.underlying99 infoEntry rfl (by omega)

/-! ### the closure known -/
def KnRel (w : World) (n : Nat) (i : Value) (wr : World) : Prop := ∃ k : Nat, k ≤ n ∧ i = .int .i64 (k : Nat) ∧ Below w.heap.size w wr

set_option maxRecDepth 8000 in
theorem known_any {w : World} {d off : Nat} {ve : Value} {l : List En} {B : Nat} (hc : w.cell? ⟨d, 1, none⟩ = some ve) (ho : w.ownsRow B 110 4 ve l.length (ecells l)) (hl : l.length ≤ 6) (hne : ∀ e ∈ l, e.1 ≠ off) :
    Calls Tryz.prog 79 #[u64 off, ptr d] w fun e w' => e = .returned (.bool false) ∧ Below w.heap.size w w' := by
  obtain ⟨a, c, rfl⟩ := own_slice ho
  have HO := Lib.hid ho; have HN := Lib.hid hne
  have b1 : (l.length : Int) ≤ 6 := by omega
  clear ho hne
  unfold u64 ptr
  go_enter Tryz.func79, Tryz.ntmps79
  go_wp2_with fail
  go_loopw [5, 9] (fun _ i wr => KnRel w l.length i wr) (fun _ i _ => l.length - (intOf i).toNat)
  case atStart => exact ⟨0, by omega, rfl, Below.refl _ _⟩
  case round =>
    obtain ⟨k, hk, rfl, hbel⟩ := hrel
    by_cases hlt : k < l.length
    · have hlt2 : (k : Int) < l.length := by omega
      obtain ⟨g, rfl⟩ : ∃ g, a = some ⟨g, 0, none⟩ := by
        rcases HO.out.2 with ⟨_, e⟩ | ⟨g, cap, cur, e, _⟩
        · omega
        · simp only [Value.slice.injEq] at e; exact ⟨g, e.1⟩
      obtain ⟨x, hx⟩ : ∃ x, x = l[k] := ⟨_, rfl⟩
      have hg := ecells_get (l := l) (k := k) (e := x) (by rw [hx]; exact List.getElem?_eq_getElem hlt)
      have hxn := HN.out x (by rw [hx]; exact List.getElem_mem hlt)
      have hgl := (HO.out.lt g rfl).2
      have hcell : ∀ j u, (ecells l)[j]? = some u → wr.cell? ⟨g, j, none⟩ = some u := fun j u hj => by
        rw [hbel.cell hgl]
        have := HO.out.cells (g := g) rfl j u hj
        rw [Addr.add_lit, Nat.zero_add] at this
        exact this
      have c1 : wr.cell? ⟨g, k * 4, none⟩ = some (.int .u64 x.1) := by rw [Nat.mul_comm]; exact hcell _ _ hg.1
      have c2 : wr.cell? ⟨g, k * 4 + 1, none⟩ = some (.int .u64 x.2.1) := by rw [Nat.mul_comm]; exact hcell _ _ hg.2.1
      have c3 : wr.cell? ⟨g, k * 4 + 2, none⟩ = some (.int .u64 ((x.2.2 % 1099511627776 : Nat) : Int)) := by rw [Nat.mul_comm]; exact hcell _ _ hg.2.2.1
      have c4 : wr.cell? ⟨g, k * 4 + 3, none⟩ = some (.bool false) := by rw [Nat.mul_comm]; exact hcell _ _ hg.2.2.2
      have d1 : ((x.1 : Int) == (off : Int)) = false := beq_eq_false_iff_ne.2 (by omega)
      generalize x.2.2 % 1099511627776 = y at c3
      have G := Lib.hid (show KnRel w l.length (.int .i64 ((k + 1 : Nat) : Int)) (wr.alloc (.cells #[.int .u64 x.1, .int .u64 x.2.1, .int .u64 y, .bool false] 110)) from ⟨k + 1, by omega, rfl, below_alloc hbel⟩)
      clear hbel hg hxn hcell hx
      go_wp2_with fail
      go_roundw
      case rel => simpa using G.out
      case measure => simp [intOf]; omega
    · obtain rfl : k = l.length := by omega
      have HB := Lib.hid hbel
      clear hbel hlt
      go_wp2_with fail
      go_returns
      exact ⟨rfl, HB.out⟩
end Go.Proofs.YtejlgnebofdijaaGreatDoor.Dv
