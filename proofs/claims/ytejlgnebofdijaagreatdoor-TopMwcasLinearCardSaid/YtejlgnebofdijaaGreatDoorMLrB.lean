/-
  Maps from numbers to truth values and numbers, and the set of the keys that a search has seen.
  The package linear: newSearch.
  The search as blocks, and the plain facts that its walk needs.
-/
import Derived.Test.YtejlgnebofdijaaGreatDoorMLhA
import Derived.Test.YtejlgnebofdijaaGreatDoorMTx2
import Derived.StringKeys
import Derived.Test.YtejlgnebofdijaaGreatDoorMLrA
import Derived.BigRegion
import Derived.Test.YtejlgnebofdijaaGreatDoorMWordA
namespace Go.Proofs.YtejlgnebofdijaaGreatDoor.Dv
open Go.RowKit
set_option linter.unusedVariables false

theorem plainElem_bool_inv {H : Type} {P : Program} {e : TypeId} (he : P.underlying e = some .bool) {v : Value} {z : DataW H × List MemPlace} (h : plainElem P e v = some z) : ∃ x, v = .bool x ∧ z = (.lit (.bool x), []) := by
  unfold plainElem at h
  rw [he] at h
  cases v <;> simp at h
  exact ⟨_, rfl, h.symm⟩
/-- The map is the set S. -/
def SMap (w : World) (b ex : Nat) (S : List Nat) : Prop :=
  ∃ D : DataW Unit, w.ownsMap Tryz.prog 3 (plainElem Tryz.prog 4) b ex D ∧ ∀ n : Nat, D.atKey (.int .i64 n) (.lit (.bool false)) = .lit (.bool (decide (n ∈ S)))
theorem SMap.made (w : World) : SMap (w.alloc (.map #[] 0)) w.heap.size 0 [] := ⟨.map [], World.ownsMap_made _ _ _ _, fun n => rfl⟩
theorem SMap.kept {w w' : World} {b ex : Nat} {S : List Nat} (h : SMap w b ex S) (hb : w'.heap[b]? = w.heap[b]?) : SMap w' b ex S := by
  obtain ⟨D, ⟨es, clock, h1, h2⟩, h3⟩ := h
  exact ⟨D, ⟨es, clock, hb.trans h1, h2⟩, h3⟩
theorem SMap.lt {w : World} {b ex : Nat} {S : List Nat} (h : SMap w b ex S) : b < w.heap.size := by
  obtain ⟨D, ⟨es, clock, h1, h2⟩, h3⟩ := h
  exact heap_lt h1
theorem SMap.look {w : World} {b ex : Nat} {S : List Nat} (h : SMap w b ex S) {n : Nat} (hn : n ≤ 1000) : (Instr.lookup 131 (.map (some b)) (.int .i64 n) false).run Tryz.prog w = .ok (.bool (decide (n ∈ S))) w := by
  obtain ⟨D, h1, h2⟩ := h
  have wf1 : (Lit.int .i64 (n : Int)).wf = true := wf_i64 (by omega) (by omega)
  have hz : (zeroValue 4).run Tryz.prog w = .ok (.bool false) w := by kernel_rfl
  obtain ⟨v, ps, hrun, hR⟩ := h1.lookup keyed_int Tryz.underlying131 hz (plainElem_bool (H := Unit) Tryz.underlying4 false) (Maps.keyOf_int_mk Tryz.underlying3 wf1)
  rw [h2 n] at hR
  have : v = .bool (decide (n ∈ S)) := by
    obtain ⟨x, rfl, hz⟩ := plainElem_bool_inv Tryz.underlying4 hR
    simp only [Prod.mk.injEq, DataW.lit.injEq, Lit.bool.injEq] at hz
    rw [hz.1]
  rw [hrun, this]
theorem SMap.put {w : World} {b ex : Nat} {S : List Nat} (h : SMap w b ex S) {n : Nat} (hn : n ≤ 1000) (hex : ex ≤ 1000) : ∃ w', (Instr.mapUpdate 131 (.map (some b)) (.int .i64 n) (.bool true)).run Tryz.prog w = .ok () w' ∧ SMap w' b (ex + 1) (n :: S) ∧ w.grownBy w' (some b) := by
  obtain ⟨D, h1, h2⟩ := h
  have wf1 : (Lit.int .i64 (n : Int)).wf = true := wf_i64 (by omega) (by omega)
  obtain ⟨w', hrun, hown, hgr⟩ := h1.update keyed_int Tryz.underlying131 (by unfold maxLen; omega) (Maps.keyOf_int_mk Tryz.underlying3 wf1) (plainElem_bool (H := Unit) Tryz.underlying4 true)
  refine ⟨w', hrun, ⟨_, hown, fun k => ?_⟩, hgr⟩
  by_cases e : k = n
  · subst e
    rw [Maps.atKey_put_same (ownsMap_isMap h1) (show WideAt.IsKeyLit (Lit.int .i64 (k : Int)) from trivial)]
    simp
  · rw [Maps.atKey_put_other (by simp; omega), h2 k]
    simp [e]

/-- The map is the function f, 0 by default. -/
def IMap (w : World) (b ex : Nat) (f : Nat → Nat) : Prop :=
  ∃ D : DataW Unit, w.ownsMap Tryz.prog 3 (plainElem Tryz.prog 3) b ex D ∧ ∀ n : Nat, D.atKey (.int .i64 n) (.lit (.int .i64 0)) = .lit (.int .i64 (f n))
theorem IMap.made (w : World) : IMap (w.alloc (.map #[] 0)) w.heap.size 0 (fun _ => 0) := ⟨.map [], World.ownsMap_made _ _ _ _, fun n => rfl⟩
theorem IMap.kept {w w' : World} {b ex : Nat} {f : Nat → Nat} (h : IMap w b ex f) (hb : w'.heap[b]? = w.heap[b]?) : IMap w' b ex f := by
  obtain ⟨D, ⟨es, clock, h1, h2⟩, h3⟩ := h
  exact ⟨D, ⟨es, clock, hb.trans h1, h2⟩, h3⟩
theorem IMap.lt {w : World} {b ex : Nat} {f : Nat → Nat} (h : IMap w b ex f) : b < w.heap.size := by
  obtain ⟨D, ⟨es, clock, h1, h2⟩, h3⟩ := h
  exact heap_lt h1
theorem IMap.look {w : World} {b ex : Nat} {f : Nat → Nat} (h : IMap w b ex f) {n : Nat} (hn : n ≤ 1000) : (Instr.lookup 132 (.map (some b)) (.int .i64 n) false).run Tryz.prog w = .ok (.int .i64 (f n)) w := by
  obtain ⟨D, h1, h2⟩ := h
  have wf1 : (Lit.int .i64 (n : Int)).wf = true := wf_i64 (by omega) (by omega)
  have hz : (zeroValue 3).run Tryz.prog w = .ok (.int .i64 0) w := by kernel_rfl
  obtain ⟨c, hrun, hat, _⟩ := h1.lookup_int keyed_int Tryz.underlying132 Tryz.underlying3 hz (Maps.keyOf_int_mk Tryz.underlying3 wf1)
  rw [h2 n] at hat
  simp only [DataW.lit.injEq, Lit.int.injEq, true_and] at hat
  rw [hrun, hat]
theorem IMap.put {w : World} {b ex : Nat} {f : Nat → Nat} (h : IMap w b ex f) {n v : Nat} (hn : n ≤ 1000) (hv : v ≤ 1000000) (hex : ex ≤ 1000) : ∃ w', (Instr.mapUpdate 132 (.map (some b)) (.int .i64 n) (.int .i64 v)).run Tryz.prog w = .ok () w' ∧ IMap w' b (ex + 1) (Ln.up f n v) ∧ w.grownBy w' (some b) := by
  obtain ⟨D, h1, h2⟩ := h
  have wf1 : (Lit.int .i64 (n : Int)).wf = true := wf_i64 (by omega) (by omega)
  have wf2 : (Lit.int .i64 (v : Int)).wf = true := wf_i64 (by omega) (by omega)
  obtain ⟨w', hrun, hown, hgr⟩ := h1.update keyed_int Tryz.underlying132 (by unfold maxLen; omega) (Maps.keyOf_int_mk Tryz.underlying3 wf1) (plainElem_int (H := Unit) Tryz.underlying3 wf2)
  refine ⟨w', hrun, ⟨_, hown, fun k => ?_⟩, hgr⟩
  by_cases e : k = n
  · subst e
    rw [Maps.atKey_put_same (ownsMap_isMap h1) (show WideAt.IsKeyLit (Lit.int .i64 (k : Int)) from trivial), Ln.up_same]
  · rw [Maps.atKey_put_other (by simp; omega), h2 k, Ln.up_ne _ _ e]

/-! ### keys of the search -/
def key (u v : Nat) : List UInt8 := Lib.decDigits u ++ 58 :: txt v
def dval (l : List UInt8) : Nat := l.foldl (fun a d => 10 * a + (d.toNat - 48)) 0
theorem dd_ok (u : Nat) : (∀ d ∈ Lib.decDigits u, d ≠ 58) ∧ dval (Lib.decDigits u) = u := by
  induction u using Nat.strongRecOn with
  | _ u ih =>
    have one : ∀ k, k < 10 → (UInt8.ofNat (48 + k)).toNat = 48 + k := fun k hk => by rw [UInt8.toNat_ofNat']; omega
    have ne : ∀ k, k < 10 → UInt8.ofNat (48 + k) ≠ 58 := fun k hk e => by
      have h1 := one k hk
      rw [e] at h1
      have h2 : (58 : UInt8).toNat = 58 := rfl
      omega
    by_cases h : u < 10
    · rw [Lib.decDigits, dif_pos h]
      refine ⟨fun d hd => ?_, ?_⟩
      · simp only [List.mem_singleton] at hd; rw [hd]; exact ne u h
      · unfold dval
        simp only [List.foldl_cons, List.foldl_nil]
        rw [one u h]; omega
    · rw [Lib.decDigits, dif_neg h]
      obtain ⟨a, b⟩ := ih (u / 10) (by omega)
      refine ⟨fun d hd => ?_, ?_⟩
      · rcases List.mem_append.1 hd with hd | hd
        · exact a d hd
        · simp only [List.mem_singleton] at hd; rw [hd]; exact ne _ (by omega)
      · unfold dval at b ⊢
        rw [List.foldl_append, b]
        simp only [List.foldl_cons, List.foldl_nil]
        rw [one _ (by omega)]; omega
theorem split_col : ∀ {a b c d : List UInt8}, (∀ x ∈ a, x ≠ 58) → (∀ x ∈ b, x ≠ 58) → a ++ 58 :: c = b ++ 58 :: d → a = b ∧ c = d
  | [], [], c, d, _, _, h => by simp at h; exact ⟨rfl, h⟩
  | [], y :: b, c, d, _, hb, h => by simp at h; exact absurd h.1.symm (hb y (by simp))
  | x :: a, [], c, d, ha, _, h => by simp at h; exact absurd h.1 (ha x (by simp))
  | x :: a, y :: b, c, d, ha, hb, h => by
    simp only [List.cons_append, List.cons.injEq] at h
    obtain ⟨h1, h2⟩ := split_col (fun z hz => ha z (List.mem_cons_of_mem _ hz)) (fun z hz => hb z (List.mem_cons_of_mem _ hz)) h.2
    exact ⟨by rw [h.1, h1], h2⟩
theorem key_inj {u v u' v' : Nat} (hv : v < 3) (hv' : v' < 3) (h : key u v = key u' v') : u = u' ∧ v = v' := by
  obtain ⟨h1, h2⟩ := split_col (dd_ok u).1 (dd_ok u').1 h
  refine ⟨by rw [← (dd_ok u).2, h1, (dd_ok u').2], ?_⟩
  have c : ∀ k, k < 3 → k = 0 ∨ k = 1 ∨ k = 2 := fun k hk => by omega
  rcases c v hv with rfl | rfl | rfl <;> rcases c v' hv' with rfl | rfl | rfl <;> first | rfl | (exact absurd h2 (by decide))
theorem key_len {u v : Nat} (hu : u < 1000000) : (key u v).length ≤ 100 := by
  unfold key txt
  rw [List.length_append, Lib.decDigits_length]
  have : Lib.nDigits u ≤ 6 := by
    rcases Nat.lt_or_ge 6 (Lib.nDigits u) with h | h
    · exact absurd h (by
        have hc : u < 10 ∨ (10 ^ 1 ≤ u ∧ u < 10 ^ 2) ∨ (10 ^ 2 ≤ u ∧ u < 10 ^ 3) ∨ (10 ^ 3 ≤ u ∧ u < 10 ^ 4) ∨ (10 ^ 4 ≤ u ∧ u < 10 ^ 5) ∨ (10 ^ 5 ≤ u ∧ u < 10 ^ 6) := by omega
        rcases hc with hc | hc | hc | hc | hc | hc
        · rw [Lib.nDigits_small hc]; omega
        · rw [Lib.nDigits_unique 1 u hc.1 hc.2]; omega
        · rw [Lib.nDigits_unique 2 u hc.1 hc.2]; omega
        · rw [Lib.nDigits_unique 3 u hc.1 hc.2]; omega
        · rw [Lib.nDigits_unique 4 u hc.1 hc.2]; omega
        · rw [Lib.nDigits_unique 5 u hc.1 hc.2]; omega)
    · exact h
  simp
  omega
def keyB (u v : Nat) : ByteArray := ⟨(key u v).toArray⟩
theorem keyB_list (u v : Nat) : (keyB u v).data.toList = key u v := by unfold keyB; simp
theorem keyB_size {u v : Nat} (hu : u < 1000000) : (keyB u v).size ≤ maxLen := by
  have := key_len (v := v) hu
  have h2 : (keyB u v).size = (key u v).length := by unfold keyB; simp [ByteArray.size]
  rw [h2]
  unfold maxLen
  omega
theorem keyed_str : Maps.Keyed Tryz.prog 9 := Maps.string_keyed Tryz.underlying9
/-- The map is the set S of pairs. -/
def KMap (w : World) (b ex : Nat) (S : Nat × Nat → Prop) : Prop :=
  ∃ D : DataW Unit, w.ownsMap Tryz.prog 9 (plainElem Tryz.prog 4) b ex D ∧ ∀ u v : Nat, u < 1000000 → v < 3 → ∃ x : Bool, D.atKey (.string (key u v)) (.lit (.bool false)) = .lit (.bool x) ∧ (x = true ↔ S (u, v))
theorem KMap.made (w : World) : KMap (w.alloc (.map #[] 0)) w.heap.size 0 (fun _ => False) := ⟨.map [], World.ownsMap_made _ _ _ _, fun u v _ _ => ⟨false, rfl, by simp⟩⟩
theorem KMap.kept {w w' : World} {b ex : Nat} {S : Nat × Nat → Prop} (h : KMap w b ex S) (hb : w'.heap[b]? = w.heap[b]?) : KMap w' b ex S := by
  obtain ⟨D, ⟨es, clock, h1, h2⟩, h3⟩ := h
  exact ⟨D, ⟨es, clock, hb.trans h1, h2⟩, h3⟩
theorem KMap.lt {w : World} {b ex : Nat} {S : Nat × Nat → Prop} (h : KMap w b ex S) : b < w.heap.size := by
  obtain ⟨D, ⟨es, clock, h1, h2⟩, h3⟩ := h
  exact heap_lt h1
theorem KMap.look {w : World} {b ex : Nat} {S : Nat × Nat → Prop} (h : KMap w b ex S) {u v : Nat} (hu : u < 1000000) (hv : v < 3) :
    ∃ x : Bool, (x = true ↔ S (u, v)) ∧ (Instr.lookup 126 (.map (some b)) (.string (keyB u v)) false).run Tryz.prog w = .ok (.bool x) w := by
  obtain ⟨D, h1, h2⟩ := h
  obtain ⟨x, hx, hS⟩ := h2 u v hu hv
  have hz : (zeroValue 4).run Tryz.prog w = .ok (.bool false) w := by kernel_rfl
  have hk := WideMaps.keyOf_string_mk (P := Tryz.prog) (k := 9) Tryz.underlying9 (keyB_size (v := v) hu)
  rw [keyB_list] at hk
  obtain ⟨y, ps, hrun, hR⟩ := h1.lookup keyed_str Tryz.underlying126 hz (plainElem_bool (H := Unit) Tryz.underlying4 false) hk
  rw [hx] at hR
  have : y = .bool x := by
    obtain ⟨x, rfl, hz⟩ := plainElem_bool_inv Tryz.underlying4 hR
    simp only [Prod.mk.injEq, DataW.lit.injEq, Lit.bool.injEq] at hz
    rw [hz.1]
  exact ⟨x, hS, by rw [hrun, this]⟩
theorem KMap.put {w : World} {b ex : Nat} {S : Nat × Nat → Prop} (h : KMap w b ex S) {u v : Nat} (hu : u < 1000000) (hv : v < 3) (hex : ex ≤ 1000000000000) :
    ∃ w', (Instr.mapUpdate 126 (.map (some b)) (.string (keyB u v)) (.bool true)).run Tryz.prog w = .ok () w' ∧ KMap w' b (ex + 1) (Ln.ins S u v) ∧ w.grownBy w' (some b) := by
  obtain ⟨D, h1, h2⟩ := h
  have hk := WideMaps.keyOf_string_mk (P := Tryz.prog) (k := 9) Tryz.underlying9 (keyB_size (v := v) hu)
  rw [keyB_list] at hk
  obtain ⟨w', hrun, hown, hgr⟩ := h1.update keyed_str Tryz.underlying126 (by unfold maxLen; omega) hk (plainElem_bool (H := Unit) Tryz.underlying4 true)
  refine ⟨w', hrun, ⟨_, hown, fun u' v' hu' hv' => ?_⟩, hgr⟩
  by_cases e : u' = u ∧ v' = v
  · obtain ⟨rfl, rfl⟩ := e
    exact ⟨true, Maps.atKey_put_same (ownsMap_isMap h1) (show WideAt.IsKeyLit (Lit.string (key u' v')) from trivial) _ _, by simp [Ln.ins]⟩
  · obtain ⟨x, hx, hS⟩ := h2 u' v' hu' hv'
    refine ⟨x, ?_, ?_⟩
    · rw [Maps.atKey_put_other (fun e2 => e (by
        have := Lit.string.inj e2
        exact key_inj hv' hv this))]
      exact hx
    · rw [hS]
      unfold Ln.ins
      constructor
      · exact .inl
      · rintro (h | h)
        · exact h
        · simp at h; exact absurd h e
end Go.Proofs.YtejlgnebofdijaaGreatDoor.Dv

namespace Go.Proofs.YtejlgnebofdijaaGreatDoor.Dv
open Go.RowKit
open Ln (Cl HC Hi ap)
set_option linter.unusedVariables false

/-! ### sets of calls as masks -/
def msk (p : Nat → Bool) : Nat → Nat
  | 0 => 0
  | k + 1 => if p k then msk p k ||| 1 <<< k else msk p k
theorem msk_lt (p : Nat → Bool) : ∀ k, msk p k < 2 ^ k
  | 0 => by show 0 < _; omega
  | k + 1 => by
    have h := msk_lt p k
    have h2 : msk p k < 2 ^ (k + 1) := Nat.lt_of_lt_of_le h (Nat.pow_le_pow_right (by omega) (by omega))
    unfold msk
    split
    · exact Ln.or_lt h2 (by omega)
    · exact h2
theorem msk_bit (p : Nat → Bool) : ∀ k j, (msk p k).testBit j = (decide (j < k) && p j)
  | 0, j => by show (0 : Nat).testBit j = _; simp
  | k + 1, j => by
    have h := msk_bit p k j
    unfold msk
    have hs : (1 <<< k : Nat).testBit j = decide (k = j) := by rw [Nat.shiftLeft_eq, Nat.one_mul, Nat.testBit_two_pow]
    split
    · rename_i hp
      rw [Nat.testBit_or, h, hs]
      by_cases e : k = j
      · subst e; simp [hp]
      · have : (decide (j < k + 1)) = decide (j < k) := decide_eq_decide.2 (by omega)
        rw [this]; simp [e]
    · rename_i hp
      rw [h]
      by_cases e : k = j
      · subst e; simp at hp; simp [hp]
      · have : (decide (j < k + 1)) = decide (j < k) := decide_eq_decide.2 (by omega)
        rw [this]
def bfp (cs : List HC) (x : HC) (b : Nat) : Bool := match cs[b]? with | some y => befB x y | none => false
def enp (cs : List HC) (a : Nat) : Bool := match cs[a]? with | some x => x.e.isSome | none => false
def bfm (cs : List HC) (n a : Nat) : Nat := match cs[a]? with | some x => msk (bfp cs x) n | none => 0
theorem one_shl {k : Nat} (hk : k < 64) : IntKind.u64.wrap (2 ^ k) = ((1 <<< k : Nat) : Int) := by
  have h : (2 : Nat) ^ k < 18446744073709551616 := by
    have : (2 : Nat) ^ k < 2 ^ 64 := Nat.pow_lt_pow_right (by omega) hk
    omega
  rw [Nat.shiftLeft_eq, IntKind.wrap_u64]
  have : (2 : Int) ^ k = ((2 ^ k : Nat) : Int) := by rw [Int.natCast_pow]; rfl
  rw [Nat.one_mul, this]
  generalize 2 ^ k = q at h ⊢
  omega
theorem or_bit {x k : Nat} (hx : x < 18446744073709551616) (hk : k < 64) : bits .or .u64 (x : Int) (IntKind.u64.wrap (2 ^ k)) = ((x ||| 1 <<< k : Nat) : Int) := by
  rw [one_shl hk]
  refine u64_or_nat _ _ hx ?_
  have : (2 : Nat) ^ k < 2 ^ 64 := Nat.pow_lt_pow_right (by omega) hk
  rw [Nat.shiftLeft_eq]
  omega

def sfun (cv : Value) (bb n en mb : Nat) (ov fv : Value) : Nat → Value
  | 0 => cv
  | 1 => .slice (some ⟨bb, 0, none⟩) n n
  | 2 => .int .u64 en
  | 3 => .map (some mb)
  | 4 => ov
  | _ => fv
theorem infoUint : (Tryz.prog.info? 47).map (fun i => (i.zero, i.size, i.bytes)) = some (some (.int .u64 0), 1, 8) := by kernel_rfl
/-- A search that is being made. -/
structure NsSt (W : World) (cs : List HC) (cv : Value) (bb mb fb : Nat) (bf : Nat → Nat) (en : Nat) (w : World) : Prop where
  row : Row w fb 128 6 (sfun cv bb cs.length en mb (.slice none 0 0) (.nilFunc))
  bf : Row w bb 47 cs.length (fun a => .int .u64 (bf a))
  km : KMap w mb 0 (fun _ => False)
  bel : Below W.heap.size W w
  lo : W.heap.size ≤ fb ∧ W.heap.size ≤ bb ∧ W.heap.size ≤ mb
def NsRel (W : World) (cs : List HC) (cv : Value) (bb mb fb : Nat) (i : Value) (wl : World) : Prop := ∃ k : Nat, k ≤ cs.length ∧ i = .int .i64 (k : Nat) ∧ NsSt W cs cv bb mb fb (fun a => if a < k then bfm cs cs.length a else 0) (msk (enp cs) k) wl
def NiRel (W : World) (cs : List HC) (cv : Value) (bb mb fb k en : Nat) (i : Value) (wl : World) : Prop := ∃ j : Nat, j ≤ cs.length ∧ i = .int .i64 (j : Nat) ∧ NsSt W cs cv bb mb fb (fun a => if a < k then bfm cs cs.length a else if a = k then bfm cs j a else 0) en wl
def NsPost (w : World) (cs : List HC) (e : Ending) (w' : World) : Prop := ∃ W cv bb mb fb, e = .returned (.tuple #[ptr fb, .int .i64 0]) ∧ NsSt W cs cv bb mb fb (fun a => bfm cs cs.length a) (msk (enp cs) cs.length) w' ∧ Cls W cs cv ∧ Below w.heap.size w W ∧ (bb = W.heap.size ∧ mb = W.heap.size + 1 ∧ fb = W.heap.size + 1 + 1)

section
variable {W w w' : World} {cs : List HC} {cv : Value} {bb mb fb : Nat} {bf : Nat → Nat} {en : Nat}
theorem row_types_ne {b b' n n' : Nat} {e e' : TypeId} {f f' : Nat → Value} (h : Row w b e n f) (h' : Row w b' e' n' f') (hne : e ≠ e') : b ≠ b' := by
  rintro rfl
  obtain ⟨c, h1, _⟩ := h
  obtain ⟨c', h2, _⟩ := h'
  rw [h1] at h2
  simp only [Option.some.injEq, Obj.cells.injEq] at h2
  exact hne h2.2.1
theorem row_map_ne {b b' n ex : Nat} {e : TypeId} {f : Nat → Value} {S : Nat × Nat → Prop} (h : Row w b e n f) (h' : KMap w b' ex S) : b ≠ b' := by
  rintro rfl
  obtain ⟨c, h1, _⟩ := h
  obtain ⟨D, ⟨es, clock, h2, _⟩, _⟩ := h'
  rw [h1] at h2
  cases h2
theorem NsSt.below (h : NsSt W cs cv bb mb fb bf en w) (hb : Below w.heap.size w w') : NsSt W cs cv bb mb fb bf en w' :=
  ⟨h.row.of_block (hb.block _ h.row.lt), h.bf.of_block (hb.block _ h.bf.lt), h.km.kept (hb.block _ h.km.lt), h.bel.trans (hb.mono h.bel.size), h.lo⟩
theorem NsSt.setEn (h : NsSt W cs cv bb mb fb bf en w) (e : Nat) : NsSt W cs cv bb mb fb bf e (w.setCell ⟨fb, 2, none⟩ (.int .u64 e)) := by
  have n1 := row_types_ne h.row h.bf (by decide)
  have n2 := row_map_ne h.row h.km
  refine ⟨(h.row.set 2 (.int .u64 e)).congr (fun x hx => ?_), h.bf.of_block (heap_set_ne n1.symm), h.km.kept (heap_set_ne n2.symm), h.bel.setCell h.lo.1 _, h.lo⟩
  have : x = 0 ∨ x = 1 ∨ x = 2 ∨ x = 3 ∨ x = 4 ∨ x = 5 := by omega
  rcases this with rfl | rfl | rfl | rfl | rfl | rfl <;> rfl
theorem NsSt.setBf (h : NsSt W cs cv bb mb fb bf en w) (a v : Nat) {bf' : Nat → Nat} (hbf : ∀ x, x < cs.length → bf' x = if x = a then v else bf x) : NsSt W cs cv bb mb fb bf' en (w.setCell ⟨bb, a, none⟩ (.int .u64 v)) := by
  have n1 := row_types_ne h.row h.bf (by decide)
  have n2 := row_map_ne h.bf h.km
  refine ⟨h.row.of_block (heap_set_ne n1), (h.bf.set a (.int .u64 v)).congr (fun x hx => ?_), h.km.kept (heap_set_ne n2.symm), h.bel.setCell h.lo.2.1 _, h.lo⟩
  rw [hbf x hx]
  split <;> rfl
theorem NsSt.congr (h : NsSt W cs cv bb mb fb bf en w) {bf' : Nat → Nat} (hbf : ∀ x, x < cs.length → bf' x = bf x) : NsSt W cs cv bb mb fb bf' en w :=
  ⟨h.row, h.bf.congr (fun x hx => by rw [hbf x hx]), h.km, h.bel, h.lo⟩
theorem NsSt.cells (h : NsSt W cs cv bb mb fb bf en w) : w.cell? ⟨fb, 1, none⟩ = some (.slice (some ⟨bb, 0, none⟩) cs.length cs.length) ∧ w.cell? ⟨fb, 2, none⟩ = some (.int .u64 en) ∧ (∀ i, w.frozen? ⟨fb, i, none⟩ = false) ∧ (∀ i, w.frozen? ⟨bb, i, none⟩ = false) ∧ ∀ a, a < cs.length → w.cell? ⟨bb, a, none⟩ = some (.int .u64 (bf a)) :=
  ⟨h.row.cell 1 (by omega), h.row.cell 2 (by omega), h.row.free, h.bf.free, fun a ha => h.bf.cell a ha⟩
end
theorem ns_start (W : World) (cs : List HC) (cv : Value) : NsSt W cs cv W.heap.size (W.heap.size + 1) (W.heap.size + 1 + 1) (fun a => 0) 0
    (((W.alloc (.cells (madeCells #[Value.int .u64 0] cs.length) 47)).alloc (.map #[] 0)).alloc (.cells #[cv, .slice (some ⟨W.heap.size, 0, none⟩) cs.length cs.length, .int .u64 0, .map (some (W.heap.size + 1)), .slice none 0 0, .nilFunc] 128)) := by
  obtain ⟨V, hV⟩ : ∃ V, V = W.alloc (.cells (madeCells #[Value.int .u64 0] cs.length) 47) := ⟨_, rfl⟩
  have hs : V.heap.size = W.heap.size + 1 := by rw [hV]; simp
  rw [← hV]
  have hm : KMap (V.alloc (.map #[] 0)) V.heap.size 0 (fun _ => False) := KMap.made V
  rw [hs] at hm
  have hz : (V.alloc (.map #[] 0)).heap.size = W.heap.size + 1 + 1 := by simp [hs]
  refine ⟨row_of_cells (by rw [← hz]; exact heap_alloc_new _ _) (fun x hx => ?_), row_of_cells (by rw [heap_alloc_lt (by omega), heap_alloc_lt (by omega), hV]; exact heap_alloc_new _ _) (fun x hx => ?_), hm.kept (heap_alloc_lt (by omega)), below_alloc (below_alloc (by rw [hV]; exact below_alloc (Below.refl _ _))), by omega, Nat.le_refl _, by omega⟩
  · have : x = 0 ∨ x = 1 ∨ x = 2 ∨ x = 3 ∨ x = 4 ∨ x = 5 := by omega
    rcases this with rfl | rfl | rfl | rfl | rfl | rfl <;> rfl
  · unfold madeCells
    rw [Array.getElem?_map, Array.getElem?_range, if_pos (by simpa using hx)]
    simp [Nat.mod_one]

set_option maxHeartbeats 4000000 in
set_option maxRecDepth 8000 in
theorem newsearch_any {X hb : Nat} {w : World} {H : Hi} {ev cv : Value} (h : HAt X w hb H ev cv) (hl : H.calls.length ≤ 10) :
    Calls Tryz.prog 37 #[.int .u8 1, ptr hb] w (NsPost w H.calls) := by
  have HE := Lib.hid (examine_any h (by omega))
  have HH := Lib.hid h
  have hmm := @run_makeMap Tryz.prog
  have b1 : (H.calls.length : Int) ≤ 10 := by omega
  obtain ⟨i, hi, hz, hsz, hby⟩ := info_parts infoUint
  have hmk := fun V => run_make (P := Tryz.prog) V 125 47 i _ Tryz.underlying125 hi hz .i64 .i64 (H.calls.length : Int) (H.calls.length : Int) (by omega) (Int.le_refl _) (by rw [hby]; omega) (by omega)
  simp only [show (H.calls.length : Int).toNat = H.calls.length by omega, hsz, Nat.mul_one] at hmk
  clear h hi hz hsz hby
  unfold ptr at *
  go_enter Tryz.func37, Tryz.ntmps37
  go_wp2_with fail
  refine HE.out.mono ?_
  rintro e w1 ⟨v, rfl, hc1, hb1⟩
  obtain ⟨ca, cc, rfl, hcc1, _⟩ := id hc1
  have HC1 := Lib.hid hc1; have HB1 := Lib.hid hb1
  have b2 : (H.calls.length : Int) ≤ cc := by omega
  clear hc1 hb1 HE hcc1
  have hrel0 : NsRel w1 H.calls (.slice ca H.calls.length cc) w1.heap.size (w1.heap.size + 1) (w1.heap.size + 1 + 1) (.int .i64 (0 : Nat)) _ := ⟨0, Nat.zero_le _, rfl, (ns_start w1 H.calls (.slice ca H.calls.length cc)).congr (fun x _ => by rw [if_neg (by omega)])⟩
  have HR0 := Lib.hid hrel0
  clear hrel0
  go_wp2_with fail
  go_loopw [33] (fun i wl => NsRel w1 H.calls (.slice ca H.calls.length cc) w1.heap.size (w1.heap.size + 1) (w1.heap.size + 1 + 1) i wl) (fun i _ => H.calls.length - (intOf i).toNat)
  case atStart => exact HR0.out
  case round =>
    obtain ⟨k, hk, rfl, hst⟩ := hrel
    obtain ⟨bb, hbb⟩ : ∃ bb, bb = w1.heap.size := ⟨_, rfl⟩
    obtain ⟨mb, hmb⟩ : ∃ mb, mb = w1.heap.size + 1 := ⟨_, rfl⟩
    obtain ⟨fb, hfb⟩ : ∃ fb, fb = w1.heap.size + 1 + 1 := ⟨_, rfl⟩
    rw [← hfb, ← hmb, ← hbb] at hst
    rw [← hfb, ← hmb, ← hbb]
    have HBB := Lib.hid (And.intro hbb (And.intro hmb hfb))
    clear hbb hmb hfb HR0 hmm hmk
    by_cases hlt : k < H.calls.length
    · have hlt2 : (k : Int) < H.calls.length := by omega
      have hget : H.calls[k]? = some H.calls[k] := List.getElem?_eq_getElem hlt
      obtain ⟨x, hx⟩ : ∃ x, x = H.calls[k] := ⟨_, rfl⟩
      rw [← hx] at hget
      obtain ⟨_, _, e0, _, h3⟩ := HC1.out.below hst.bel
      obtain ⟨g, rfl, hg, h4⟩ := h3 k x hget
      obtain ⟨q, a, b, r, ok, hf⟩ := clAt_of h4
      cases e0
      have c0 := hf.c0
      have c1 := hf.c1
      have c2 := hf.c2
      have c3 := hf.c3
      have c4 := hf.c4
      have c5 := hf.c5
      have c6 := hf.c6
      have c7 := hf.c7
      have c8 := hf.c8
      have c9 := hf.c9
      have c10 := hf.c10
      obtain ⟨z, hz⟩ : ∃ z, z = enc x.e := ⟨_, rfl⟩
      rw [← hz] at c6
      have HST := Lib.hid hst; have HGET := Lib.hid hget; have HZ := Lib.hid hz
      clear hf h3 h4 hget hx hst hz
      go_upto_if 40 with (fail)
      obtain ⟨V, hV⟩ : ∃ V, V = wr.alloc (.cells #[.int .i64 x.c.t, .int .u8 q, .int .u64 0, .int .u64 a, .int .u64 b, .int .i64 x.b, .int .i64 z, .int .i64 x.era, .int .u64 r, .bool ok, .int .i64 0] 168) := ⟨_, rfl⟩
      have hstV := HST.out.below (w' := V) (by rw [hV]; exact below_alloc (Below.refl _ _))
      rw [← hV]
      have HSV := Lib.hid hstV
      have HVV := Lib.hid hV
      clear hstV hV c0 c1 c2 c3 c4 c5 c6 c7 c8 c9 c10
      go_cut [] (fun wc => NsSt w1 H.calls (.slice (some ⟨g, 0, none⟩) H.calls.length cc) bb mb fb (fun a => if a < k then bfm H.calls H.calls.length a else 0) (msk (enp H.calls) (k + 1)) wc)
      case first =>
        obtain ⟨en, hen⟩ : ∃ en, en = msk (enp H.calls) k := ⟨_, rfl⟩
        rw [← hen] at HSV
        have hen64 : en < 18446744073709551616 := by
          have h1 := msk_lt (enp H.calls) k
          have h2 : (2 : Nat) ^ k ≤ 2 ^ 10 := Nat.pow_le_pow_right (by omega) (by omega)
          omega
        have hpe : enp H.calls k = decide (0 ≤ z) := by
          have e1 : enp H.calls k = x.e.isSome := by unfold enp; rw [HGET.out]
          rw [e1, HZ.out]
          unfold enc
          cases hxe : x.e with
          | none => rfl
          | some p => simp
        by_cases d : 0 ≤ z
        · have hm : msk (enp H.calls) (k + 1) = en ||| 1 <<< k := by
            show (if enp H.calls k then _ else _) = _
            rw [hpe, decide_eq_true d, if_pos rfl, hen]
          have eor := or_bit (x := en) (k := k) hen64 (by omega)
          obtain ⟨k1, k2, k3, _, _⟩ := HSV.out.cells
          have f2 := k3 2
          have G := Lib.hid (fun (W : World) (hb : Below V.heap.size V W) => show NsSt w1 H.calls (.slice (some ⟨g, 0, none⟩) H.calls.length cc) bb mb fb (fun a => if a < k then bfm H.calls H.calls.length a else 0) (msk (enp H.calls) (k + 1)) (W.setCell ⟨fb, 2, none⟩ (.int .u64 ((en ||| 1 <<< k : Nat) : Int))).drew from by
            rw [hm]; exact ((HSV.out.below hb).setEn _).below (Below.refl _ _).drew)
          have d' : decide (0 ≤ z) = true := decide_eq_true d
          clear hm hen hpe k1 k3 hen64
          go_wp2_with fail
          go_region
          all_goals
            go_wp2_with fail
            go_meet
            exact G.out _ (by repeat (first | exact Below.refl _ _ | apply below_drewN | apply below_drew))
        · have hm : msk (enp H.calls) (k + 1) = en := by
            show (if enp H.calls k then _ else _) = _
            rw [hpe, decide_eq_false d, if_neg (by simp), hen]
          have G := Lib.hid (show NsSt w1 H.calls (.slice (some ⟨g, 0, none⟩) H.calls.length cc) bb mb fb (fun a => if a < k then bfm H.calls H.calls.length a else 0) (msk (enp H.calls) (k + 1)) V from by
            rw [hm]; exact HSV.out)
          have d' : decide (0 ≤ z) = false := decide_eq_false d
          clear hm hen hpe hen64
          go_wp2_with fail
          go_meet
          exact G.out
      case rest =>
        have HC := Lib.hid hcut
        have hni : NiRel w1 H.calls (.slice (some ⟨g, 0, none⟩) H.calls.length cc) bb mb fb k (msk (enp H.calls) (k + 1)) (.int .i64 (0 : Nat)) wc := ⟨0, Nat.zero_le _, rfl, hcut.congr (fun y hy => by
          by_cases e1 : y < k
          · rw [if_pos e1, if_pos e1]
          · rw [if_neg e1, if_neg e1]
            split
            · rename_i e2
              unfold bfm
              rw [e2, HGET.out]
              rfl
            · rfl)⟩
        have HNI := Lib.hid hni
        clear hcut hni HSV HVV
        obtain ⟨en, hen⟩ : ∃ en, en = msk (enp H.calls) (k + 1) := ⟨_, rfl⟩
        rw [← hen] at HNI
        have HEN := Lib.hid hen
        clear hen
        go_wp2_with fail
        go_loopw [52] (fun i wl => NiRel w1 H.calls (.slice (some ⟨g, 0, none⟩) H.calls.length cc) bb mb fb k en i wl) (fun i _ => H.calls.length - (intOf i).toNat)
        case atStart => exact HNI.out
        case round =>
          obtain ⟨j, hj, rfl, hst⟩ := hrel
          clear HNI HC
          have HST2 := Lib.hid hst
          clear hst
          by_cases hjl : j < H.calls.length
          · have hjl2 : (j : Int) < H.calls.length := by omega
            have hgj : H.calls[j]? = some H.calls[j] := List.getElem?_eq_getElem hjl
            obtain ⟨y, hy⟩ : ∃ y, y = H.calls[j] := ⟨_, rfl⟩
            rw [← hy] at hgj
            have HBE := Lib.hid (hbefore_any ((HH.out.below HB1.out).below HST2.out.bel) HGET.out hgj (by omega))
            obtain ⟨B, hB⟩ : ∃ B, B = befB x y := ⟨_, rfl⟩
            have hbm : bfm H.calls (j + 1) k = if B then bfm H.calls j k ||| 1 <<< j else bfm H.calls j k := by
              unfold bfm
              rw [HGET.out]
              show (if bfp H.calls x j then _ else _) = _
              have : bfp H.calls x j = B := by unfold bfp; rw [hgj, hB]
              rw [this]
            have hb64 : bfm H.calls j k < 18446744073709551616 := by
              unfold bfm
              rw [HGET.out]
              have h1 := msk_lt (bfp H.calls x) j
              have h2 : (2 : Nat) ^ j ≤ 2 ^ 10 := Nat.pow_le_pow_right (by omega) (by omega)
              show msk (bfp H.calls x) j < _
              omega
            obtain ⟨M, hM⟩ : ∃ M, M = bfm H.calls j k := ⟨_, rfl⟩
            rw [← hB] at HBE
            rw [← hM] at hbm hb64
            have HBM := Lib.hid hbm; have HM := Lib.hid hM
            clear hgj hy hB hbm hM
            unfold ptr at HBE
            go_wp2_with fail
            refine HBE.out.mono ?_
            rintro e w4 ⟨rfl, hb4⟩
            have hst4 := HST2.out.below hb4
            have HST4 := Lib.hid hst4
            clear hst4 hb4 HBE HST2
            cases B with
            | true =>
              have eor := or_bit (x := M) (k := j) hb64 (by omega)
              obtain ⟨k1, _, _, k4, k5⟩ := HST4.out.cells
              have k6 : w4.cell? ⟨bb, k, none⟩ = some (.int .u64 M) := by
                rw [k5 k hlt, if_neg (by omega), if_pos rfl, HM.out]
              have f4 := k4 k
              have G := Lib.hid (fun (W : World) (hb : Below w4.heap.size w4 W) => show NiRel w1 H.calls (.slice (some ⟨g, 0, none⟩) H.calls.length cc) bb mb fb k en (.int .i64 ((j + 1 : Nat) : Int)) (W.setCell ⟨bb, k, none⟩ (.int .u64 ((M ||| 1 <<< j : Nat) : Int))).drew from
                ⟨j + 1, by omega, rfl, NsSt.below (w := W.setCell ⟨bb, k, none⟩ (.int .u64 ((M ||| 1 <<< j : Nat) : Int))) ((HST4.out.below hb).setBf k (M ||| 1 <<< j) (fun x hx => by
                  by_cases e : x = k
                  · rw [e, if_neg (by omega), if_pos rfl, if_pos rfl, HBM.out]; rfl
                  · by_cases e2 : x < k
                    · rw [if_pos e2, if_neg e, if_pos e2]
                    · rw [if_neg e2, if_neg e, if_neg e, if_neg e2, if_neg e])) (Below.refl _ _).drew⟩)
              clear k4 k5 HST4 HBM HM hb64
              go_wp2_with fail
              go_region
              all_goals
                go_wp2_with fail
                go_roundw
                case rel => exact G.out _ (by repeat (first | exact Below.refl _ _ | apply below_drewN | apply below_drew))
                case measure => simp [intOf]; omega
            | false =>
              have G := Lib.hid (show NiRel w1 H.calls (.slice (some ⟨g, 0, none⟩) H.calls.length cc) bb mb fb k en (.int .i64 ((j + 1 : Nat) : Int)) w4 from
                ⟨j + 1, by omega, rfl, HST4.out.congr (fun x hx => by
                  by_cases e : x = k
                  · rw [e, if_neg (by omega), if_pos rfl, if_neg (by omega), if_pos rfl, HBM.out, HM.out]; rfl
                  · by_cases e2 : x < k
                    · rw [if_pos e2, if_pos e2]
                    · rw [if_neg e2, if_neg e, if_neg e2, if_neg e])⟩)
              clear HST4 HBM HM hb64
              go_wp2_with fail
              go_roundw
              case rel => exact G.out
              case measure => simp [intOf]; omega
          · obtain rfl : j = H.calls.length := by omega
            have G := Lib.hid (show NsRel w1 H.calls (.slice (some ⟨g, 0, none⟩) H.calls.length cc) bb mb fb (.int .i64 ((k + 1 : Nat) : Int)) wr from
              ⟨k + 1, by omega, rfl, by rw [← HEN.out]; exact HST2.out.congr (fun x hx => by
                by_cases e2 : x < k
                · rw [if_pos (by omega), if_pos e2]
                · by_cases e : x = k
                  · rw [if_pos (by omega), if_neg e2, if_pos e]
                  · rw [if_neg (by omega), if_neg e2, if_neg e])⟩)
            clear HST2
            go_wp2_with fail
            go_roundw
            case rel => exact G.out
            case measure => simp [intOf]; omega
    · obtain rfl : k = H.calls.length := by omega
      have GG := Lib.hid (show NsPost w H.calls (.returned (.tuple #[ptr fb, .int .i64 0])) wr from ⟨w1, _, bb, mb, fb, rfl, hst.congr (fun x hx => by rw [if_pos hx]), HC1.out, HB1.out, HBB.out⟩)
      clear hst
      unfold ptr at GG
      go_wp2_with fail
      go_returns
      exact GG.out
end Go.Proofs.YtejlgnebofdijaaGreatDoor.Dv

namespace Go.Proofs.YtejlgnebofdijaaGreatDoor.Dv
open Go.RowKit
open Ln (Cl HC Hi ap Can Next Ended Seen Since ins)
set_option linter.unusedVariables false

/-! ### the number of calls that are not in a set -/
def spare (u : Nat) : Nat → Nat
  | 0 => 0
  | k + 1 => spare u k + if u.testBit k then 0 else 1
theorem bit_or (u j k : Nat) : (u ||| 1 <<< j).testBit k = (u.testBit k || decide (j = k)) := by
  rw [Nat.testBit_or, Nat.shiftLeft_eq, Nat.one_mul, Nat.testBit_two_pow]
theorem spare_or {u j : Nat} (h : u.testBit j = false) : ∀ k, spare (u ||| 1 <<< j) k + (if j < k then 1 else 0) = spare u k
  | 0 => rfl
  | k + 1 => by
    have ih := spare_or h k
    show spare (u ||| 1 <<< j) k + (if (u ||| 1 <<< j).testBit k then 0 else 1) + _ = spare u k + _
    rw [bit_or]
    by_cases e : j = k
    · subst e
      rw [h]
      rw [if_neg (by omega)] at ih
      simp
      omega
    · by_cases e2 : j < k
      · rw [if_pos e2] at ih
        rw [if_pos (show j < k + 1 by omega)]
        cases hu : u.testBit k <;> simp [e] <;> omega
      · rw [if_neg e2] at ih
        rw [if_neg (show ¬ j < k + 1 by omega)]
        cases hu : u.testBit k <;> simp [e] <;> omega
theorem spare_le (u : Nat) : ∀ k, spare u k ≤ k
  | 0 => Nat.le_refl _
  | k + 1 => by have := spare_le u k; show spare u k + _ ≤ _; split <;> omega
def cost : Nat → Nat
  | 0 => 1
  | d + 1 => 1 + 10 * cost d
theorem cost_le : ∀ d, d ≤ 10 → cost d ≤ 100000000000 := by
  intro d hd
  have : d = 0 ∨ d = 1 ∨ d = 2 ∨ d = 3 ∨ d = 4 ∨ d = 5 ∨ d = 6 ∨ d = 7 ∨ d = 8 ∨ d = 9 ∨ d = 10 := by omega
  rcases this with rfl | rfl | rfl | rfl | rfl | rfl | rfl | rfl | rfl | rfl | rfl <;> decide

/-! ### tests on masks -/
theorem shr_bit {u k : Nat} (hu : u < 18446744073709551616) : bits .and .u64 ((u : Int) / 2 ^ k) 1 = (((if u.testBit k then 1 else 0) : Nat) : Int) := by
  have h := Word.field_eq u k 1 hu (by omega)
  have e : ((2 ^ 1 - 1 : Nat) : Int) = 1 := rfl
  rw [e] at h
  rw [h]
  congr 1
  unfold Word.fld
  rw [Nat.testBit_eq_decide_div_mod_eq]
  have : u / 2 ^ k % 2 < 2 := Nat.mod_lt _ (by omega)
  by_cases h1 : u / 2 ^ k % 2 = 1
  · simp [h1]
  · have : u / 2 ^ k % 2 = 0 := by omega
    simp [this]
theorem and_zero {a b : Nat} : a &&& b = 0 ↔ ∀ k, ¬ (a.testBit k = true ∧ b.testBit k = true) := by
  constructor
  · intro h k hk
    have := congrArg (fun x => x.testBit k) h
    simp [Nat.testBit_and, hk.1, hk.2] at this
  · intro h
    apply Nat.eq_of_testBit_eq
    intro k
    rw [Nat.testBit_and, Nat.zero_testBit]
    have := h k
    cases ha : a.testBit k <;> cases hb : b.testBit k <;> simp_all
theorem ended_iff {cs : List HC} {u : Nat} (hn : cs.length ≤ 10) (hu : u < 2 ^ cs.length) : (msk (enp cs) cs.length &&& (18446744073709551615 - u)) = 0 ↔ Ended cs u := by
  have hu64 : u < 2 ^ 64 := Nat.lt_of_lt_of_le hu (Nat.pow_le_pow_right (by omega) (by omega))
  have hb : ∀ k, k < 64 → (18446744073709551615 - u).testBit k = !u.testBit k := fun k hk => by
    have e : 18446744073709551615 - u = 2 ^ 64 - (u + 1) := by omega
    rw [e, Nat.testBit_two_pow_sub_succ hu64]
    simp [hk]
  rw [and_zero]
  constructor
  · intro h n x hx he
    have hlt := (List.getElem?_eq_some_iff.1 hx).1
    have h1 := h n
    rw [msk_bit, hb n (by omega)] at h1
    have e1 : enp cs n = true := by unfold enp; rw [hx]; exact Option.isSome_iff_ne_none.2 he
    rw [e1, decide_eq_true hlt] at h1
    cases hq : u.testBit n with
    | true => rfl
    | false => exact absurd ⟨rfl, by rw [hq]; rfl⟩ h1
  · rintro h k ⟨h1, h2⟩
    rw [msk_bit] at h1
    obtain ⟨h3, h4⟩ := Bool.and_eq_true_iff.1 h1
    have hk : k < cs.length := of_decide_eq_true h3
    rw [hb k (by omega)] at h2
    unfold enp at h4
    rw [List.getElem?_eq_getElem hk] at h4
    have := h k _ (List.getElem?_eq_getElem hk) (Option.isSome_iff_ne_none.1 h4)
    rw [this] at h2
    cases h2
theorem before_iff {cs : List HC} {u k : Nat} {x : HC} (hx : cs[k]? = some x) : (bfm cs cs.length k &&& u) = 0 ↔ ∀ b y, cs[b]? = some y → Ln.Bef x y → u.testBit b = false := by
  rw [and_zero]
  have hb : ∀ b, (bfm cs cs.length k).testBit b = (decide (b < cs.length) && bfp cs x b) := fun b => by
    have : bfm cs cs.length k = msk (bfp cs x) cs.length := by unfold bfm; rw [hx]
    rw [this, msk_bit]
  constructor
  · intro h b y hy hbe
    have hlt := (List.getElem?_eq_some_iff.1 hy).1
    have h1 := h b
    rw [hb, decide_eq_true hlt] at h1
    have : bfp cs x b = true := by unfold bfp; rw [hy]; exact (befB_iff x y).2 hbe
    rw [this] at h1
    cases hq : u.testBit b with
    | false => rfl
    | true => exact absurd ⟨rfl, hq⟩ h1
  · rintro h b ⟨h1, h2⟩
    rw [hb] at h1
    obtain ⟨h3, h4⟩ := Bool.and_eq_true_iff.1 h1
    have hk : b < cs.length := of_decide_eq_true h3
    unfold bfp at h4
    rw [List.getElem?_eq_getElem hk] at h4
    have := h b _ (List.getElem?_eq_getElem hk) ((befB_iff x _).1 h4)
    rw [this] at h2
    cases h2
/-- The result that a call with the end e must have. -/
def agree (x : HC) (v : Nat) : Prop := ∀ p w, x.e = some (p, w) → (ap x.c v).2 = some w
def misB (x : HC) (v : Nat) : Bool := match x.e with | none => false | some p => decide (¬ (ap x.c v).2 = some p.2)
theorem misB_iff (x : HC) (v : Nat) : misB x v = true ↔ ¬ agree x v := by
  unfold misB agree
  cases x.e with
  | none => simp
  | some p =>
    obtain ⟨p, w⟩ := p
    simp
/-- The comparison of the cells of two results. -/
theorem misB_cells {x : HC} {v r1 cd k a b r : Nat} {ok1 ok : Bool} (h1 : rap x.c v = .agg #[.int .u64 r1, .bool ok1, .int .i64 cd])
    (h2 : hcc x = [.int .i64 x.c.t, .int .u8 k, .int .u64 0, .int .u64 a, .int .u64 b, .int .i64 x.b, .int .i64 (enc x.e), .int .i64 x.era, .int .u64 r, .bool ok, .int .i64 0]) (h3 : 0 ≤ enc x.e) :
    misB x v = true ↔ ¬ (r1 = r ∧ ok1 = ok ∧ cd = 0) := by
  obtain ⟨k', a', b', _, _, _, ho⟩ := opv_form x.c
  unfold hcc at h2
  rw [ho] at h2
  unfold rsc at h2
  unfold misB
  unfold rap at h1
  cases hx : x.e with
  | none => rw [hx] at h3; exact absurd h3 (by decide)
  | some p =>
    obtain ⟨p, w⟩ := p
    rw [hx] at h2
    simp at h2
    obtain ⟨_, _, _, hwr, rfl⟩ := h2
    obtain rfl : w = r := by omega
    dsimp only
    cases hap : (ap x.c v).2 with
    | none =>
      rw [hap] at h1
      unfold rfail at h1
      simp at h1
      obtain ⟨_, hok, _⟩ := h1
      subst hok
      simp
    | some y =>
      rw [hap] at h1
      unfold rdone at h1
      simp at h1
      obtain ⟨h4, hok, h5⟩ := h1
      subst hok
      obtain rfl : y = r1 := by omega
      obtain rfl : cd = 0 := by omega
      simp
/-! ### the table of powers of ten -/
def PTab (w : World) : Prop := Lib.TabIs Tryz.prog w "internal/strconv.uint64pow10" .u64 Lib.pow10Tab
theorem pt_name : Tryz.prog.globalNamed "internal/strconv.uint64pow10" = some 0 := by kernel_rfl
theorem PTab.lt {w : World} (h : PTab w) : (0 : Nat) < w.heap.size := by
  unfold PTab Lib.TabIs World.var? at h
  rw [pt_name] at h
  rcases Nat.lt_or_ge (0 : Nat) w.heap.size with h' | h'
  · exact h'
  · simp only [Option.bind_some] at h
    rw [Array.getElem?_eq_none h'] at h
    simp at h
theorem PTab.of_block {w w' : World} (h : PTab w) (hb : w'.heap[(0 : Nat)]? = w.heap[(0 : Nat)]?) : PTab w' := by
  unfold PTab Lib.TabIs World.var? at *
  rw [pt_name] at h ⊢
  simp only [Option.bind_some] at h ⊢
  rw [hb]
  exact h
theorem PTab.below {w w' : World} {B : Nat} (h : PTab w) (hb : Below B w w') (hB : w.heap.size ≤ B) : PTab w' := h.of_block (hb.block _ (Nat.lt_of_lt_of_le h.lt hB))

/-! ### the search -/
structure SrSt (X : Nat) (cs : List HC) (cv : Value) (bb mb fb tb z ex K : Nat) (S : Nat × Nat → Prop) (ov : Value) (w : World) : Prop where
  row : Row w fb 128 6 (sfun cv bb cs.length (msk (enp cs) cs.length) mb ov (.func (.func 38) #[] #[ptr tb]))
  own : ∃ xs, w.ownsRow X 3 1 ov K xs
  bf : Row w bb 47 cs.length (fun a => .int .u64 (bfm cs cs.length a))
  km : KMap w mb ex S
  cls : Cls w cs cv
  fin : FinAt w tb z
  tab : PTab w
  x : X ≤ fb ∧ X ≤ mb ∧ X ≤ w.heap.size
  lo : (0 : Nat) < X ∧ tb < X ∧ bb < X
  clo : 0 < cs.length → ∀ g a n c, cv = .slice a n c → a = some ⟨g, 0, none⟩ → g < X
  flo : ∀ f, w.cell? ⟨tb, 0, none⟩ = some (.slice (some ⟨f, 0, none⟩) 1 1) → f < X
section
variable {X : Nat} {cs : List HC} {cv : Value} {bb mb fb tb z ex K : Nat} {S : Nat × Nat → Prop} {ov : Value} {w w' : World}
theorem SrSt.change (h : SrSt X cs cv bb mb fb tb z ex K S ov w) (hb : Below X w w') {ov' : Value} {ex' K' : Nat} {S' : Nat × Nat → Prop}
    (hrow : Row w' fb 128 6 (sfun cv bb cs.length (msk (enp cs) cs.length) mb ov' (.func (.func 38) #[] #[ptr tb]))) (hown : ∃ xs, w'.ownsRow X 3 1 ov' K' xs) (hkm : KMap w' mb ex' S') :
    SrSt X cs cv bb mb fb tb z ex' K' S' ov' w' := by
  have hcell : ∀ b i, b < X → w'.cell? ⟨b, i, none⟩ = w.cell? ⟨b, i, none⟩ := fun b i hlt => hb.cell (p := ⟨b, i, none⟩) hlt
  refine ⟨hrow, hown, h.bf.of_block (hb.block _ h.lo.2.2), hkm, ?_, ?_, h.tab.of_block (hb.block _ h.lo.1), ⟨h.x.1, h.x.2.1, Nat.le_trans h.x.2.2 hb.size⟩, h.lo, h.clo, fun f hf => h.flo f (by rw [← hcell tb 0 h.lo.2.1]; exact hf)⟩
  · obtain ⟨ca, cc, e, h1, h2⟩ := h.cls
    refine ⟨ca, cc, e, h1, fun k y hk => ?_⟩
    obtain ⟨g, e2, hg, h3⟩ := h2 k y hk
    have hgX := h.clo (by have := (List.getElem?_eq_some_iff.1 hk).1; omega) g ca _ _ e e2
    exact ⟨g, e2, Nat.lt_of_lt_of_le hg hb.size, fun j hj => by rw [← h3 j hj]; exact hcell g _ hgX⟩
  · obtain ⟨f, h1, h2⟩ := h.fin
    exact ⟨f, by rw [hcell tb 0 h.lo.2.1]; exact h1, (hb.block f (h.flo f h1)).trans h2⟩
theorem SrSt.below (h : SrSt X cs cv bb mb fb tb z ex K S ov w) (hb : Below w.heap.size w w') : SrSt X cs cv bb mb fb tb z ex K S ov w' := by
  obtain ⟨xs, hx⟩ := h.own
  exact h.change (hb.mono h.x.2.2) (h.row.of_block (hb.block _ h.row.lt)) ⟨xs, own_agree hx (fun b hb2 => hb.block b (hx.lt b hb2).2)⟩ (h.km.kept (hb.block _ h.km.lt))
theorem SrSt.cells (h : SrSt X cs cv bb mb fb tb z ex K S ov w) : w.cell? ⟨fb, 0, none⟩ = some cv ∧ w.cell? ⟨fb, 1, none⟩ = some (.slice (some ⟨bb, 0, none⟩) cs.length cs.length) ∧ w.cell? ⟨fb, 2, none⟩ = some (.int .u64 (msk (enp cs) cs.length)) ∧ w.cell? ⟨fb, 3, none⟩ = some (.map (some mb)) ∧ w.cell? ⟨fb, 4, none⟩ = some ov ∧ w.cell? ⟨fb, 5, none⟩ = some (.func (.func 38) #[] #[.pointer (some ⟨tb, 0, none⟩)]) ∧ ∀ i, w.frozen? ⟨fb, i, none⟩ = false :=
  ⟨h.row.cell 0 (by omega), h.row.cell 1 (by omega), h.row.cell 2 (by omega), h.row.cell 3 (by omega), h.row.cell 4 (by omega), h.row.cell 5 (by omega), h.row.free⟩
theorem own_map_ne {b' n k ex : Nat} {e : TypeId} {v : Value} {xs : List Value} (h : w.ownsRow n e k v K xs) (h' : KMap w b' ex S) : v.ownBlock ≠ some b' := by
  intro hv
  rcases h.2 with ⟨rfl, _⟩ | ⟨g, cap, cur, rfl, _, hg, _⟩
  · cases hv
  · have : some g = some b' := hv
    cases this
    obtain ⟨D, ⟨es, clock, h2, _⟩, _⟩ := h'
    rw [hg] at h2
    cases h2
/-- A key is put down. -/
theorem SrSt.put (h : SrSt X cs cv bb mb fb tb z ex K S ov w) {ex' : Nat} {S' : Nat × Nat → Prop} (hk : KMap w' mb ex' S') (hgr : w.grownBy w' (some mb)) : SrSt X cs cv bb mb fb tb z ex' K S' ov w' ∧ Below X w w' := by
  obtain ⟨xs, hx⟩ := h.own
  have hb : Below X w w' := below_grown (Below.refl X w) hgr h.x.2.2 (fun k hk => by cases hk; exact h.x.2.1)
  refine ⟨h.change hb (h.row.of_block (hgr.block _ h.row.lt (fun e => row_map_ne h.row h.km (by cases e; rfl)))) ⟨xs, own_agree hx (fun b hb2 => hgr.block b (hx.lt b hb2).2 (fun e => own_map_ne hx h.km (by rw [hb2, ← e])))⟩ hk, hb⟩
/-- The slice of the order is replaced. -/
theorem SrSt.order (h : SrSt X cs cv bb mb fb tb z ex K S ov w) (hgr : w.grownBy w' ov.ownBlock) {ov' : Value} {K' : Nat} {ys : List Value} (ho : w'.ownsRow X 3 1 ov' K' ys) :
    SrSt X cs cv bb mb fb tb z ex K' S ov' (w'.setCell ⟨fb, 4, none⟩ ov') ∧ Below X w (w'.setCell ⟨fb, 4, none⟩ ov') := by
  obtain ⟨xs, hx⟩ := h.own
  have hb : Below X w w' := below_grown (Below.refl X w) hgr h.x.2.2 (fun k hk => (hx.lt k hk).1)
  have hrow : Row w' fb 128 6 _ := h.row.of_block (hgr.block _ h.row.lt (Ne.symm (row_own_ne h.row hx (by decide))))
  have hkm : KMap w' mb ex S := h.km.kept (hgr.block _ h.km.lt (fun e => own_map_ne hx h.km e.symm))
  have hb2 := hb.setCell (p := ⟨fb, 4, none⟩) h.x.1 ov'
  refine ⟨h.change hb2 ((hrow.set 4 ov').congr (fun x hx => ?_)) ⟨ys, own_agree ho (fun b hb3 => heap_set_ne (fun e => row_own_ne hrow ho (by decide) (by rw [hb3, e])))⟩ (hkm.kept (heap_set_ne (fun e => row_map_ne hrow hkm e.symm))), hb2⟩
  have : x = 0 ∨ x = 1 ∨ x = 2 ∨ x = 3 ∨ x = 4 ∨ x = 5 := by omega
  rcases this with rfl | rfl | rfl | rfl | rfl | rfl <;> rfl
theorem own_pop {e : TypeId} {g k cap : Nat} {xs : List Value} (h : w.ownsRow X e 1 (.slice (some ⟨g, 0, none⟩) (k + 1) cap) (k + 1) xs) : w.ownsRow X e 1 (.slice (some ⟨g, 0, none⟩) k cap) k (xs.take k) := by
  have hl := h.1
  rcases h.2 with ⟨e1, _⟩ | ⟨g', cap', cur, e1, hb, hh, hc, hm, hs, ht⟩
  · cases e1
  · cases e1
    refine ⟨by rw [List.length_take]; omega, .inr ⟨_, _, cur, rfl, hb, hh, by omega, hm, hs, ?_⟩⟩
    rw [← ht, List.take_take]
    congr 1
    omega
/-- Only the search's own blocks have changed. -/
def Frm (fb mb : Nat) (ov : Value) (w w' : World) : Prop := Only (fun b => b = fb ∨ b = mb ∨ ov.ownBlock = some b) w w'
def Hier (ov ov' : Value) (w : World) : Prop := ∀ g, ov'.ownBlock = some g → ov.ownBlock = some g ∨ w.heap.size ≤ g
theorem Hier.refl (ov : Value) (w : World) : Hier ov ov w := fun g h => .inl h
theorem Hier.trans {a b c : Value} {w w1 : World} (h : Hier a b w) (k : Hier b c w1) (hs : w.heap.size ≤ w1.heap.size) : Hier a c w := fun g hg => by
  rcases k g hg with h1 | h1
  · exact h g h1
  · exact .inr (Nat.le_trans hs h1)
theorem Frm.of_below {fb mb : Nat} {ov : Value} {w w' : World} (h : Below w.heap.size w w') : Frm fb mb ov w w' := ⟨h.os, h.tape, h.output, h.size, fun k hk _ => h.block k hk⟩
theorem Frm.trans {fb mb : Nat} {ov ov1 : Value} {w w1 w2 : World} (h : Frm fb mb ov w w1) (k : Frm fb mb ov1 w1 w2) (hh : Hier ov ov1 w) : Frm fb mb ov w w2 :=
  Only.trans h k (fun i hi hf => by
    rcases hf with hf | hf | hf
    · exact .inl hf
    · exact .inr (.inl hf)
    · rcases hh i hf with h1 | h1
      · exact .inr (.inr h1)
      · omega)
theorem Frm.below {w w' : World} (h : SrSt X cs cv bb mb fb tb z ex K S ov w) (hf : Frm fb mb ov w w') : Below X w w' := by
  obtain ⟨xs, hx⟩ := h.own
  refine ⟨hf.os, hf.tape, hf.output, hf.size, fun k hk => hf.block k (Nat.lt_of_lt_of_le hk h.x.2.2) ?_⟩
  have := h.x
  rintro (e | e | e)
  · omega
  · omega
  · have := (hx.lt k e).1
    omega
theorem StAt.frm {sb v : Nat} {w w' : World} (hs : StAt w sb v) (h : SrSt X cs cv bb mb fb tb z ex K S ov w) (hf : Frm fb mb ov w w') : StAt w' sb v := by
  obtain ⟨xs, hx⟩ := h.own
  refine (hf.block sb (heap_lt hs) ?_).trans hs
  unfold StAt at hs
  rintro (e | e | e)
  · obtain ⟨c, hc, _⟩ := h.row
    rw [← e, hs] at hc
    simp at hc
  · obtain ⟨D, ⟨es, clock, hh, _⟩, _⟩ := h.km
    rw [← e, hs] at hh
    cases hh
  · rcases hx.2 with ⟨e2, _⟩ | ⟨g, cap, cur, e2, _, hg, _⟩
    · rw [e2] at e; cases e
    · rw [e2] at e
      have : some g = some sb := e
      cases this
      rw [hs] at hg
      simp at hg
end
end Go.Proofs.YtejlgnebofdijaaGreatDoor.Dv
