/-
  read of the package mwcas, of a descriptor that is decided: the walk.
-/
import Derived.Test.YtejlgnebofdijaaGreatDoorMRegA
import Derived.Deep.CutBlock
namespace Go.Proofs.YtejlgnebofdijaaGreatDoor.Dv
open Go.RowKit
set_option linter.unusedVariables false

def R1Rel (W : World) (ws : List Nat) (v i : Value) (wr : World) : Prop :=
  ∃ k : Nat, k ≤ ws.length ∧ i = .int .u64 (k : Nat) ∧ wr.ownsRow W.heap.size 48 1 v k (uc (ws.take k)) ∧ Below W.heap.size W wr

/-- The second loop: j entries have been taken. -/
def R2Rel (wr : World) (es : List En) (i : Value) (wl : World) : Prop :=
  ∃ (j : Nat) (ve vw : Value), j ≤ es.length ∧ i = .int .i64 ((3 * j : Nat) : Int) ∧ wl.heap[wr.heap.size]? = some (.cells #[.int .u8 3, ve, vw] 101 (0, 0)) ∧
    wl.ownsRow (wr.heap.size + 1) 110 4 ve j (ecells (es.take j)) ∧ wl.ownsRow (wr.heap.size + 1) 66 2 vw j (wcells (ewr (es.take j))) ∧ Below wr.heap.size wr wl

theorem r2_cells {wl : World} {gw j : Nat} {es : List En} {x : En} (hs : Seen wl gw 0 ((ewords es).map u64)) (hx : es[j]? = some x) :
    wl.cell? ⟨gw, 3 * j, none⟩ = some (.int .u64 x.1) ∧ wl.cell? ⟨gw, 3 * j + 1, none⟩ = some (.int .u64 x.2.1) ∧ wl.cell? ⟨gw, 3 * j + 2, none⟩ = some (.int .u64 x.2.2) := by
  obtain ⟨w1, w2, w3⟩ := ewords_get hx
  refine ⟨?_, ?_, ?_⟩
  · have := hs (3 * j) (u64 x.1) (by rw [List.getElem?_map, w1]; rfl)
    rw [Nat.zero_add] at this; exact this
  · have := hs (3 * j + 1) (u64 x.2.1) (by rw [List.getElem?_map, w2]; rfl)
    rw [Nat.zero_add] at this; exact this
  · have := hs (3 * j + 2) (u64 x.2.2) (by rw [List.getElem?_map, w3]; rfl)
    rw [Nat.zero_add] at this; exact this

theorem andNot1 {a : Nat} (h8 : a % 8 = 0) (h : a < 18446744073709551616) : bits .andNot .u64 (a : Int) 1 = (a : Int) := by
  have e := u64_andNot_nat a 1 h (by omega)
  have e2 : a &&& (18446744073709551615 - 1) = a := by
    apply Nat.eq_of_testBit_eq
    intro i
    rw [Nat.testBit_and]
    rcases Nat.lt_or_ge i 64 with hi | hi
    · rcases Nat.eq_zero_or_pos i with rfl | hp
      · have : a.testBit 0 = false := by rw [Nat.testBit_zero]; simp; omega
        rw [this]; rfl
      · have : (18446744073709551615 - 1 : Nat).testBit i = true := by
          have hh : ∀ i, i < 64 → 0 < i → (18446744073709551615 - 1 : Nat).testBit i = true := by decide
          exact hh i hi hp
        rw [this, Bool.and_true]
    · rw [Nat.testBit_lt_two_pow (Nat.lt_of_lt_of_le h (Nat.pow_le_pow_right (n := 2) (by omega) hi)), Bool.false_and]
  rw [e2] at e
  exact e
theorem and1 {a : Nat} (h8 : a % 8 = 0) (h : a < 18446744073709551616) : bits .and .u64 (a : Int) 1 = 0 := by
  have e := u64_and_nat a 1 h (by omega)
  rw [Nat.and_one_is_mod, show a % 2 = 0 by omega] at e
  exact e
theorem and40i {a : Nat} (h : a < 18446744073709551616) : bits .and .u64 (a : Int) 1099511627775 = ((a % 1099511627776 : Nat) : Int) := by
  have e := u64_and_nat a 1099511627775 h (by omega)
  rw [and40] at e
  exact e
theorem and62 {x : Nat} (h : x < 4611686018427387904) : bits .and .u64 (x : Int) 13835058055282163712 = 0 := by
  have e := u64_and_nat x 13835058055282163712 (by omega) (by omega)
  have e2 : x &&& 13835058055282163712 = 0 := by
    apply Nat.eq_of_testBit_eq
    intro i
    rw [Nat.testBit_and, Nat.zero_testBit]
    rcases Nat.lt_or_ge i 62 with hi | hi
    · have hh : ∀ i, i < 62 → (13835058055282163712 : Nat).testBit i = false := by decide
      rw [hh i hi, Bool.and_false]
    · rw [Nat.testBit_lt_two_pow (Nat.lt_of_lt_of_le (show x < 2 ^ 62 from h) (Nat.pow_le_pow_right (n := 2) (by omega) hi)), Bool.false_and]
  rw [e2] at e
  exact e

theorem nodup_take {es : List En} {j : Nat} {x : En} (hn : (es.map (·.1)).Nodup) (hx : es[j]? = some x) : ∀ e ∈ es.take j, e.1 ≠ x.1 := by
  intro e he heq
  obtain ⟨i, hi, hie⟩ := List.getElem_of_mem he
  rw [List.length_take] at hi
  rw [List.getElem_take] at hie
  obtain ⟨hj, hjx⟩ := List.getElem?_eq_some_iff.1 hx
  have h1 : (es.map (·.1))[i]'(by simp; omega) = (es.map (·.1))[j]'(by simpa using hj) := by
    rw [List.getElem_map, List.getElem_map, hie, hjx, heq]
  have := (List.getElem_inj hn).1 h1
  omega

/-- A region that ends in one state. -/
def AtEnd (A : Act) (W : World) : Exit → Act → World → Prop
  | .normal, a, w => a = A ∧ w = W
  | _, _, _ => False

theorem wp_atEnd {P : Program} {c : Code} {Q : Exit → Act → World → Prop} {a : Act} {w W : World} (h : ∃ A, c.wp P (AtEnd A W) a w ∧ Q .normal A W) : c.wp P Q a w := by
  obtain ⟨A, h1, h2⟩ := h
  refine Code.wp_mono (fun e a' w' hq => ?_) h1
  cases e with
  | normal => obtain ⟨rfl, rfl⟩ := hq; exact h2
  | _ => exact hq.elim

theorem status_n {n c : Nat} (hn : n ≤ 6) : (sst n c / 256) &&& 255 = n := by
  rw [show (255 : Nat) = 2 ^ 8 - 1 from rfl, Nat.and_two_pow_sub_one_eq_mod]
  unfold sst
  omega
theorem sst_ne {n c : Nat} (hn : 1 ≤ n) (hn2 : n ≤ 6) : sst n c ≠ unusedW := by
  unfold sst unusedW
  omega
theorem sst_lt {n c : Nat} (hn : n ≤ 6) (hc : c < 4294967296) : sst n c < 18446744073709551616 := by unfold sst; omega


/-! ### pieces of the code of read -/
def findRegion (n : Nat) : Code → Option Code
  | .region m o b => if m = n then some (.region m o b) else none
  | .seq a b => match findRegion n a with
    | some c => some c
    | none => findRegion n b
  | .cond _ a b => match findRegion n a with
    | some c => some c
    | none => findRegion n b
  | .block _ c => findRegion n c
  | .loop c => findRegion n c
  | .scope c => findRegion n c
  | _ => none
def findBlock (n : Nat) : Code → Option Code
  | .block m c => if m = n then some (.block m c) else findBlock n c
  | .seq a b => match findBlock n a with
    | some c => some c
    | none => findBlock n b
  | .cond _ a b => match findBlock n a with
    | some c => some c
    | none => findBlock n b
  | .loop c => findBlock n c
  | .scope c => findBlock n c
  | _ => none
noncomputable def rg24 : Code := (Tryz.f55.body.bind (findRegion 24)).getD .skip
noncomputable def blk3 : Code := (Tryz.f55.body.bind (findBlock 3)).getD .skip

/-- A piece that ends normally. -/
def Ends (K : Act → World → Prop) : Exit → Act → World → Prop
  | .normal, a, w => K a w
  | _, _, _ => False
theorem wp_ends {P : Program} {c : Code} {Q : Exit → Act → World → Prop} {a : Act} {w : World} (h : c.wp P (Ends (Q .normal)) a w) : c.wp P Q a w := by
  refine Code.wp_mono (fun e a' w' hq => ?_) h
  cases e with
  | normal => exact hq
  | _ => exact hq.elim

set_option maxHeartbeats 4000000 in
set_option maxRecDepth 100000 in
theorem reg24 {V5 V6 : World} {d eb gw n cw J j x1 x2 g6 cap6 wc : Nat} {wa : Option Addr} {K : Act → World → Prop} {c0 c1 c2 c3 c4 c5 c6 c7 c8 c9 c11 c13 c16 c17 c18 c19 c20 c21 c22 c23 c24 c25 c26 c27 c28 c29 c30 c31 c32 c33 c34 c35 c36 c37 c38 c39 c40 c41 c42 c43 c44 c45 c46 c47 c48 c49 c50 c51 c52 c53 c54 c55 c56 c57 c58 c59 c60 c61 c62 c63 c64 c65 c66 c67 c68 c69 c70 c71 c72 c73 c74 c75 c76 c77 c78 c79 c80 c81 c82 c83 c84 c85 c86 c87 c88 c89 c90 c91 c92 c93 c94 c95 c96 c97 c98 c99 c100 c101 c102 c103 c104 c105 c106 c107 c108 c109 c110 c111 c112 c113 c114 c115 c116 c117 c118 c119 c120 c121 c122 c123 c124 c125 c126 c127 c128 c129 c130 c131 : Value}
    (b7 : (J : Int) + 2 < n) (hJ : J < 1000) (k10 : V5.cell? ⟨eb, 0, none⟩ = some (.int .u64 x1)) (k11 : V5.cell? ⟨gw, J + 2, none⟩ = some (.int .u64 x2)) (k12 : V5.cell? ⟨d, 2, none⟩ = some (.slice wa j wc))
    (hrun6 : ∀ ty, (Builtin.append_ #[67, 67] ty #[.slice wa j wc, .slice (some ⟨V5.heap.size, 0, none⟩) 1 1]).run Tryz.prog (V5.alloc (.cells #[.int .u64 x1, .int .u64 x2] 66)).drew = .ok (.slice (some ⟨g6, 0, none⟩) (j + 1) cap6) V6)
    (k13 : V6.cell? ⟨d, 2, none⟩ = some (.slice wa j wc)) (k14 : V6.frozen? ⟨d, 2, none⟩ = false)
    (hq : ∀ u118 u119 u120 u121 u122 u123 u124 u125 u126 u127 u128 u129 u130 : Value, K ⟨#[c0, c1, c2, c3, c4, c5, c6, c7, c8, c9, .slice (some ⟨gw, 0, none⟩) n cw, c11, .pointer (some ⟨d, 0, none⟩), c13, .int .i64 (J : Nat), .pointer (some ⟨eb, 0, none⟩), c16, c17, c18, c19, c20, c21, c22, c23, c24, c25, c26, c27, c28, c29, c30, c31, c32, c33, c34, c35, c36, c37, c38, c39, c40, c41, c42, c43, c44, c45, c46, c47, c48, c49, c50, c51, c52, c53, c54, c55, c56, c57, c58, c59, c60, c61, c62, c63, c64, c65, c66, c67, c68, c69, c70, c71, c72, c73, c74, c75, c76, c77, c78, c79, c80, c81, c82, c83, c84, c85, c86, c87, c88, c89, c90, c91, c92, c93, c94, c95, c96, c97, c98, c99, c100, c101, c102, c103, c104, c105, c106, c107, c108, c109, c110, c111, c112, c113, c114, c115, c116, c117, u118, u119, u120, u121, u122, u123, u124, u125, u126, u127, u128, u129, u130, c131], []⟩ (V6.setCell ⟨d, 2, none⟩ (.slice (some ⟨g6, 0, none⟩) (j + 1) cap6))) :
    Code.wp Tryz.prog rg24 (Ends K) ⟨#[c0, c1, c2, c3, c4, c5, c6, c7, c8, c9, .slice (some ⟨gw, 0, none⟩) n cw, c11, .pointer (some ⟨d, 0, none⟩), c13, .int .i64 (J : Nat), .pointer (some ⟨eb, 0, none⟩), c16, c17, c18, c19, c20, c21, c22, c23, c24, c25, c26, c27, c28, c29, c30, c31, c32, c33, c34, c35, c36, c37, c38, c39, c40, c41, c42, c43, c44, c45, c46, c47, c48, c49, c50, c51, c52, c53, c54, c55, c56, c57, c58, c59, c60, c61, c62, c63, c64, c65, c66, c67, c68, c69, c70, c71, c72, c73, c74, c75, c76, c77, c78, c79, c80, c81, c82, c83, c84, c85, c86, c87, c88, c89, c90, c91, c92, c93, c94, c95, c96, c97, c98, c99, c100, c101, c102, c103, c104, c105, c106, c107, c108, c109, c110, c111, c112, c113, c114, c115, c116, c117, c118, c119, c120, c121, c122, c123, c124, c125, c126, c127, c128, c129, c130, c131], []⟩ V5 := by
  conv => arg 2; whnf
  have s2 : IntKind.i64.wrap ((J : Int) + 2) = (J : Int) + 2 := IntWalk.i64_in _ (by omega)
  have s4 : ((J : Int) + 2).toNat = J + 2 := by omega
  have s6 : (0 : Int) ≤ (J : Int) + 2 := by omega
  have al : ∀ b k u, V5.cell? ⟨b, k, none⟩ = some u → (V5.alloc (.cells #[.int .u64 x1, .int .u64 x2] 66)).cell? ⟨b, k, none⟩ = some u := fun b k u hk => by
    rw [(below_alloc (Below.refl _ V5)).cell (World.block_lt_of_cell? _ _ hk)]; exact hk
  have m1 := al _ _ _ k10
  have m2 := al _ _ _ k11
  have m3 := al _ _ _ k12
  clear al
  obtain ⟨SR, hSR⟩ : ∃ SR : Array Bool → World → Prop, SR = fun L w' => (L.getD 11 true = false → w'.cell? ⟨d, 2, none⟩ = some (.slice wa j wc)) ∧ (L.getD 9 true = false → w'.cell? ⟨eb, 0, none⟩ = some (.int .u64 x1) ∧ w'.cell? ⟨gw, J + 2, none⟩ = some (.int .u64 x2)) := ⟨_, rfl⟩
  have FD : ∀ L w', SR L w' → L.getD 11 true = false → w'.cell? ⟨d, 2, none⟩ = some (.slice wa j wc) := fun L w' h => by rw [hSR] at h; exact h.1
  have FE : ∀ L w', SR L w' → L.getD 9 true = false → w'.cell? ⟨eb, 0, none⟩ = some (.int .u64 x1) := fun L w' h g => by rw [hSR] at h; exact (h.2 g).1
  have FW : ∀ L w', SR L w' → L.getD 9 true = false → w'.cell? ⟨gw, J + 2, none⟩ = some (.int .u64 x2) := fun L w' h g => by rw [hSR] at h; exact (h.2 g).2
  have SI : ∀ i, i ≠ 9 → i ≠ 11 → ∀ L w', SR (L.setIfInBounds i true) w' → SR L w' := fun i h9 h11 L w' h => by
    rw [hSR] at h ⊢
    exact ⟨fun g => h.1 (by rw [getD_set_ne true h11]; exact g), fun g => h.2 (by rw [getD_set_ne true h9]; exact g)⟩
  have S5 : ∀ L, SR L V5.drew := fun L => by rw [hSR]; exact ⟨fun _ => k12, fun _ => ⟨k10, k11⟩⟩
  have S5a : ∀ L, SR L (V5.alloc (.cells #[.int .u64 x1, .int .u64 x2] 66)).drew := fun L => by rw [hSR]; exact ⟨fun _ => m3, fun _ => ⟨m1, m2⟩⟩
  have S9 : ∀ L w', (L.getD 11 true = true) → (L.getD 9 true = true) → SR L w' := fun L w' h1 h2 => by rw [hSR]; exact ⟨fun g => (by rw [h1] at g; cases g), fun g => (by rw [h2] at g; cases g)⟩
  have HFD := Lib.hid FD; have HFE := Lib.hid FE; have HFW := Lib.hid FW; have HSI := Lib.hid SI; have HS5 := Lib.hid S5; have HS5a := Lib.hid S5a; have HS9 := Lib.hid S9; have HR6 := Lib.hid hrun6
  have HQ := Lib.hid hq
  clear hq hSR FD FE FW SI S5 S5a S9 hrun6 m1 m2 m3 k10 k11 k12
  refine wp_region_L SR (by kernel_rfl) ?_
  refine AnyL.take (i := 0) 1 (v := .pointer (some ⟨d, 2, none⟩)) (S0 := fun _ => True) rfl (by kernel_rfl) (by kernel_rfl) (by kernel_rfl) (by kernel_rfl) (by kernel_rfl) (fun _ _ _ h => h) (HSI.out 0 (by decide) (by decide)) (fun _ _ _ _ => trivial) (Or.inl ⟨by rfl, fun w' hc => ?_⟩) (HS5.out _) ?_
  · go_simp
  refine AnyL.take (i := 1) 11 (v := .slice wa j wc) (S0 := fun w' => w'.cell? ⟨d, 2, none⟩ = some (.slice wa j wc)) rfl (by kernel_rfl) (by kernel_rfl) (by kernel_rfl) (by kernel_rfl) (by kernel_rfl) (fun _ _ _ h => h) (HSI.out 1 (by decide) (by decide)) HFD.out (Or.inl ⟨by rfl, fun w' hc => ?_⟩) (HS5.out _) ?_
  · go_simp
  refine AnyL.take (i := 2) 3 (v := .pointer (some ⟨eb, 0, none⟩)) (S0 := fun _ => True) rfl (by kernel_rfl) (by kernel_rfl) (by kernel_rfl) (by kernel_rfl) (by kernel_rfl) (fun _ _ _ h => h) (HSI.out 2 (by decide) (by decide)) (fun _ _ _ _ => trivial) (Or.inl ⟨by rfl, fun w' hc => ?_⟩) (HS5.out _) ?_
  · go_simp
  refine AnyL.take (i := 3) 9 (v := .int .u64 x1) (S0 := fun w' => w'.cell? ⟨eb, 0, none⟩ = some (.int .u64 x1)) rfl (by kernel_rfl) (by kernel_rfl) (by kernel_rfl) (by kernel_rfl) (by kernel_rfl) (fun _ _ _ h => h) (HSI.out 3 (by decide) (by decide)) HFE.out (Or.inl ⟨by rfl, fun w' hc => ?_⟩) (HS5.out _) ?_
  · go_simp
  refine AnyL.take (i := 4) 7 (v := .slice (some ⟨gw, 0, none⟩) n cw) (S0 := fun _ => True) rfl (by kernel_rfl) (by kernel_rfl) (by kernel_rfl) (by kernel_rfl) (by kernel_rfl) (fun _ _ _ h => h) (HSI.out 4 (by decide) (by decide)) (fun _ _ _ _ => trivial) (Or.inl ⟨by rfl, fun w' hc => ?_⟩) (HS5.out _) ?_
  · go_simp
  refine AnyL.take (i := 5) 6 (v := .int .i64 J) (S0 := fun _ => True) rfl (by kernel_rfl) (by kernel_rfl) (by kernel_rfl) (by kernel_rfl) (by kernel_rfl) (fun _ _ _ h => h) (HSI.out 5 (by decide) (by decide)) (fun _ _ _ _ => trivial) (Or.inl ⟨by rfl, fun w' hc => ?_⟩) (HS5.out _) ?_
  · go_simp
  refine AnyL.take (i := 6) 7 (v := .int .i64 ((J : Int) + 2)) (S0 := fun _ => True) rfl (by kernel_rfl) (by kernel_rfl) (by kernel_rfl) (by kernel_rfl) (by kernel_rfl) (fun _ _ _ h => h) (HSI.out 6 (by decide) (by decide)) (fun _ _ _ _ => trivial) (Or.inl ⟨by rfl, fun w' hc => ?_⟩) (HS5.out _) ?_
  · go_simp
  refine AnyL.take (i := 7) 8 (v := .pointer (some ⟨gw, J + 2, none⟩)) (S0 := fun _ => True) rfl (by kernel_rfl) (by kernel_rfl) (by kernel_rfl) (by kernel_rfl) (by kernel_rfl) (fun _ _ _ h => h) (HSI.out 7 (by decide) (by decide)) (fun _ _ _ _ => trivial) (Or.inl ⟨by rfl, fun w' hc => ?_⟩) (HS5.out _) ?_
  · go_simp
  refine AnyL.take (i := 8) 9 (v := .int .u64 x2) (S0 := fun w' => w'.cell? ⟨gw, J + 2, none⟩ = some (.int .u64 x2)) rfl (by kernel_rfl) (by kernel_rfl) (by kernel_rfl) (by kernel_rfl) (by kernel_rfl) (fun _ _ _ h => h) (HSI.out 8 (by decide) (by decide)) HFW.out (Or.inl ⟨by rfl, fun w' hc => ?_⟩) (HS5.out _) ?_
  · go_simp
  refine AnyL.step (j := 9) (by kernel_rfl) rfl (fun K hK => ?_)
  go_simp
  refine hK _ _ (HS5.out _) ?_
  clear hK K
  refine AnyL.step (j := 10) (by kernel_rfl) rfl (fun K hK => ?_)
  go_simp
  refine hK _ _ (HS5a.out _) ?_
  clear hK K
  refine AnyL.step (j := 11) (by kernel_rfl) rfl (fun K hK => ?_)
  refine step_append_run rfl _ _ _ rfl _ _ _ _ rfl rfl HR6.out ?_
  refine hK _ _ (HS9.out _ _ (by kernel_rfl) (by kernel_rfl)) ?_
  clear hK K
  refine AnyL.step (j := 12) (by kernel_rfl) rfl (fun K hK => ?_)
  go_simp
  refine hK _ _ (HS9.out _ _ (by kernel_rfl) (by kernel_rfl)) ?_
  clear hK K
  refine AnyL.step (j := 13) (by kernel_rfl) rfl (fun K hK => ?_)
  go_simp
  refine hK _ _ (HS9.out _ _ (by kernel_rfl) (by kernel_rfl)) ?_
  clear hK K
  refine AnyL.done (by kernel_rfl) ?_
  clear s2 s4 s6 k13 k14 HS9 HS5 HS5a HR6 HSI HFD HFE HFW
  exact HQ.out _ _ _ _ _ _ _ _ _ _ _ _ _

/-- What the second loop of read needs to know. -/
structure R2Env (wo : World) (Lr S rb gw : Nat) (es : List En) : Prop where
  sm : S ≤ 1000000
  ok : EsOk Lr S es
  seen : Seen wo gw 0 ((ewords es).map u64)
  lt : gw < wo.heap.size
  rg : wo.heap[rb]? = some (.cells #[.int .i64 0, .int .i64 Lr, .int .u64 S] 75 (0, 0))

set_option maxHeartbeats 4000000 in
set_option maxRecDepth 100000 in
theorem block3 {wo wr : World} {Lr S rb gw cw j : Nat} {es : List En} {K : Act → World → Prop} {c0 c1 c2 c4 c5 c6 c7 c8 c9 c11 c15 c16 c17 c18 c19 c20 c21 c22 c23 c24 c25 c26 c27 c28 c29 c30 c31 c32 c33 c34 c35 c36 c37 c38 c39 c40 c41 c42 c43 c44 c45 c46 c47 c48 c49 c50 c51 c52 c53 c54 c55 c56 c57 c58 c59 c60 c61 c62 c63 c64 c65 c66 c67 c68 c69 c70 c71 c72 c73 c74 c75 c76 c77 c78 c79 c80 c81 c82 c83 c84 c85 c86 c87 c88 c89 c90 c91 c92 c93 c94 c95 c96 c97 c98 c99 c100 c101 c102 c103 c104 c105 c106 c107 c108 c109 c110 c111 c112 c113 c114 c115 c116 c117 c118 c119 c120 c121 c122 c123 c124 c125 c126 c127 c128 c129 c130 c131 ve vw : Value} (HENV : R2Env wo Lr S rb gw es) (hlt : j < es.length)
    (hd : wr.heap[wo.heap.size]? = some (.cells #[.int .u8 3, ve, vw] 101 (0, 0)))
    (hoe : wr.ownsRow (wo.heap.size + 1) 110 4 ve j (ecells (es.take j))) (how : wr.ownsRow (wo.heap.size + 1) 66 2 vw j (wcells (ewr (es.take j)))) (hbl : Below wo.heap.size wo wr)
    (hq : ∀ (u15 u63 u64 u65 u66 u67 u68 u69 u70 u71 u72 u73 u74 u75 u76 u77 u78 u79 u80 u81 u82 u83 u84 u85 u86 u87 u88 u89 u90 u91 u92 u93 u94 u95 u96 u97 u98 u99 u100 u101 u102 u103 u104 u105 u106 u107 u108 u109 u110 u112 u113 u114 u115 u116 u117 u118 u119 u120 u121 u122 u123 u124 u125 u126 u127 u128 u129 u130 : Value) (w' : World), R2Rel wo es (.int .i64 ((3 * (j + 1) : Nat) : Int)) w' → K ⟨#[c0, c1, c2, .pointer (some ⟨rb, 0, none⟩), c4, c5, c6, c7, c8, c9, .slice (some ⟨gw, 0, none⟩) (ewords es).length cw, c11, .pointer (some ⟨wo.heap.size, 0, none⟩), .func (.func 79) #[] #[.pointer (some ⟨wo.heap.size, 0, none⟩)], .int .i64 (((3 * j : Nat)) : Int), u15, c16, c17, c18, c19, c20, c21, c22, c23, c24, c25, c26, c27, c28, c29, c30, c31, c32, c33, c34, c35, c36, c37, c38, c39, c40, c41, c42, c43, c44, c45, c46, c47, c48, c49, c50, c51, c52, c53, c54, c55, c56, c57, c58, c59, c60, c61, c62, u63, u64, u65, u66, u67, u68, u69, u70, u71, u72, u73, u74, u75, u76, u77, u78, u79, u80, u81, u82, u83, u84, u85, u86, u87, u88, u89, u90, u91, u92, u93, u94, u95, u96, u97, u98, u99, u100, u101, u102, u103, u104, u105, u106, u107, u108, u109, u110, c111, u112, u113, u114, u115, u116, u117, u118, u119, u120, u121, u122, u123, u124, u125, u126, u127, u128, u129, u130, c131], []⟩ w') :
    Code.wp Tryz.prog blk3 (Ends K) ⟨#[c0, c1, c2, .pointer (some ⟨rb, 0, none⟩), c4, c5, c6, c7, c8, c9, .slice (some ⟨gw, 0, none⟩) (ewords es).length cw, c11, .pointer (some ⟨wo.heap.size, 0, none⟩), .func (.func 79) #[] #[.pointer (some ⟨wo.heap.size, 0, none⟩)], .int .i64 (((3 * j : Nat)) : Int), c15, c16, c17, c18, c19, c20, c21, c22, c23, c24, c25, c26, c27, c28, c29, c30, c31, c32, c33, c34, c35, c36, c37, c38, c39, c40, c41, c42, c43, c44, c45, c46, c47, c48, c49, c50, c51, c52, c53, c54, c55, c56, c57, c58, c59, c60, c61, c62, c63, c64, c65, c66, c67, c68, c69, c70, c71, c72, c73, c74, c75, c76, c77, c78, c79, c80, c81, c82, c83, c84, c85, c86, c87, c88, c89, c90, c91, c92, c93, c94, c95, c96, c97, c98, c99, c100, c101, c102, c103, c104, c105, c106, c107, c108, c109, c110, c111, c112, c113, c114, c115, c116, c117, c118, c119, c120, c121, c122, c123, c124, c125, c126, c127, c128, c129, c130, c131], []⟩ wr := by
  have HKQ := Lib.hid hq
  clear hq
  have HE := Lib.hid HENV.ok; have HSE := Lib.hid HENV.seen; have HR1 := Lib.hid HENV.rg; have HSM := Lib.hid HENV.sm
  have hsm := HENV.sm
  have hgw := HENV.lt
  have hn := HENV.ok.n
  clear HENV
  obtain ⟨ws, hws⟩ : ∃ ws, ws = ewords es := ⟨_, rfl⟩
  have HWL1 := Lib.hid (show ws.length = es.length * 3 by rw [hws, ewords_length]; omega)
  have b6 : (ws.length : Int) ≤ 18 := by have := HWL1.out; omega
  have HWS := Lib.hid hws
  rw [← hws] at HSE HKQ ⊢
  clear hws
  conv => arg 2; whnf
  obtain ⟨ea, ec, rfl⟩ := own_slice hoe
  obtain ⟨wa, wc, rfl⟩ := own_slice how
  obtain ⟨x, hx⟩ : ∃ x, x = es[j] := ⟨_, rfl⟩
  have hgx : es[j]? = some x := by rw [hx]; exact List.getElem?_eq_getElem hlt
  have hmx : x ∈ es := by rw [hx]; exact List.getElem_mem hlt
  have htk : es.take (j + 1) = es.take j ++ [x] := by rw [List.take_add_one, hgx]; rfl
  have hs := HSE.out.below hbl (Nat.le_refl _)
  rw [HWS.out] at hs
  obtain ⟨c1, c2, c3⟩ := r2_cells hs hgx
  have hwl := HWL1.out
  have q1 := HE.out.off x hmx
  have q2 := HE.out.old x hmx
  have q3 := HE.out.new x hmx
  have a1 := andNot1 q1.1 (by omega)
  have a2 := and1 q1.1 (by omega)
  have a3 := and40i (a := x.2.2) (by omega)
  have a4 := and62 q3
  obtain ⟨J, hJ⟩ : ∃ J, J = 3 * j := ⟨_, rfl⟩
  rw [← hJ] at c1 c2 c3 HKQ ⊢
  have b7 : (J : Int) + 2 < ws.length := by omega
  have b8 : (J : Int) < ws.length := by omega
  have HJ := Lib.hid hJ
  have al : ∀ k u, wr.cell? ⟨gw, k, none⟩ = some u → (wr.alloc (.cells #[.int .u64 0, .int .u64 0, .int .u64 0, .bool false] 110)).cell? ⟨gw, k, none⟩ = some u := fun k u hk => by
    rw [(below_alloc (Below.refl _ wr)).cell (World.block_lt_of_cell? _ _ hk)]; exact hk
  have c4 := al _ _ c1
  have c5 := al _ _ c2
  have c6 := al _ _ c3
  clear al
  obtain ⟨y, hy⟩ : ∃ y, y = x.2.2 % 1099511627776 := ⟨_, rfl⟩
  rw [← hy] at a3
  have HY := Lib.hid hy
  have s1 : IntKind.i64.wrap ((J : Int) + 1) = (J : Int) + 1 := IntWalk.i64_in _ (by omega)
  have s2 : IntKind.i64.wrap ((J : Int) + 2) = (J : Int) + 2 := IntWalk.i64_in _ (by omega)
  have s3 : ((J : Int) + 1).toNat = J + 1 := by omega
  have s4 : ((J : Int) + 2).toNat = J + 2 := by omega
  have s5 : (0 : Int) ≤ (J : Int) + 1 := by omega
  have s6 : (0 : Int) ≤ (J : Int) + 2 := by omega
  have s7 : (J : Int) + 1 < ws.length := by omega
  have HTK := Lib.hid htk; have HD := Lib.hid hd; have HOE := Lib.hid hoe; have HOW := Lib.hid how; have HBL := Lib.hid hbl; have HGX := Lib.hid hgx
  have HQ := Lib.hid (And.intro q1 (And.intro q2 (And.intro q3 hmx)))
  clear htk hd hoe how hbl hgx hs hx hmx hy hJ q1 q2 q3 hwl a4
  go_wp2_with fail
  go_region
  clear s1 s2 s3 s4 s5 s6 s7 a1 a2 a3 c4 c5 c6 c1 c2
  obtain ⟨V, hV⟩ : ∃ V, V = (wr.alloc (.cells #[.int .u64 x.1, .int .u64 x.2.1, .int .u64 y, .bool false] 110)).drew := ⟨_, rfl⟩
  rw [← hV]
  have hVb : Below wr.heap.size wr V := by rw [hV]; exact below_drew (below_alloc (Below.refl _ _))
  have hVe : V.heap[wr.heap.size]? = some (.cells #[.int .u64 x.1, .int .u64 x.2.1, .int .u64 y, .bool false] 110 (0, 0)) := by rw [hV]; exact heap_alloc_new _ _
  have hVz : wr.heap.size < V.heap.size := by rw [hV]; simp
  have hwo : wo.heap.size < wr.heap.size := heap_lt HD.out
  have hrb : rb < wo.heap.size := heap_lt HR1.out
  have hVd : V.heap[wo.heap.size]? = some (.cells #[.int .u8 3, .slice ea j ec, .slice wa j wc] 101 (0, 0)) := (hVb.block _ hwo).trans HD.out
  have hVr : V.heap[rb]? = some (.cells #[.int .i64 0, .int .i64 Lr, .int .u64 S] 75 (0, 0)) := (hVb.block _ (by omega)).trans ((HBL.out.block _ hrb).trans HR1.out)
  have hVw : V.cell? ⟨gw, J + 2, none⟩ = some (.int .u64 x.2.2) := by rw [hVb.cell (World.block_lt_of_cell? _ _ c3)]; exact c3
  have keepE := HOE.out.kept (w' := V) (row := none) ⟨hVb.os, hVb.tape, hVb.output, hVb.size, fun k hk _ => hVb.block k hk⟩ (by cases (Value.slice ea j ec).ownBlock <;> simp)
  have keepW := HOW.out.kept (w' := V) (row := none) ⟨hVb.os, hVb.tape, hVb.output, hVb.size, fun k hk _ => hVb.block k hk⟩ (by cases (Value.slice wa j wc).ownBlock <;> simp)
  have hVl : Below wo.heap.size wo V := HBL.out.trans (hVb.mono (by omega))
  have k1 := cell_block (i := 0) hVr
  have k2 := cell_block (i := 1) hVr
  have k3 := cell_block (i := 2) hVr
  have k4 := cell_block (i := 0) hVe
  simp at k1 k2 k3 k4
  obtain ⟨q1, q2, q3, hmx⟩ := HQ.out
  have hout := Lib.hid (outside_any (w := V) (Lr := Lr) (S := S) q1.1 q1.2.2 q1.2.1 hsm)
  have HVB := Lib.hid hVb; have HVE := Lib.hid hVe; have HVD := Lib.hid hVd; have HVR := Lib.hid hVr; have HVW := Lib.hid hVw; have HKE := Lib.hid keepE; have HKW := Lib.hid keepW; have HVL := Lib.hid hVl
  have HZ := Lib.hid (And.intro hVz (And.intro hwo hrb))
  clear hV hVb hVe hVd hVr hVw keepE keepW hVl c3 q1 q2 q3 hmx hVz hwo hrb
  unfold rgn at hout
  go_wp2_with fail
  refine hout.out.mono ?_
  rintro e V1 ⟨rfl, hb1⟩
  have hz := HZ.out
  have hjl : (es.take j).length = j := by rw [List.length_take]; omega
  have hKE1 := HKE.out.kept (w' := V1) (row := none) ⟨hb1.os, hb1.tape, hb1.output, hb1.size, fun k hk _ => hb1.block k hk⟩ (by cases (Value.slice ea j ec).ownBlock <;> simp)
  have hkn := known_any (w := V1) (d := wo.heap.size) (off := x.1) (l := es.take j) (B := wo.heap.size + 1) (ve := .slice ea j ec)
    ((hb1.cell (show wo.heap.size < V.heap.size by omega)).trans ((cell_block HVD.out).trans rfl)) (by rw [hjl]; exact hKE1) (by rw [hjl]; have := HE.out.n; omega) (nodup_take HE.out.nd HGX.out)
  have HKN := Lib.hid hkn; have HB1 := Lib.hid hb1
  clear hkn hb1 hKE1 hjl hz k1 k2 k3 k4
  have k4 : V1.cell? ⟨wr.heap.size, 0, none⟩ = some (.int .u64 x.1) := (HB1.out.cell HZ.out.1).trans ((cell_block HVE.out).trans rfl)
  unfold ptr at HKN
  go_wp2_with fail
  refine HKN.out.mono ?_
  rintro e V2 ⟨rfl, hb2⟩
  have hb2' : Below V.heap.size V V2 := HB1.out.trans (hb2.mono HB1.out.size)
  have HB2 := Lib.hid hb2'
  clear hb2 hb2' k4
  have k4 : V2.cell? ⟨wr.heap.size, 0, none⟩ = some (.int .u64 x.1) := (HB2.out.cell HZ.out.1).trans ((cell_block HVE.out).trans rfl)
  have k5 : V2.cell? ⟨wr.heap.size, 1, none⟩ = some (.int .u64 x.2.1) := (HB2.out.cell HZ.out.1).trans ((cell_block HVE.out).trans rfl)
  have k6 : V2.cell? ⟨wr.heap.size, 2, none⟩ = some (.int .u64 y) := (HB2.out.cell HZ.out.1).trans ((cell_block HVE.out).trans rfl)
  have k7 : V2.cell? ⟨wr.heap.size, 3, none⟩ = some (.bool false) := (HB2.out.cell HZ.out.1).trans ((cell_block HVE.out).trans rfl)
  have HPO := Lib.hid (possible_any (w := V2) (off := x.1) (old := x.2.1) (new := y) HQ.out.2.1 (by rw [HY.out]; exact Nat.mod_lt _ (by omega)))
  unfold ent at HPO
  go_wp2_with fail
  refine HPO.out.mono ?_
  rintro e V3 ⟨rfl, hb3⟩
  have hb3' : Below V.heap.size V V3 := HB2.out.trans (hb3.mono HB2.out.size)
  have HB3 := Lib.hid hb3'
  clear hb3 hb3' k4 k5 k6 k7
  have k4 : V3.cell? ⟨wr.heap.size, 0, none⟩ = some (.int .u64 x.1) := (HB3.out.cell HZ.out.1).trans ((cell_block HVE.out).trans rfl)
  have k5 : V3.cell? ⟨wr.heap.size, 1, none⟩ = some (.int .u64 x.2.1) := (HB3.out.cell HZ.out.1).trans ((cell_block HVE.out).trans rfl)
  have k6 : V3.cell? ⟨wr.heap.size, 2, none⟩ = some (.int .u64 y) := (HB3.out.cell HZ.out.1).trans ((cell_block HVE.out).trans rfl)
  have k7 : V3.cell? ⟨wr.heap.size, 3, none⟩ = some (.bool false) := (HB3.out.cell HZ.out.1).trans ((cell_block HVE.out).trans rfl)
  have k8 : V3.cell? ⟨gw, J + 2, none⟩ = some (.int .u64 x.2.2) := (HB3.out.cell (World.block_lt_of_cell? _ _ HVW.out)).trans HVW.out
  have hz := HZ.out
  have hdlt : wo.heap.size < V.heap.size := by omega
  have hd3 : V3.heap[wo.heap.size]? = some (.cells #[.int .u8 3, .slice ea j ec, .slice wa j wc] 101 (0, 0)) := (HB3.out.block _ hdlt).trans HVD.out
  have k9 : V3.cell? ⟨wo.heap.size, 1, none⟩ = some (.slice ea j ec) := (cell_block hd3).trans rfl
  have a4 := and62 HQ.out.2.2.1
  have HOE3 := Lib.hid (own_below HKE.out HB3.out); have HOW3 := Lib.hid (own_below HKW.out HB3.out)
  have HD3 := Lib.hid hd3
  have hs3 : wo.heap.size + 1 ≤ V3.heap.size := Nat.le_trans hdlt HB3.out.size
  have HS3 := Lib.hid hs3
  have hn6 := HE.out.n
  have HJL : Hid (j < 6) := Lib.hid (by omega)
  clear hz hdlt hd3 hs3 hn6
  go_wp2_with (at_builtin; refine wpList_own1 elEntries rfl _ _ rfl HOE3.out rfl rfl ?c1 rfl ?c2 ?c3 ?c4 ?c5 ?_)
  case c1 => rfl
  case c2 => exact ⟨rfl, rfl, rfl, rfl⟩
  case c3 => unfold maxLen; have := HJL.out; omega
  case c4 => have := HJL.out; omega
  case c5 => exact HS3.out
  intro g4 cap4 V4 hoe4 hgr4 hg4
  have hgE := own_cells_ne HOE3.out HD3.out (by decide)
  have hd4 : V4.heap[wo.heap.size]? = some (.cells #[.int .u8 3, .slice ea j ec, .slice wa j wc] 101 (0, 0)) := (hgr4.block _ (heap_lt HD3.out) hgE).trans HD3.out
  have how4 := HOW3.out.kept hgr4 (own_ne HOW3.out HOE3.out (by decide))
  have k1 : V4.cell? ⟨wo.heap.size, 1, none⟩ = some (.slice ea j ec) := (cell_block hd4).trans rfl
  have k2 : V4.frozen? ⟨wo.heap.size, 1, none⟩ = false := free_block hd4
  have hne3 : some wr.heap.size ≠ (Value.slice ea j ec).ownBlock := fun e => by have := (HOE.out.lt _ e.symm).2; omega
  have hgwlt : gw < wo.heap.size := hgw
  have hbE : Below wo.heap.size V3 V4 := below_grown (Below.refl _ _) hgr4 (by have := HS3.out; omega) (fun k hk => by have := (HOE3.out.lt k hk).1; omega)
  have ke : V4.heap[wr.heap.size]? = some (.cells #[.int .u64 x.1, .int .u64 x.2.1, .int .u64 y, .bool false] 110 (0, 0)) :=
    (hgr4.block _ (Nat.lt_of_lt_of_le HZ.out.1 HB3.out.size) hne3).trans ((HB3.out.block _ HZ.out.1).trans HVE.out)
  obtain ⟨V5, hV5⟩ : ∃ V5, V5 = V4.setCell ⟨wo.heap.size, 1, none⟩ (.slice (some ⟨g4, 0, none⟩) (j + 1) cap4) := ⟨_, rfl⟩
  have hg5 := grownBy_set V4 wo.heap.size 1 (.slice (some ⟨g4, 0, none⟩) (j + 1) cap4)
  rw [← hV5] at hg5
  have hd5 : V5.heap[wo.heap.size]? = some (.cells #[.int .u8 3, .slice (some ⟨g4, 0, none⟩) (j + 1) cap4, .slice wa j wc] 101 (0, 0)) := by rw [hV5]; exact (heap_set hd4).trans rfl
  have hoe5 := hoe4.kept hg5 (.inr (by have := own_cells_ne hoe4 hd4 (by decide); exact fun e => this e.symm))
  have how5 := how4.kept hg5 (.inr (by have := own_cells_ne how4 hd4 (by decide); exact fun e => this e.symm))
  have hb5 : Below wo.heap.size V3 V5 := below_grown hbE hg5 (by have := HS3.out; have := hgr4.size; omega) (fun k hk => by cases hk; exact Nat.le_refl _)
  have hb35 : Below wo.heap.size wo V5 := (HVL.out.trans (HB3.out.mono (by have := HZ.out; omega))).trans hb5
  have hs5 : wo.heap.size + 1 ≤ V5.heap.size := heap_lt hd5
  have k10 : V5.cell? ⟨wr.heap.size, 0, none⟩ = some (.int .u64 x.1) := (cell_block ((hg5.block _ (heap_lt ke) (by simp; have := HZ.out; omega)).trans ke)).trans rfl
  have k11 : V5.cell? ⟨gw, J + 2, none⟩ = some (.int .u64 x.2.2) := (hb5.cell hgwlt).trans k8
  have k12 : V5.cell? ⟨wo.heap.size, 2, none⟩ = some (.slice wa j wc) := (cell_block hd5).trans rfl
  obtain ⟨g6, cap6, V6, hrun6, how6, hgr6, hg6⟩ := append_own2 (w := (V5.alloc (.cells #[.int .u64 x.1, .int .u64 x.2.2] 66)).drew) elWrites (show ((V5.alloc (.cells #[.int .u64 x.1, .int .u64 x.2.2] 66)).drew).ownsRow _ _ _ _ _ _ from how5.alloc _)
    ⟨V5.heap.size, 0, none⟩ 1 1 [.int .u64 x.1, .int .u64 x.2.2] rfl (fun k u hk => by
      rw [Addr.add_lit, Nat.zero_add]
      have e := cell_block (i := k) (heap_alloc_new V5 (.cells #[.int .u64 x.1, .int .u64 x.2.2] 66))
      exact (show ((V5.alloc (.cells #[.int .u64 x.1, .int .u64 x.2.2] 66)).drew).cell? _ = _ from e).trans (by simpa using hk))
    (by intro u hu; simp at hu; rcases hu with rfl | rfl <;> rfl) (by omega) (by unfold maxLen; have := HJL.out; omega) (by have := HJL.out; omega) (by simp; omega)
  have hgA : V5.grownBy V6 (Value.slice wa j wc).ownBlock := (World.grownBy_alloc V5 (.cells #[.int .u64 x.1, .int .u64 x.2.2] 66) (Value.slice wa j wc).ownBlock).andThen (b' := V5.alloc (.cells #[.int .u64 x.1, .int .u64 x.2.2] 66)) ⟨hgr6.os, hgr6.tape, hgr6.output, hgr6.size, hgr6.block⟩ (fun j hj => .inr hj)
  have hd6 : V6.heap[wo.heap.size]? = some (.cells #[.int .u8 3, .slice (some ⟨g4, 0, none⟩) (j + 1) cap4, .slice wa j wc] 101 (0, 0)) := (hgA.block _ (heap_lt hd5) (own_cells_ne how5 hd5 (by decide))).trans hd5
  have k13 : V6.cell? ⟨wo.heap.size, 2, none⟩ = some (.slice wa j wc) := (cell_block hd6).trans rfl
  have k14 : V6.frozen? ⟨wo.heap.size, 2, none⟩ = false := free_block hd6
  have hoe6 := hoe5.kept hgA (own_ne hoe5 how5 (by decide))
  have hb6 : Below wo.heap.size wo V6 := below_grown hb35 hgA (by omega) (fun k hk => by have := (how5.lt k hk).1; omega)
  have hg7 := grownBy_set V6 wo.heap.size 2 (.slice (some ⟨g6, 0, none⟩) (j + 1) cap6)
  have hd7 := heap_set (i := 2) (v := .slice (some ⟨g6, 0, none⟩) (j + 1) cap6) hd6
  have hoe7 := hoe6.kept hg7 (.inr (by have := own_cells_ne hoe6 hd6 (by decide); exact fun e => this e.symm))
  have how7 := how6.kept hg7 (.inr (by have := own_cells_ne how6 hd6 (by decide); exact fun e => this e.symm))
  have hb7 : Below wo.heap.size wo (V6.setCell ⟨wo.heap.size, 2, none⟩ (.slice (some ⟨g6, 0, none⟩) (j + 1) cap6)) := below_grown hb6 hg7 (by have := heap_lt hd6; omega) (fun k hk => by cases hk; exact Nat.le_refl _)
  have G := Lib.hid (show R2Rel wo es (.int .i64 ((3 * (j + 1) : Nat) : Int)) (V6.setCell ⟨wo.heap.size, 2, none⟩ (.slice (some ⟨g6, 0, none⟩) (j + 1) cap6)) from
    ⟨j + 1, _, _, by omega, rfl, hd7.trans rfl, by rw [HTK.out, ecells_snoc, ← HY.out]; exact hoe7, by rw [HTK.out, ewr, List.map_append]; exact (by rw [← ewr]; exact (wcells_snoc _ _ ▸ how7)), hb7⟩)
  have HV5 := Lib.hid hV5
  clear HE HWS HWL1 HSE HR1 HSM HTK HD HOE HOW HBL HGX HQ HVB HVE HVD HVR HVW HKE HKW HVL HKN HB1 HB2 HB3 HPO HOE3 HOW3 HD3 HS3 HJL hout HY hgw hlt hn
  clear hV5 hb7 how7 hoe7 hd7 hg7 hb6 hoe6 hd6 hgA how6 hgr6 hg6 hs5 hb35 hb5 how5 hoe5 hd5 hg5 ke hbE hgwlt hne3 how4 hd4 hgE hgr4 hg4 hoe4 k4 k5 k6 k7 k8 k9 a4
  go_upto_region 24 with fail
  rw [← HV5.out]
  refine wp_ends ?_
  refine reg24 b7 (by omega) k10 k11 k12 hrun6 k13 k14 ?_
  intro _ _ _ _ _ _ _ _ _ _ _ _ _
  exact HKQ.out _ _ _ _ _ _ _ _ _ _ _ _ _ _ _ _ _ _ _ _ _ _ _ _ _ _ _ _ _ _ _ _ _ _ _ _ _ _ _ _ _ _ _ _ _ _ _ _ _ _ _ _ _ _ _ _ _ _ _ _ _ _ _ _ _ _ _ _ _ G.out
end Go.Proofs.YtejlgnebofdijaaGreatDoor.Dv
