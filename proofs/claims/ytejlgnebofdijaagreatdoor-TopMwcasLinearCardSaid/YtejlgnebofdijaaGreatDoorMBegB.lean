/-
  Begin of the package mwcas: the region that appends to the order.
  Begin of the package mwcas: what the walk needs to know.
  Begin of the package mwcas: the walk.
-/
import Derived.Test.YtejlgnebofdijaaGreatDoorMBegA
namespace Go.Proofs.YtejlgnebofdijaaGreatDoor.Dv
open Go.RowKit
set_option linter.unusedVariables false

noncomputable def rgB21 : Code := (Tryz.f34.body.bind (findRegion 21)).getD .skip

set_option maxHeartbeats 4000000 in
set_option maxRecDepth 100000 in
theorem regB21 {V V6 : World} {vb ob j on oc g6 cap6 : Nat} {oa : Option Addr} {K : Act → World → Prop} {c0 c1 c2 c3 c4 c5 c6 c7 c8 c9 c10 c11 c12 c13 c16 c17 c18 c19 c20 c21 c22 c23 c24 c25 c26 c27 c28 c29 c30 c31 c32 c33 c34 c35 c36 c37 c38 c39 c40 c41 c42 c43 c44 c45 c46 c47 c48 c49 c50 c51 c52 c53 c54 c55 c56 c57 c58 c59 c60 c61 c62 c63 c64 c65 c66 c67 c68 c69 c70 c71 c72 c73 c74 c75 c76 c77 c78 c79 c80 c81 c82 c83 c84 c85 c86 c87 c88 c89 c90 c91 c92 c93 c94 c95 c96 c97 c98 c99 c100 c101 c102 c103 c104 c105 c106 c107 c108 c109 c110 c111 c112 c113 c114 c115 c116 c117 c118 c119 c120 c121 : Value}
    (k1 : V.cell? ⟨vb, 0, none⟩ = some (.pointer (some ⟨ob, 0, none⟩))) (k2 : V.cell? ⟨ob, 4, none⟩ = some (.slice oa on oc))
    (hrun6 : ∀ ty, (Builtin.append_ #[59, 59] ty #[.slice oa on oc, .slice (some ⟨V.heap.size, 0, none⟩) 1 1]).run Tryz.prog (V.alloc (.cells #[.int .i64 j] 3)).drew = .ok (.slice (some ⟨g6, 0, none⟩) (j + 1) cap6) V6)
    (k3 : V6.cell? ⟨ob, 4, none⟩ = some (.slice oa on oc)) (k4 : V6.frozen? ⟨ob, 4, none⟩ = false) (k5 : V6.cell? ⟨vb, 0, none⟩ = some (.pointer (some ⟨ob, 0, none⟩)))
    (hq : ∀ u98 u99 u100 u101 u102 u103 u104 u105 u106 u107 : Value, K ⟨#[c0, c1, c2, c3, c4, c5, c6, c7, c8, c9, c10, c11, c12, c13, .pointer (some ⟨vb, 0, none⟩), .int .i64 (j : Nat), c16, c17, c18, c19, c20, c21, c22, c23, c24, c25, c26, c27, c28, c29, c30, c31, c32, c33, c34, c35, c36, c37, c38, c39, c40, c41, c42, c43, c44, c45, c46, c47, c48, c49, c50, c51, c52, c53, c54, c55, c56, c57, c58, c59, c60, c61, c62, c63, c64, c65, c66, c67, c68, c69, c70, c71, c72, c73, c74, c75, c76, c77, c78, c79, c80, c81, c82, c83, c84, c85, c86, c87, c88, c89, c90, c91, c92, c93, c94, c95, c96, c97, u98, u99, u100, u101, u102, u103, u104, u105, u106, u107, c108, c109, c110, c111, c112, c113, c114, c115, c116, c117, c118, c119, c120, c121], []⟩ (V6.setCell ⟨ob, 4, none⟩ (.slice (some ⟨g6, 0, none⟩) (j + 1) cap6))) :
    Code.wp Tryz.prog rgB21 (Ends K) ⟨#[c0, c1, c2, c3, c4, c5, c6, c7, c8, c9, c10, c11, c12, c13, .pointer (some ⟨vb, 0, none⟩), .int .i64 (j : Nat), c16, c17, c18, c19, c20, c21, c22, c23, c24, c25, c26, c27, c28, c29, c30, c31, c32, c33, c34, c35, c36, c37, c38, c39, c40, c41, c42, c43, c44, c45, c46, c47, c48, c49, c50, c51, c52, c53, c54, c55, c56, c57, c58, c59, c60, c61, c62, c63, c64, c65, c66, c67, c68, c69, c70, c71, c72, c73, c74, c75, c76, c77, c78, c79, c80, c81, c82, c83, c84, c85, c86, c87, c88, c89, c90, c91, c92, c93, c94, c95, c96, c97, c98, c99, c100, c101, c102, c103, c104, c105, c106, c107, c108, c109, c110, c111, c112, c113, c114, c115, c116, c117, c118, c119, c120, c121], []⟩ V := by
  conv => arg 2; whnf
  have al : ∀ b k u, V.cell? ⟨b, k, none⟩ = some u → (V.alloc (.cells #[.int .i64 j] 3)).cell? ⟨b, k, none⟩ = some u := fun b k u hk => by
    rw [(below_alloc (Below.refl _ V)).cell (World.block_lt_of_cell? _ _ hk)]; exact hk
  have m1 := al _ _ _ k1
  have m2 := al _ _ _ k2
  clear al
  obtain ⟨SR, hSR⟩ : ∃ SR : Array Bool → World → Prop, SR = fun L w' => (L.getD 8 true = false → w'.cell? ⟨vb, 0, none⟩ = some (.pointer (some ⟨ob, 0, none⟩))) ∧ (L.getD 7 true = false → w'.cell? ⟨ob, 4, none⟩ = some (.slice oa on oc)) := ⟨_, rfl⟩
  have FA : ∀ L w', SR L w' → L.getD 8 true = false → w'.cell? ⟨vb, 0, none⟩ = some (.pointer (some ⟨ob, 0, none⟩)) := fun L w' h => by rw [hSR] at h; exact h.1
  have FB : ∀ L w', SR L w' → L.getD 7 true = false → w'.cell? ⟨ob, 4, none⟩ = some (.slice oa on oc) := fun L w' h => by rw [hSR] at h; exact h.2
  have SI : ∀ i, i ≠ 8 → i ≠ 7 → ∀ L w', SR (L.setIfInBounds i true) w' → SR L w' := fun i h8 h7 L w' h => by
    rw [hSR] at h ⊢
    exact ⟨fun g => h.1 (by rw [getD_set_ne true h8]; exact g), fun g => h.2 (by rw [getD_set_ne true h7]; exact g)⟩
  have S5 : ∀ L, SR L V.drew := fun L => by rw [hSR]; exact ⟨fun _ => k1, fun _ => k2⟩
  have S5a : ∀ L, SR L (V.alloc (.cells #[.int .i64 j] 3)).drew := fun L => by rw [hSR]; exact ⟨fun _ => m1, fun _ => m2⟩
  have S6 : ∀ L, (L.getD 7 true = true) → SR L V6 := fun L h1 => by rw [hSR]; exact ⟨fun _ => k5, fun g => (by rw [h1] at g; cases g)⟩
  have S9 : ∀ L w', (L.getD 8 true = true) → (L.getD 7 true = true) → SR L w' := fun L w' h1 h2 => by rw [hSR]; exact ⟨fun g => (by rw [h1] at g; cases g), fun g => (by rw [h2] at g; cases g)⟩
  have HFA := Lib.hid FA; have HFB := Lib.hid FB; have HSI := Lib.hid SI; have HS5 := Lib.hid S5; have HS5a := Lib.hid S5a; have HS6 := Lib.hid S6; have HS9 := Lib.hid S9; have HR6 := Lib.hid hrun6; have HQ := Lib.hid hq
  clear hq hSR FA FB SI S5 S5a S6 S9 hrun6 m1 m2 k1 k2
  refine wp_region_L SR (by kernel_rfl) ?_
  refine AnyL.take (i := 0) 8 (v := .pointer (some ⟨ob, 0, none⟩)) (S0 := fun w' => w'.cell? ⟨vb, 0, none⟩ = some (.pointer (some ⟨ob, 0, none⟩))) rfl (by kernel_rfl) (by kernel_rfl) (by kernel_rfl) (by kernel_rfl) (by kernel_rfl) (fun _ _ _ h => h) (HSI.out 0 (by decide) (by decide)) HFA.out (Or.inl ⟨by rfl, fun w' hc => ?_⟩) (HS5.out _) ?_
  · go_simp
  refine AnyL.take (i := 1) 8 (v := .pointer (some ⟨ob, 0, none⟩)) (S0 := fun w' => w'.cell? ⟨vb, 0, none⟩ = some (.pointer (some ⟨ob, 0, none⟩))) rfl (by kernel_rfl) (by kernel_rfl) (by kernel_rfl) (by kernel_rfl) (by kernel_rfl) (fun _ _ _ h => h) (HSI.out 1 (by decide) (by decide)) HFA.out (Or.inl ⟨by rfl, fun w' hc => ?_⟩) (HS5.out _) ?_
  · go_simp
  refine AnyL.take (i := 2) 3 (v := .pointer (some ⟨ob, 0, none⟩)) (S0 := fun _ => True) rfl (by kernel_rfl) (by kernel_rfl) (by kernel_rfl) (by kernel_rfl) (by kernel_rfl) (fun _ _ _ h => h) (HSI.out 2 (by decide) (by decide)) (fun _ _ _ _ => trivial) (Or.inl ⟨by rfl, fun w' hc => ?_⟩) (HS5.out _) ?_
  · go_simp
  refine AnyL.take (i := 3) 4 (v := .pointer (some ⟨ob, 4, none⟩)) (S0 := fun _ => True) rfl (by kernel_rfl) (by kernel_rfl) (by kernel_rfl) (by kernel_rfl) (by kernel_rfl) (fun _ _ _ h => h) (HSI.out 3 (by decide) (by decide)) (fun _ _ _ _ => trivial) (Or.inl ⟨by rfl, fun w' hc => ?_⟩) (HS5.out _) ?_
  · go_simp
  refine AnyL.take (i := 4) 7 (v := .slice oa on oc) (S0 := fun w' => w'.cell? ⟨ob, 4, none⟩ = some (.slice oa on oc)) rfl (by kernel_rfl) (by kernel_rfl) (by kernel_rfl) (by kernel_rfl) (by kernel_rfl) (fun _ _ _ h => h) (HSI.out 4 (by decide) (by decide)) HFB.out (Or.inl ⟨by rfl, fun w' hc => ?_⟩) (HS5.out _) ?_
  · go_simp
  refine AnyL.take (i := 5) 6 (v := .int .i64 j) (S0 := fun _ => True) rfl (by kernel_rfl) (by kernel_rfl) (by kernel_rfl) (by kernel_rfl) (by kernel_rfl) (fun _ _ _ h => h) (HSI.out 5 (by decide) (by decide)) (fun _ _ _ _ => trivial) (Or.inl ⟨by rfl, fun w' hc => ?_⟩) (HS5.out _) ?_
  · go_simp
  refine AnyL.step (j := 6) (by kernel_rfl) rfl (fun K hK => ?_)
  go_simp
  refine hK _ _ (HS5a.out _) ?_
  clear hK K
  refine AnyL.step (j := 7) (by kernel_rfl) rfl (fun K hK => ?_)
  refine step_append_run rfl _ _ _ rfl _ _ _ _ rfl rfl HR6.out ?_
  refine hK _ _ (HS6.out _ (by kernel_rfl)) ?_
  clear hK K
  refine AnyL.step (j := 8) (by kernel_rfl) rfl (fun K hK => ?_)
  go_simp
  refine hK _ _ (HS9.out _ _ (by kernel_rfl) (by kernel_rfl)) ?_
  clear hK K
  refine AnyL.step (j := 9) (by kernel_rfl) rfl (fun K hK => ?_)
  go_simp
  refine hK _ _ (HS9.out _ _ (by kernel_rfl) (by kernel_rfl)) ?_
  clear hK K
  refine AnyL.step (j := 10) (by kernel_rfl) rfl (fun K hK => ?_)
  go_simp
  refine hK _ _ (HS9.out _ _ (by kernel_rfl) (by kernel_rfl)) ?_
  refine AnyL.done (by kernel_rfl) ?_
  exact HQ.out _ _ _ _ _ _ _ _ _ _
end Go.Proofs.YtejlgnebofdijaaGreatDoor.Dv

namespace Go.Proofs.YtejlgnebofdijaaGreatDoor.Dv
open Go.RowKit
set_option linter.unusedVariables false

structure OrdL (n : Nat) (ord : List Nat) : Prop where
  len : ord.length = n
  lt : ∀ x ∈ ord, x < n
  all : ∀ x, x < n → x ∈ ord
def BgPost (w : World) (A : DAd) (B : MAd) (N t K : Nat) (m : MS) (F G : Nat → Option Role) (es : List (Nat × Nat × Nat)) (e : Ending) (w' : World) : Prop :=
  ∃ (ord : List Nat) (B' : MAd) (G' : Nat → Option Role), e = .returned (.tuple #[ptr (B'.o N), .int .i64 0]) ∧ MW w' A B' 96 (N + 1) (m.begin N t K es ord) F G' ∧ OrdL es.length ord ∧ B'.nb = B.nb ∧ B'.p = B.p ∧ (∀ i, i < N → B'.o i = B.o i) ∧ MMoved F G F G' w w'
/-- The box of the entry. -/
def EnAt (w : World) (bx p S : Nat) (x : Nat × Nat × Nat) : Prop :=
  w.cell? ⟨bx, 0, none⟩ = some (.int .u64 x.1) ∧ w.cell? ⟨bx, 1, none⟩ = some (.int .u64 x.2.1) ∧ w.cell? ⟨bx, 2, none⟩ = some (.int .u64 x.2.2) ∧ w.cell? ⟨bx, 3, none⟩ = some (.bool false) ∧
  w.cell? ⟨p, 1, none⟩ = some (.int .i64 0) ∧ w.cell? ⟨p, 2, none⟩ = some (.int .i64 96) ∧ w.cell? ⟨p, 3, none⟩ = some (.int .u64 S)
theorem EnAt.below {a w : World} {bx p S : Nat} {x : Nat × Nat × Nat} (h : EnAt a bx p S x) (hb : Below a.heap.size a w) : EnAt w bx p S x := by
  have hl := World.block_lt_of_cell? _ _ h.1
  have hl2 := World.block_lt_of_cell? _ _ h.2.2.2.2.1
  have k1 : ∀ j, w.cell? ⟨bx, j, none⟩ = a.cell? ⟨bx, j, none⟩ := fun j => hb.cell (show (Addr.mk bx j none).block < _ from hl)
  have k2 : ∀ j, w.cell? ⟨p, j, none⟩ = a.cell? ⟨p, j, none⟩ := fun j => hb.cell (show (Addr.mk p j none).block < _ from hl2)
  unfold EnAt
  rw [k1, k1, k1, k1, k2, k2, k2]
  exact h
theorem nodup_take3 {es : List (Nat × Nat × Nat)} {j : Nat} {x : Nat × Nat × Nat} (hn : (es.map (·.1)).Nodup) (hx : es[j]? = some x) : ∀ e ∈ es.take j, e.1 ≠ x.1 := nodup_take (es := es) hn hx
theorem encells_take {w : World} {b : Nat} {es : List (Nat × Nat × Nat)} {j : Nat} (h : Seen w b 0 (encells es)) : Seen w b 0 (encells (es.take j)) := by
  intro i u hi
  refine h i u ?_
  have : encells es = encells (es.take j) ++ encells (es.drop j) := by
    unfold encells
    rw [← List.flatMap_append, List.take_append_drop]
  rw [this]
  rw [List.getElem?_append_left (List.getElem?_eq_some_iff.1 hi).1]
  exact hi

def zeros (n : Nat) : Array Value := madeCells (Value.int .u64 0).cells n
theorem zeros_get {n x : Nat} (h : x < n) : (zeros n)[x]? = some (u64 0) := by
  unfold zeros madeCells
  rw [Array.getElem?_map, Array.getElem?_range, if_pos h]
  simp [Value.cells, Nat.mod_one, u64]
/-- The cells of an operation that has just begun. -/
def bopc (A : DAd) (p t N en ec sb n : Nat) (ov : Value) : Array Value :=
  #[.pointer (some ⟨p, 0, none⟩), .pointer (some ⟨A.t t, 0, none⟩), .int .i64 N, .slice (some ⟨en, 0, none⟩) n ec, ov, .slice (some ⟨sb, 0, none⟩) n n, .int .i64 0, .int .i64 0, .slice none 0 0, .bool false, .bool false, .bool false, .int .i64 0, .pointer none, .int .i64 0, .int .i64 0]
/-- The new operation while its order is made. -/
structure BgSt (X : World) (A : DAd) (p t N n : Nat) (es : List (Nat × Nat × Nat)) (vb ob en ec sb : Nat) (ov : Value) (w' : World) : Prop where
  v : w'.heap[vb]? = some (.cells #[.pointer (some ⟨ob, 0, none⟩)] 93 (0, 0))
  o : w'.heap[ob]? = some (.cells (bopc A p t N en ec sb n ov) 156 (0, 0))
  e : w'.ownsRow X.heap.size 110 4 (.slice (some ⟨en, 0, none⟩) n ec) n (encells es)
  s : w'.heap[sb]? = some (.cells (zeros n) 48 (0, 0))
  bel : Below X.heap.size X w'
  ge : X.heap.size ≤ vb ∧ X.heap.size ≤ ob ∧ X.heap.size ≤ sb
def BgCut2 (X : World) (A : DAd) (p t N n : Nat) (es : List (Nat × Nat × Nat)) (v : Value) (w' : World) : Prop := ∃ vb ob en ec sb, v = .pointer (some ⟨vb, 0, none⟩) ∧ BgSt X A p t N n es vb ob en ec sb (.slice none 0 0) w'
theorem ha11 (V : World) (a b : Obj) : ((V.alloc a).alloc b).heap[V.heap.size + 1]? = some b := by have := heap_alloc_new (V.alloc a) b; simpa using this
theorem ha10 (V : World) (a b : Obj) : ((V.alloc a).alloc b).heap[V.heap.size]? = some a := by rw [heap_alloc_lt (by simp)]; exact heap_alloc_new V a
theorem ha22 (V : World) (a b c : Obj) : (((V.alloc a).alloc b).alloc c).heap[V.heap.size + 1 + 1]? = some c := by have := heap_alloc_new ((V.alloc a).alloc b) c; simpa using this
theorem ha21 (V : World) (a b c : Obj) : (((V.alloc a).alloc b).alloc c).heap[V.heap.size + 1]? = some b := by rw [heap_alloc_lt (by simp)]; exact ha11 V a b
theorem ha20 (V : World) (a b c : Obj) : (((V.alloc a).alloc b).alloc c).heap[V.heap.size]? = some a := by rw [heap_alloc_lt (by simp; omega)]; exact ha10 V a b
theorem set_size (V : World) (a : Addr) (v : Value) : (V.setCell a v).heap.size = V.heap.size := by simp [World.setCell]
theorem hs00 (V : World) (a : Addr) (v : Value) (o : Obj) : ((V.setCell a v).alloc o).heap[V.heap.size]? = some o := by have := heap_alloc_new (V.setCell a v) o; rw [set_size] at this; exact this
theorem hs11 (V : World) (a : Addr) (v : Value) (x y : Obj) : (((V.setCell a v).alloc x).alloc y).heap[V.heap.size + 1]? = some y := by have := ha11 (V.setCell a v) x y; rw [set_size] at this; exact this
theorem hs10 (V : World) (a : Addr) (v : Value) (x y : Obj) : (((V.setCell a v).alloc x).alloc y).heap[V.heap.size]? = some x := by have := ha10 (V.setCell a v) x y; rw [set_size] at this; exact this
theorem bg_close {X w' : World} {A : DAd} {p t N n : Nat} {es : List (Nat × Nat × Nat)} {vb ob en ec sb : Nat} (hv : w'.heap[vb]? = some (.cells #[.pointer (some ⟨ob, 0, none⟩)] 93 (0, 0)))
    (ho : w'.heap[ob]? = some (.cells (bopc A p t N en ec sb n (.slice none 0 0)) 156 (0, 0))) (he : w'.ownsRow X.heap.size 110 4 (.slice (some ⟨en, 0, none⟩) n ec) n (encells es)) (hs : w'.heap[sb]? = some (.cells (zeros n) 48 (0, 0)))
    (hb : Below X.heap.size X w') (h1 : X.heap.size ≤ vb) (h2 : X.heap.size ≤ ob) (h3 : X.heap.size ≤ sb) : BgCut2 X A p t N n es (.pointer (some ⟨vb, 0, none⟩)) w' :=
  ⟨vb, ob, en, ec, sb, rfl, hv, ho, he, hs, hb, h1, h2, h3⟩
def Apart3 (w w' : World) : Prop := (∀ b, b < w.heap.size → b < w'.heap.size + 1) ∧ (∀ b, b < w.heap.size → b < w'.heap.size + 2)
theorem apart3 {w w' : World} (h : Below w.heap.size w w') : Apart3 w w' := by
  have := h.size
  exact ⟨fun b hb => by omega, fun b hb => by omega⟩
def ClPost (X w1 : World) (n : Nat) (es : List (Nat × Nat × Nat)) (e : Ending) (w' : World) : Prop :=
  ∃ g c, e = .returned (.slice (some ⟨g, 0, none⟩) n c) ∧ w'.ownsRow X.heap.size 110 4 (.slice (some ⟨g, 0, none⟩) n c) n (encells es) ∧ Below X.heap.size X w' ∧ Left3 w1 w' ∧ Apart3 w1 w'

def BgRel (w : World) (n : Nat) (i : Value) (wr : World) : Prop := ∃ k : Nat, k ≤ n ∧ i = .int .i64 (k : Nat) ∧ Below w.heap.size w wr
def BgCut1 (X : World) (v : Value) (w' : World) : Prop := v = .bool false ∧ Below X.heap.size X w'

/-! ### the order -/
def rng (j : Nat) : List Value := (List.range j).map (fun x => .int .i64 (x : Nat))
theorem rng_succ (j : Nat) : rng (j + 1) = rng j ++ [.int .i64 (j : Nat)] := by unfold rng; rw [List.range_succ, List.map_append]; rfl
def Bg2Rel (X : World) (A : DAd) (p t N n : Nat) (es : List (Nat × Nat × Nat)) (vb ob en ec sb : Nat) (i : Value) (wl : World) : Prop :=
  ∃ (j : Nat) (oa : Option Addr) (oc : Nat), j ≤ n ∧ i = .int .i64 (j : Nat) ∧ BgSt X A p t N n es vb ob en ec sb (.slice oa j oc) wl ∧ wl.ownsRow X.heap.size 3 1 (.slice oa j oc) j (rng j)
/-- One more element of the order. -/
theorem bg_step {X V : World} {A : DAd} {p t N n : Nat} {es : List (Nat × Nat × Nat)} {vb ob en ec sb j oc : Nat} {oa : Option Addr} (hj : j < n) (hn : n ≤ 6) (h : BgSt X A p t N n es vb ob en ec sb (.slice oa j oc) V) (ho : V.ownsRow X.heap.size 3 1 (.slice oa j oc) j (rng j)) :
    ∃ V6 g6 cap6, (∀ ty, (Builtin.append_ #[59, 59] ty #[.slice oa j oc, .slice (some ⟨V.heap.size, 0, none⟩) 1 1]).run Tryz.prog (V.alloc (.cells #[.int .i64 j] 3)).drew = .ok (.slice (some ⟨g6, 0, none⟩) (j + 1) cap6) V6) ∧
      V6.cell? ⟨ob, 4, none⟩ = some (.slice oa j oc) ∧ V6.frozen? ⟨ob, 4, none⟩ = false ∧ V6.cell? ⟨vb, 0, none⟩ = some (.pointer (some ⟨ob, 0, none⟩)) ∧
      Bg2Rel X A p t N n es vb ob en ec sb (.int .i64 ((j + 1 : Nat) : Int)) (V6.setCell ⟨ob, 4, none⟩ (.slice (some ⟨g6, 0, none⟩) (j + 1) cap6)) := by
  have hz := h.bel.size
  obtain ⟨g6, cap6, V6, hrun6, how6, hgr6, hg6⟩ := append_own2 (w := (V.alloc (.cells #[.int .i64 j] 3)).drew) elInts (show ((V.alloc (.cells #[.int .i64 j] 3)).drew).ownsRow _ _ _ _ _ _ from ho.alloc _)
    ⟨V.heap.size, 0, none⟩ 1 1 [.int .i64 j] rfl (fun k u hk => by
      rw [Addr.add_lit, Nat.zero_add]
      have e := cell_block (i := k) (heap_alloc_new V (.cells #[.int .i64 j] 3))
      exact (show ((V.alloc (.cells #[.int .i64 j] 3)).drew).cell? _ = _ from e).trans (by simpa using hk))
    (by intro u hu; simp at hu; rw [hu]; rfl) (by omega) (by unfold maxLen; omega) (by omega) (by simp; omega)
  have hgA : V.grownBy V6 (Value.slice oa j oc).ownBlock := (World.grownBy_alloc V (.cells #[.int .i64 j] 3) (Value.slice oa j oc).ownBlock).andThen (b' := V.alloc (.cells #[.int .i64 j] 3)) ⟨hgr6.os, hgr6.tape, hgr6.output, hgr6.size, hgr6.block⟩ (fun j hj => .inr hj)
  have hv6 := (hgA.block _ (heap_lt h.v) (own_cells_ne ho h.v (by decide))).trans h.v
  have ho6 := (hgA.block _ (heap_lt h.o) (own_cells_ne ho h.o (by decide))).trans h.o
  have hs6 := (hgA.block _ (heap_lt h.s) (own_cells_ne ho h.s (by decide))).trans h.s
  have he6 := h.e.kept hgA (own_ne h.e ho (by decide))
  have hb6 : Below X.heap.size X V6 := below_grown h.bel hgA hz (fun k hk => (ho.lt k hk).1)
  refine ⟨V6, g6, cap6, hrun6, (cell_block ho6).trans rfl, free_block ho6, (cell_block hv6).trans rfl, j + 1, some ⟨g6, 0, none⟩, cap6, hj, rfl, ?_, ?_⟩
  · have nv : vb ≠ ob := fun e => by rw [e, ho6] at hv6; simp at hv6
    have ns : sb ≠ ob := fun e => by rw [e, ho6] at hs6; simp at hs6
    exact { v := (heap_set_ne nv).trans hv6, o := (heap_set ho6).trans rfl, e := own_set1 he6 ho6 (by decide), s := (heap_set_ne ns).trans hs6, bel := below_setc hb6 h.ge.2.1, ge := h.ge }
  · rw [rng_succ]
    exact own_set1 how6 ho6 (by decide)

/-- Behind the sorting. -/
theorem BgSt.sorted {X wl w2 : World} {A : DAd} {p t N n : Nat} {es : List (Nat × Nat × Nat)} {vb ob en ec sb rb : Nat} {ov : Value} {cr : Array Value} (h : BgSt X A p t N n es vb ob en ec sb ov wl) (hrb : wl.heap[rb]? = some (.cells cr 3 (0, 0))) (hge : X.heap.size ≤ rb) (ho : Only (fun k => k = rb) wl w2) : BgSt X A p t N n es vb ob en ec sb ov w2 := by
  have nv : vb ≠ rb := fun e => by have := h.v; rw [e, hrb] at this; simp at this
  have no : ob ≠ rb := fun e => by have := h.o; rw [e, hrb] at this; simp at this
  have ns : sb ≠ rb := fun e => by have := h.s; rw [e, hrb] at this; simp at this
  have hg : wl.grownBy w2 (some rb) := ⟨ho.os, ho.tape, ho.output, ho.size, fun k hk hne => ho.block k hk (fun e => hne (by rw [e]))⟩
  exact { v := (ho.block _ (heap_lt h.v) nv).trans h.v, o := (ho.block _ (heap_lt h.o) no).trans h.o, e := h.e.kept hg (.inr (by have := own_cells_ne h.e hrb (by decide); exact fun e => this e.symm)), s := (ho.block _ (heap_lt h.s) ns).trans h.s, bel := below_grown h.bel hg h.bel.size (fun k hk => by cases hk; exact hge), ge := h.ge }

theorem own_row {w : World} {X g n c : Nat} {e : TypeId} {f : Nat → Value} (h : w.ownsRow X e 1 (.slice (some ⟨g, 0, none⟩) n c) n ((List.range n).map f)) : Row w g e n f ∧ ∃ cr, w.heap[g]? = some (.cells cr e (0, 0)) := by
  rcases h.2 with ⟨e1, _⟩ | ⟨g', cap, cur, e1, hb, hg, _⟩
  · cases e1
  · simp only [Value.slice.injEq, Option.some.injEq, Addr.mk.injEq, and_true, true_and] at e1
    obtain ⟨rfl, rfl⟩ := e1
    refine ⟨row_of_cells hg (fun x hx => ?_), cur, hg⟩
    have := h.cells (g := g) rfl x (f x) (by rw [List.getElem?_map, List.getElem?_range hx]; rfl)
    rw [Addr.add_lit, Nat.zero_add, cell_block hg] at this
    exact this

/-- The comparison of the entries of a new operation. -/
theorem bg_cmps {X wl : World} {A : DAd} {p t N n : Nat} {es : List (Nat × Nat × Nat)} {vb ob en ec sb rb : Nat} {ov : Value} {cr : Array Value} (h : BgSt X A p t N n es vb ob en ec sb ov wl) (hrb : wl.heap[rb]? = some (.cells cr 3 (0, 0))) (hge : X.heap.size ≤ rb) (hn : n = es.length) (hn6 : n ≤ 6) :
    Cmps wl rb n 66 #[.pointer (some ⟨vb, 0, none⟩)] (fun x y => cmp3 (es.getD x (0, 0, 0)).1 (es.getD y (0, 0, 0)).1) where
  call := callFunc33
  get := fun w1 x y m ho hx hy => by
    have h1 := h.sorted hrb hge ho
    have he := seen_own h1.e
    subst hn
    have := cmp_ents (w := w1) (vb := vb) (o := ob) (en := en) (cp := ec) (x := x) (y := y) (m := m) (l := es) ((cell_block h1.v).trans rfl) ((cell_block h1.o).trans rfl) he hx hy hn6
    simpa [ptr] using this

theorem begin_fin {w X w2 : World} {A : DAd} {B : MAd} {N t K : Nat} {m : MS} {F G : Nat → Option Role} {es : List (Nat × Nat × Nat)} {vb ob en ec sb rb oc : Nat} {f : Nat → Nat} (H : MW w A B 96 N m F G) (hN : N ≤ 19) (hK : K < 24) (hnb : B.nb = 24) (ht : t < 8) (hes : EsNew (64 * m.dev.L) es) (hX : Below w.heap.size w X)
    (st : BgSt X A B.p t K es.length es vb ob en ec sb (.slice (some ⟨rb, 0, none⟩) es.length oc) w2) (hrow : Row w2 rb 3 es.length (fun x => .int .i64 (f x))) (hord : OrdOk es.length f) (hrb : X.heap.size ≤ rb) :
    BgPost w A B N t K m F G es (.returned (.tuple #[ptr ob, .int .i64 0])) (w2.setCell ⟨B.busy, K, none⟩ (.bool true)) := by
  have hb2 : Below w.heap.size w w2 := hX.trans (st.bel.mono hX.size)
  obtain ⟨h2, mv2⟩ := H.below hb2
  have hxz := hX.size
  have hgen := (st.e.lt en rfl).1
  have hlen := (st.e.lt en rfl).2
  have free : ∀ b, X.heap.size ≤ b → F b = none ∧ G b = none := fun b hb => by
    constructor
    · cases e : F b with
      | none => rfl
      | some q => have := H.dev.lt b (by rw [e]; simp); omega
    · cases e : G b with
      | none => rfl
      | some q => have := (H.gf b (by rw [e]; simp)).2; omega
  obtain ⟨cr, hcr, _⟩ := hrow
  have hrw : Row w2 rb 3 es.length (fun x => .int .i64 (f x)) := ⟨cr, hcr, by assumption⟩
  obtain ⟨ce, hce⟩ : ∃ ce, w2.heap[en]? = some (.cells ce 110 (0, 0)) := by
    rcases st.e.2 with ⟨e1, _⟩ | ⟨g', cap, cur, e1, hb, hg, _⟩
    · cases e1
    · simp only [Value.slice.injEq, Option.some.injEq, Addr.mk.injEq, and_true, true_and] at e1
      obtain ⟨rfl, rfl⟩ := e1
      exact ⟨cur, hg⟩
  have hne : ob ≠ en ∧ ob ≠ rb ∧ ob ≠ sb ∧ en ≠ rb ∧ en ≠ sb ∧ rb ≠ sb := by
    have h1 := st.o
    have h3 := st.s
    refine ⟨fun e => ?_, fun e => ?_, fun e => ?_, fun e => ?_, fun e => ?_, fun e => ?_⟩
    · rw [e, hce] at h1; simp at h1
    · rw [e, hcr] at h1; simp at h1
    · rw [e, h3] at h1; simp at h1
    · rw [e, hcr] at hce; simp at hce
    · rw [e, h3] at hce; simp at hce
    · rw [e, h3] at hcr; simp at hcr
  obtain ⟨ord, hor⟩ : ∃ ord, ord = (List.range es.length).map f := ⟨_, rfl⟩
  have hol : OrdL es.length ord := by
    rw [hor]
    refine ⟨by simp, fun x hx => ?_, fun x hx => ?_⟩
    · obtain ⟨i, hi, rfl⟩ := List.mem_map.1 hx
      exact hord.1 i (by simpa using hi)
    · obtain ⟨i, hi, hf⟩ := hord.2 x hx
      exact List.mem_map.2 ⟨i, by simpa using hi, hf⟩
  have hseen : Seen w2 rb 0 (ord.map i64) := by
    intro j u hj
    rw [hor, List.map_map, List.getElem?_map] at hj
    rcases Nat.lt_or_ge j es.length with h | h
    · rw [List.getElem?_range h] at hj
      simp only [Option.map_some, Option.some.injEq] at hj
      rw [Nat.zero_add, hrw.cell j h, ← hj]
      rfl
    · rw [List.getElem?_eq_none (by simpa using h)] at hj; cases hj
  have hbg := h2.begun hN (by rw [hnb]; omega) ht hes hol.len hol.lt (ob := ob) (en := en) (rb := rb) (sb := sb) (ec := ec) (oc := oc) (sc := es.length)
    (fun b hb => by
      have hgeb : X.heap.size ≤ b ∧ b < w2.heap.size := by
        rcases hb with rfl | rfl | rfl | rfl
        · exact ⟨st.ge.2.1, heap_lt st.o⟩
        · exact ⟨hgen, hlen⟩
        · exact ⟨hrb, heap_lt hcr⟩
        · exact ⟨st.ge.2.2, heap_lt st.s⟩
      exact ⟨(free b hgeb.1).1, (free b hgeb.1).2, hgeb.2⟩) hne
    (row_of_cells st.o (fun x hx => by
      have e1 : upd B.en N en N = en := upd_same _ _ _
      have e2 : upd B.ord N rb N = rb := upd_same _ _ _
      have e3 : upd B.se N sb N = sb := upd_same _ _ _
      have e4 : upd B.ec N ec N = ec := upd_same _ _ _
      have e5 : upd B.oc N oc N = oc := upd_same _ _ _
      have e6 : upd B.sc N es.length N = es.length := upd_same _ _ _
      unfold bopc ofun opNew MAd.more
      rcases lt16 hx with rfl | rfl | rfl | rfl | rfl | rfl | rfl | rfl | rfl | rfl | rfl | rfl | rfl | rfl | rfl | rfl
      all_goals first
        | rfl
        | (dsimp only; rw [e1, e4]; rfl)
        | (dsimp only; rw [e2, e5]; rfl)
        | (dsimp only; rw [e3, e6]; rfl))) (seen_own st.e) hseen (row_of_cells st.s (fun x hx => zeros_get hx))
  obtain ⟨h3, mv3⟩ := hbg.setB (k := K) (b := true)
  refine ⟨ord, _, _, ?_, h3, hol, rfl, rfl, fun i hi => upd_ne _ _ (by omega), ?_⟩
  · have e : (B.more N ob en rb sb ec oc es.length).o N = ob := upd_same _ _ _
    rw [e]
  · have mvg : MMoved F G F (gmore G N ob en rb sb) w w2 := ⟨mv2.only, fun k hk => ⟨rfl, by
      have hk2 : ∀ b, X.heap.size ≤ b → k ≠ b := fun b hb e => by omega
      unfold gmore
      rw [upd_ne _ _ (hk2 sb st.ge.2.2), upd_ne _ _ (hk2 rb hrb), upd_ne _ _ (hk2 en hgen), upd_ne _ _ (hk2 ob st.ge.2.1)]⟩⟩
    exact mvg.trans mv3
end Go.Proofs.YtejlgnebofdijaaGreatDoor.Dv

namespace Go.Proofs.YtejlgnebofdijaaGreatDoor.Dv
open Go.RowKit
set_option linter.unusedVariables false
attribute [local go_sem ↓] Go.wp_at_zero Go.wp_at_succ

set_option maxHeartbeats 4000000 in
set_option maxRecDepth 8000 in
theorem begin_mw {w : World} {A : DAd} {B : MAd} {N t K eb ecap : Nat} {m : MS} {F G : Nat → Option Role} {es : List (Nat × Nat × Nat)} (h : MW w A B 96 N m F G) (hN : N ≤ 19) (hK : K < 24) (hnb : B.nb = 24) (ht : t < 8) (her : m.dev.err t = 0) (hes : EsNew (64 * m.dev.L) es)
    (hs : Seen w eb 0 (encells es)) (hec : es.length ≤ ecap) (hb1 : ∀ k, k < K → m.busy k = true) (hb2 : m.busy K = false) :
    Calls Tryz.prog 34 #[ptr B.p, .int .i64 t, .slice (some ⟨eb, 0, none⟩) es.length ecap] w (BgPost w A B N t K m F G es) := by
  have hL := h.dev.ok.lines
  have ht2 : (t : Int) < 8 := by omega
  have d1 : decide ((t : Int) < 0) = false := by simp
  have d2 : decide ((8 : Int) ≤ t) = false := by simp; omega
  have hn := hes.n
  obtain ⟨n, hnn⟩ : ∃ n, n = es.length := ⟨_, rfl⟩
  rw [← hnn] at hn hec ⊢
  have hn1 : (1 : Int) ≤ n := by omega
  have hn6 : (n : Int) ≤ 6 := by omega
  have d3 : decide ((n : Int) < 1) = false := by simp; omega
  have d4 : decide ((6 : Int) < n) = false := by simp; omega
  have hec2 : (n : Int) ≤ ecap := by omega
  have H := Lib.hid h; have HES := Lib.hid hes; have HS := Lib.hid hs; have HB1 := Lib.hid hb1; have HB2 := Lib.hid hb2; have HER := Lib.hid her; have HNB := Lib.hid hnb; have HNN := Lib.hid hnn; have HN := Lib.hid hN; have HK := Lib.hid hK; have HL := Lib.hid hL
  obtain ⟨S, hS⟩ : ∃ S, S = 64 * m.dev.L := ⟨_, rfl⟩
  have HSS := Lib.hid hS
  clear h hes hs hb1 hb2 her hnb hnn hN hK hL hS hn
  unfold ptr at *
  go_enter Tryz.func34, Tryz.ntmps34
  go_wp2_with fail
  go_loopw [38] (fun i wr => BgRel w n i wr) (fun i _ => n - (intOf i).toNat)
  case atStart => exact ⟨0, by omega, rfl, Below.refl _ _⟩
  case round =>
    obtain ⟨k, hk, rfl, hbel⟩ := hrel
    by_cases hlt : k < n
    · have hlt2 : (k : Int) < n := by omega
      have hlt3 : (k : Int) ≤ ecap := by omega
      have hkl : k < es.length := by rw [← HNN.out]; exact hlt
      obtain ⟨x, hx⟩ : ∃ x, x = es[k] := ⟨_, rfl⟩
      have hgx : es[k]? = some x := by rw [hx]; exact List.getElem?_eq_getElem hkl
      have hmx : x ∈ es := List.mem_of_getElem? hgx
      obtain ⟨e1, e2, e3, e4⟩ := encells_get hgx
      have hs := HS.out.below hbel (Nat.le_refl _)
      have c1 : wr.cell? ⟨eb, k * 4, none⟩ = some (.int .u64 x.1) := by have := hs _ _ e1; rw [Nat.zero_add, Nat.mul_comm] at this; exact this
      have c2 : wr.cell? ⟨eb, k * 4 + 1, none⟩ = some (.int .u64 x.2.1) := by have := hs _ _ e2; rw [Nat.zero_add, Nat.mul_comm] at this; exact this
      have c3 : wr.cell? ⟨eb, k * 4 + 2, none⟩ = some (.int .u64 x.2.2) := by have := hs _ _ e3; rw [Nat.zero_add, Nat.mul_comm] at this; exact this
      have c4 : wr.cell? ⟨eb, k * 4 + 3, none⟩ = some (.bool false) := by have := hs _ _ e4; rw [Nat.zero_add, Nat.mul_comm] at this; exact this
      obtain ⟨X, hX⟩ : ∃ X, X = wr.alloc (.cells #[.int .u64 x.1, .int .u64 x.2.1, .int .u64 x.2.2, .bool false] 110) := ⟨_, rfl⟩
      have hbX : Below wr.heap.size wr X := by rw [hX]; exact below_alloc (Below.refl _ _)
      have hXb : X.heap[wr.heap.size]? = some (.cells #[.int .u64 x.1, .int .u64 x.2.1, .int .u64 x.2.2, .bool false] 110 (0, 0)) := by rw [hX]; exact heap_alloc_new _ _
      have hmX := (H.out.below (hbel.trans (hbX.mono hbel.size))).1
      have hEA : EnAt X wr.heap.size B.p S x := by
        refine ⟨(cell_block hXb).trans rfl, (cell_block hXb).trans rfl, (cell_block hXb).trans rfl, (cell_block hXb).trans rfl, hmX.pool.cell 1 (by omega), hmX.pool.cell 2 (by omega), ?_⟩
        rw [HSS.out]
        exact hmX.pool.cell 3 (by omega)
      have hoff := HES.out.off x hmx
      have hval := HES.out.val x hmx
      have hLL := HL.out
      have hout : ∀ w1, Below X.heap.size X w1 → Calls Tryz.prog 59 #[.agg #[.int .i64 0, .int .i64 96, .int .u64 S], .int .u64 x.1] w1 fun e w' => e = .returned (.bool true) ∧ Below X.heap.size X w' := fun w1 hb =>
        (outside_any (w := w1) (Lr := 96) (S := S) hoff.1 (by rw [HSS.out]; exact hoff.2.2) (by omega) (by have := HSS.out; omega)).mono (fun e w' hh => ⟨hh.1, hb.trans (hh.2.mono hb.size)⟩)
      have hcon : ∀ w1, Below X.heap.size X w1 → Calls Tryz.prog 61 #[.slice (some ⟨eb, 0, none⟩) k ecap, .func (.func 60) #[] #[.pointer (some ⟨wr.heap.size, 0, none⟩)]] w1 fun e w' => e = .returned (.bool false) ∧ Below X.heap.size X w' := fun w1 hb => by
        have hl : (es.take k).length = k := by rw [List.length_take]; omega
        have := contains_any (w := w1) (cap := ecap) (bx := wr.heap.size) (off := x.1) (l := es.take k) (encells_take ((hs.below hbX (Nat.le_refl _)).below hb (Nat.le_refl _))) (by rw [hl]; omega) (hEA.below hb).1 (nodup_take3 HES.out.nd hgx)
        rw [hl] at this
        exact this.mono (fun e w' hh => ⟨hh.1, hb.trans (hh.2.mono hb.size)⟩)
      have hpos : ∀ w1, Below X.heap.size X w1 → Calls Tryz.prog 62 #[.agg #[.int .u64 x.1, .int .u64 x.2.1, .int .u64 x.2.2, .bool false]] w1 fun e w' => e = .returned (.bool true) ∧ Below X.heap.size X w' := fun w1 hb =>
        (possible_any (w := w1) (off := x.1) hval.1 hval.2).mono (fun e w' hh => ⟨hh.1, hb.trans (hh.2.mono hb.size)⟩)
      have HOUT := Lib.hid hout; have HCON := Lib.hid hcon; have HPOS := Lib.hid hpos; have HEA := Lib.hid hEA; have HX := Lib.hid hX; have HX0 := Lib.hid (Below.refl X.heap.size X); have HBX := Lib.hid (hbel.trans (hbX.mono hbel.size))
      obtain ⟨j0, j1, j2, j3, j4, j5, j6⟩ := id hEA
      clear hout hcon hpos hEA hX hbX hXb hmX hoff hval hLL e1 e2 e3 e4 hs hx hgx hmx hbel hkl hk
      go_upto_region 6 with fail
      rw [← HX.out]
      clear c1 c2 c3 c4
      go_upto_region 7 with fail
      go_cut [63] (fun v wx => BgCut1 X v wx)
      case first =>
        go_region_held3 (fun w' => w'.cell? ⟨wr.heap.size, 0, none⟩ = some (.int .u64 x.1) ∧ w'.cell? ⟨wr.heap.size, 1, none⟩ = some (.int .u64 x.2.1) ∧ w'.cell? ⟨wr.heap.size, 2, none⟩ = some (.int .u64 x.2.2) ∧ w'.cell? ⟨wr.heap.size, 3, none⟩ = some (.bool false) ∧
            w'.cell? ⟨B.p, 1, none⟩ = some (.int .i64 0) ∧ w'.cell? ⟨B.p, 2, none⟩ = some (.int .i64 96) ∧ w'.cell? ⟨B.p, 3, none⟩ = some (.int .u64 S))
          (exact EnAt.below HEA.out (by repeat (first | assumption | exact HX0.out | apply below_alloc | apply below_drew)))
          (first
            | (go_at_call 59; refine (HOUT.out _ (by repeat (first | assumption | exact HX0.out | apply below_alloc | apply below_drew))).mono ?_; rintro e V1 ⟨rfl, hX1⟩)
            | (go_at_call 61; refine (HCON.out _ (by repeat (first | assumption | exact HX0.out | apply below_alloc | apply below_drew))).mono ?_; rintro e V2 ⟨rfl, hX2⟩)
            | (go_at_call 62; refine (HPOS.out _ (by repeat (first | assumption | exact HX0.out | apply below_alloc | apply below_drew))).mono ?_; rintro e V3 ⟨rfl, hX3⟩))
        go_wp2_with fail
        go_meet
        exact ⟨rfl, by assumption⟩
      case rest =>
        obtain ⟨rfl, hbx⟩ := hcut
        have G := Lib.hid (show BgRel w n (.int .i64 ((k + 1 : Nat) : Int)) wc from ⟨k + 1, by omega, rfl, HBX.out.trans (hbx.mono HBX.out.size)⟩)
        clear hbx
        go_wp2_with fail
        go_roundw
        case rel => simpa using G.out
        case measure => simp [intOf]; omega
    · obtain rfl : k = n := by omega
      have HBR := Lib.hid hbel
      clear hbel hlt
      have q1 : ¬ ((k : Int) < k) := by omega
      obtain ⟨hw, mvw⟩ := H.out.below HBR.out
      have c0 : wr.cell? ⟨B.p, 0, none⟩ = some (.pointer (some ⟨A.d, 0, none⟩)) := hw.pool.cell 0 (by omega)
      have c4 : wr.cell? ⟨B.p, 4, none⟩ = some (.slice (some ⟨B.busy, 0, none⟩) 24 24) := by rw [← HNB.out]; exact hw.pool.cell 4 (by omega)
      have HTH := Lib.hid (thread_dev hw.dev ht)
      have HE := err_dev hw.dev ht
      rw [HER.out] at HE
      have HE2 := Lib.hid HE
      have hN2 := HK.out
      have HIX := Lib.hid (index_any (w := wr) (bz := B.busy) (n := K) (nb := 24) (cp := 24) (fun j hj => by rw [hw.busy.cell j (by rw [HNB.out]; omega), HB1.out j hj]) (by rw [hw.busy.cell K (by rw [HNB.out]; omega), HB2.out]) (by omega) (by omega))
      have HW := Lib.hid hw; have MVW := Lib.hid mvw
      have hNb : (K : Int) ≤ 23 := by omega
      clear hw mvw HE hN2
      unfold ptr at HTH HE2
      go_wp2_with fail
      refine HTH.out.mono ?_
      rintro e w1 ⟨rfl, rfl⟩
      go_wp2_with fail
      refine HE2.out.mono ?_
      rintro e w1 ⟨rfl, rfl⟩
      go_wp2_with fail
      refine HIX.out.mono ?_
      rintro e w1 ⟨rfl, rfl⟩
      have q2 : decide ((K : Int) < 0) = false := by simp
      go_upto_region 17 with fail
      obtain ⟨i, hi, hz, hsz, hby⟩ := info_parts infoU64
      have hmk := fun V => run_make (P := Tryz.prog) V 70 48 i _ Tryz.underlying70 hi hz .i64 .i64 (k : Int) (k : Int) (by omega) (Int.le_refl _) (by rw [hby]; omega) (by omega)
      simp only [show (k : Int).toNat = k by omega, hsz, Nat.mul_one] at hmk
      have HSW := Lib.hid (HS.out.below HBR.out (Nat.le_refl _))
      have HCL := Lib.hid (fun w1 (hb : Below wr.heap.size wr w1) => show Calls Tryz.prog 64 #[.slice (some ⟨eb, 0, none⟩) k ecap] w1 (ClPost wr w1 k es) by
        have := clone_ents (w := w1) (b := eb) (cap := ecap) (l := es) (HSW.out.below hb (Nat.le_refl _)) (by rw [← HNN.out]; omega) (by rw [← HNN.out]; omega)
        rw [← HNN.out] at this
        refine this.mono ?_
        rintro e w' ⟨g, c, rfl, ho, hb'⟩
        exact ⟨g, c, rfl, ho.mono hb.size, hb.trans (hb'.mono hb.size), left3 hb', apart3 hb'⟩)
      have HX0 := Lib.hid (Below.refl wr.heap.size wr)
      have z2 : wr.heap.size < wr.heap.size + 1 + 1 := by omega
      clear hi hz hsz hby c0 c4
      go_cut [14] (fun v wx => BgCut2 wr A B.p t K k es v wx)
      case first =>
        go_region_held3 (fun w' => True) (trivial)
          (first
            | (go_at_call 64; refine (HCL.out _ (by repeat (first | assumption | exact HX0.out | apply below_alloc | apply below_drew))).mono ?_; rintro e V1 ⟨g1, cap1, rfl, hown1, hX1, ⟨hm1, hm2, hm3, HBB⟩, hq1, hq2⟩))
        · go_wp2_with fail
          go_meet
          have hz := hX1.size
          exact bg_close (ha22 _ _ _ _) (ha21 _ _ _ _) (((hown1.alloc _).alloc _).alloc _) (ha20 _ _ _ _) (below_alloc (below_alloc (below_alloc hX1))) (by omega) (by omega) hz
        · go_wp2_with fail
          go_meet
          have hz := hX1.size
          exact bg_close (ha21 _ _ _ _) (ha22 _ _ _ _) (((hown1.alloc _).alloc _).alloc _) (ha20 _ _ _ _) (below_alloc (below_alloc (below_alloc hX1))) (by omega) (by omega) hz
        · go_wp2_with fail
          go_meet
          have hz := hX1.size
          exact bg_close (ha20 _ _ _ _) (ha22 _ _ _ _) (((hown1.alloc _).alloc _).alloc _) (ha21 _ _ _ _) (below_alloc (below_alloc (below_alloc hX1))) hz (by omega) (by omega)
        · go_wp2_with fail
          go_meet
          have hz := hX1.size
          have hb0 := HBB.out.size
          simp at hb0
          have hM : V1.heap[wr.heap.size]? = some (.cells (zeros k) 48 (0, 0)) := (HBB.out.block wr.heap.size (by simp)).trans (heap_alloc_new wr _)
          exact bg_close (ha11 _ _ _) (ha10 _ _ _) ((hown1.alloc _).alloc _) (by rw [heap_alloc_lt (by simp; omega), heap_alloc_lt (by omega)]; exact hM) (below_alloc (below_alloc hX1)) (by omega) hz (Nat.le_refl _)
        · go_wp2_with fail
          go_meet
          have hz := hX1.size
          have hb0 := HBB.out.size
          simp at hb0
          have hM : V1.heap[wr.heap.size]? = some (.cells (zeros k) 48 (0, 0)) := (HBB.out.block wr.heap.size (by simp)).trans (heap_alloc_new wr _)
          exact bg_close (ha10 _ _ _) (ha11 _ _ _) ((hown1.alloc _).alloc _) (by rw [heap_alloc_lt (by simp; omega), heap_alloc_lt (by omega)]; exact hM) (below_alloc (below_alloc hX1)) hz (by omega) (Nat.le_refl _)
        · go_wp2_with fail
          go_meet
          have hz := hX1.size
          have hb0 := HBB.out.size
          simp at hb0
          have hM : V1.heap[wr.heap.size]? = some (.cells (zeros k) 48 (0, 0)) := (HBB.out.block wr.heap.size (by simp; omega)).trans (ha10 wr _ _)
          have hA : V1.heap[wr.heap.size + 1]? = some (.cells #[.pointer none] 93 (0, 0)) := (HBB.out.block (wr.heap.size + 1) (by simp)).trans (ha11 wr _ _)
          exact bg_close (by rw [heap_alloc_lt (by rw [set_size]; omega)]; exact heap_set hA) (hs00 _ _ _ _) ((own_set1 hown1 hA (by decide)).alloc _)
            (by rw [heap_alloc_lt (by rw [set_size]; omega), heap_set_ne (by omega)]; exact hM) (below_alloc (below_setc hX1 (by omega))) (by omega) hz (Nat.le_refl _)
        · go_wp2_with fail
          go_meet
          have hz := hX1.size
          have hb0 := HBB.out.size
          simp at hb0
          have hA : V1.heap[wr.heap.size]? = some (.cells #[.pointer none] 93 (0, 0)) := (HBB.out.block wr.heap.size (by simp)).trans (heap_alloc_new wr _)
          exact bg_close (by rw [heap_alloc_lt (by simp; omega), heap_alloc_lt (by rw [set_size]; omega)]; exact heap_set hA) (hs11 _ _ _ _ _) (((own_set1 hown1 hA (by decide)).alloc _).alloc _) (hs10 _ _ _ _ _) (below_alloc (below_alloc (below_setc hX1 (Nat.le_refl _)))) (Nat.le_refl _) (by omega) hz
        · go_wp2_with fail
          go_meet
          have hz := hX1.size
          have hb0 := HBB.out.size
          simp at hb0
          have hA : V1.heap[wr.heap.size]? = some (.cells #[.pointer none] 93 (0, 0)) := (HBB.out.block wr.heap.size (by simp; omega)).trans (ha10 wr _ _)
          have hM : V1.heap[wr.heap.size + 1]? = some (.cells (zeros k) 48 (0, 0)) := (HBB.out.block (wr.heap.size + 1) (by simp)).trans (ha11 wr _ _)
          exact bg_close (by rw [heap_alloc_lt (by rw [set_size]; omega)]; exact heap_set hA) (hs00 _ _ _ _) ((own_set1 hown1 hA (by decide)).alloc _)
            (by rw [heap_alloc_lt (by rw [set_size]; omega), heap_set_ne (by omega)]; exact hM) (below_alloc (below_setc hX1 (Nat.le_refl _))) (Nat.le_refl _) hz (by omega)
      case rest =>
        obtain ⟨vb, ob, en, ec, sb, rfl, hst⟩ := hcut
        obtain ⟨wo, rfl⟩ : ∃ wo : World, wo = wr := ⟨_, rfl⟩
        have HST := Lib.hid (show Bg2Rel wo A B.p t K k es vb ob en ec sb (.int .i64 (0 : Nat)) wc from ⟨0, none, 0, by omega, rfl, hst, World.ownsRow_nil _ _ _ _⟩)
        clear hst z2 hmk
        go_wp2_with fail
        go_loopw [95] (fun i wl => Bg2Rel wo A B.p t K k es vb ob en ec sb i wl) (fun i _ => k - (intOf i).toNat)
        case atStart => exact HST.out
        case round =>
          obtain ⟨j, oa, oc, hj, rfl, hst, hown⟩ := hrel
          by_cases hjl : j < k
          · have hjl2 : (j : Int) < k := by omega
            obtain ⟨V6, g6, cap6, hrun6, k3, k4, k5, hnx⟩ := bg_step hjl (by omega) hst hown
            have k1 : wr.cell? ⟨vb, 0, none⟩ = some (.pointer (some ⟨ob, 0, none⟩)) := (cell_block hst.v).trans rfl
            have k2 : wr.cell? ⟨ob, 4, none⟩ = some (.slice oa j oc) := (cell_block hst.o).trans rfl
            have HRN := Lib.hid hrun6; have HK := Lib.hid (And.intro k1 (And.intro k2 (And.intro k3 (And.intro k4 k5)))); have HNX := Lib.hid hnx
            clear hrun6 k1 k2 k3 k4 k5 hnx hst hown
            go_upto_region 21 with fail
            refine wp_ends ?_
            obtain ⟨k1, k2, k3, k4, k5⟩ := HK.out
            refine regB21 k1 k2 HRN.out k3 k4 k5 ?_
            clear k1 k2 k3 k4 k5
            intro _ _ _ _ _ _ _ _ _ _
            go_wp2_with fail
            go_roundw
            case rel => simpa using HNX.out
            case measure => simp [intOf]; omega
          · obtain rfl : j = k := by omega
            obtain ⟨rb, rfl⟩ : ∃ rb, oa = some ⟨rb, 0, none⟩ := by
              rcases hown.2 with ⟨_, e⟩ | ⟨g, cap, cur, e, _⟩
              · omega
              · simp only [Value.slice.injEq] at e; exact ⟨g, e.1⟩
            obtain ⟨hrow, cr, hcr⟩ := own_row hown
            have hge := (hown.lt rb rfl).1
            have hcm := bg_cmps hst hcr hge HNN.out (by omega)
            have HSO := Lib.hid (sort_cmp (cp := oc) (f := fun x => x) hcm hrow ⟨fun i hi => hi, fun x hx => ⟨x, hx, rfl⟩⟩ (by omega) (by omega))
            have k1 : wr.cell? ⟨vb, 0, none⟩ = some (.pointer (some ⟨ob, 0, none⟩)) := (cell_block hst.v).trans rfl
            have k2 : wr.cell? ⟨ob, 4, none⟩ = some (.slice (some ⟨rb, 0, none⟩) j oc) := (cell_block hst.o).trans rfl
            have HS2 := Lib.hid hst; have HCR := Lib.hid hcr; have HGE := Lib.hid hge
            have q3 : ¬ ((j : Int) < j) := by omega
            clear hst hown hrow hcr hge hcm hjl hj
            go_wp2_with fail
            refine HSO.out.mono ?_
            rintro e w2 ⟨rfl, f, harr⟩
            have hst2 := HS2.out.sorted HCR.out HGE.out harr.only
            have hb2 : Below w.heap.size w w2 := HBR.out.trans (hst2.bel.mono HBR.out.size)
            have hw2 := (H.out.below hb2).1
            have m4 : w2.cell? ⟨B.p, 4, none⟩ = some (.slice (some ⟨B.busy, 0, none⟩) 24 24) := by rw [← HNB.out]; exact hw2.pool.cell 4 (by omega)
            have m5 : w2.cell? ⟨B.busy, K, none⟩ = some (.bool (m.busy K)) := hw2.busy.cell K (by rw [HNB.out]; have := HK.out; omega)
            have m6 := hw2.busy.free K
            have m7 : w2.cell? ⟨vb, 0, none⟩ = some (.pointer (some ⟨ob, 0, none⟩)) := (cell_block hst2.v).trans rfl
            have m8 : (w2.setCell ⟨B.busy, K, none⟩ (.bool true)).cell? ⟨vb, 0, none⟩ = some (.pointer (some ⟨ob, 0, none⟩)) := by
              have hne : vb ≠ B.busy := fun e => by have h1 := (hw2.gf B.busy (by rw [hw2.gb]; simp)); have h2 := hst2.ge.1; have h3 := (H.out.gf B.busy (by rw [H.out.gb]; simp)).2; have := HBR.out.size; omega
              rw [World.cell?_of_block (heap_set_ne hne)]; exact m7
            have hkl := HNN.out
            have GG := Lib.hid (show BgPost w A B N t K m F G es (.returned (.tuple #[ptr ob, .int .i64 0])) (w2.setCell ⟨B.busy, K, none⟩ (.bool true)) by
              rw [hkl] at hst2 harr
              exact begin_fin H.out HN.out HK.out HNB.out ht HES.out HBR.out hst2 harr.row harr.ord HGE.out)
            have hNb2 : (K : Int) < 24 := by omega
            unfold ptr at GG
            clear hst2 hb2 hw2 harr hkl k1 k2 HSO
            go_wp2_with fail
            go_returns
            exact GG.out
end Go.Proofs.YtejlgnebofdijaaGreatDoor.Dv
