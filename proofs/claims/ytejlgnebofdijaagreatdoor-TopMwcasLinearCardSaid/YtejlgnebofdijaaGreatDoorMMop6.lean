/-
  enter of the package mwcas.
-/
import Derived.Test.YtejlgnebofdijaaGreatDoorMMopB
import Derived.Test.YtejlgnebofdijaaGreatDoorMRegA
namespace Go.Proofs.YtejlgnebofdijaaGreatDoor.Dv
open Go.RowKit
set_option linter.unusedVariables false

theorem encells_get : ∀ {l : List (Nat × Nat × Nat)} {k : Nat} {e : Nat × Nat × Nat}, l[k]? = some e → (encells l)[4 * k]? = some (u64 e.1) ∧ (encells l)[4 * k + 1]? = some (u64 e.2.1) ∧ (encells l)[4 * k + 2]? = some (u64 e.2.2) ∧ (encells l)[4 * k + 3]? = some (.bool false)
  | [], k, p, h => by simp at h
  | a :: l, 0, p, h => by simp at h; subst h; simp [encells]
  | a :: l, k + 1, p, h => by
    have h' : l[k]? = some p := by simpa using h
    have := encells_get h'
    rw [show 4 * (k + 1) = 4 * k + 4 by omega]
    simpa [encells] using this

theorem ewords_snoc (l : List En) (e : En) : ewords (l ++ [e]) = ewords l ++ [e.1, e.2.1, e.2.2] := by simp [ewords]
theorem uc_app (l r : List Nat) : uc (l ++ r) = uc l ++ r.map u64 := by simp [uc]
theorem cell_of_block {w w' : World} {b i : Nat} (h : w'.heap[b]? = w.heap[b]?) : w'.cell? ⟨b, i, none⟩ = w.cell? ⟨b, i, none⟩ := by
  simp only [World.cell?, h]

/-- The first loop of enter: k entries have been taken. -/
def E1Rel (W : World) (en : List En) (v5 v7 i : Value) (wl : World) : Prop :=
  ∃ k : Nat, k ≤ en.length ∧ i = .int .i64 (k : Nat) ∧ wl.ownsRow W.heap.size 48 1 v5 (3 * k) (uc (ewords (en.take k))) ∧ wl.ownsRow W.heap.size 66 2 v7 k (wcells (ewr (en.take k))) ∧ Below W.heap.size W wl

/-- The second loop of enter: k words have been taken. -/
def E2Rel (W : World) (rc : List (Nat × Nat)) (v6 i : Value) (wl : World) : Prop :=
  ∃ k : Nat, k ≤ rc.length ∧ i = .int .i64 (k : Nat) ∧ wl.ownsRow W.heap.size 66 2 v6 k (wcells (rc.take k)) ∧ Below W.heap.size W wl

set_option maxHeartbeats 4000000 in
set_option maxRecDepth 4000 in
theorem enter_mw {w : World} {A : DAd} {B : MAd} {Lr N : Nat} {m : MS} {F G : Nat → Option Role} {T : Nat → Nat} (h : MW w A B Lr N m F G) (hT : Tb w T F G) {i s : Nat} (hi : i < N) (hs1 : 1 ≤ s) (hs5 : s ≤ 5) (hup : Up ((m.op i).es.map (fun e => line e.1))) :
    Calls Tryz.prog 179 #[ptr (B.o i), i64 s] w fun r w' => r = .returned (.tuple #[]) ∧ MWent w A B Lr N F G (m.enter T i s) w' := by
  have hok := h.ok i hi
  have hsm := h.small
  have c7 : w.cell? ⟨B.o i, 7, none⟩ = some (.int .i64 (m.op i).stage) := h.cellO hi 7 (by omega) (by omega)
  have f7 := h.freeO hi 7
  obtain ⟨h1, m1⟩ := h.setO (i := i) (j := 7) (v := i64 s) (o' := { m.op i with stage := s }) hi rfl rfl rfl rfl (ofun_one (fun pv => by simp [ofun])) { hok with stage := hs5, }
  obtain ⟨W1, hW1⟩ : ∃ W1, W1 = w.setCell ⟨B.o i, 7, none⟩ (i64 s) := ⟨_, rfl⟩
  rw [← hW1] at h1 m1
  have hop : ∀ j, j < 16 → j ≠ 8 → W1.cell? ⟨B.o i, j, none⟩ = some (ofun A B { m.op i with stage := s } i (.bool false) j) := by
    intro j hj hj8
    have := h1.cellO hi j hj hj8
    rw [MS.set_op] at this
    exact this
  have d0 : W1.cell? ⟨B.o i, 0, none⟩ = some (.pointer (some ⟨B.p, 0, none⟩)) := hop 0 (by omega) (by omega)
  have d2 : W1.cell? ⟨B.o i, 2, none⟩ = some (.int .i64 (m.op i).k) := hop 2 (by omega) (by omega)
  have p1 : W1.cell? ⟨B.p, 1, none⟩ = some (.int .i64 0) := h1.pool.cell 1 (by omega)
  have p2 : W1.cell? ⟨B.p, 2, none⟩ = some (.int .i64 Lr) := h1.pool.cell 2 (by omega)
  have p3 : W1.cell? ⟨B.p, 3, none⟩ = some (.int .u64 (64 * m.dev.L : Nat)) := h1.pool.cell 3 (by omega)
  have HAT := Lib.hid (at_any (w := W1.drew) (Lr := Lr) (S := 64 * m.dev.L) (k := (m.op i).k) (by have := hok.k; omega))
  have HW1 := Lib.hid hW1; have H1 := Lib.hid h1; have M1 := Lib.hid m1; have HOP := Lib.hid hop; have HOK := Lib.hid hok; have HH := Lib.hid h; have HTB := Lib.hid hT
  have HSZ := Lib.hid (show 64 * m.dev.L ≤ 1000000 by have := h.dev.ok.lines; omega)
  clear hW1 h1 m1 hop hok h hT
  unfold ptr i64 rgn u64 at *
  go_enter Tryz.func179, Tryz.ntmps179
  go_wp2_with fail
  rw [← HW1.out]
  go_still_tail 11, (by kernel_rfl)
  go_wp2_with fail
  refine HAT.out.mono ?_
  rintro e W2 ⟨rfl, hb2⟩
  obtain ⟨h2, m2⟩ := H1.out.drew.below hb2
  have m3 := (M1.out.trans (MMoved.drew _)).trans m2
  have hop2 : ∀ j, j < 16 → j ≠ 8 → W2.cell? ⟨B.o i, j, none⟩ = some (ofun A B { m.op i with stage := s } i (.bool false) j) := by
    intro j hj hj8
    have := h2.cellO hi j hj hj8
    rw [MS.set_op] at this
    exact this
  have d3 : W2.cell? ⟨B.o i, 3, none⟩ = some (.slice (some ⟨B.en i, 0, none⟩) (m.op i).es.length (B.ec i)) := hop2 3 (by omega) (by omega)
  have d5 : W2.cell? ⟨B.o i, 5, none⟩ = some (.slice (some ⟨B.se i, 0, none⟩) (m.op i).es.length (B.sc i)) := hop2 5 (by omega) (by omega)
  have hen := h2.en i hi
  have hse := h2.se i hi
  rw [MS.set_op] at hen hse
  dsimp only at hen hse
  have H2 := Lib.hid h2; have M3 := Lib.hid m3; have HOP2 := Lib.hid hop2; have HEN := Lib.hid hen; have HSE := Lib.hid hse; have D5 := Lib.hid d5
  obtain ⟨n, hn⟩ : ∃ n, n = (m.op i).es.length := ⟨_, rfl⟩
  have hn2 := HOK.out.n
  rw [← hn] at d3 hn2
  have HN := Lib.hid hn
  have hel : (m.op i).ents.length = n := by rw [hn]; simp [OpS.ents]
  have HEL := Lib.hid hel
  clear h2 m2 m3 hop2 hen hse d5 hn hb2 HAT HW1 H1 M1 HOP d0 d2 p1 p2 p3 c7 f7 hel
  go_wp2_with fail
  go_loopw [5, 7, 8, 9, 10, 34] (fun v5 v7 _ _ _ i' wl => E1Rel W2 (m.op i).ents v5 v7 i' wl) (fun _ _ _ _ _ i' _ => n - (intOf i').toNat)
  case atStart => exact ⟨0, by omega, rfl, World.ownsRow_nil _ _ _ _, World.ownsRow_nil _ _ _ _, Below.refl _ _⟩
  case round =>
    obtain ⟨k, hk, rfl, ho5, ho7, hbl⟩ := hrel
    have hkn := hk
    rw [HEL.out] at hkn
    by_cases hlt : k < n
    · have hlt' : k < (m.op i).es.length := by rw [← HN.out]; exact hlt
      obtain ⟨x, hx⟩ : ∃ x, x = (m.op i).es[k] := ⟨_, rfl⟩
      have hgx : (m.op i).es[k]? = some x := by rw [hx]; exact List.getElem?_eq_getElem hlt'
      have hs := HEN.out.below hbl (Nat.le_refl _)
      obtain ⟨w1, w2, w3, w4⟩ := encells_get hgx
      have c1 : wr.cell? ⟨B.en i, k * 4, none⟩ = some (.int .u64 x.1) := by have := hs _ _ w1; rw [Nat.zero_add, Nat.mul_comm] at this; exact this
      have c2 : wr.cell? ⟨B.en i, k * 4 + 1, none⟩ = some (.int .u64 x.2.1) := by have := hs _ _ w2; rw [Nat.zero_add, Nat.mul_comm] at this; exact this
      have c3 : wr.cell? ⟨B.en i, k * 4 + 2, none⟩ = some (.int .u64 x.2.2) := by have := hs _ _ w3; rw [Nat.zero_add, Nat.mul_comm] at this; exact this
      have c4 : wr.cell? ⟨B.en i, k * 4 + 3, none⟩ = some (.bool false) := by have := hs _ _ w4; rw [Nat.zero_add, Nat.mul_comm] at this; exact this
      have b1 : (k : Int) < n := by omega
      have HO5 := Lib.hid ho5; have HO7 := Lib.hid ho7; have HBL := Lib.hid hbl; have HGX := Lib.hid hgx
      clear hs w1 w2 w3 w4 ho5 ho7 hbl hgx hx hlt'
      go_wp2_with fail
      obtain ⟨V, hV⟩ : ∃ V, V = wr.alloc (.cells #[.int .u64 x.1, .int .u64 x.2.1, .int .u64 x.2.2, .bool false] 110) := ⟨_, rfl⟩
      rw [← hV]
      have hVb : Below wr.heap.size wr V := by rw [hV]; exact below_alloc (Below.refl _ _)
      have hVe : V.heap[wr.heap.size]? = some (.cells #[.int .u64 x.1, .int .u64 x.2.1, .int .u64 x.2.2, .bool false] 110 (0, 0)) := by rw [hV]; exact heap_alloc_new _ _
      have hWV : Below W2.heap.size W2 V := HBL.out.trans (hVb.mono HBL.out.size)
      obtain ⟨y, hy⟩ : ∃ y, y = (m.op i).seen.getD k 0 := ⟨_, rfl⟩
      have v5 : V.cell? ⟨B.o i, 5, none⟩ = some (.slice (some ⟨B.se i, 0, none⟩) n (B.sc i)) := by rw [hWV.cell (World.block_lt_of_cell? _ _ D5.out), HN.out]; exact D5.out
      have v6 : V.cell? ⟨B.se i, k, none⟩ = some (.int .u64 y) := by rw [hWV.cell HSE.out.lt, hy]; exact HSE.out.cell k (by rw [← HN.out]; exact hlt)
      obtain ⟨SR, hSR⟩ : ∃ SR : Array Bool → World → Prop, SR = fun _ w' => w'.cell? ⟨wr.heap.size, 0, none⟩ = some (.int .u64 x.1) ∧ w'.cell? ⟨wr.heap.size, 1, none⟩ = some (.int .u64 x.2.1) ∧ w'.cell? ⟨wr.heap.size, 2, none⟩ = some (.int .u64 x.2.2) ∧ w'.cell? ⟨wr.heap.size, 3, none⟩ = some (.bool false) ∧
        w'.cell? ⟨B.o i, 5, none⟩ = some (.slice (some ⟨B.se i, 0, none⟩) n (B.sc i)) ∧ w'.cell? ⟨B.se i, k, none⟩ = some (.int .u64 y) := ⟨_, rfl⟩
      have hS0 : V.drew.cell? ⟨wr.heap.size, 0, none⟩ = some (.int .u64 x.1) ∧ V.drew.cell? ⟨wr.heap.size, 1, none⟩ = some (.int .u64 x.2.1) ∧ V.drew.cell? ⟨wr.heap.size, 2, none⟩ = some (.int .u64 x.2.2) ∧ V.drew.cell? ⟨wr.heap.size, 3, none⟩ = some (.bool false) ∧
        V.drew.cell? ⟨B.o i, 5, none⟩ = some (.slice (some ⟨B.se i, 0, none⟩) n (B.sc i)) ∧ V.drew.cell? ⟨B.se i, k, none⟩ = some (.int .u64 y) :=
        ⟨(cell_block hVe).trans rfl, (cell_block hVe).trans rfl, (cell_block hVe).trans rfl, (cell_block hVe).trans rfl, v5, v6⟩
      have hz0 : wr.heap.size < V.heap.size := heap_lt hVe
      have l5 : B.o i < W2.heap.size := World.block_lt_of_cell? _ _ D5.out
      have l6 : B.se i < W2.heap.size := HSE.out.lt
      have hSB : ∀ w' : World, (∀ b, b < V.heap.size → some b ≠ u5.ownBlock → w'.heap[b]? = V.heap[b]?) → w'.cell? ⟨wr.heap.size, 0, none⟩ = some (.int .u64 x.1) ∧ w'.cell? ⟨wr.heap.size, 1, none⟩ = some (.int .u64 x.2.1) ∧ w'.cell? ⟨wr.heap.size, 2, none⟩ = some (.int .u64 x.2.2) ∧ w'.cell? ⟨wr.heap.size, 3, none⟩ = some (.bool false) ∧ w'.cell? ⟨B.o i, 5, none⟩ = some (.slice (some ⟨B.se i, 0, none⟩) n (B.sc i)) ∧ w'.cell? ⟨B.se i, k, none⟩ = some (.int .u64 y) := by
        intro w' hk
        have hw := HBL.out.size
        have n0 : some wr.heap.size ≠ u5.ownBlock := fun e => by have := (HO5.out.lt _ e.symm).2; omega
        have n5 : some (B.o i) ≠ u5.ownBlock := fun e => by have := (HO5.out.lt _ e.symm).1; omega
        have n6 : some (B.se i) ≠ u5.ownBlock := fun e => by have := (HO5.out.lt _ e.symm).1; omega
        have e0 := (hk _ hz0 n0).trans hVe
        exact ⟨(cell_block e0).trans rfl, (cell_block e0).trans rfl, (cell_block e0).trans rfl, (cell_block e0).trans rfl, (cell_of_block (hk _ (by omega) n5)).trans v5, (cell_of_block (hk _ (by omega) n6)).trans v6⟩
      have HSB := Lib.hid hSB
      have hmx : x ∈ (m.op i).es := List.mem_of_getElem? HGX.out
      have hxn := HOK.out.val x hmx
      have hyn : y < 4611686018427387904 := by
        rw [hy]
        have hkl : k < (m.op i).seen.length := by rw [HOK.out.seen.1, ← HN.out]; exact hlt
        rw [List.getD_eq_getElem?_getD, List.getElem?_eq_getElem hkl]
        exact HOK.out.seen.2 _ (List.getElem_mem hkl)
      have HA1 := Lib.hid (after_any (w := V.drew) (off := x.1) (old := x.2.1) (new := x.2.2) (raw := y) hxn.2 (by omega))
      have HXN := Lib.hid hxn; have HYN := Lib.hid hyn
      unfold ent Dv.u64 at HA1
      clear hSB hz0 l5 l6 hmx hxn hyn
      have HS0 := Lib.hid hS0; have HV := Lib.hid hV; have HVB := Lib.hid hVb; have HVE := Lib.hid hVe; have HWV := Lib.hid hWV; have HY := Lib.hid hy
      have b2 : (0 : Int) ≤ k := by omega
      clear hS0 hV hVb hVe hWV hy v5 v6 c1 c2 c3 c4 hSR SR
      refine wp_region_L (fun _ w' => w'.cell? ⟨wr.heap.size, 0, none⟩ = some (.int .u64 x.1) ∧ w'.cell? ⟨wr.heap.size, 1, none⟩ = some (.int .u64 x.2.1) ∧ w'.cell? ⟨wr.heap.size, 2, none⟩ = some (.int .u64 x.2.2) ∧ w'.cell? ⟨wr.heap.size, 3, none⟩ = some (.bool false) ∧
        w'.cell? ⟨B.o i, 5, none⟩ = some (.slice (some ⟨B.se i, 0, none⟩) n (B.sc i)) ∧ w'.cell? ⟨B.se i, k, none⟩ = some (.int .u64 y)) (by kernel_rfl) ?_
      refine AnyL.take (i := 0) 14 (v := u5) (S0 := (fun _ => True)) rfl (by kernel_rfl) (by kernel_rfl) (by kernel_rfl) (by kernel_rfl) (by kernel_rfl) (fun _ _ _ h => h) (fun _ _ h => h) (fun _ _ _ _ => trivial) (Or.inl ⟨by rfl, fun w' hc => ?_⟩) (HS0.out) ?_
      · go_simp
      refine AnyL.take (i := 1) 13 (v := .int .u64 x.1) (S0 := (fun _ => True)) rfl (by kernel_rfl) (by kernel_rfl) (by kernel_rfl) (by kernel_rfl) (by kernel_rfl) (fun _ _ _ h => h) (fun _ _ h => h) (fun _ _ _ _ => trivial) (Or.inl ⟨by rfl, fun w' hc => ?_⟩) (HS0.out) ?_
      · go_simp
      refine AnyL.take (i := 2) 3 (v := .pointer (some ⟨wr.heap.size, 1, none⟩)) (S0 := (fun _ => True)) rfl (by kernel_rfl) (by kernel_rfl) (by kernel_rfl) (by kernel_rfl) (by kernel_rfl) (fun _ _ _ h => h) (fun _ _ h => h) (fun _ _ _ _ => trivial) (Or.inl ⟨by rfl, fun w' hc => ?_⟩) (HS0.out) ?_
      · go_simp
      refine AnyL.take (i := 3) 13 (v := .int .u64 x.2.1) (S0 := fun w' => w'.cell? ⟨wr.heap.size, 1, none⟩ = some (.int .u64 x.2.1)) rfl (by kernel_rfl) (by kernel_rfl) (by kernel_rfl) (by kernel_rfl) (by kernel_rfl) (fun _ _ _ h => h) (fun _ _ h => h) (fun _ _ h _ => h.2.1) (Or.inl ⟨by rfl, fun w' hc => ?_⟩) (HS0.out) ?_
      · go_simp
      refine AnyL.take (i := 4) 12 (v := .agg #[.int .u64 x.1, .int .u64 x.2.1, .int .u64 x.2.2, .bool false]) (S0 := fun w' => w'.cell? ⟨wr.heap.size, 0, none⟩ = some (.int .u64 x.1) ∧ w'.cell? ⟨wr.heap.size, 1, none⟩ = some (.int .u64 x.2.1) ∧ w'.cell? ⟨wr.heap.size, 2, none⟩ = some (.int .u64 x.2.2) ∧ w'.cell? ⟨wr.heap.size, 3, none⟩ = some (.bool false)) rfl (by kernel_rfl) (by kernel_rfl) (by kernel_rfl) (by kernel_rfl) (by kernel_rfl) (fun _ _ _ h => h) (fun _ _ h => h) (fun _ _ h _ => ⟨h.1, h.2.1, h.2.2.1, h.2.2.2.1⟩) (Or.inl ⟨by rfl, fun w' hc => ?_⟩) (HS0.out) ?_
      · obtain ⟨hc0, hc1, hc2, hc3⟩ := hc
        go_simp
      refine AnyL.take (i := 5) 6 (v := .pointer (some ⟨B.o i, 0, none⟩)) (S0 := (fun _ => True)) rfl (by kernel_rfl) (by kernel_rfl) (by kernel_rfl) (by kernel_rfl) (by kernel_rfl) (fun _ _ _ h => h) (fun _ _ h => h) (fun _ _ _ _ => trivial) (Or.inl ⟨by rfl, fun w' hc => ?_⟩) (HS0.out) ?_
      · go_simp
      refine AnyL.take (i := 6) 7 (v := .pointer (some ⟨B.o i, 0, none⟩)) (S0 := (fun _ => True)) rfl (by kernel_rfl) (by kernel_rfl) (by kernel_rfl) (by kernel_rfl) (by kernel_rfl) (fun _ _ _ h => h) (fun _ _ h => h) (fun _ _ _ _ => trivial) (Or.inl ⟨by rfl, fun w' hc => ?_⟩) (HS0.out) ?_
      · go_simp
      refine AnyL.take (i := 7) 8 (v := .pointer (some ⟨B.o i, 5, none⟩)) (S0 := (fun _ => True)) rfl (by kernel_rfl) (by kernel_rfl) (by kernel_rfl) (by kernel_rfl) (by kernel_rfl) (fun _ _ _ h => h) (fun _ _ h => h) (fun _ _ _ _ => trivial) (Or.inl ⟨by rfl, fun w' hc => ?_⟩) (HS0.out) ?_
      · go_simp
      refine AnyL.take (i := 8) 10 (v := .slice (some ⟨B.se i, 0, none⟩) n (B.sc i)) (S0 := fun w' => w'.cell? ⟨B.o i, 5, none⟩ = some (.slice (some ⟨B.se i, 0, none⟩) n (B.sc i))) rfl (by kernel_rfl) (by kernel_rfl) (by kernel_rfl) (by kernel_rfl) (by kernel_rfl) (fun _ _ _ h => h) (fun _ _ h => h) (fun _ _ h _ => h.2.2.2.2.1) (Or.inl ⟨by rfl, fun w' hc => ?_⟩) (HS0.out) ?_
      · go_simp
      refine AnyL.take (i := 9) 10 (v := .int .i64 k) (S0 := (fun _ => True)) rfl (by kernel_rfl) (by kernel_rfl) (by kernel_rfl) (by kernel_rfl) (by kernel_rfl) (fun _ _ _ h => h) (fun _ _ h => h) (fun _ _ _ _ => trivial) (Or.inl ⟨by rfl, fun w' hc => ?_⟩) (HS0.out) ?_
      · go_simp
      refine AnyL.take (i := 10) 11 (v := .pointer (some ⟨B.se i, k, none⟩)) (S0 := (fun _ => True)) rfl (by kernel_rfl) (by kernel_rfl) (by kernel_rfl) (by kernel_rfl) (by kernel_rfl) (fun _ _ _ h => h) (fun _ _ h => h) (fun _ _ _ _ => trivial) (Or.inl ⟨by rfl, fun w' hc => ?_⟩) (HS0.out) ?_
      · go_simp
      refine AnyL.take (i := 11) 12 (v := .int .u64 y) (S0 := fun w' => w'.cell? ⟨B.se i, k, none⟩ = some (.int .u64 y)) rfl (by kernel_rfl) (by kernel_rfl) (by kernel_rfl) (by kernel_rfl) (by kernel_rfl) (fun _ _ _ h => h) (fun _ _ h => h) (fun _ _ h _ => h.2.2.2.2.2) (Or.inl ⟨by rfl, fun w' hc => ?_⟩) (HS0.out) ?_
      · go_simp
      refine AnyL.step (j := 12) (by kernel_rfl) rfl (fun K hK => ?_)
      go_simp
      refine HA1.out.mono ?_
      rintro e V1 ⟨rfl, hb1⟩
      have hb1' : Below V.heap.size V V1 := (below_drew (Below.refl _ V)).trans hb1
      obtain ⟨z, hz⟩ : ∃ z, z = aft x.2.2 y := ⟨_, rfl⟩
      rw [← hz]
      dsimp only
      have HB1 := Lib.hid hb1'; have HZ := Lib.hid hz
      clear hb1 hb1' hz
      refine hK _ _ (HSB.out V1 (fun b hb _ => HB1.out.block b hb)) ?_
      clear hK K
      have hUb : Below V.heap.size V (V1.alloc (.cells #[.int .u64 x.1, .int .u64 x.2.1, .int .u64 z] 48)) := HB1.out.trans ((below_alloc (Below.refl _ V1)).mono HB1.out.size)
      have HUB := Lib.hid hUb
      clear hUb
      refine AnyL.step (j := 13) (by kernel_rfl) rfl (fun K hK => ?_)
      go_simp
      refine hK _ _ (HSB.out _ (fun b hb _ => HUB.out.block b hb)) ?_
      clear hK K
      have hkl := HOK.out.n
      have hn3 : k < 6 := by omega
      have ho5 := own_below HO5.out (HVB.out.trans (HUB.out.mono HVB.out.size))
      have hvs := HUB.out.size
      have hvw := HVB.out.size
      have hww := HBL.out.size
      obtain ⟨g5, cap5, V2, hrun5, ho5', hgr5, hg5⟩ := append_own2 (w := V1.alloc (.cells #[.int .u64 x.1, .int .u64 x.2.1, .int .u64 z] 48)) elWords ho5
        ⟨V1.heap.size, 0, none⟩ 3 3 [.int .u64 x.1, .int .u64 x.2.1, .int .u64 z] rfl (fun q u hq => by
          rw [Addr.add_lit, Nat.zero_add]
          exact (cell_block (heap_alloc_new V1 _)).trans (by simpa using hq))
        (by intro u hu; simp at hu; rcases hu with rfl | rfl | rfl <;> rfl) (by omega) (by unfold maxLen; omega) (by omega) (by omega)
      have hkeep : ∀ b, b < V.heap.size → some b ≠ u5.ownBlock → V2.heap[b]? = V.heap[b]? := fun b hb hne => (hgr5.block b (by omega) hne).trans (HUB.out.block b hb)
      have HR5 := Lib.hid hrun5; have HO5' := Lib.hid ho5'; have HG5 := Lib.hid hgr5; have HKP := Lib.hid hkeep
      clear ho5 hrun5 ho5' hgr5 hg5 hkeep hvs hvw hww hkl
      refine AnyL.step (j := 14) (by kernel_rfl) rfl (fun K hK => ?_)
      refine step_append_run rfl _ _ _ rfl _ _ _ _ rfl rfl HR5.out ?_
      refine hK _ _ (HSB.out _ HKP.out) ?_
      clear hK K
      refine AnyL.step (j := 15) (by kernel_rfl) rfl (fun K hK => ?_)
      go_simp
      refine hK _ _ (HSB.out _ HKP.out) ?_
      clear hK K
      refine AnyL.done (by kernel_rfl) ?_
      go_wp2_with fail
      have ho7 := own_below HO7.out (HVB.out.trans (HUB.out.mono HVB.out.size))
      have ho5 := own_below HO5.out (HVB.out.trans (HUB.out.mono HVB.out.size))
      have ho7' := ho7.kept HG5.out (own_ne ho7 ho5 (by decide))
      have hbV : Below W2.heap.size W2 V2 := below_grown (HWV.out.trans (HUB.out.mono HWV.out.size)) HG5.out (Nat.le_trans HWV.out.size HUB.out.size) (fun q hq => (HO5.out.lt q hq).1)
      have hT0 := HSB.out V2.drew HKP.out
      have hV2 : V.heap.size ≤ V2.heap.size := Nat.le_trans HUB.out.size HG5.out.size
      have hz1 : wr.heap.size < V2.heap.size := Nat.lt_of_lt_of_le (heap_lt HVE.out) hV2
      have hSC : ∀ w' : World, (∀ b, b < V2.heap.size → some b ≠ u7.ownBlock → w'.heap[b]? = V2.heap[b]?) → w'.cell? ⟨wr.heap.size, 0, none⟩ = some (.int .u64 x.1) ∧ w'.cell? ⟨wr.heap.size, 1, none⟩ = some (.int .u64 x.2.1) ∧ w'.cell? ⟨wr.heap.size, 2, none⟩ = some (.int .u64 x.2.2) ∧ w'.cell? ⟨wr.heap.size, 3, none⟩ = some (.bool false) ∧ w'.cell? ⟨B.o i, 5, none⟩ = some (.slice (some ⟨B.se i, 0, none⟩) n (B.sc i)) ∧ w'.cell? ⟨B.se i, k, none⟩ = some (.int .u64 y) := by
        intro w' hk
        have hw := HBL.out.size
        have hze := heap_lt HVE.out
        have n0 : some wr.heap.size ≠ u7.ownBlock := fun e => by have := (HO7.out.lt _ e.symm).2; omega
        have q5 : B.o i < W2.heap.size := World.block_lt_of_cell? _ _ D5.out
        have q6 : B.se i < W2.heap.size := HSE.out.lt
        have n5 : some (B.o i) ≠ u7.ownBlock := fun e => by have := (HO7.out.lt _ e.symm).1; omega
        have n6 : some (B.se i) ≠ u7.ownBlock := fun e => by have := (HO7.out.lt _ e.symm).1; omega
        have e0 := hk _ hz1 n0
        obtain ⟨t1, t2, t3, t4, t5, t6⟩ := hT0
        exact ⟨(cell_of_block e0).trans t1, (cell_of_block e0).trans t2, (cell_of_block e0).trans t3, (cell_of_block e0).trans t4, (cell_of_block (hk _ (by omega) n5)).trans t5, (cell_of_block (hk _ (by omega) n6)).trans t6⟩
      have HT0 := Lib.hid hT0; have HSC := Lib.hid hSC; have HO7' := Lib.hid ho7'; have HBV := Lib.hid hbV
      have HA2 := Lib.hid (after_any (w := V2.drew) (off := x.1) (old := x.2.1) (new := x.2.2) (raw := y) HXN.out.2 (by have := HYN.out; omega))
      unfold ent Dv.u64 at HA2
      clear ho7 ho5 ho7' hbV hT0 hV2 hz1 hSC
      refine wp_region_L (fun _ w' => w'.cell? ⟨wr.heap.size, 0, none⟩ = some (.int .u64 x.1) ∧ w'.cell? ⟨wr.heap.size, 1, none⟩ = some (.int .u64 x.2.1) ∧ w'.cell? ⟨wr.heap.size, 2, none⟩ = some (.int .u64 x.2.2) ∧ w'.cell? ⟨wr.heap.size, 3, none⟩ = some (.bool false) ∧ w'.cell? ⟨B.o i, 5, none⟩ = some (.slice (some ⟨B.se i, 0, none⟩) n (B.sc i)) ∧ w'.cell? ⟨B.se i, k, none⟩ = some (.int .u64 y)) (by kernel_rfl) ?_
      refine AnyL.take (i := 0) 14 (v := u7) (S0 := (fun _ => True)) rfl (by kernel_rfl) (by kernel_rfl) (by kernel_rfl) (by kernel_rfl) (by kernel_rfl) (fun _ _ _ h => h) (fun _ _ h => h) (fun _ _ _ _ => trivial) (Or.inl ⟨by rfl, fun w' hc => ?_⟩) (HT0.out) ?_
      · go_simp
      refine AnyL.take (i := 1) 2 (v := .pointer (some ⟨wr.heap.size, 0, none⟩)) (S0 := (fun _ => True)) rfl (by kernel_rfl) (by kernel_rfl) (by kernel_rfl) (by kernel_rfl) (by kernel_rfl) (fun _ _ _ h => h) (fun _ _ h => h) (fun _ _ _ _ => trivial) (Or.inl ⟨by rfl, fun w' hc => ?_⟩) (HT0.out) ?_
      · go_simp
      refine AnyL.take (i := 2) 12 (v := .int .u64 x.1) (S0 := fun w' => w'.cell? ⟨wr.heap.size, 0, none⟩ = some (.int .u64 x.1)) rfl (by kernel_rfl) (by kernel_rfl) (by kernel_rfl) (by kernel_rfl) (by kernel_rfl) (fun _ _ _ h => h) (fun _ _ h => h) (fun _ _ h _ => h.1) (Or.inl ⟨by rfl, fun w' hc => ?_⟩) (HT0.out) ?_
      · go_simp
      refine AnyL.take (i := 3) 11 (v := .agg #[.int .u64 x.1, .int .u64 x.2.1, .int .u64 x.2.2, .bool false]) (S0 := fun w' => w'.cell? ⟨wr.heap.size, 0, none⟩ = some (.int .u64 x.1) ∧ w'.cell? ⟨wr.heap.size, 1, none⟩ = some (.int .u64 x.2.1) ∧ w'.cell? ⟨wr.heap.size, 2, none⟩ = some (.int .u64 x.2.2) ∧ w'.cell? ⟨wr.heap.size, 3, none⟩ = some (.bool false)) rfl (by kernel_rfl) (by kernel_rfl) (by kernel_rfl) (by kernel_rfl) (by kernel_rfl) (fun _ _ _ h => h) (fun _ _ h => h) (fun _ _ h _ => ⟨h.1, h.2.1, h.2.2.1, h.2.2.2.1⟩) (Or.inl ⟨by rfl, fun w' hc => ?_⟩) (HT0.out) ?_
      · obtain ⟨hc0, hc1, hc2, hc3⟩ := hc
        go_simp
      refine AnyL.take (i := 4) 5 (v := .pointer (some ⟨B.o i, 0, none⟩)) (S0 := (fun _ => True)) rfl (by kernel_rfl) (by kernel_rfl) (by kernel_rfl) (by kernel_rfl) (by kernel_rfl) (fun _ _ _ h => h) (fun _ _ h => h) (fun _ _ _ _ => trivial) (Or.inl ⟨by rfl, fun w' hc => ?_⟩) (HT0.out) ?_
      · go_simp
      refine AnyL.take (i := 5) 6 (v := .pointer (some ⟨B.o i, 0, none⟩)) (S0 := (fun _ => True)) rfl (by kernel_rfl) (by kernel_rfl) (by kernel_rfl) (by kernel_rfl) (by kernel_rfl) (fun _ _ _ h => h) (fun _ _ h => h) (fun _ _ _ _ => trivial) (Or.inl ⟨by rfl, fun w' hc => ?_⟩) (HT0.out) ?_
      · go_simp
      refine AnyL.take (i := 6) 7 (v := .pointer (some ⟨B.o i, 5, none⟩)) (S0 := (fun _ => True)) rfl (by kernel_rfl) (by kernel_rfl) (by kernel_rfl) (by kernel_rfl) (by kernel_rfl) (fun _ _ _ h => h) (fun _ _ h => h) (fun _ _ _ _ => trivial) (Or.inl ⟨by rfl, fun w' hc => ?_⟩) (HT0.out) ?_
      · go_simp
      refine AnyL.take (i := 7) 9 (v := .slice (some ⟨B.se i, 0, none⟩) n (B.sc i)) (S0 := fun w' => w'.cell? ⟨B.o i, 5, none⟩ = some (.slice (some ⟨B.se i, 0, none⟩) n (B.sc i))) rfl (by kernel_rfl) (by kernel_rfl) (by kernel_rfl) (by kernel_rfl) (by kernel_rfl) (fun _ _ _ h => h) (fun _ _ h => h) (fun _ _ h _ => h.2.2.2.2.1) (Or.inl ⟨by rfl, fun w' hc => ?_⟩) (HT0.out) ?_
      · go_simp
      refine AnyL.take (i := 8) 9 (v := .int .i64 k) (S0 := (fun _ => True)) rfl (by kernel_rfl) (by kernel_rfl) (by kernel_rfl) (by kernel_rfl) (by kernel_rfl) (fun _ _ _ h => h) (fun _ _ h => h) (fun _ _ _ _ => trivial) (Or.inl ⟨by rfl, fun w' hc => ?_⟩) (HT0.out) ?_
      · go_simp
      refine AnyL.take (i := 9) 10 (v := .pointer (some ⟨B.se i, k, none⟩)) (S0 := (fun _ => True)) rfl (by kernel_rfl) (by kernel_rfl) (by kernel_rfl) (by kernel_rfl) (by kernel_rfl) (fun _ _ _ h => h) (fun _ _ h => h) (fun _ _ _ _ => trivial) (Or.inl ⟨by rfl, fun w' hc => ?_⟩) (HT0.out) ?_
      · go_simp
      refine AnyL.take (i := 10) 11 (v := .int .u64 y) (S0 := fun w' => w'.cell? ⟨B.se i, k, none⟩ = some (.int .u64 y)) rfl (by kernel_rfl) (by kernel_rfl) (by kernel_rfl) (by kernel_rfl) (by kernel_rfl) (fun _ _ _ h => h) (fun _ _ h => h) (fun _ _ h _ => h.2.2.2.2.2) (Or.inl ⟨by rfl, fun w' hc => ?_⟩) (HT0.out) ?_
      · go_simp
      refine AnyL.step (j := 11) (by kernel_rfl) rfl (fun K hK => ?_)
      go_simp
      refine HA2.out.mono ?_
      rintro e V3 ⟨rfl, hb3⟩
      have hb3' : Below V2.heap.size V2 V3 := (below_drew (Below.refl _ V2)).trans hb3
      rw [← HZ.out]
      dsimp only
      have HB3 := Lib.hid hb3'
      clear hb3 hb3'
      refine hK _ _ (HSC.out V3 (fun b hb _ => HB3.out.block b hb)) ?_
      clear hK K
      refine AnyL.step (j := 12) (by kernel_rfl) rfl (fun K hK => ?_)
      go_simp
      refine hK _ _ (HSC.out V3 (fun b hb _ => HB3.out.block b hb)) ?_
      clear hK K
      have hUb : Below V2.heap.size V2 (V3.alloc (.cells #[.int .u64 x.1, .int .u64 z] 66)) := HB3.out.trans ((below_alloc (Below.refl _ V3)).mono HB3.out.size)
      have HUC := Lib.hid hUb
      clear hUb
      refine AnyL.step (j := 13) (by kernel_rfl) rfl (fun K hK => ?_)
      go_simp
      refine hK _ _ (HSC.out _ (fun b hb _ => HUC.out.block b hb)) ?_
      clear hK K
      have ho7 := own_below HO7'.out HUC.out
      have hvs := HUC.out.size
      have hww := HBV.out.size
      obtain ⟨g7, cap7, V4, hrun7, ho7', hgr7, hg7⟩ := append_own2 (w := V3.alloc (.cells #[.int .u64 x.1, .int .u64 z] 66)) elWrites ho7
        ⟨V3.heap.size, 0, none⟩ 1 1 [.int .u64 x.1, .int .u64 z] rfl (fun q u hq => by
          rw [Addr.add_lit, Nat.zero_add]
          exact (cell_block (heap_alloc_new V3 _)).trans (by simpa using hq))
        (by intro u hu; simp at hu; rcases hu with rfl | rfl <;> rfl) (by omega) (by unfold maxLen; omega) (by omega) (by omega)
      have hkeep : ∀ b, b < V2.heap.size → some b ≠ u7.ownBlock → V4.heap[b]? = V2.heap[b]? := fun b hb hne => (hgr7.block b (by omega) hne).trans (HUC.out.block b hb)
      have HR7 := Lib.hid hrun7; have HO7'' := Lib.hid ho7'; have HG7 := Lib.hid hgr7; have HKQ := Lib.hid hkeep
      clear ho7 hrun7 ho7' hgr7 hg7 hkeep hvs hww
      refine AnyL.step (j := 14) (by kernel_rfl) rfl (fun K hK => ?_)
      refine step_append_run rfl _ _ _ rfl _ _ _ _ rfl rfl HR7.out ?_
      refine hK _ _ (HSC.out _ HKQ.out) ?_
      clear hK K
      refine AnyL.step (j := 15) (by kernel_rfl) rfl (fun K hK => ?_)
      go_simp
      refine hK _ _ (HSC.out _ HKQ.out) ?_
      clear hK K
      refine AnyL.done (by kernel_rfl) ?_
      go_wp2_with fail
      have hge := ents_get HGX.out
      rw [← HY.out, ← HZ.out] at hge
      have htk : (m.op i).ents.take (k + 1) = (m.op i).ents.take k ++ [(x.1, x.2.1, z)] := by rw [List.take_add_one, hge]; rfl
      have ho5 := own_below HO5'.out HUC.out
      have ho5' := ho5.kept HG7.out (own_ne ho5 (own_below HO7'.out HUC.out) (by decide))
      refine ⟨⟨k + 1, by rw [HEL.out]; omega, by simp, ?_, ?_, ?_⟩, by simp [intOf]; omega⟩
      · rw [htk, show 3 * (k + 1) = 3 * k + 3 by omega, ewords_snoc, uc_app]
        exact ho5'
      · rw [htk, ewr, List.map_append]
        rw [← ewr]
        exact (wcells_snoc _ _ ▸ HO7''.out)
      · exact below_grown (HBV.out.trans (HUC.out.mono HBV.out.size)) HG7.out (Nat.le_trans HBV.out.size HUC.out.size) (fun q hq => (HO7.out.lt q hq).1)
    · obtain rfl : k = n := by omega
      rw [← HEL.out, List.take_length] at ho5 ho7
      rw [HEL.out] at ho5 ho7
      obtain ⟨g5, c5, rfl⟩ : ∃ g c, u5 = .slice (some ⟨g, 0, none⟩) (3 * k) c := by
        rcases ho5.2 with ⟨_, e⟩ | ⟨g, cap, cur, e, _⟩
        · omega
        · exact ⟨g, cap, e⟩
      obtain ⟨g7, c7, rfl⟩ : ∃ g c, u7 = .slice (some ⟨g, 0, none⟩) k c := by
        rcases ho7.2 with ⟨_, e⟩ | ⟨g, cap, cur, e, _⟩
        · omega
        · exact ⟨g, cap, e⟩
      have hs5' : Seen wr g5 0 (uc (ewords (m.op i).ents)) := fun j u hj => by
        have := ho5.cells (g := g5) rfl j u hj
        rw [Addr.add_lit] at this
        exact this
      have hg5 := (ho5.lt g5 rfl).2
      have hd5 : ¬ ((k : Int) < k) := by omega
      have HO5 := Lib.hid ho5; have HO7 := Lib.hid ho7; have HBL := Lib.hid hbl; have HS5 := Lib.hid hs5'
      have hrl : (m.op i).recw.length = 3 * k := by unfold OpS.recw; rw [List.length_map, List.length_range, ewords_length, HEL.out]
      have HRL := Lib.hid hrl
      have hK : (m.op i).k ≤ 1000 := by have := HOK.out.k; omega
      have bK : ((m.op i).k : Int) ≤ 1000 := by omega
      have bk : (k : Int) ≤ 6 := by omega
      clear ho5 ho7 hbl hs5' hrl hlt hkn hk
      go_wp2_with fail
      obtain ⟨wo, rfl⟩ : ∃ wo : World, wo = wr := ⟨_, rfl⟩
      go_loopw [6, 11, 12, 78] (fun v6 _ _ i' wl => E2Rel wo (m.op i).recw v6 i' wl) (fun _ _ _ i' _ => 3 * k - (intOf i').toNat)
      case atStart => exact ⟨0, by omega, rfl, World.ownsRow_nil _ _ _ _, Below.refl _ _⟩
      case round =>
        obtain ⟨q, hq, rfl, ho6, hbl⟩ := hrel
        rw [HRL.out] at hq
        by_cases hlt : q < 3 * k
        · have hql : q < (ewords (m.op i).ents).length := by rw [ewords_length, HEL.out]; exact hlt
          obtain ⟨x, hx⟩ : ∃ x, x = (ewords (m.op i).ents)[q] := ⟨_, rfl⟩
          have hgx : (ewords (m.op i).ents)[q]? = some x := by rw [hx]; exact List.getElem?_eq_getElem hql
          have hrg : (m.op i).recw[q]? = some (256 * (m.op i).k + 64 + 8 * q, x) := by
            unfold OpS.recw
            rw [List.getElem?_map, List.getElem?_range hql]
            simp [List.getD_eq_getElem?_getD, hgx]
          have htk : (m.op i).recw.take (q + 1) = (m.op i).recw.take q ++ [(256 * (m.op i).k + 64 + 8 * q, x)] := by rw [List.take_add_one, hrg]; rfl
          have c1 : wr.cell? ⟨g5, q, none⟩ = some (.int .u64 x) := by
            have := (HS5.out.below hbl (Nat.le_refl _)) q (.int .u64 x) (by unfold uc; rw [List.getElem?_map, hgx]; rfl)
            rw [Nat.zero_add] at this
            exact this
          have b1 : (q : Int) < 3 * k := by omega
          have HTK := Lib.hid htk; have HO6 := Lib.hid ho6; have HBM := Lib.hid hbl
          clear htk ho6 hbl hrg hgx hx hql
          go_wp2_with (at_builtin; refine wpList_own1 elWrites rfl _ _ rfl HO6.out rfl rfl ?c1 rfl ?c2 ?c3 ?c4 ?c5 ?_)
          case c1 => rfl
          case c2 => exact ⟨rfl, rfl⟩
          case c3 => unfold maxLen; omega
          case c4 => omega
          case c5 => exact HBM.out.size
          intro g4 cap4 w4 hop4 hgr4 hg4
          have hb4 : Below wo.heap.size wo w4 := below_grown HBM.out hgr4 HBM.out.size (fun b hb => (HO6.out.lt b hb).1)
          have G := Lib.hid (show E2Rel wo (m.op i).recw (.slice (some ⟨g4, 0, none⟩) (q + 1) cap4) (.int .i64 ((q + 1 : Nat) : Int)) w4 from ⟨q + 1, by rw [HRL.out]; omega, rfl, by
            rw [HTK.out, wcells_snoc]
            have e : ((256 * (m.op i).k + 64 + 8 * q : Nat) : Int) = 256 * ((m.op i).k : Int) + 64 + (q : Int) * 8 := by omega
            unfold Dv.u64
            rw [e]
            exact hop4, hb4⟩)
          clear hop4 hgr4 hg4 hb4
          go_wp2_with fail
          go_roundw
          case rel => simpa using G.out
          case measure => simp [intOf]; omega
        · obtain rfl : q = 3 * k := by omega
          have hrl := HRL.out
          rw [← hrl, List.take_length] at ho6
          rw [hrl] at ho6
          obtain ⟨g6, c6, rfl⟩ : ∃ g c, u6 = .slice (some ⟨g, 0, none⟩) (3 * k) c := by
            rcases ho6.2 with ⟨_, e⟩ | ⟨g, cap, cur, e, _⟩
            · omega
            · exact ⟨g, cap, e⟩
          have hd6 : ¬ (((3 * k : Nat) : Int) < 3 * (k : Int)) := by omega
          have HO6 := Lib.hid ho6; have HBM := Lib.hid hbl
          clear ho6 hbl hrl hlt hq
          have hb3 : Below W2.heap.size W2 wr := HBL.out.trans (HBM.out.mono HBL.out.size)
          obtain ⟨h3, mv3⟩ := H2.out.below hb3
          have mv := M3.out.trans mv3
          have tb3 := HTB.out.moved mv
          have hs5' : Seen wr g5 0 ((ewords (m.op i).ents).map Dv.u64) := HS5.out.below HBM.out (Nat.le_refl _)
          have hs6' : Seen wr g6 0 (wcells (m.op i).recw) := fun j u hj => by
            have := HO6.out.cells (g := g6) rfl j u hj
            rw [Addr.add_lit] at this
            exact this
          have hs7' : Seen wr g7 0 (wcells (ewr (m.op i).ents)) := fun j u hj => by
            have := (own_below HO7.out HBM.out).cells (g := g7) rfl j u hj
            rw [Addr.add_lit] at this
            exact this
          have hew : ∀ x ∈ ewords (m.op i).ents, x < 18446744073709551616 := ents_words HOK.out HSZ.out
          have hel' : (ewords (m.op i).ents).length = 3 * k := by rw [ewords_length, HEL.out]
          have hwl : (ewr (m.op i).ents).length = k := by unfold ewr; rw [List.length_map, HEL.out]
          have H3 := Lib.hid h3; have MV := Lib.hid mv; have S5 := Lib.hid hs5'; have S6 := Lib.hid hs6'; have S7 := Lib.hid hs7'; have HEW := Lib.hid hew; have HEL' := Lib.hid hel'; have HWL := Lib.hid hwl
          have HT3 := Lib.hid tb3.tab
          clear h3 mv3 mv tb3 hs5' hs6' hs7' hew hel' hwl hb3
          have hs : s = 1 ∨ s = 2 ∨ s = 3 ∨ s = 4 ∨ s = 5 := by omega
          rcases hs with rfl | rfl | rfl | rfl | rfl
          · have HC := Lib.hid (stores_any (w := wr) (c := c6) (l := (m.op i).recw) S6.out (by rw [HRL.out]; omega) (by rw [HRL.out]; omega) (fun p hp => (recw_lt HOK.out HSZ.out hK p hp).1) (recw_up _))
            rw [HRL.out] at HC
            go_wp2_with fail
            refine HC.out.mono ?_
            rintro e V ⟨g, cap, rfl, hown, hbV⟩
            obtain ⟨⟨v8, c8⟩, f8, hend⟩ := H3.out.newProg MV.out hi (prog_ok (recw_lt HOK.out HSZ.out hK)) hown hbV
            rw [MS.set_op, MS.set_set] at hend
            have GG := Lib.hid hend
            clear hown hbV hend
            go_wp2_with fail
            go_returns
            exact ⟨rfl, GG.out⟩
          · have HC := Lib.hid (succeeded_any (w := wr) HT3.out (c := c5) (l := ewords (m.op i).ents) S5.out HEW.out (by rw [HEL'.out]; omega))
            rw [HEL'.out, show 3 * k / 3 = k by omega] at HC
            have hcl := crcW_lt HT3.out (ewords (m.op i).ents)
            obtain ⟨Z, hZ⟩ : ∃ Z, Z = sst k (crcW T (ewords (m.op i).ents)) := ⟨_, rfl⟩
            rw [← hZ] at HC
            have hZl : Z < 18446744073709551616 := by rw [hZ]; unfold sst; omega
            have hst : (m.op i).stores T 2 = [(256 * (m.op i).k, Z)] := by unfold OpS.stores; rw [if_neg (by omega), if_pos rfl, hZ, ← HN.out]
            clear hZ hcl
            unfold Dv.u64 at HC
            have hal : Below wr.heap.size wr (wr.alloc (.cells #[.int .u64 (256 * (m.op i).k : Nat), .int .u64 Z] 66)) := below_alloc (Below.refl _ _)
            obtain ⟨h4, mv4⟩ := H3.out.below hal
            have HS := Lib.hid (stores_any (w := wr.alloc (.cells #[.int .u64 (256 * (m.op i).k : Nat), .int .u64 Z] 66)) (b := wr.heap.size) (o := 0) (c := 1) (l := [(256 * (m.op i).k, Z)]) (seen_new1 _ _ _) (by simp) (by simp) (by intro p hp; simp at hp; subst hp; dsimp only; omega) (up_one _))
            have H4 := Lib.hid h4; have MV4 := Lib.hid (MV.out.trans mv4)
            clear h4 mv4 hal
            go_wp2_with fail
            refine HC.out.mono ?_
            rintro e V ⟨rfl, rfl⟩
            go_wp2_with fail
            refine HS.out.mono ?_
            rintro e V ⟨g, cap, rfl, hown, hbV⟩
            obtain ⟨⟨v8, c8⟩, f8, hend⟩ := H4.out.newProg MV4.out hi (prog_ok (l := [(256 * (m.op i).k, Z)]) (by intro p hp; simp at hp; subst hp; dsimp only; omega)) hown hbV
            rw [MS.set_op, MS.set_set] at hend
            have GG := Lib.hid (show MWent w A B Lr N F G (m.enter T i 2) _ by unfold MS.enter; rw [if_pos (by omega), hst]; exact hend)
            clear hown hbV hend
            go_wp2_with fail
            go_returns
            exact ⟨rfl, GG.out⟩
          · have HC := Lib.hid (stores_any (w := wr) (c := c7) (l := ewr (m.op i).ents) S7.out (by rw [HWL.out]; omega) (by rw [HWL.out]; omega) (fun p hp => (ewr_lt HOK.out HSZ.out p hp).1) (ewr_up hup))
            rw [HWL.out] at HC
            go_wp2_with fail
            refine HC.out.mono ?_
            rintro e V ⟨g, cap, rfl, hown, hbV⟩
            obtain ⟨⟨v8, c8⟩, f8, hend⟩ := H3.out.newProg MV.out hi (prog_ok (ewr_lt HOK.out HSZ.out)) hown hbV
            rw [MS.set_op, MS.set_set] at hend
            have GG := Lib.hid hend
            clear hown hbV hend
            go_wp2_with fail
            go_returns
            exact ⟨rfl, GG.out⟩
          · have hst : (m.op i).stores T 4 = [(256 * (m.op i).k, unusedW)] := by unfold OpS.stores; rw [if_neg (by omega), if_neg (by omega), if_neg (by omega)]
            have hal : Below wr.heap.size wr (wr.alloc (.cells #[.int .u64 (256 * (m.op i).k : Nat), .int .u64 unusedW] 66)) := below_alloc (Below.refl _ _)
            obtain ⟨h4, mv4⟩ := H3.out.below hal
            have HS := Lib.hid (stores_any (w := wr.alloc (.cells #[.int .u64 (256 * (m.op i).k : Nat), .int .u64 unusedW] 66)) (b := wr.heap.size) (o := 0) (c := 1) (l := [(256 * (m.op i).k, unusedW)]) (seen_new1 _ _ _) (by simp) (by simp) (by intro p hp; simp at hp; subst hp; dsimp only; omega) (up_one _))
            have H4 := Lib.hid h4; have MV4 := Lib.hid (MV.out.trans mv4)
            clear h4 mv4 hal
            go_wp2_with fail
            refine HS.out.mono ?_
            rintro e V ⟨g, cap, rfl, hown, hbV⟩
            obtain ⟨⟨v8, c8⟩, f8, hend⟩ := H4.out.newProg MV4.out hi (prog_ok (l := [(256 * (m.op i).k, unusedW)]) (by intro p hp; simp at hp; subst hp; dsimp only; unfold unusedW; omega)) hown hbV
            rw [MS.set_op, MS.set_set] at hend
            have GG := Lib.hid (show MWent w A B Lr N F G (m.enter T i 4) _ by unfold MS.enter; rw [if_pos (by omega), hst]; exact hend)
            clear hown hbV hend
            go_wp2_with fail
            go_returns
            exact ⟨rfl, GG.out⟩
          · have HC := Lib.hid (finish_mw H3.out hi true)
            go_wp2_with fail
            refine HC.out.mono ?_
            rintro e V ⟨rfl, hend⟩
            have GG := Lib.hid (MWent.from MV.out hend)
            clear hend
            go_wp2_with fail
            go_returns
            exact ⟨rfl, GG.out⟩
end Go.Proofs.YtejlgnebofdijaaGreatDoor.Dv
