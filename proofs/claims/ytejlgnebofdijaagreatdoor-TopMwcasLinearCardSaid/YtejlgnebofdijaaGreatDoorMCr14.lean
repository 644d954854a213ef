/-
  TopMwcasLinear: the region of the crash.
-/
import Derived.Test.YtejlgnebofdijaaGreatDoorMRegA
import Derived.Test.YtejlgnebofdijaaGreatDoorMMw4
namespace Go.Proofs.YtejlgnebofdijaaGreatDoor.Dv
open Go.RowKit
set_option linter.unusedVariables false

noncomputable def rgL14 : Code := (Tryz.f3.body.bind (findRegion 14)).getD .skip

/-- What is known behind the call: the world's cell can be written, and P holds of the world written. -/
def L14Post (wb cb z1 : Nat) (P : Nat → World → Prop) (e : Ending) (w' : World) : Prop :=
  ∃ a2 : Nat, e = .returned (.pointer (some ⟨a2, 0, none⟩)) ∧ (∃ u, w'.cell? ⟨wb, 0, none⟩ = some u) ∧ w'.frozen? ⟨wb, 0, none⟩ = false ∧ w'.cell? ⟨cb, 1, none⟩ = some (.int .u16 z1) ∧ Hid (P a2 (w'.setCell ⟨wb, 0, none⟩ (.pointer (some ⟨a2, 0, none⟩))))

set_option maxHeartbeats 4000000 in
set_option maxRecDepth 100000 in
theorem regL14 {V : World} {wb cb d z1 : Nat} {P : Nat → World → Prop} {K : Act → World → Prop} {c0 c1 c2 c3 c4 c6 c7 c8 c9 c11 c12 c13 c14 c15 c16 c17 c18 c19 c20 c21 c22 c23 c24 c25 c26 c27 c28 c29 c30 c31 c32 c33 c34 c35 c36 c37 c38 c39 c40 c41 c42 c43 c44 c45 c46 c47 c48 c49 c50 c51 c52 c53 c54 c55 c56 c57 c58 c59 c60 c61 c62 c63 c64 c65 c66 c67 c68 c69 c70 c71 c72 c73 c74 c75 c76 c77 c78 c79 c80 c81 c82 c83 c84 c85 c86 c87 c88 c89 c90 c91 c92 c93 c94 c95 c96 c97 c98 c99 c100 c101 c102 c103 c104 c105 c106 c107 c108 c109 c110 c111 c112 c113 c114 c115 c116 c117 c118 c119 c120 c121 c122 c123 c124 c125 c126 c127 c128 c129 c130 c131 c132 c133 c134 c135 c136 c137 c138 c139 c140 c141 c142 c143 c144 c145 c146 c147 c148 c149 c150 c151 c152 c153 c154 c155 c156 c157 c158 c159 c160 c161 c162 c163 c164 c165 c166 c167 c168 c169 c170 c171 c172 c173 c174 c175 c176 c177 c178 c179 c180 c181 c182 c183 c184 c185 c186 c187 c188 c189 c190 c191 c192 c193 c194 c195 c196 c197 c198 c199 c200 c201 c202 c203 c204 c205 c206 c207 c208 c209 c210 c211 c212 c213 c214 c215 c216 c217 : Value}
    (k1 : V.cell? ⟨wb, 0, none⟩ = some (.pointer (some ⟨d, 0, none⟩))) (k2 : V.cell? ⟨cb, 1, none⟩ = some (.int .u16 z1)) (hz : z1 < 65536) (hne : wb ≠ cb)
    (hcall : Calls Tryz.prog 8 #[.pointer (some ⟨d, 0, none⟩), .slice (some ⟨V.heap.size, 0, none⟩) 2 2] (V.alloc (.cells #[.int .u8 (IntKind.u8.wrap (z1 : Int)), .int .u8 (IntKind.u8.wrap ((z1 : Int) / 256))] 5)).drew (L14Post wb cb z1 P))
    (hq : ∀ (a2 : Nat) (w' : World) (u77 u78 u79 u80 u81 u82 u83 u84 u85 u86 u87 u88 u89 u90 u91 u92 : Value), P a2 w' → K ⟨#[c0, c1, c2, c3, c4, .pointer (some ⟨cb, 0, none⟩), c6, c7, c8, c9, .pointer (some ⟨wb, 0, none⟩), c11, c12, c13, c14, c15, c16, c17, c18, c19, c20, c21, c22, c23, c24, c25, c26, c27, c28, c29, c30, c31, c32, c33, c34, c35, c36, c37, c38, c39, c40, c41, c42, c43, c44, c45, c46, c47, c48, c49, c50, c51, c52, c53, c54, c55, c56, c57, c58, c59, c60, c61, c62, c63, c64, c65, c66, c67, c68, c69, c70, c71, c72, c73, c74, c75, c76, u77, u78, u79, u80, u81, u82, u83, u84, u85, u86, u87, u88, u89, u90, u91, u92, c93, c94, c95, c96, c97, c98, c99, c100, c101, c102, c103, c104, c105, c106, c107, c108, c109, c110, c111, c112, c113, c114, c115, c116, c117, c118, c119, c120, c121, c122, c123, c124, c125, c126, c127, c128, c129, c130, c131, c132, c133, c134, c135, c136, c137, c138, c139, c140, c141, c142, c143, c144, c145, c146, c147, c148, c149, c150, c151, c152, c153, c154, c155, c156, c157, c158, c159, c160, c161, c162, c163, c164, c165, c166, c167, c168, c169, c170, c171, c172, c173, c174, c175, c176, c177, c178, c179, c180, c181, c182, c183, c184, c185, c186, c187, c188, c189, c190, c191, c192, c193, c194, c195, c196, c197, c198, c199, c200, c201, c202, c203, c204, c205, c206, c207, c208, c209, c210, c211, c212, c213, c214, c215, c216, c217], []⟩ w') :
    Code.wp Tryz.prog rgL14 (Ends K) ⟨#[c0, c1, c2, c3, c4, .pointer (some ⟨cb, 0, none⟩), c6, c7, c8, c9, .pointer (some ⟨wb, 0, none⟩), c11, c12, c13, c14, c15, c16, c17, c18, c19, c20, c21, c22, c23, c24, c25, c26, c27, c28, c29, c30, c31, c32, c33, c34, c35, c36, c37, c38, c39, c40, c41, c42, c43, c44, c45, c46, c47, c48, c49, c50, c51, c52, c53, c54, c55, c56, c57, c58, c59, c60, c61, c62, c63, c64, c65, c66, c67, c68, c69, c70, c71, c72, c73, c74, c75, c76, c77, c78, c79, c80, c81, c82, c83, c84, c85, c86, c87, c88, c89, c90, c91, c92, c93, c94, c95, c96, c97, c98, c99, c100, c101, c102, c103, c104, c105, c106, c107, c108, c109, c110, c111, c112, c113, c114, c115, c116, c117, c118, c119, c120, c121, c122, c123, c124, c125, c126, c127, c128, c129, c130, c131, c132, c133, c134, c135, c136, c137, c138, c139, c140, c141, c142, c143, c144, c145, c146, c147, c148, c149, c150, c151, c152, c153, c154, c155, c156, c157, c158, c159, c160, c161, c162, c163, c164, c165, c166, c167, c168, c169, c170, c171, c172, c173, c174, c175, c176, c177, c178, c179, c180, c181, c182, c183, c184, c185, c186, c187, c188, c189, c190, c191, c192, c193, c194, c195, c196, c197, c198, c199, c200, c201, c202, c203, c204, c205, c206, c207, c208, c209, c210, c211, c212, c213, c214, c215, c216, c217], []⟩ V := by
  conv => arg 2; whnf
  have al : ∀ b k u, V.cell? ⟨b, k, none⟩ = some u → (V.alloc (.cells #[.int .u8 (IntKind.u8.wrap (z1 : Int)), .int .u8 (IntKind.u8.wrap ((z1 : Int) / 256))] 5)).cell? ⟨b, k, none⟩ = some u := fun b k u hk => by
    rw [(below_alloc (Below.refl _ V)).cell (World.block_lt_of_cell? _ _ hk)]; exact hk
  have m1 := al _ _ _ k1
  have m2 := al _ _ _ k2
  clear al
  have zI : (z1 : Int) < 65536 := by omega
  obtain ⟨SR, hSR⟩ : ∃ SR : Array Bool → World → Prop, SR = fun L w' => (L.getD 13 true = false → w'.cell? ⟨wb, 0, none⟩ = some (.pointer (some ⟨d, 0, none⟩))) ∧ w'.cell? ⟨cb, 1, none⟩ = some (.int .u16 z1) := ⟨_, rfl⟩
  have FA : ∀ L w', SR L w' → L.getD 13 true = false → w'.cell? ⟨wb, 0, none⟩ = some (.pointer (some ⟨d, 0, none⟩)) := fun L w' h => by rw [hSR] at h; exact h.1
  have FB : ∀ j L w', SR L w' → L.getD j true = false → w'.cell? ⟨cb, 1, none⟩ = some (.int .u16 z1) := fun j L w' h _ => by rw [hSR] at h; exact h.2
  have SI : ∀ i, i ≠ 13 → ∀ L w', SR (L.setIfInBounds i true) w' → SR L w' := fun i h8 L w' h => by
    rw [hSR] at h ⊢
    exact ⟨fun g => h.1 (by rw [getD_set_ne true h8]; exact g), h.2⟩
  have S5 : ∀ L, SR L V.drew := fun L => by rw [hSR]; exact ⟨fun _ => k1, k2⟩
  have S5a : ∀ L, SR L (V.alloc (.cells #[.int .u8 (IntKind.u8.wrap (z1 : Int)), .int .u8 (IntKind.u8.wrap ((z1 : Int) / 256))] 5)).drew := fun L => by rw [hSR]; exact ⟨fun _ => m1, m2⟩
  have S6 : ∀ L w', (L.getD 13 true = true) → w'.cell? ⟨cb, 1, none⟩ = some (.int .u16 z1) → SR L w' := fun L w' h1 h2 => by rw [hSR]; exact ⟨fun g => (by rw [h1] at g; cases g), h2⟩
  have HFA := Lib.hid FA; have HFB := Lib.hid FB; have HSI := Lib.hid SI; have HS5 := Lib.hid S5; have HS5a := Lib.hid S5a; have HS6 := Lib.hid S6; have HC := Lib.hid hcall; have HQ := Lib.hid hq; have HNE := Lib.hid hne
  clear hq hSR FA FB SI S5 S5a S6 hcall m1 m2 k1 k2 hne
  refine wp_region_L SR (by kernel_rfl) ?_
  refine AnyL.take (i := 0) 14 (v := .pointer (some ⟨wb, 0, none⟩)) (S0 := fun _ => True) rfl (by kernel_rfl) (by kernel_rfl) (by kernel_rfl) (by kernel_rfl) (by kernel_rfl) (fun _ _ _ h => h) (HSI.out 0 (by decide)) (fun _ _ _ _ => trivial) (Or.inl ⟨by rfl, fun w' hc => ?_⟩) (HS5.out _) ?_
  · go_simp
  refine AnyL.take (i := 1) 2 (v := .pointer (some ⟨wb, 0, none⟩)) (S0 := fun _ => True) rfl (by kernel_rfl) (by kernel_rfl) (by kernel_rfl) (by kernel_rfl) (by kernel_rfl) (fun _ _ _ h => h) (HSI.out 1 (by decide)) (fun _ _ _ _ => trivial) (Or.inl ⟨by rfl, fun w' hc => ?_⟩) (HS5.out _) ?_
  · go_simp
  refine AnyL.take (i := 2) 3 (v := .pointer (some ⟨wb, 0, none⟩)) (S0 := fun _ => True) rfl (by kernel_rfl) (by kernel_rfl) (by kernel_rfl) (by kernel_rfl) (by kernel_rfl) (fun _ _ _ h => h) (HSI.out 2 (by decide)) (fun _ _ _ _ => trivial) (Or.inl ⟨by rfl, fun w' hc => ?_⟩) (HS5.out _) ?_
  · go_simp
  refine AnyL.take (i := 3) 4 (v := .pointer (some ⟨wb, 0, none⟩)) (S0 := fun _ => True) rfl (by kernel_rfl) (by kernel_rfl) (by kernel_rfl) (by kernel_rfl) (by kernel_rfl) (fun _ _ _ h => h) (HSI.out 3 (by decide)) (fun _ _ _ _ => trivial) (Or.inl ⟨by rfl, fun w' hc => ?_⟩) (HS5.out _) ?_
  · go_simp
  refine AnyL.take (i := 4) 13 (v := .pointer (some ⟨d, 0, none⟩)) (S0 := fun w' => w'.cell? ⟨wb, 0, none⟩ = some (.pointer (some ⟨d, 0, none⟩))) rfl (by kernel_rfl) (by kernel_rfl) (by kernel_rfl) (by kernel_rfl) (by kernel_rfl) (fun _ _ _ h => h) (HSI.out 4 (by decide)) HFA.out (Or.inl ⟨by rfl, fun w' hc => ?_⟩) (HS5.out _) ?_
  · go_simp
  refine AnyL.take (i := 5) 6 (v := .pointer (some ⟨cb, 1, none⟩)) (S0 := fun _ => True) rfl (by kernel_rfl) (by kernel_rfl) (by kernel_rfl) (by kernel_rfl) (by kernel_rfl) (fun _ _ _ h => h) (HSI.out 5 (by decide)) (fun _ _ _ _ => trivial) (Or.inl ⟨by rfl, fun w' hc => ?_⟩) (HS5.out _) ?_
  · go_simp
  refine AnyL.take (i := 6) 7 (v := .int .u16 z1) (S0 := fun w' => w'.cell? ⟨cb, 1, none⟩ = some (.int .u16 z1)) rfl (by kernel_rfl) (by kernel_rfl) (by kernel_rfl) (by kernel_rfl) (by kernel_rfl) (fun _ _ _ h => h) (HSI.out 6 (by decide)) (HFB.out 7) (Or.inl ⟨by rfl, fun w' hc => ?_⟩) (HS5.out _) ?_
  · go_simp
  refine AnyL.take (i := 7) 12 (v := .int .u8 (IntKind.u8.wrap (z1 : Int))) (S0 := fun _ => True) rfl (by kernel_rfl) (by kernel_rfl) (by kernel_rfl) (by kernel_rfl) (by kernel_rfl) (fun _ _ _ h => h) (HSI.out 7 (by decide)) (fun _ _ _ _ => trivial) (Or.inl ⟨by rfl, fun w' hc => ?_⟩) (HS5.out _) ?_
  · go_simp
  refine AnyL.take (i := 8) 9 (v := .pointer (some ⟨cb, 1, none⟩)) (S0 := fun _ => True) rfl (by kernel_rfl) (by kernel_rfl) (by kernel_rfl) (by kernel_rfl) (by kernel_rfl) (fun _ _ _ h => h) (HSI.out 8 (by decide)) (fun _ _ _ _ => trivial) (Or.inl ⟨by rfl, fun w' hc => ?_⟩) (HS5.out _) ?_
  · go_simp
  refine AnyL.take (i := 9) 10 (v := .int .u16 z1) (S0 := fun w' => w'.cell? ⟨cb, 1, none⟩ = some (.int .u16 z1)) rfl (by kernel_rfl) (by kernel_rfl) (by kernel_rfl) (by kernel_rfl) (by kernel_rfl) (fun _ _ _ h => h) (HSI.out 9 (by decide)) (HFB.out 10) (Or.inl ⟨by rfl, fun w' hc => ?_⟩) (HS5.out _) ?_
  · go_simp
  refine AnyL.take (i := 10) 11 (v := .int .u16 ((z1 : Int) / 256)) (S0 := fun _ => True) rfl (by kernel_rfl) (by kernel_rfl) (by kernel_rfl) (by kernel_rfl) (by kernel_rfl) (fun _ _ _ h => h) (HSI.out 10 (by decide)) (fun _ _ _ _ => trivial) (Or.inl ⟨by rfl, fun w' hc => ?_⟩) (HS5.out _) ?_
  · go_simp
  refine AnyL.take (i := 11) 12 (v := .int .u8 (IntKind.u8.wrap ((z1 : Int) / 256))) (S0 := fun _ => True) rfl (by kernel_rfl) (by kernel_rfl) (by kernel_rfl) (by kernel_rfl) (by kernel_rfl) (fun _ _ _ h => h) (HSI.out 11 (by decide)) (fun _ _ _ _ => trivial) (Or.inl ⟨by rfl, fun w' hc => ?_⟩) (HS5.out _) ?_
  · go_simp
  refine AnyL.step (j := 12) (by kernel_rfl) rfl (fun K hK => ?_)
  go_simp
  refine hK _ _ (HS5a.out _) ?_
  clear hK K
  refine AnyL.step (j := 13) (by kernel_rfl) rfl (fun K hK => ?_)
  go_simp
  refine HC.out.mono ?_
  rintro e V1 ⟨a2, rfl, ⟨uu, e0⟩, e1, e2, hp⟩
  have e3 : (V1.setCell ⟨wb, 0, none⟩ (.pointer (some ⟨a2, 0, none⟩))).cell? ⟨cb, 1, none⟩ = some (.int .u16 z1) := by
    rw [World.cell?_of_block (a := ⟨cb, 1, none⟩) (heap_set_ne (HNE.out.symm))]
    exact e2
  dsimp only
  refine hK _ _ (HS6.out _ _ (by kernel_rfl) e2) ?_
  clear hK K
  refine AnyL.step (j := 14) (by kernel_rfl) rfl (fun K hK => ?_)
  go_simp
  refine hK _ _ (HS6.out _ _ (by kernel_rfl) e2) ?_
  clear hK K
  refine AnyL.step (j := 15) (by kernel_rfl) rfl (fun K hK => ?_)
  go_simp
  refine hK _ _ (HS6.out _ _ (by kernel_rfl) e2) ?_
  clear hK K
  refine AnyL.step (j := 16) (by kernel_rfl) rfl (fun K hK => ?_)
  go_simp
  refine hK _ _ (HS6.out _ _ (by kernel_rfl) e3) ?_
  refine AnyL.done (by kernel_rfl) ?_
  exact HQ.out _ _ _ _ _ _ _ _ _ _ _ _ _ _ _ _ _ _ hp.out
end Go.Proofs.YtejlgnebofdijaaGreatDoor.Dv
