/-
  apply in an undo transaction: the range over its words, in whatever order.
  apply in an undo transaction as a hook.
  LimboTransactions: apply as a hook, and what the kernel reckons for a slot.
-/
import Derived.Test.YtegfafebbnlicaaGreatDoorMLsA
import Derived.WalkLawsBesides
import Derived.WalkSpells
import Derived.Deep.QuietTactic
import Derived.Outline
import Derived.Maps.RangeWalk
import Derived.Lib.Hide
import Derived.Handy
namespace Go.Proofs.YtegfafebbnlicaaGreatDoor.Ev
open Go Go.RowKit Go.Maps
open Go.WideElems (Fit rd rd_mk)
set_option linter.unusedVariables false
set_option linter.unusedSimpArgs false

noncomputable def apC : Code := match Tryz.f74.body with
  | some c => c
  | none => .skip
noncomputable def apI : Code := match dropN 2 apC with
    | .seq a _ => a
    | c => c
theorem lit77 (l : List Value) (h : l.length = 77) : ∃ t0 t1 t2 t3 t4 t5 t6 t7 t8 t9 t10 t11 t12 t13 t14 t15 t16 t17 t18 t19 t20 t21 t22 t23 t24 t25 t26 t27 t28 t29 t30 t31 t32 t33 t34 t35 t36 t37 t38 t39 t40 t41 t42 t43 t44 t45 t46 t47 t48 t49 t50 t51 t52 t53 t54 t55 t56 t57 t58 t59 t60 t61 t62 t63 t64 t65 t66 t67 t68 t69 t70 t71 t72 t73 t74 t75 t76, l = [t0, t1, t2, t3, t4, t5, t6, t7, t8, t9, t10, t11, t12, t13, t14, t15, t16, t17, t18, t19, t20, t21, t22, t23, t24, t25, t26, t27, t28, t29, t30, t31, t32, t33, t34, t35, t36, t37, t38, t39, t40, t41, t42, t43, t44, t45, t46, t47, t48, t49, t50, t51, t52, t53, t54, t55, t56, t57, t58, t59, t60, t61, t62, t63, t64, t65, t66, t67, t68, t69, t70, t71, t72, t73, t74, t75, t76] := by
  rcases l with _ | ⟨t0, l⟩
  · simp at h
  rcases l with _ | ⟨t1, l⟩
  · simp at h
  rcases l with _ | ⟨t2, l⟩
  · simp at h
  rcases l with _ | ⟨t3, l⟩
  · simp at h
  rcases l with _ | ⟨t4, l⟩
  · simp at h
  rcases l with _ | ⟨t5, l⟩
  · simp at h
  rcases l with _ | ⟨t6, l⟩
  · simp at h
  rcases l with _ | ⟨t7, l⟩
  · simp at h
  rcases l with _ | ⟨t8, l⟩
  · simp at h
  rcases l with _ | ⟨t9, l⟩
  · simp at h
  rcases l with _ | ⟨t10, l⟩
  · simp at h
  rcases l with _ | ⟨t11, l⟩
  · simp at h
  rcases l with _ | ⟨t12, l⟩
  · simp at h
  rcases l with _ | ⟨t13, l⟩
  · simp at h
  rcases l with _ | ⟨t14, l⟩
  · simp at h
  rcases l with _ | ⟨t15, l⟩
  · simp at h
  rcases l with _ | ⟨t16, l⟩
  · simp at h
  rcases l with _ | ⟨t17, l⟩
  · simp at h
  rcases l with _ | ⟨t18, l⟩
  · simp at h
  rcases l with _ | ⟨t19, l⟩
  · simp at h
  rcases l with _ | ⟨t20, l⟩
  · simp at h
  rcases l with _ | ⟨t21, l⟩
  · simp at h
  rcases l with _ | ⟨t22, l⟩
  · simp at h
  rcases l with _ | ⟨t23, l⟩
  · simp at h
  rcases l with _ | ⟨t24, l⟩
  · simp at h
  rcases l with _ | ⟨t25, l⟩
  · simp at h
  rcases l with _ | ⟨t26, l⟩
  · simp at h
  rcases l with _ | ⟨t27, l⟩
  · simp at h
  rcases l with _ | ⟨t28, l⟩
  · simp at h
  rcases l with _ | ⟨t29, l⟩
  · simp at h
  rcases l with _ | ⟨t30, l⟩
  · simp at h
  rcases l with _ | ⟨t31, l⟩
  · simp at h
  rcases l with _ | ⟨t32, l⟩
  · simp at h
  rcases l with _ | ⟨t33, l⟩
  · simp at h
  rcases l with _ | ⟨t34, l⟩
  · simp at h
  rcases l with _ | ⟨t35, l⟩
  · simp at h
  rcases l with _ | ⟨t36, l⟩
  · simp at h
  rcases l with _ | ⟨t37, l⟩
  · simp at h
  rcases l with _ | ⟨t38, l⟩
  · simp at h
  rcases l with _ | ⟨t39, l⟩
  · simp at h
  rcases l with _ | ⟨t40, l⟩
  · simp at h
  rcases l with _ | ⟨t41, l⟩
  · simp at h
  rcases l with _ | ⟨t42, l⟩
  · simp at h
  rcases l with _ | ⟨t43, l⟩
  · simp at h
  rcases l with _ | ⟨t44, l⟩
  · simp at h
  rcases l with _ | ⟨t45, l⟩
  · simp at h
  rcases l with _ | ⟨t46, l⟩
  · simp at h
  rcases l with _ | ⟨t47, l⟩
  · simp at h
  rcases l with _ | ⟨t48, l⟩
  · simp at h
  rcases l with _ | ⟨t49, l⟩
  · simp at h
  rcases l with _ | ⟨t50, l⟩
  · simp at h
  rcases l with _ | ⟨t51, l⟩
  · simp at h
  rcases l with _ | ⟨t52, l⟩
  · simp at h
  rcases l with _ | ⟨t53, l⟩
  · simp at h
  rcases l with _ | ⟨t54, l⟩
  · simp at h
  rcases l with _ | ⟨t55, l⟩
  · simp at h
  rcases l with _ | ⟨t56, l⟩
  · simp at h
  rcases l with _ | ⟨t57, l⟩
  · simp at h
  rcases l with _ | ⟨t58, l⟩
  · simp at h
  rcases l with _ | ⟨t59, l⟩
  · simp at h
  rcases l with _ | ⟨t60, l⟩
  · simp at h
  rcases l with _ | ⟨t61, l⟩
  · simp at h
  rcases l with _ | ⟨t62, l⟩
  · simp at h
  rcases l with _ | ⟨t63, l⟩
  · simp at h
  rcases l with _ | ⟨t64, l⟩
  · simp at h
  rcases l with _ | ⟨t65, l⟩
  · simp at h
  rcases l with _ | ⟨t66, l⟩
  · simp at h
  rcases l with _ | ⟨t67, l⟩
  · simp at h
  rcases l with _ | ⟨t68, l⟩
  · simp at h
  rcases l with _ | ⟨t69, l⟩
  · simp at h
  rcases l with _ | ⟨t70, l⟩
  · simp at h
  rcases l with _ | ⟨t71, l⟩
  · simp at h
  rcases l with _ | ⟨t72, l⟩
  · simp at h
  rcases l with _ | ⟨t73, l⟩
  · simp at h
  rcases l with _ | ⟨t74, l⟩
  · simp at h
  rcases l with _ | ⟨t75, l⟩
  · simp at h
  rcases l with _ | ⟨t76, l⟩
  · simp at h
  rcases l with _ | ⟨x, l⟩
  · exact ⟨t0, t1, t2, t3, t4, t5, t6, t7, t8, t9, t10, t11, t12, t13, t14, t15, t16, t17, t18, t19, t20, t21, t22, t23, t24, t25, t26, t27, t28, t29, t30, t31, t32, t33, t34, t35, t36, t37, t38, t39, t40, t41, t42, t43, t44, t45, t46, t47, t48, t49, t50, t51, t52, t53, t54, t55, t56, t57, t58, t59, t60, t61, t62, t63, t64, t65, t66, t67, t68, t69, t70, t71, t72, t73, t74, t75, t76, rfl⟩
  · simp at h
/-- A word's cell whose old value is in the undo log. -/
def mkP (c : Int × Int) : Value := .agg #[.int .u64 c.1, .int .u64 c.2, .bool true]
def Rp (v : Value) : Option (DataW Unit × List MemPlace) :=
  match v with
  | .agg ⟨[.int .u64 _, .int .u64 _, .bool true]⟩ => some (.lit (.bool true), [])
  | _ => none
theorem Rp_inv (v : Value) (y : DataW Unit × List MemPlace) (h : Rp v = some y) : ∃ c, v = mkP c := by
  unfold Rp at h
  split at h
  · rename_i a b
    exact ⟨(a, b), rfl⟩
  · cases h
theorem keyU_inv (key : Value) (kl : Lit) (h : keyOf Tryz.prog 29 key = some kl) : ∃ x : Int, key = .int .u64 x := by
  obtain ⟨x, h1, _⟩ := Maps.keyOf_int_inv Tryz.underlying29 h
  exact ⟨x, h1⟩
def ApR (w : World) (X M nb r : Nat) (D : DataW Unit) (wr : World) : Prop :=
  ∃ (left : Lit → Bool) (cnt : Nat), wr.ranges Tryz.prog 29 Rp M r nb D left cnt ∧ Below w.heap.size w wr ∧ w.heap.size ≤ r
set_option maxHeartbeats 4000000 in
theorem ap_loop {w : World} {X M nb : Nat} {D : DataW Unit} {d : List Deferred} {t1 t2 t3 t4 t5 t6 t7 t8 t9 t10 t11 t12 t13 t14 t15 t16 t17 t18 t19 t20 t21 t22 t23 t24 t25 t26 t27 t28 t29 t30 t31 t32 t33 t34 t35 t36 t37 t38 t39 t40 t41 t42 t43 t44 t45 t46 t47 t48 t49 t50 t51 t52 t53 t54 t55 t56 t57 t58 t59 t60 t61 t62 t63 t64 t65 t66 t67 t68 t69 t70 t71 t72 t73 t74 t75 t76 : Value} (hmap : w.cell? ⟨X, 0, none⟩ = some (.map (some M))) (hown : w.ownsMap Tryz.prog 29 Rp M nb D) {Q : Exit → Act → World → Prop}
    (hQ : ∀ a' w', Below w.heap.size w w' → a'.tmps.size = 77 → a'.tmps[0]? = some (.pointer (some ⟨X, 0, none⟩)) → a'.tmps[1]? = some t1 → a'.defers = d → Q .normal a' w') :
    apI.wp Tryz.prog Q { tmps := #[.pointer (some ⟨X, 0, none⟩), t1, t2, t3, t4, t5, t6, t7, t8, t9, t10, t11, t12, t13, t14, t15, t16, t17, t18, t19, t20, t21, t22, t23, t24, t25, t26, t27, t28, t29, t30, t31, t32, t33, t34, t35, t36, t37, t38, t39, t40, t41, t42, t43, t44, t45, t46, t47, t48, t49, t50, t51, t52, t53, t54, t55, t56, t57, t58, t59, t60, t61, t62, t63, t64, t65, t66, t67, t68, t69, t70, t71, t72, t73, t74, t75, t76], defers := d } w := by
  conv =>
    arg 2
    whnf
  have HQ := Lib.hid hQ
  clear hQ
  go_wp2_with (at_range; refine wpList_range_own _ rfl _ 137 rfl 29 164 keyedU Tryz.underlying137 _ M nb _ rfl hown ?_; intro w0 hrg0 hg0 hs0)
  have hst : ApR w X M nb w.heap.size D w0 := ⟨_, _, hrg0, ⟨hg0.os, hg0.tape, hg0.output, hg0.size, fun k hk => hg0.block k hk (by simp)⟩, Nat.le_refl _⟩
  have HST := Lib.hid hst
  clear hst hg0 hs0 hrg0 hown hmap
  go_frame
  go_loopw [36] (fun _ wr => ApR w X M nb w.heap.size D wr) (fun _ wr => wr.rangeLeft M w.heap.size)
  case atStart => exact HST.out
  case round =>
    obtain ⟨left, cnt, hrg, hbel, hr⟩ := hrel
    go_wp2_with (at_next; refine wpList_next_ranges _ rfl _ rfl 29 keyedU Rp (fun x : Int => .int .u64 x) mkP keyU_inv Rp_inv M w.heap.size nb _ _ _ rfl hrg ?_ ?_)
    · intro _ _
      have HB := Lib.hid hbel
      clear hbel hrg hr
      go_wp2_with fail
      refine HQ.out _ _ HB.out rfl rfl rfl rfl
    · intro x c1 c2 kl y1 y2 w2 cnt1 hk hlk hR hat hrg1 hlt hg1 hs1 hen
      have hb2 : Below w.heap.size w w2 := hbel.trans ⟨hg1.os, hg1.tape, hg1.output, hg1.size, fun k hk => hg1.block k (Nat.lt_of_lt_of_le hk hbel.size) (fun e => by have := Option.some.inj e; omega)⟩
      have HB := Lib.hid hb2; have HR := Lib.hid hrg1; have HW := Lib.hid hrg; have HT := Lib.hid hlt
      clear hbel hrg hr hk hlk hR hat hrg1 hlt hg1 hs1 hb2
      unfold mkP at *
      go_wp2_with fail
      refine ⟨⟨_, cnt1, HR.out.alloc _, HB.out.alloc HB.out.size _, Nat.le_refl _⟩, ?_⟩
      rw [(HR.out.alloc _).left_eq, HW.out.left_eq]
      exact HT.out
/-- The map's entries are such words. -/
noncomputable def isP (v : Value) : Bool :=
  match v with
  | .agg ⟨[.int .u64 (.ofNat _), .int .u64 (.ofNat _), .bool true]⟩ => true
  | _ => false
noncomputable def allP (es : List MapEntry) : Bool := @List.rec MapEntry (fun _ => Bool) true (fun e _ ih => match isP e.val with
  | true => ih
  | false => false) es
theorem allP_spec : ∀ (es : List MapEntry), allP es = true → ∀ e ∈ es, ∃ a b : Nat, e.val = .agg #[.int .u64 (.ofNat a), .int .u64 (.ofNat b), .bool true]
  | [], _, e, he => by cases he
  | x :: es, h, e, he => by
    have h : (match isP x.val with
      | true => allP es
      | false => false) = true := h
    split at h
    case h_2 => cases h
    rename_i hx
    rcases List.mem_cons.1 he with rfl | he
    · unfold isP at hx
      split at hx
      · rename_i a b hv
        exact ⟨a, b, hv⟩
      · cases hx
    · exact allP_spec es h e he
theorem ownsP {w : World} {M : Nat} {ents : Array MapEntry} {cl : Nat} {ns : List Nat} (hM : w.heap[M]? = some (.map ents cl)) (hs : MapKept.Stamped ents cl) (hk : ents.toList.map (·.key) = ns.map (fun (n : Nat) => Value.int .u64 (n : Int))) (hn : ∀ n ∈ ns, n < 18446744073709551616) (hsz : ents.size ≤ 65536)
    (hv : ∀ e ∈ ents.toList, ∃ c, e.val = mkP c) : ∃ D : DataW Unit, w.ownsMap Tryz.prog 29 Rp M ents.size D := by
  have hrd : ∀ x ∈ ents.toList, ∃ y, rd (H := Unit) Tryz.prog 29 Rp x = some y := by
    intro x hx
    have h1 : x.key ∈ ents.toList.map (·.key) := List.mem_map.2 ⟨x, hx, rfl⟩
    rw [hk] at h1
    obtain ⟨n, hn1, hn2⟩ := List.mem_map.1 h1
    obtain ⟨c, hc⟩ := hv x hx
    obtain ⟨k, v, bn⟩ := x
    simp only at hn2 hc
    subst hn2
    subst hc
    exact ⟨_, rd_mk (R := Rp) (yv := (.lit (.bool true), [])) (Maps.keyOf_int_mk Tryz.underlying29 (wfU (hn n hn1))) rfl⟩
  have hfit : Fit (H := Unit) Tryz.prog 29 Rp ents cl := ⟨Nat.le_trans hsz (by decide), hs, hrd⟩
  exact ⟨_, ⟨ents, cl, hM, hfit, Nat.le_refl _, rfl⟩⟩
end Go.Proofs.YtegfafebbnlicaaGreatDoor.Ev

namespace Go.Proofs.YtegfafebbnlicaaGreatDoor.Ev
open Go Go.RowKit
set_option linter.unusedVariables false
set_option linter.unusedSimpArgs false

noncomputable def apM : Nat := match FT.get 74 with
  | some (_, m) => m
  | none => 0
noncomputable def env5 (x : Nat) (v1 : Value) : Env := ((Env.none apM).set 1 v1).set 0 (.pointer (some ⟨x, 0, none⟩))
noncomputable def apOk (es : List MapEntry) (cl : Nat) : Bool :=
  match keysL es with
  | some ns => match apartB ns, apartB (bornL es), belowB cl (bornL es), Nat.ble es.length 65536 with
    | true, true, true, true => allP es
    | _, _, _, _ => false
  | none => false
noncomputable def apX2 (args : List Value) (st : St) : Option (Value × St) :=
  match runN ih2 2 apC (envOf apM args 0) st with
  | some (env, st1) => match env.get 0, env.get 1 with
    | some (.pointer (some ⟨x, 0, none⟩)), some v1 => match ld1 x 0 st1 with
      | some (.map (some m)) => match st1.h.get m with
        | some (.map es cl) => match apOk es cl with
          | true => match ih2 (dropN 3 apC) (env5 x v1) st1 with
            | .ret e s => match eResults TT e s Tryz.f74.results.toList with
              | some v => some (v, s)
              | none => none
            | _ => none
          | false => none
        | _ => none
      | _ => none
    | _, _ => none
  | none => none
noncomputable def apX (args : List Value) (st : St) : Option (Value × St) :=
  match args with
  | [p, q] => apX2 [p, q] st
  | _ => none
theorem apFT : FT.get 74 = some (Tryz.f74, apM) := by kernel_rfl
theorem apBody : Tryz.f74.body = some apC := by kernel_rfl
theorem apDrop : dropN 2 apC = .seq apI (dropN 3 apC) := by kernel_rfl
theorem apTmps : Tryz.f74.ntmps = 77 := by kernel_rfl
theorem vr_p {ρ : Ren} {v v' : Value} (h : VR ρ v v') (hi : ∃ a b : Nat, v = .agg #[.int .u64 (.ofNat a), .int .u64 (.ofNat b), .bool true]) : ∃ c, v' = mkP c := by
  obtain ⟨a, b, rfl⟩ := hi
  cases h with
  | agg cs ds hc h =>
    have hsz : ds.size = 3 := hc.symm
    have g := fun (i : Nat) x y (h1 : (#[Value.int .u64 (.ofNat a), .int .u64 (.ofNat b), .bool true])[i]? = some x) (h2 : ds[i]? = some y) => h i x y h1 h2
    have e0 := g 0 _ _ rfl (Array.getElem?_eq_getElem (show 0 < ds.size by omega))
    have e1 := g 1 _ _ rfl (Array.getElem?_eq_getElem (show 1 < ds.size by omega))
    have e2 := g 2 _ _ rfl (Array.getElem?_eq_getElem (show 2 < ds.size by omega))
    have f0 := VR.ib e0 rfl
    have f1 := VR.ib e1 rfl
    have f2 := VR.ib e2 rfl
    refine ⟨((a : Int), (b : Int)), ?_⟩
    unfold mkP
    congr 1
    apply Array.ext
    · rw [hsz]; rfl
    · intro i h1 h2
      have h3 : i = 0 ∨ i = 1 ∨ i = 2 := by omega
      rcases h3 with rfl | rfl | rfl
      · exact f0
      · exact f1
      · exact f2
theorem ER.vals {ρ : Ren} {l m : List MapEntry} (h : ER ρ l m) (hi : ∀ e ∈ l, ∃ a b : Nat, e.val = .agg #[.int .u64 (.ofNat a), .int .u64 (.ofNat b), .bool true]) : ∀ e ∈ m, ∃ c, e.val = mkP c := by
  induction h with
  | nil => intro e he; cases he
  | cons k v v' n l m _ hv _ ih =>
    intro e he
    rcases List.mem_cons.1 he with rfl | he
    · exact vr_p hv (hi _ (.head _))
    · exact ih (fun e he => hi e (.tail _ he)) e he
set_option maxRecDepth 100000 in
theorem apX_sound {args : List Value} {st st' : St} {v : Value} (h : apX args st = some (v, st')) {ρ : Ren} {w : World} {args' : Array Value} (hR : R Gn ρ st w) (har : AR ρ args.toArray args') :
    HasBody Tryz.prog 74 ∧ CallsIn (Fw none) 0 Tryz.prog 74 args' w (RetR ρ st w v st') := by
  refine ⟨⟨_, _, Tryz.func74, rfl, rfl⟩, ?_⟩
  unfold apX at h
  split at h
  case h_2 => cases h
  rename_i p q
  unfold apX2 at h
  split at h
  case h_2 => cases h
  rename_i env st1 hA
  split at h
  case h_2 => cases h
  rename_i x v1 g0 g1
  split at h
  case h_2 => cases h
  rename_i m hld
  split at h
  case h_2 => cases h
  rename_i es cl hm
  split at h
  case h_2 => cases h
  rename_i hok
  split at h
  case h_2 => cases h
  rename_i e s hrun
  split at h
  case h_2 => cases h
  rename_i v0 hres
  cases h
  obtain ⟨hf, hname, hcode⟩ := evF _ _ _ apFT
  obtain ⟨hc, hm'⟩ := hcode _ apBody
  refine callsIn_of_wp_marks hf apBody trivial ?_
  obtain ⟨a0, ha0⟩ : ∃ a0 : Act, a0 = { tmps := args' ++ Array.replicate (Tryz.f74.ntmps - args'.size) undef, defers := [] } := ⟨_, rfl⟩
  have hd0 : a0.defers = [] := by rw [ha0]
  have ha2 : args'.size = 2 := by rw [← har.1]; rfl
  have hsz : a0.tmps.size = 77 := by rw [ha0, Array.size_append, Array.size_replicate, ha2, apTmps]
  have hE0 : EnvR ρ (envOf apM [p, q] 0) a0.tmps := by rw [ha0]; exact envOf_R har
  rw [← ha0]
  clear ha0
  have hm2 : dstMax apC ≤ a0.tmps.size := by rw [hsz, ← apTmps]; exact hm'
  have hc' : codeOk TT apC (Option.isSome (none : Option Nat)) = true := by rw [Option.isSome_none]; exact hc
  refine runN_sound ih2_opt ih2S none 2 apC _ _ env st1 hA ρ w _ hc' hm2 hR hE0 _ ?_
  intro ρ1 w1 a1 c1 hc1 hm1
  rw [apDrop] at hc1 hm1 ⊢
  generalize hrest : dropN 3 apC = rest at hrun hc1 hm1 ⊢
  simp only [codeOk, Bool.and_eq_true] at hc1
  simp only [dstMax] at hm1
  refine wpIn_seq ?_
  show Code.wpIn Fence.wide 0 Tryz.prog apI _ a1 w1
  rw [wpIn_wide]
  obtain ⟨X, u0, hX, hcx, hv0⟩ := ld1One c1.r hld
  cases hv0 with
  | map _ M hM =>
  obtain ⟨M', ents, hM', hmw, hE, _⟩ := c1.r.map hm
  rw [hM] at hM'; cases hM'
  unfold apOk at hok
  split at hok
  case h_2 => cases hok
  rename_i ns hns
  split at hok
  case h_2 => cases hok
  rename_i k1 k2 k3 k4
  have k4 := ble_iff.1 k4
  obtain ⟨q1, q2⟩ := keysL_spec es ns hns
  have hkeys := ER.keys hE
  have hborn := ER.borns hE
  have hlen : ents.size = es.length := by
    have := congrArg List.length hborn
    simpa using this
  have hst : MapKept.Stamped ents cl := by
    refine ⟨?_, ?_, ?_⟩
    · intro x hx
      have : x.born ∈ es.map (·.born) := by rw [← hborn]; exact List.mem_map.2 ⟨x, hx, rfl⟩
      exact belowB_spec _ _ k3 _ (by rw [bornL_eq]; exact this)
    · rw [hborn, ← bornL_eq]; exact apartB_nodup _ k2
    · rw [hkeys, q1]
      refine List.pairwise_map.2 ((apartB_nodup _ k1).imp fun h e => h ?_)
      injection e with _ e
      exact Int.ofNat.inj e
  obtain ⟨D, hown⟩ := ownsP hmw hst (hkeys.trans q1) q2 (by omega) (ER.vals hE (allP_spec es hok))
  have hsz1 : a1.tmps.size = 77 := c1.size.trans hsz
  obtain ⟨v0', e0, r0⟩ := c1.env _ _ g0
  obtain ⟨v1', e1, r1⟩ := c1.env _ _ g1
  cases r0 with
  | ptr _ X' _ hX' =>
  rw [hX] at hX'; cases hX'
  obtain ⟨t0, t1, t2, t3, t4, t5, t6, t7, t8, t9, t10, t11, t12, t13, t14, t15, t16, t17, t18, t19, t20, t21, t22, t23, t24, t25, t26, t27, t28, t29, t30, t31, t32, t33, t34, t35, t36, t37, t38, t39, t40, t41, t42, t43, t44, t45, t46, t47, t48, t49, t50, t51, t52, t53, t54, t55, t56, t57, t58, t59, t60, t61, t62, t63, t64, t65, t66, t67, t68, t69, t70, t71, t72, t73, t74, t75, t76, hl⟩ := lit77 a1.tmps.toList (by rw [Array.length_toList]; exact hsz1)
  have ha1 : a1 = { tmps := #[t0, t1, t2, t3, t4, t5, t6, t7, t8, t9, t10, t11, t12, t13, t14, t15, t16, t17, t18, t19, t20, t21, t22, t23, t24, t25, t26, t27, t28, t29, t30, t31, t32, t33, t34, t35, t36, t37, t38, t39, t40, t41, t42, t43, t44, t45, t46, t47, t48, t49, t50, t51, t52, t53, t54, t55, t56, t57, t58, t59, t60, t61, t62, t63, t64, t65, t66, t67, t68, t69, t70, t71, t72, t73, t74, t75, t76], defers := a1.defers } := by
    rcases a1 with ⟨⟨l⟩, d⟩
    have hl : l = _ := hl
    rw [hl]
  have z0 : t0 = .pointer (some ⟨X, 0, none⟩) := by
    have h := e0
    rw [← Array.getElem?_toList, hl] at h
    exact Option.some.inj h
  have z1 : t1 = v1' := by
    have h := e1
    rw [← Array.getElem?_toList, hl] at h
    exact Option.some.inj h
  subst z0
  subst z1
  rw [ha1]
  refine ap_loop hcx hown ?_
  intro a2 w2 hbel s2 i0 i1 d2
  have hR2 := R.below c1.r hbel
  have hE2 : EnvR ρ1 (env5 x v1) a2.tmps := by
    intro k v hk
    unfold env5 at hk
    simp only [Env.get_set, Env.get_none] at hk
    split at hk
    · rename_i e; cases hk; rw [e]; exact ⟨_, i0, .ptr _ _ _ hX⟩
    · split at hk
      · rename_i e; cases hk; rw [e]; exact ⟨_, i1, r1⟩
      · cases hk
  have c2 : Cm ρ1 st1 w1 a1 ρ1 st1 w2 a2 (env5 x v1) := ⟨hR2, Went.below c1.r hbel, hE2, by rw [s2, hsz1], [], by simpa using d2, .nil, fun d hd => by cases hd⟩
  have hrun2 : ih2R rest (env5 x v1) st1 = some (.ret, e, st') := by rw [← ih2_opt, hrun]; rfl
  show Code.wpIn (Fw none) 0 Tryz.prog rest _ a2 w2
  refine wpIn_mono (ih2S rest _ st1 .ret e st' hrun2 none ρ1 w2 a2 hc1.2 (by rw [s2, ← hsz1]; exact max_r hm1) hR2 hE2).1 ?_
  rintro y a3 w3 ⟨rfl, ρ3, c3⟩
  have cc := (c1.trans c2).trans c3
  obtain ⟨ms, hms, hMk, hge⟩ := cc.defers
  have hl := leavesM (P := Tryz.prog) evOk.types cc.env hres ms w3 cc.r cc.went hMk hge
  have hms' : a3.defers = ms := by rw [hms, hd0]; simp
  rw [← hms'] at hl
  exact hl
end Go.Proofs.YtegfafebbnlicaaGreatDoor.Ev

namespace Go.Proofs.YtegfafebbnlicaaGreatDoor.Ev
open Go Go.RowKit
set_option linter.unusedVariables false
set_option linter.unusedSimpArgs false

noncomputable def hk3 : HookT := fun f => ifFn f 74 (fun _ => apX) (hk2 f)
theorem hk3Ok : HookOk Tryz.prog (hooksOf hk3) := by
  intro call hcall f h hf args st v st' hv ρ w args' hR har
  unfold hooksOf at hf
  cases hh : (hk3 f).h with
  | none => rw [hh] at hf; cases hf
  | some k =>
    rw [hh] at hf; cases hf
    rcases ifFn_some hh with ⟨rfl, rfl⟩ | hh
    · exact apX_sound hv hR har
    · exact hk2Ok call hcall f (k call) (by unfold hooksOf; rw [hh]) args st v st' hv ρ w args' hR har
noncomputable def ih3 : RunX := runX TT FT hk3 100000000
noncomputable def ih3R : Run1 := run TT FT (hooksOf hk3) 100000000
theorem ih3_opt (c : Code) (env : Env) (st : St) : (ih3 c env st).opt = ih3R c env st := runX_eq TT FT hk3 100000000 c env st
theorem ih3S : RunS Tryz.prog TT 100000000 ih3R := run_sound evOk (drawS evOk) evF hk3Ok 100000000

/-- The end: commit or abort. -/
noncomputable def lzF (ih : RunX) (v8 v9 v11 : Value) (st : St) (c : Bool) : Option (TypeId × TypeId) :=
  match ih (dropN 9 lzC) (env4 v8 v9 v11 c) st with
  | .ret e s => match eResults TT e s Tryz.f3.results.toList with
    | some (.bool true) => glOk s
    | _ => none
  | _ => none
abbrev Two : Type := Option Value × Option Value × Option (TypeId × TypeId) × Option (TypeId × TypeId)
/-- The transaction in a mode. -/
noncomputable def lzU (ih : RunX) (v8 v9 v10 : Value) (st : St) (c u : Bool) : Option Two :=
  match runN ih2 3 (dropN 6 lzC) (env3 v8 v9 v10 c u) st with
  | some (e, s) => match e.get 8, e.get 9, e.get 11 with
    | some v8, some v9, some v11 => some (e.get 1, e.get 7, lzF ih v8 v9 v11 s false, lzF ih v8 v9 v11 s true)
    | _, _, _ => none
  | none => none
/-- The block in its slot, and then the transaction in each mode. -/
noncomputable def lzI (pt nt : TypeId) (i : Nat) (c u : Bool) : Option (Option Value × Option Value × Option Value × Option Two × Option Two) :=
  match runN ih2 2 (dropN 4 lzC) (env2 i c u) (S0 pt nt) with
  | some (e, s) => match e.get 8, e.get 9, e.get 10 with
    | some v8, some v9, some v10 => some (e.get 1, e.get 2, e.get 7, lzU ih2 v8 v9 v10 s c false, lzU ih3 v8 v9 v10 s c true)
    | _, _, _ => none
  | none => none
/-- What the kernel finds. -/
def lzGood (pt nt : TypeId) (c u : Bool) : Option (Option Value × Option Value × Option Value × Option Two × Option Two) :=
  some (some (.bool c), some (.bool u), some v70, some (some (.bool c), some v70, some (pt, nt), some (pt, nt)), some (some (.bool c), some v70, some (pt, nt), some (pt, nt)))
end Go.Proofs.YtegfafebbnlicaaGreatDoor.Ev
