/-
  slices.Sorted(maps.Keys(m)) at keys of the kind uint64 is answered by other means: it is so in the world.
-/
import Derived.Test.YtegfafebbnlicaaGreatDoorMFeC
import Derived.Test.YtegfafebbnlicaaGreatDoorMKyA
import Derived.Test.YtegfafebbnlicaaGreatDoorMSrtN
namespace Go.Proofs.YtegfafebbnlicaaGreatDoor.Ev
open Go Go.RowKit Go.Maps Go.WideElems
set_option linter.unusedVariables false
set_option linter.unusedSimpArgs false

/-! Plain. -/
noncomputable def insN (n : Nat) (l : List Nat) : List Nat := @List.rec Nat (fun _ => List Nat) [n] (fun m t ih => match Nat.ble n m with
  | true => n :: m :: t
  | false => m :: ih) l
noncomputable def sortN (l : List Nat) : List Nat := @List.rec Nat (fun _ => List Nat) [] (fun n _ ih => insN n ih) l
theorem insN_cons (n m : Nat) (t : List Nat) : insN n (m :: t) = match Nat.ble n m with
  | true => n :: m :: t
  | false => m :: insN n t := rfl
theorem insN_perm (n : Nat) : ∀ l : List Nat, (insN n l).Perm (n :: l)
  | [] => List.Perm.refl _
  | m :: t => by
    rw [insN_cons]
    split
    · exact List.Perm.refl _
    · exact ((insN_perm n t).cons m).trans (List.Perm.swap n m t)
theorem insN_sorted (n : Nat) : ∀ l : List Nat, l.Pairwise (· ≤ ·) → (insN n l).Pairwise (· ≤ ·)
  | [], _ => List.pairwise_singleton _ _
  | m :: t, h => by
    rw [insN_cons]
    obtain ⟨h1, h2⟩ := List.pairwise_cons.1 h
    cases hb : Nat.ble n m with
    | true =>
      have hle := ble_iff.1 hb
      refine List.pairwise_cons.2 ⟨fun x hx => ?_, h⟩
      rcases List.mem_cons.1 hx with rfl | hx
      · exact hle
      · exact Nat.le_trans hle (h1 x hx)
    | false =>
      have hlt : m ≤ n := by
        rcases Nat.le_total n m with h' | h'
        · rw [Nat.ble_eq_true_of_le h'] at hb; cases hb
        · exact h'
      refine List.pairwise_cons.2 ⟨fun x hx => ?_, insN_sorted n t h2⟩
      rcases List.mem_cons.1 ((insN_perm n t).mem_iff.1 hx) with rfl | hx
      · exact hlt
      · exact h1 x hx
theorem sortN_cons (n : Nat) (l : List Nat) : sortN (n :: l) = insN n (sortN l) := rfl
theorem sortN_perm : ∀ l : List Nat, (sortN l).Perm l
  | [] => List.Perm.refl _
  | n :: l => by rw [sortN_cons]; exact (insN_perm n _).trans ((sortN_perm l).cons n)
theorem sortN_sorted : ∀ l : List Nat, (sortN l).Pairwise (· ≤ ·)
  | [] => List.Pairwise.nil
  | n :: l => by rw [sortN_cons]; exact insN_sorted n _ (sortN_sorted l)
theorem sortN_merge {ss : List Int} {ns : List Nat} (h : ss.Perm (ns.map (fun (n : Nat) => (n : Int)))) : ss.mergeSort (fun x y => decide (x ≤ y)) = (sortN ns).map (fun (n : Nat) => (n : Int)) := by
  have tr : ∀ a b c : Int, (decide (a ≤ b)) = true → (decide (b ≤ c)) = true → (decide (a ≤ c)) = true := fun a b c h1 h2 => by simp only [decide_eq_true_eq] at *; exact Int.le_trans h1 h2
  have to : ∀ a b : Int, (decide (a ≤ b) || decide (b ≤ a)) = true := fun a b => by simp only [Bool.or_eq_true, decide_eq_true_eq]; exact Int.le_total a b
  refine List.Perm.eq_of_pairwise (le := fun a b : Int => a ≤ b) (fun a b _ _ h1 h2 => Int.le_antisymm h1 h2) ?_ ?_ ?_
  · exact (List.pairwise_mergeSort tr to ss).imp fun h => of_decide_eq_true h
  · exact List.pairwise_map.2 ((sortN_sorted ns).imp fun h => Int.ofNat_le.2 h)
  · exact ((List.mergeSort_perm ss _).trans h).trans ((sortN_perm ns).symm.map _)

/-- The keys of a map. -/
noncomputable def keysL (es : List MapEntry) : Option (List Nat) :=
  @List.rec MapEntry (fun _ => Option (List Nat)) (some []) (fun e _ ih => match e.key with
    | .int .u64 (.ofNat n) => match Nat.ble (Nat.succ n) 18446744073709551616 with
      | true => match ih with
        | some l => some (n :: l)
        | none => none
      | false => none
    | _ => none) es
theorem keysL_cons (e : MapEntry) (es : List MapEntry) : keysL (e :: es) = match e.key with
    | .int .u64 (.ofNat n) => match Nat.ble (Nat.succ n) 18446744073709551616 with
      | true => match keysL es with
        | some l => some (n :: l)
        | none => none
      | false => none
    | _ => none := rfl
theorem keysL_spec : ∀ (es : List MapEntry) (ns : List Nat), keysL es = some ns → es.map (·.key) = ns.map (fun (n : Nat) => Value.int .u64 (n : Int)) ∧ ∀ n ∈ ns, n < 18446744073709551616
  | [], ns, h => by cases h; exact ⟨rfl, fun n hn => by cases hn⟩
  | e :: es, ns, h => by
    rw [keysL_cons] at h
    split at h
    case h_2 => cases h
    rename_i n hk
    split at h
    case h_2 => cases h
    rename_i hb
    split at h
    case h_2 => cases h
    rename_i l hl
    cases h
    obtain ⟨h1, h2⟩ := keysL_spec es l hl
    have hb := ble_iff.1 hb
    refine ⟨by rw [List.map_cons, List.map_cons, h1, hk]; rfl, fun x hx => ?_⟩
    rcases List.mem_cons.1 hx with rfl | hx
    · exact hb
    · exact h2 x hx

/-! In the world. -/
def R0 : Value → Option (DataW Unit × List MemPlace) := fun _ => some (.lit (.bool true), [])
theorem wfU {n : Nat} (h : n < 18446744073709551616) : (Lit.int .u64 (n : Int)).wf = true := by
  simp [Lit.wf, IntKind.min, IntKind.max, IntKind.bits, IntKind.signed]; omega
theorem keyedU : Keyed Tryz.prog 29 := int_keyed Tryz.underlying29
theorem ownsKeys {w : World} {M : Nat} {ents : Array MapEntry} {cl : Nat} {ns : List Nat} (hM : w.heap[M]? = some (.map ents cl)) (hs : MapKept.Stamped ents cl) (hk : ents.toList.map (·.key) = ns.map (fun (n : Nat) => Value.int .u64 (n : Int))) (hn : ∀ n ∈ ns, n < 18446744073709551616) (hsz : ents.size ≤ 65536) :
    ∃ D : DataW Unit, w.ownsMap Tryz.prog 29 R0 M ents.size D ∧ (Ky.intKeysU D).Perm (ns.map (fun (n : Nat) => (n : Int))) ∧ Maps.size D = ents.size := by
  have hrd : ∀ x ∈ ents.toList, ∃ n ∈ ns, x.key = .int .u64 (n : Int) ∧ rd (H := Unit) Tryz.prog 29 R0 x = some (.int .u64 (n : Int), .lit (.bool true)) := by
    intro x hx
    have h1 : x.key ∈ ents.toList.map (·.key) := List.mem_map.2 ⟨x, hx, rfl⟩
    rw [hk] at h1
    obtain ⟨n, hn1, hn2⟩ := List.mem_map.1 h1
    obtain ⟨k, v, bn⟩ := x
    simp only at hn2
    subst hn2
    exact ⟨n, hn1, rfl, rd_mk (R := R0) (yv := (.lit (.bool true), [])) (Maps.keyOf_int_mk Tryz.underlying29 (wfU (hn n hn1))) rfl⟩
  have hfit : Fit (H := Unit) Tryz.prog 29 R0 ents cl := ⟨Nat.le_trans hsz (by decide), hs, fun x hx => by
    obtain ⟨n, _, _, h⟩ := hrd x hx
    exact ⟨_, h⟩⟩
  refine ⟨_, ⟨ents, cl, hM, hfit, Nat.le_refl _, rfl⟩, ?_, ?_⟩
  · show ((List.foldr DataW.insert [] (ents.toList.map (rg Tryz.prog 29 R0))).map fun p => Ky.intOfU p.1).Perm _
    refine ((Go.WideShapes.sorted_perm _).map _).trans ?_
    rw [List.map_map]
    have e : ents.toList.map ((fun p => Ky.intOfU p.1) ∘ rg (H := Unit) Tryz.prog 29 R0) = (ents.toList.map (·.key)).map (fun k => match k with
        | .int _ a => a
        | _ => 0) := by
      rw [List.map_map]
      refine List.map_congr_left fun x hx => ?_
      obtain ⟨n, _, h1, h2⟩ := hrd x hx
      simp only [Function.comp, rg_of h2, h1]
      rfl
    rw [e, hk, List.map_map]
    exact List.Perm.of_eq rfl
  · simp [Maps.size, length_sorted]

/-! Answered. -/
theorem ER.keys {ρ : Ren} {l m : List MapEntry} (h : ER ρ l m) : m.map (·.key) = l.map (·.key) := by
  induction h with
  | nil => rfl
  | cons k v v' n l m _ _ _ ih => simp [ih]
theorem ER.borns {ρ : Ren} {l m : List MapEntry} (h : ER ρ l m) : m.map (·.born) = l.map (·.born) := by
  induction h with
  | nil => rfl
  | cons k v v' n l m _ _ _ ih => simp [ih]
theorem R.map_keys {G : Nat} {ρ : Ren} {st : St} {w : World} (hR : R G ρ st w) {m cl : Nat} {es : List MapEntry} (hm : st.h.get m = some (.map es cl)) :
    ∃ M ents, ρ m = some M ∧ w.heap[M]? = some (.map ents cl) ∧ ents.toList.map (·.key) = es.map (·.key) ∧ ents.toList.map (·.born) = es.map (·.born) := by
  obtain ⟨M, ents, hM, hw, hE, _⟩ := hR.map hm
  refine ⟨M, ents, hM, hw, ?_, ?_⟩
  · exact ER.keys hE
  · exact ER.borns hE
theorem sorts_wide (m : Nat) : Ky.SortsIn Fence.wide m :=
  ⟨fun blk off cap ss W hH hblk hsz => callsIn_wide.2 (Srt.slices_Sort_int blk off cap ss W hH hblk hsz), fun p cap W => callsIn_wide.2 (Srt.sort_none p cap W)⟩
noncomputable def keyFn (g : Nat) : Bool := Nat.beq g 258
noncomputable def boxL (l : List Nat) : List Value := @List.rec Nat (fun _ => List Value) [] (fun n _ ih => .int .u64 (.ofNat n) :: ih) l
theorem boxL_eq : ∀ l : List Nat, boxL l = l.map (fun (n : Nat) => Value.int .u64 (n : Int))
  | [] => rfl
  | n :: l => by show _ :: boxL l = _; rw [boxL_eq l]; rfl
noncomputable def sortedO (l : List Nat) (st : St) : Value × St :=
  match l with
  | [] => (.slice none 0 0, st)
  | n :: l => (.slice (some ⟨st.nx, 0, some 1⟩) (Nat.succ l.length) (Nat.succ l.length), st.new (.cells 29 (Nat.succ l.length) true (ofL (boxL (n :: l)))))
noncomputable def sortedK (bx : Nat) (st : St) : Option (Value × St) :=
  match st.load bx 0 1 with
  | some [.map (some m)] => match st.h.get m with
    | some (.map es cl) => match keysL es with
      | some ns => match apartB ns, apartB (bornL es), belowB cl (bornL es), Nat.ble es.length 65536 with
        | true, true, true, true => some (sortedO (sortN ns) st)
        | _, _, _, _ => none
      | none => none
    | _ => none
  | _ => none
noncomputable def sortedH (call : Call1) (args : List Value) (st : St) : Option (Value × St) :=
  match args with
  | [.func (.func g) ⟨[]⟩ ⟨[.pointer (some ⟨bx, 0, none⟩)]⟩] => match keyFn g with
    | true => sortedK bx st
    | false => call (.fn 69) args st
  | _ => call (.fn 69) args st
theorem ofL_get (l : List Value) (i : Nat) : (ofL l).get i = l[i]? := by
  unfold Ev.ofL
  rw [storeL_get]
  by_cases h : i < l.length
  · rw [if_pos (by omega)]; simp
  · rw [if_neg (by omega), List.getElem?_eq_none (by omega)]; rfl
/-- A world that has grown. -/
theorem R.below {G : Nat} {ρ : Ren} {st : St} {w w' : World} (hR : R G ρ st w) (hbel : Below w.heap.size w w') : R G ρ st w' where
  live := fun b o h => by
    obtain ⟨c, x, h1, h2, h3, h4⟩ := hR.live b o h
    exact ⟨c, x, h1, (hbel.block c (heap_lt h2)).trans h2, h3, h4⟩
  inj := hR.inj
  dom := fun b c h => ⟨(hR.dom b c h).1, Nat.lt_of_lt_of_le (hR.dom b c h).2 hbel.size⟩
  glob := hR.glob
theorem Went.below {G : Nat} {ρ : Ren} {st : St} {w w' : World} (hR : R G ρ st w) (hbel : Below w.heap.size w w') : Went ρ st w ρ st w' where
  le := Ren.le_refl ρ
  nx := Nat.le_refl _
  size := hbel.size
  frame := fun c x h _ => (hbel.block c (heap_lt h)).trans h
  fresh := fun b o c h hc => .inl ⟨b, o, h, hc⟩
  new := fun b c h h' => by rw [h] at h'; cases h'
  os := hbel.os
  tape := hbel.tape
  output := hbel.output
theorem sortedK_sound {bx : Nat} {st st' : St} {v : Value} (h : sortedK bx st = some (v, st')) {ρ : Ren} {w : World} {BX : Nat} (hR : R Gn ρ st w) (hbx : ρ bx = some BX) :
    Calls Tryz.prog 69 #[.func (.func 258) #[] #[.pointer (some ⟨BX, 0, none⟩)]] w (RetR ρ st w v st') := by
  unfold sortedK at h
  split at h
  case h_2 => cases h
  rename_i m hl
  split at h
  case h_2 => cases h
  rename_i es cl hm
  split at h
  case h_2 => cases h
  rename_i ns hns
  split at h
  case h_2 => cases h
  rename_i k1 k2 k3 k4
  have k4 := ble_iff.1 k4
  obtain ⟨BX', u0, hBX, hcx, hv0⟩ := loadOne hR hl
  rw [hbx] at hBX; cases hBX
  obtain ⟨M, ents, hM, hmw, hkeys, hborn⟩ := hR.map_keys hm
  cases hv0 with
  | map _ M' hM' =>
  rw [hM] at hM'; cases hM'
  obtain ⟨q1, q2⟩ := keysL_spec es ns hns
  have hsz : ents.size = es.length := by
    have := congrArg List.length hborn
    simpa using this
  have hst : MapKept.Stamped ents cl := by
    refine ⟨?_, ?_, ?_⟩
    · intro x hx
      have : x.born ∈ es.map (·.born) := by rw [← hborn]; exact List.mem_map.2 ⟨x, hx, rfl⟩
      exact belowB_spec _ _ k3 _ (by rw [bornL_eq]; exact this)
    · rw [hborn, ← bornL_eq]; exact apartB_nodup _ k2
    · rw [hkeys, q1]
      refine List.pairwise_map.2 ((apartB_nodup _ k1).imp fun h e => h ?_)
      injection e with _ e
      exact Int.ofNat.inj e
  obtain ⟨D, hown, hperm, hDs⟩ := ownsKeys hmw hst (hkeys.trans q1) q2 (by omega)
  have hBlt : BX < w.heap.size := World.block_lt_of_cell? _ _ hcx
  have hseq := Ky.keys_gives0 (H := Unit) Fence.wide 3 trivial rfl (by omega) BX M ents.size D (R := R0) w hBlt hcx hown
  have hcall := Ky.sorted_in Fence.wide 6 trivial trivial trivial trivial rfl (by omega) (sorts_wide _) (enters_of Tryz.func129 (by kernel_rfl) rfl) 258 #[.pointer (some ⟨BX, 0, none⟩)] trivial
    (enters_of Tryz.func258 (by kernel_rfl) rfl) _ (Maps.size D) (by rw [hDs, hsz]; exact Nat.le_trans k4 (by decide)) (by rw [hDs, hsz]; omega) w hseq
  rw [callsIn_wide] at hcall
  refine hcall.mono ?_
  rintro e w' ⟨vr, ss, rfl, hS, hrow, hnil, hbel⟩
  have hmerge := sortN_merge (hS.trans hperm)
  rw [hmerge] at hrow
  have hlen : ss.length = (sortN ns).length := by
    have h1 := (hS.trans hperm).length_eq
    rw [List.length_map] at h1
    rw [h1, (sortN_perm ns).length_eq]
  have h : sortedO (sortN ns) st = (v, st') := Option.some.inj h
  rcases hrow.2 with ⟨rfl, hz⟩ | ⟨g, cap, cur, rfl, hbg, hgb, c1, c2, c3, c4⟩
  · have h0 : sortN ns = [] := List.eq_nil_of_length_eq_zero (by omega)
    rw [h0] at h
    cases h
    exact ⟨_, rfl, ρ, R.below hR hbel, Went.below hR hbel, .nils⟩
  · cases hso : sortN ns with
    | nil =>
      rw [hso] at hlen
      have := hnil.2 (List.eq_nil_of_length_eq_zero hlen)
      cases this
    | cons n l =>
      rw [hso] at h hlen c4
      cases h
      have hlen : ss.length = l.length + 1 := hlen
      obtain ⟨g1, g2⟩ := hR.grown (o := .cells 29 (Nat.succ l.length) true (ofL (boxL (n :: l)))) hbel hbg hgb ⟨rfl, (fun i _ hh => by omega), (show l.length + 1 ≤ cur.size by omega), (fun hh => by cases hh), fun i hi => by
        have hi : i < l.length + 1 := hi
        have e1 : (boxL (n :: l))[i]? = some (.int .u64 (((n :: l)[i]'hi : Nat) : Int)) := by
          rw [boxL_eq, List.getElem?_map, List.getElem?_eq_getElem hi]; rfl
        refine ⟨_, _, (ofL_get _ i).trans e1, ?_, .int _ _⟩
        have e2 : (cur.toList.take (ss.length * 1))[i]? = cur[i]? := by
          rw [List.getElem?_take_of_lt (by omega), Array.getElem?_toList]
        rw [← e2, c4, List.map_map, List.getElem?_map, List.getElem?_eq_getElem hi]; rfl⟩
      refine ⟨_, rfl, _, g1, g2, ?_⟩
      rw [hlen]
      exact .slu _ _ _ _ _ _ 1 (Ren.add_at _ _ _ _) (by omega) (.inl rfl) (fun _ => by rw [Ren.add_sz]; show 0 + cap * 1 ≤ cur.size; omega)
theorem sortedH_sound {call : Call1} (hcall : CallS Tryz.prog call) {args : List Value} {st st' : St} {v : Value} (h : sortedH call args st = some (v, st')) {ρ : Ren} {w : World} {args' : Array Value} (hR : R Gn ρ st w) (har : AR ρ args.toArray args') :
    HasBody Tryz.prog 69 ∧ CallsIn (Fw none) 0 Tryz.prog 69 args' w (RetR ρ st w v st') := by
  unfold sortedH at h
  split at h
  · rename_i g bx
    split at h
    · rename_i hg
      have hg : g = 258 := beq_iff.1 hg
      subst hg
      refine ⟨⟨_, _, Tryz.func69, rfl, rfl⟩, ?_⟩
      show CallsIn Fence.wide 0 _ _ _ _ _
      rw [callsIn_wide]
      obtain ⟨v', rfl, hv⟩ := args_one har
      cases hv with
      | fn _ _ _ ys _ ds hx _ hc hcd =>
      have hy : ys = #[] := Array.eq_empty_of_size_eq_zero (by rw [← hx]; rfl)
      subst hy
      have hd1 : ds.size = 1 := by rw [← hc]; rfl
      obtain ⟨BX, hBX, hds⟩ : ∃ BX, ρ bx = some BX ∧ ds = #[.pointer (some ⟨BX, 0, none⟩)] := by
        have := hcd 0 _ _ rfl (Array.getElem?_eq_getElem (by omega))
        generalize hq : ds[0]'(by omega) = q at this
        cases this with
        | ptr _ BX _ hBX =>
          refine ⟨BX, hBX, ?_⟩
          apply Array.ext_getElem?
          intro i
          cases i with
          | zero => rw [Array.getElem?_eq_getElem (by omega), hq]; rfl
          | succ i => rw [Array.getElem?_eq_none (by omega), Array.getElem?_eq_none (by simp)]
      subst hds
      exact sortedK_sound h hR hBX
    · exact hcall (.fn 69) _ st v st' h ρ w args' hR har
  · exact hcall (.fn 69) _ st v st' h ρ w args' hR har
end Go.Proofs.YtegfafebbnlicaaGreatDoor.Ev
