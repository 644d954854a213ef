/-
  The hooks of crc.Sum, crc.Words, slices.Sort at uint64 are sound.
-/
import Derived.Test.YtegfafebbnlicaaGreatDoorMHkA
import Derived.Test.YtegfafebbnlicaaGreatDoorMCrcA
namespace Go.Proofs.YtegfafebbnlicaaGreatDoor.Ev
open Go Go.RowKit Dv
set_option linter.unusedVariables false
set_option linter.unusedSimpArgs false

/-- Numbers of a kind below a limit. -/
noncomputable def numsL (kd : IntKind) (lim : Nat) (l : List Value) : Option (List Nat) :=
  @List.rec Value (fun _ => Option (List Nat)) (some []) (fun v _ ih => match v with
    | .int k (.ofNat n) => match Nat.beq (numK k) (numK kd), Nat.ble (Nat.succ n) lim, ih with
      | true, true, some t => some (n :: t)
      | _, _, _ => none
    | _ => none) l
theorem numsL_cons (kd : IntKind) (lim : Nat) (v : Value) (l : List Value) : numsL kd lim (v :: l) = match v with
    | .int k (.ofNat n) => match Nat.beq (numK k) (numK kd), Nat.ble (Nat.succ n) lim, numsL kd lim l with
      | true, true, some t => some (n :: t)
      | _, _, _ => none
    | _ => none := rfl
theorem numsL_spec (kd : IntKind) (lim : Nat) : ∀ (l : List Value) (ns : List Nat), numsL kd lim l = some ns → l = ns.map (fun (n : Nat) => Value.int kd (n : Int)) ∧ ∀ n ∈ ns, n < lim
  | [], ns, h => by cases h; exact ⟨rfl, fun n hn => by cases hn⟩
  | v :: l, ns, h => by
    rw [numsL_cons] at h
    split at h
    case h_2 => cases h
    rename_i k n
    split at h
    case h_2 => cases h
    rename_i t hk hb ht
    cases h
    rw [numK_eq] at hk
    have hk := of_decide_eq_true hk
    subst hk
    obtain ⟨h1, h2⟩ := numsL_spec k lim l t ht
    have hb := ble_iff.1 hb
    refine ⟨by rw [List.map_cons, ← h1]; rfl, fun x hx => ?_⟩
    rcases List.mem_cons.1 hx with rfl | hx
    · exact hb
    · exact h2 x hx
noncomputable def nthN (l : List Nat) : Nat → Nat := @List.rec Nat (fun _ => Nat → Nat) (fun _ => 0) (fun x _ ih i => @Nat.rec (fun _ => Nat) x (fun k _ => ih k) i) l
theorem nthN_eq : ∀ (l : List Nat) (i : Nat), nthN l i = l.getD i 0
  | [], i => by simp [nthN]
  | x :: l, 0 => rfl
  | x :: l, i + 1 => by show nthN l i = _; rw [nthN_eq l i]; rfl
noncomputable def kh (tb : List Nat) (x : Nat) : Nat := Nat.xor (Nat.div x 16) (nthN tb (Nat.land x 15))
noncomputable def ks (tb : List Nat) (r b : Nat) : Nat := kh tb (kh tb (Nat.xor r b))
theorem ks_eq (tb : List Nat) (r b : Nat) : ks tb r b = cstep (nthN tb) r b := rfl
noncomputable def kbytes (tb : List Nat) (l : List Nat) : Nat → Nat := @List.rec Nat (fun _ => Nat → Nat) (fun r => r) (fun b _ ih r => ih (ks tb r b)) l
theorem kbytes_eq (tb : List Nat) : ∀ (l : List Nat) (r : Nat), kbytes tb l r = cbytes (nthN tb) r l
  | [], r => rfl
  | b :: l, r => by show kbytes tb l (ks tb r b) = _; rw [kbytes_eq tb l]; rfl
noncomputable def kby (x n : Nat) : Nat := Nat.mod (Nat.div x (Nat.pow 2 n)) 256
noncomputable def kword (tb : List Nat) (r x : Nat) : Nat := ks tb (ks tb (ks tb (ks tb (ks tb (ks tb (ks tb (ks tb r (kby x 0)) (kby x 8)) (kby x 16)) (kby x 24)) (kby x 32)) (kby x 40)) (kby x 48)) (kby x 56)
theorem kword_eq (tb : List Nat) (r x : Nat) : kword tb r x = cword (nthN tb) r x 8 := rfl
noncomputable def kwords (tb : List Nat) (l : List Nat) : Nat → Nat := @List.rec Nat (fun _ => Nat → Nat) (fun r => r) (fun x _ ih r => ih (kword tb r x)) l
theorem kwords_eq (tb : List Nat) : ∀ (l : List Nat) (r : Nat), kwords tb l r = l.foldl (fun r x => cword (nthN tb) r x 8) r
  | [], r => rfl
  | b :: l, r => by show kwords tb l (kword tb r b) = _; rw [kwords_eq tb l]; rfl
/-- The table of the package crc. -/
noncomputable def nibL (st : St) : Option (List Nat) :=
  match st.load 1 0 16 with
  | some l => numsL .u32 4294967296 l
  | none => none
theorem nibL_tab {st : St} {tb : List Nat} (h : nibL st = some tb) {ρ : Ren} {w : World} (hR : R Gn ρ st w) : NTab w (nthN tb) := by
  unfold nibL at h
  split at h
  case h_2 => cases h
  rename_i l hl
  obtain ⟨h1, h2⟩ := numsL_spec _ _ l tb h
  obtain ⟨hlen, g, arr, t, fr, hρ, hw, hs, h3⟩ := hR.load_cells hl
  have hg := hR.glob 1 (by decide)
  rw [hg] at hρ; cases hρ
  have htl : tb.length = 16 := by rw [← hlen, h1, List.length_map]
  intro i hi
  have hi2 : i < tb.length := by omega
  have e : nthN tb i = tb[i] := by rw [nthN_eq, List.getD_eq_getElem?_getD, List.getElem?_eq_getElem hi2]; rfl
  rw [e]
  refine ⟨h2 _ (List.getElem_mem hi2), ?_⟩
  obtain ⟨v', q1, q2⟩ := h3 i (.int .u32 ((tb[i] : Nat) : Int)) (by rw [h1, List.getElem?_map, List.getElem?_eq_getElem hi2]; rfl)
  cases q2
  rw [Nat.zero_add] at q1
  rw [cell_of hw, q1]
theorem seen_of {ρ : Ren} {st : St} {w : World} (hR : R Gn ρ st w) {b o n B : Nat} {kd : IntKind} {lim : Nat} {l : List Value} {ns : List Nat} (hl : st.load b o n = some l) (hn : numsL kd lim l = some ns) (hB : ρ b = some B) :
    ns.length = n ∧ Seen w B o (ns.map (fun (n : Nat) => Value.int kd (n : Int))) := by
  obtain ⟨h1, h2⟩ := numsL_spec _ _ l ns hn
  obtain ⟨hlen, g, arr, t, fr, hρ, hw, hs, h3⟩ := hR.load_cells hl
  rw [hB] at hρ; cases hρ
  refine ⟨by rw [← hlen, h1, List.length_map], fun j u hu => ?_⟩
  rw [← h1] at hu
  obtain ⟨v', q1, q2⟩ := h3 j u hu
  rw [cell_of hw, q1]
  rw [h1, List.getElem?_map] at hu
  cases hj : ns[j]? with
  | none => rw [hj] at hu; cases hu
  | some k => rw [hj] at hu; cases hu; cases q2; rfl

noncomputable def sumO (b o n : Nat) (st : St) : OV :=
  match st.load b o n, nibL st, Nat.ble n 1000 with
  | some l, some tb, true => match numsL .u8 256 l with
    | some bs => fN (Nat.xor 4294967295 (kbytes tb bs 4294967295)) .u32
    | none => none
  | _, _, _ => none
noncomputable def sumH (call : Call1) (args : List Value) (st : St) : Option (Value × St) :=
  match args with
  | [.slice (some ⟨b, o, none⟩) n _] => match sumO b o n st with
    | some v => some (v, st)
    | none => call (.fn 339) args st
  | _ => call (.fn 339) args st
theorem sumH_sound {call : Call1} (hcall : CallS Tryz.prog call) {args : List Value} {st st' : St} {v : Value} (h : sumH call args st = some (v, st')) {ρ : Ren} {w : World} {args' : Array Value} (hR : R Gn ρ st w) (har : AR ρ args.toArray args') :
    HasBody Tryz.prog 339 ∧ CallsIn (Fw none) 0 Tryz.prog 339 args' w (RetR ρ st w v st') := by
  unfold sumH at h
  split at h
  · rename_i b o n cap
    split at h
    · rename_i u hu
      cases h
      refine ⟨⟨_, _, Tryz.func339, rfl, rfl⟩, ?_⟩
      show CallsIn Fence.wide 0 _ _ _ _ _
      rw [callsIn_wide]
      unfold sumO at hu
      split at hu
      case h_2 => cases hu
      rename_i l tb hl htb hn
      split at hu
      case h_2 => cases hu
      rename_i bs hbs
      rw [fN_eq] at hu
      cases hu
      obtain ⟨v1, rfl, r1⟩ := args_one har
      cases r1 with
      | slc _ B _ _ _ hB =>
      have hn := ble_iff.1 hn
      obtain ⟨hlen, hs⟩ := seen_of hR hl hbs hB
      have hc := sum_any (c := cap) (nibL_tab htb hR) hs (numsL_spec _ _ l bs hbs).2 (by omega)
      rw [hlen] at hc
      refine hc.mono ?_
      rintro e w' ⟨rfl, rfl⟩
      refine ⟨_, rfl, ρ, hR, Went.refl ρ st w, ?_⟩
      rw [kbytes_eq]
      exact .int _ _
    · exact hcall (.fn 339) _ st v st' h ρ w args' hR har
  · exact hcall (.fn 339) _ st v st' h ρ w args' hR har
noncomputable def wordsO (b o n : Nat) (st : St) : OV :=
  match st.load b o n, nibL st, Nat.ble n 1000 with
  | some l, some tb, true => match numsL .u64 18446744073709551616 l with
    | some bs => fN (Nat.xor 4294967295 (kwords tb bs 4294967295)) .u32
    | none => none
  | _, _, _ => none
noncomputable def wordsH (call : Call1) (args : List Value) (st : St) : Option (Value × St) :=
  match args with
  | [.slice (some ⟨b, o, none⟩) n _] => match wordsO b o n st with
    | some v => some (v, st)
    | none => call (.fn 177) args st
  | _ => call (.fn 177) args st
theorem wordsH_sound {call : Call1} (hcall : CallS Tryz.prog call) {args : List Value} {st st' : St} {v : Value} (h : wordsH call args st = some (v, st')) {ρ : Ren} {w : World} {args' : Array Value} (hR : R Gn ρ st w) (har : AR ρ args.toArray args') :
    HasBody Tryz.prog 177 ∧ CallsIn (Fw none) 0 Tryz.prog 177 args' w (RetR ρ st w v st') := by
  unfold wordsH at h
  split at h
  · rename_i b o n cap
    split at h
    · rename_i u hu
      cases h
      refine ⟨⟨_, _, Tryz.func177, rfl, rfl⟩, ?_⟩
      show CallsIn Fence.wide 0 _ _ _ _ _
      rw [callsIn_wide]
      unfold wordsO at hu
      split at hu
      case h_2 => cases hu
      rename_i l tb hl htb hn
      split at hu
      case h_2 => cases hu
      rename_i bs hbs
      rw [fN_eq] at hu
      cases hu
      obtain ⟨v1, rfl, r1⟩ := args_one har
      cases r1 with
      | slc _ B _ _ _ hB =>
      have hn := ble_iff.1 hn
      obtain ⟨hlen, hs⟩ := seen_of hR hl hbs hB
      have hc := words_any (c := cap) (nibL_tab htb hR) hs (numsL_spec _ _ l bs hbs).2 (by omega)
      rw [hlen] at hc
      refine hc.mono ?_
      rintro e w' ⟨rfl, rfl⟩
      refine ⟨_, rfl, ρ, hR, Went.refl ρ st w, ?_⟩
      rw [kwords_eq]
      exact .int _ _
    · exact hcall (.fn 177) _ st v st' h ρ w args' hR har
  · exact hcall (.fn 177) _ st v st' h ρ w args' hR har

/-! The sort. -/
noncomputable def sortO (b o n : Nat) (st : St) : Option St :=
  match st.load b o n, Nat.ble 1 n, Nat.ble n 100000 with
  | some l, true, true => match numsL .u64 18446744073709551616 l with
    | some ns => st.store b o (boxL (sortN ns))
    | none => none
  | _, _, _ => none
noncomputable def sortH (call : Call1) (args : List Value) (st : St) : Option (Value × St) :=
  match args with
  | [.slice (some ⟨b, o, z⟩) n _] => match sortO b o n st with
    | some st' => some (.tuple #[], st')
    | none => call (.fn 129) args st
  | _ => call (.fn 129) args st
theorem sortO_sound {b o n : Nat} {st st' : St} (h : sortO b o n st = some st') {ρ : Ren} {w : World} {B cap : Nat} (hR : R Gn ρ st w) (hB : ρ b = some B) :
    Calls Tryz.prog 129 #[.slice (some ⟨B, o, none⟩) n cap] w (RetR ρ st w (.tuple #[]) st') := by
  unfold sortO at h
  split at h
  case h_2 => cases h
  rename_i l hl h1 hn
  split at h
  case h_2 => cases h
  rename_i ns hns
  have hn := ble_iff.1 hn
  obtain ⟨hlen, hs⟩ := seen_of hR hl hns hB
  unfold St.store at h
  split at h
  case h_2 => cases h
  rename_i t m u c hb
  split at h
  case h_2 => cases h
  rename_i hm
  cases h
  obtain ⟨B', arr, fr, hB', hw, hfr, hmn, hu, hc, hsz⟩ := hR.cells hb
  rw [hB] at hB'; cases hB'
  have hbl : (boxL (sortN ns)).length = n := by rw [boxL_eq, List.length_map, (sortN_perm ns).length_eq, hlen]
  have hm : o + n ≤ m := by have := ble_iff.1 hm; rw [hbl] at this; exact this
  have hH : Sort.Holds (Value.int .u64) w B o (ns.map (fun (n : Nat) => (n : Int))).toArray := by
    intro j hj
    have hj' : j < ns.length := by simpa using hj
    refine ⟨?_, frozen_of hw hfr (by omega)⟩
    rw [hs j (.int .u64 ((ns[j] : Nat) : Int)) (by rw [List.getElem?_map, List.getElem?_eq_getElem hj']; rfl), getElem!_pos _ j hj]
    simp
  have hcall := Srt.slices_Sort_int B o cap (ns.map (fun (n : Nat) => (n : Int))) w hH (heap_lt hw) (by rw [List.length_map]; omega)
  rw [List.length_map, hlen, sortN_merge (List.Perm.refl _)] at hcall
  refine hcall.mono ?_
  rintro e w' ⟨rfl, q, os, rfl⟩
  obtain ⟨d, hd⟩ : ∃ d, d = ((sortN ns).map (fun (n : Nat) => (n : Int))).toArray := ⟨_, rfl⟩
  have hds : d.size = n := by rw [hd, List.size_toArray, List.length_map, (sortN_perm ns).length_eq, hlen]
  rw [← hd]
  have hz : (Sort.putRow (Value.int .u64) (Sort.ahead w q) B o d).heap.size = w.heap.size := by simp
  have old : ∀ k, k < w.heap.size → (Sort.grow (Sort.putRow (Value.int .u64) (Sort.ahead w q) B o d) os).heap[k]? = (Sort.putRow (Value.int .u64) (Sort.ahead w q) B o d).heap[k]? := fun k hk => Sort.heap_grow_old _ _ (by rw [hz]; exact hk)
  have hblk : (Sort.grow (Sort.putRow (Value.int .u64) (Sort.ahead w q) B o d) os).heap[B]? = some (.cells (Sort.putCells (Value.int .u64) o d arr) t fr) := by
    rw [old B (heap_lt hw)]
    simp [Sort.putRow, Sort.mapBlock, Array.getElem?_modify, hw, Sort.onCells]
  have hoth : ∀ k x, k ≠ B → w.heap[k]? = some x → (Sort.grow (Sort.putRow (Value.int .u64) (Sort.ahead w q) B o d) os).heap[k]? = some x := fun k x hk hx => by
    rw [old k (heap_lt hx)]
    simp only [Sort.putRow, Sort.mapBlock, Sort.heap_ahead, Array.getElem?_modify]
    rw [if_neg (fun e => hk e.symm), hx]
  obtain ⟨g1, g2⟩ := R.change (st' := ⟨st.h.set b (.cells t m u (storeL (boxL (sortN ns)) c o)), st.nx⟩) hR rfl (by rw [Sort.size_grow, hz]; omega) (show w.os = w.os from rfl) (show w.tape = w.tape from rfl) (show w.output = w.output from rfl)
    (w' := Sort.grow (Sort.putRow (Value.int .u64) (Sort.ahead w q) B o d) os) (by
      intro b1 o1 hb1
      simp only [Tr.get_set] at hb1
      by_cases e1 : b1 = b
      · subst e1
        rw [if_pos rfl] at hb1; cases hb1
        refine ⟨_, B, _, hb, hB, hblk, ⟨rfl, ?_, ?_, ?_, ?_⟩, ?_⟩
        · intro i hi; exact hfr i (by simpa [Sort.putCells] using hi)
        · simpa [Sort.putCells] using hmn
        · intro hh; simpa [Sort.putCells] using hu hh
        · intro i hi
          obtain ⟨v, v', c1, c2, c3⟩ := hc i hi
          have hia : i < arr.size := by omega
          rw [storeL_get, hbl]
          unfold Sort.putCells
          rw [Array.getElem?_mapIdx, Array.getElem?_eq_getElem hia, Option.map_some, hds]
          by_cases hin : o ≤ i ∧ i < o + n
          · have hj : i - o < (sortN ns).length := by rw [(sortN_perm ns).length_eq, hlen]; omega
            rw [if_pos hin, if_pos hin, boxL_eq, List.getElem?_map, List.getElem?_eq_getElem hj]
            refine ⟨_, _, rfl, rfl, ?_⟩
            have e : d[i - o]! = (((sortN ns)[i - o] : Nat) : Int) := by
              rw [getElem!_pos _ _ (by rw [hds]; omega)]
              simp [hd]
            rw [e]
            exact .int _ _
          · rw [if_neg hin, if_neg hin]
            rw [Array.getElem?_eq_getElem hia] at c2
            exact ⟨v, v', c1, c2, c3⟩
        · show (Sort.putCells (Value.int .u64) o d arr).size = _
          rw [← hsz]; simp [Sort.putCells]
      · rw [if_neg e1] at hb1
        obtain ⟨c', x, h1, h2, h3, h4⟩ := hR.live b1 o1 hb1
        exact ⟨o1, c', x, hb1, h1, hoth c' x (fun e => e1 (by subst e; exact hR.inj b1 b _ _ _ hb1 hb h1 hB)) h2, h3, h4⟩)
    (fun k x hx hn => hoth k x (fun e => by subst e; exact hn b _ hb hB) hx)
  exact ⟨_, rfl, ρ, g1, g2, .tup _ _ rfl (fun i x y hx => by simp at hx)⟩
theorem sortH_sound {call : Call1} (hcall : CallS Tryz.prog call) {args : List Value} {st st' : St} {v : Value} (h : sortH call args st = some (v, st')) {ρ : Ren} {w : World} {args' : Array Value} (hR : R Gn ρ st w) (har : AR ρ args.toArray args') :
    HasBody Tryz.prog 129 ∧ CallsIn (Fw none) 0 Tryz.prog 129 args' w (RetR ρ st w v st') := by
  unfold sortH at h
  split at h
  · rename_i b o z n cap
    split at h
    · rename_i st2 hu
      cases h
      refine ⟨⟨_, _, Tryz.func129, rfl, rfl⟩, ?_⟩
      show CallsIn Fence.wide 0 _ _ _ _ _
      rw [callsIn_wide]
      obtain ⟨v1, rfl, r1⟩ := args_one har
      have hn1 : 1 ≤ n := by
        unfold sortO at hu
        split at hu
        case h_2 => cases hu
        rename_i h1 _
        exact ble_iff.1 h1
      cases r1 with
      | slc _ B _ _ _ hB => exact sortO_sound hu hR hB
      | slu _ B _ o' _ cap2 z hB hl ho hz =>
        rcases ho with rfl | h0
        · exact sortO_sound hu hR hB
        · omega
    · exact hcall (.fn 129) _ st v st' h ρ w args' hR har
  · exact hcall (.fn 129) _ st v st' h ρ w args' hR har
end Go.Proofs.YtegfafebbnlicaaGreatDoor.Ev
