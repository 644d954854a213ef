/-
  Operations on maps hold in the world.
  append, copy, clear, bytes of strings, ranges over maps hold in the world.
  append as an operation, copy, clear, bytes of strings, ranges over maps hold in the world.
-/
import Derived.Test.YtegfafebbnlicaaGreatDoorMEvD
import Derived.Laws.Append
namespace Go.Proofs.YtegfafebbnlicaaGreatDoor.Ev
open Go
set_option linter.unusedVariables false
set_option linter.unusedSimpArgs false

variable {P : Program} {G : Nat} {ρ : Ren} {st : St} {w : World}

/-- Only the heap counts. -/
theorem R.congr {w' : World} (hR : R G ρ st w) (h : w'.heap = w.heap) : R G ρ st w' where
  live := fun b o hb => let ⟨c, x, h1, h2, h3⟩ := hR.live b o hb; ⟨c, x, h1, by rw [h]; exact h2, h3⟩
  inj := hR.inj
  dom := fun b c hc => ⟨(hR.dom b c hc).1, by rw [h]; exact (hR.dom b c hc).2⟩
  glob := hR.glob
theorem Went.drew {w' : World} (h : w'.heap = w.heap) (ho : w'.os = w.os) (ht : w'.tape = w.tape) (hp : w'.output = w.output) : Went ρ st w ρ st w' where
  le := Ren.le_refl ρ
  nx := Nat.le_refl _
  size := by rw [h]; exact Nat.le_refl _
  frame := fun c x hx _ => by rw [h]; exact hx
  fresh := fun b o c hb hc => .inl ⟨b, o, hb, hc⟩
  new := fun b c h h' => by rw [h] at h'; cases h'
  os := ho
  tape := ht
  output := hp
theorem run_setObj {r : Nat} {o x : Obj} (h : w.heap[r]? = some o) (ho : ∀ arr t fr, o ≠ .cells arr t fr) : (setObj r x).run P w = .ok () { w with heap := w.heap.setIfInBounds r x } := by
  cases o <;> first | exact absurd rfl (ho _ _ _) | simp only [setObj, Sem.run, h]
theorem heap_put {w : World} {r : Nat} {o x : Obj} (h : w.heap[r]? = some o) : (w.heap.setIfInBounds r x)[r]? = some x := by
  rw [Array.getElem?_setIfInBounds_self]; simp [heap_lt h]
theorem heap_put_other {w : World} {r k : Nat} {x : Obj} (h : k ≠ r) : (w.heap.setIfInBounds r x)[k]? = w.heap[k]? := Array.getElem?_setIfInBounds_ne (Ne.symm h)
/-- A map block is turned. -/
theorem R.putMap (hR : R G ρ st w) {b : Nat} {es es' : List MapEntry} {cl cl' : Nat} {g : Nat} {ents ents' : Array MapEntry} (hb : st.h.get b = some (.map es cl)) (hρ : ρ b = some g)
    (hw : w.heap[g]? = some (.map ents cl)) (he : ER ρ es' ents'.toList) (hz : ρ.sz g = 0) :
    R G ρ (st.put b (.map es' cl')) { w with heap := w.heap.setIfInBounds g (.map ents' cl') } ∧ Went ρ st w ρ (st.put b (.map es' cl')) { w with heap := w.heap.setIfInBounds g (.map ents' cl') } :=
  hR.turn hb hρ (x := .map ents' cl') ⟨he, rfl⟩ hz.symm (heap_put hw) (fun k hk => heap_put_other hk) (by simp) rfl rfl rfl
theorem put_same {w : World} {g : Nat} {o : Obj} (h : w.heap[g]? = some o) : ({ w with heap := w.heap.setIfInBounds g o } : World) = w := by
  have : w.heap.setIfInBounds g o = w.heap := by
    apply Array.ext_getElem?
    intro k
    by_cases hk : k = g
    · subst hk; rw [heap_put h, h]
    · rw [heap_put_other hk]
  rw [this]

theorem modL_zero (e : MapEntry) (l : List MapEntry) (f : MapEntry → MapEntry) : modL (e :: l) 0 f = f e :: l := rfl
theorem modL_succ (e : MapEntry) (l : List MapEntry) (i : Nat) (f : MapEntry → MapEntry) : modL (e :: l) (i + 1) f = e :: modL l i f := rfl
theorem ER.mod {l m : List MapEntry} (h : ER ρ l m) : ∀ (j : Nat) (e : MapEntry) (v' : Value) (k : Value) (v w' : Value), l[j]? = some e → e.key = k → plain1 k = true → VR ρ v w' → m[j]? = some ⟨k, v', e.born⟩ →
    ∀ f : MapEntry → MapEntry, (∀ e', f e' = ⟨k, w', e'.born⟩ ∨ f e' = ⟨e'.key, w', e'.born⟩) → ER ρ (modL l j (fun e => ⟨e.key, v, e.born⟩)) (m.modify j f) := by
  induction h with
  | nil => intro j e v' k v w' hj; simp at hj
  | cons kk vv vv' n l m hk hv h ih =>
    intro j e v' k v w' hj hek hpk hvr hm f hf
    cases j with
    | zero =>
      simp at hj
      subst hj
      simp only at hek
      subst hek
      rw [modL_zero, List.modify_zero_cons]
      have : f ⟨kk, vv', n⟩ = ⟨kk, w', n⟩ := by rcases hf ⟨kk, vv', n⟩ with h | h <;> exact h
      rw [this]
      exact .cons _ _ _ _ _ _ hk hvr h
    | succ j =>
      rw [modL_succ, List.modify_succ_cons]
      exact .cons _ _ _ _ _ _ hk hv (ih j e v' k v w' (by simpa using hj) hek hpk hvr (by simpa using hm) f hf)
theorem ER.push {l m : List MapEntry} (h : ER ρ l m) {k v v' : Value} {n : Nat} (hk : plain1 k = true) (hv : VR ρ v v') : ER ρ (l ++ [⟨k, v, n⟩]) (m ++ [⟨k, v', n⟩]) := by
  induction h with
  | nil => exact .cons _ _ _ _ _ _ hk hv .nil
  | cons kk vv vv' q l m hkk hvv _ ih => exact .cons _ _ _ _ _ _ hkk hvv ih
theorem run_stays {k : Value} (h : isIB k = true) (w : World) : (Instr.keyThatStays k k).run P w = .ok k w := by
  have hs : ∀ n, Instr.sameBits n k k = true := by
    intro n
    cases k <;> first | (cases h; done) | (cases n <;> simp [Instr.sameBits, beq_toListBytes])
  simp [Instr.keyThatStays, hs]
theorem ib_plain {k : Value} (h : isIB k = true) : plain1 k = true := by cases k <;> first | rfl | (cases h; done)

theorem eMapSet_sound {T : Tr TI} (hT : TOk P T) (hR : R G ρ st w) {t : TypeId} {ti : TI} (ht : TIok P t ti) {x x' k k' v v' : Value} {st' : St} (h : eMapSet T ti.d x k v st = some st') (hx : VR ρ x x') (hk : VR ρ k k') (hv : VR ρ v v') :
    ∃ w', (Instr.mapUpdate t x' k' v').run P w = .ok () w' ∧ R G ρ st' w' ∧ Went ρ st w ρ st' w' := by
  obtain ⟨d, hd, hr⟩ := ht.desc
  unfold eMapSet at h
  split at h
  case h_2 => cases h
  rename_i kt et b he
  rw [he] at hr
  cases d <;> simp only [DescR] at hr
  obtain ⟨rfl, rfl⟩ := hr
  split at h
  case h_2 => cases h
  rename_i es cl hko hes
  obtain ⟨dk, hdk, hkc⟩ := eKeyOk_spec hT hko
  have hib := key_ib hkc
  have hk' := hk.ib hib
  subst hk'
  have hent := St.entries_spec hes
  cases hx with
  | map _ c hb =>
  obtain ⟨g, ents, hg, hw, her, hz⟩ := hR.map hent
  rw [hb] at hg; cases hg
  have hne : ∀ arr t fr, (Obj.map ents cl) ≠ .cells arr t fr := fun _ _ _ h => by cases h
  cases hf : eFind k' es 0 with
  | none => rw [hf] at h; cases h
  | some r =>
    rw [hf] at h
    rcases eFind_sound hkc her 0 r hf with ⟨e1, e2⟩ | ⟨j, e, v2, e1, e2, e3, e4, e5, e6⟩
    · subst e1
      cases h
      obtain ⟨r1, r2⟩ := hR.putMap (cl' := cl + 1) (ents' := ents.push ⟨k', v', cl⟩) hent hb hw (by rw [Array.toList_push]; exact her.push (ib_plain hib) hv) hz
      refine ⟨_, ?_, r1, r2⟩
      simp only [Instr.mapUpdate, Sem.run_bind, run_underlying hd, Result.andThen_ok, run_getMap hw, run_checkKey hdk hkc, run_findKey hdk e2, run_setObj hw hne]
    · subst e1
      simp only [Nat.zero_add] at h e2
      cases h
      obtain ⟨r1, r2⟩ := hR.putMap (cl' := cl) (ents' := ents.modify j (fun e => { e with key := k', val := v' })) hent hb hw (by
        rw [Array.toList_modify]
        exact her.mod j e v2 k' v v' e4 e5 (ib_plain hib) hv e6 _ (fun e' => .inl rfl)) hz
      refine ⟨_, ?_, r1, r2⟩
      have hold : ((ents[j]?).map (·.key)).getD k' = k' := by
        rw [← Array.getElem?_toList, e6]; rfl
      simp only [Instr.mapUpdate, Sem.run_bind, run_underlying hd, Result.andThen_ok, run_getMap hw, run_checkKey hdk hkc, run_findKey hdk e2, hold, run_stays hib, run_setObj hw hne]

theorem modify_id {l : List MapEntry} {j : Nat} {k : Value} {v : Value} {n : Nat} (h : l[j]? = some ⟨k, v, n⟩) : l.modify j (fun e => { e with key := k }) = l := by
  induction l generalizing j with
  | nil => simp at h
  | cons x l ih =>
    cases j with
    | zero => simp at h; subst h; rw [List.modify_zero_cons]
    | succ j => rw [List.modify_succ_cons, ih (by simpa using h)]
theorem eMapEntry_sound {T : Tr TI} (hT : TOk P T) (hR : R G ρ st w) {t : TypeId} {ti : TI} (ht : TIok P t ti) {x x' k k' v : Value} {st' : St} (h : eMapEntry T ti.d x k st = some (v, st')) (hx : VR ρ x x') (hk : VR ρ k k') :
    ∃ v' w', (Instr.mapEntry t x' k').run P w = .ok v' w' ∧ R G ρ st' w' ∧ Went ρ st w ρ st' w' ∧ VR ρ v v' := by
  obtain ⟨d, hd, hr⟩ := ht.desc
  unfold eMapEntry at h
  split at h
  case h_2 => cases h
  rename_i kt et b he
  rw [he] at hr
  cases d <;> simp only [DescR] at hr
  obtain ⟨rfl, rfl⟩ := hr
  split at h
  case h_2 => cases h
  rename_i es cl te hko hes hte
  obtain ⟨dk, hdk, hkc⟩ := eKeyOk_spec hT hko
  have hib := key_ib hkc
  have hk' := hk.ib hib
  subst hk'
  have hent := St.entries_spec hes
  cases hx with
  | map _ c hb =>
  obtain ⟨g, ents, hg, hw, her, hz⟩ := hR.map hent
  rw [hb] at hg; cases hg
  have hne : ∀ arr t fr, (Obj.map ents cl) ≠ .cells arr t fr := fun _ _ _ h => by cases h
  have hzv : VR ρ te.zero te.zero := VR.plain ρ (hT _ _ hte).plain
  cases hf : eFind k' es 0 with
  | none => rw [hf] at h; cases h
  | some r =>
    rw [hf] at h
    rcases eFind_sound hkc her 0 r hf with ⟨e1, e2⟩ | ⟨j, e, v2, e1, e2, e3, e4, e5, e6⟩
    · subst e1
      cases h
      obtain ⟨r1, r2⟩ := hR.putMap (cl' := cl + 1) (ents' := ents.push ⟨k', te.zero, cl⟩) hent hb hw (by rw [Array.toList_push]; exact her.push (ib_plain hib) hzv) hz
      refine ⟨.tuple #[te.zero, goInt cl], _, ?_, r1, r2, .tup _ _ rfl ((AR.one hzv).push (.int _ _)).2⟩
      simp only [Instr.mapEntry, Sem.run_bind, run_underlying hd, Result.andThen_ok, run_getMap hw, run_checkKey hdk hkc, run_findKey hdk e2, run_setObj hw hne, (hT _ _ hte).run_zero, Sem.run_pure]
    · subst e1
      simp only [Nat.zero_add] at h e2
      cases h
      have e6' : ents[j]? = some ⟨k', v2, e.born⟩ := by rw [← Array.getElem?_toList]; exact e6
      have hold : ((ents[j]?).map (·.key)).getD k' = k' := by rw [e6']; rfl
      have hborn : ((ents[j]?).map (fun x => (x.born : Int))).getD 0 = (e.born : Int) := by rw [e6']; rfl
      have hsame : ents.modify j (fun e => { e with key := k' }) = ents := by
        apply Array.ext'
        rw [Array.toList_modify]
        exact modify_id e6
      refine ⟨.tuple #[v2, goInt e.born], w, ?_, hR, Went.refl _ _ _, .tup _ _ rfl ((AR.one e3).push (.int _ _)).2⟩
      simp only [Instr.mapEntry, Sem.run_bind, run_underlying hd, Result.andThen_ok, run_getMap hw, run_checkKey hdk hkc, run_findKey hdk e2, hold, run_stays hib, run_setObj hw hne, hsame, put_same hw, hborn, Sem.run_pure]

theorem eStamp_cons (n : Nat) (e : MapEntry) (es : List MapEntry) (i : Nat) : eStamp n (e :: es) i = match Nat.beq e.born n with
      | true => some i
      | false => eStamp n es (Nat.succ i) := rfl
theorem eStamp_sound (n : Nat) {l m : List MapEntry} (h : ER ρ l m) : ∀ (i r : Nat), eStamp n l i = some r → ∃ j, r = i + j ∧ m.findIdx? (fun e => (e.born : Int) == (n : Int)) = some j ∧ ∃ e v', l[j]? = some e ∧ m[j]? = some ⟨e.key, v', e.born⟩ ∧ plain1 e.key = true := by
  induction h with
  | nil => intro i r h; cases h
  | cons k v v' q l m hk hv _ ih =>
    intro i r h
    rw [eStamp_cons] at h
    split at h
    · rename_i hb
      cases h
      have hq := beq_iff.1 hb
      have hq : q = n := hq
      subst hq
      exact ⟨0, rfl, by simp [List.findIdx?_cons], _, v', rfl, rfl, hk⟩
    · rename_i hb
      obtain ⟨j, e1, e2, e, v2, e3, e4, e5⟩ := ih (i + 1) r h
      refine ⟨j + 1, by omega, ?_, e, v2, by simpa using e3, by simpa using e4, e5⟩
      have hne : ((q : Int) == (n : Int)) = false := by
        rw [beq_eq_false_iff_ne]
        intro hh
        have hh' : q = n := by omega
        have hb' : Nat.beq q n = false := hb
        rw [hh', Nat.beq_refl] at hb'
        cases hb'
      rw [List.findIdx?_cons]
      simp only [hne, Bool.false_eq_true, if_false, e2, Option.map_some]
theorem eEntryStore_sound (hR : R G ρ st w) {t : TypeId} {x x' s s' v v' : Value} {st' : St} (h : eEntryStore x s v st = some st') (hx : VR ρ x x') (hs : VR ρ s s') (hv : VR ρ v v') :
    ∃ w', (Instr.entryStore t x' s' v').run P w = .ok () w' ∧ R G ρ st' w' ∧ Went ρ st w ρ st' w' := by
  unfold eEntryStore at h
  split at h
  case h_2 => cases h
  rename_i b k n
  split at h
  case h_2 => cases h
  rename_i es cl hes
  split at h
  case h_2 => cases h
  rename_i i hi
  cases h
  have hent := St.entries_spec hes
  cases hs
  cases hx with
  | map _ c hb =>
  obtain ⟨g, ents, hg, hw, her, hz⟩ := hR.map hent
  rw [hb] at hg; cases hg
  have hne : ∀ arr t fr, (Obj.map ents cl) ≠ .cells arr t fr := fun _ _ _ h => by cases h
  obtain ⟨j, e1, e2, e, v2, e3, e4, e5⟩ := eStamp_sound n her 0 i hi
  have e1' : i = j := by omega
  subst e1'
  obtain ⟨r1, r2⟩ := hR.putMap (cl' := cl) (ents' := ents.modify i (fun e => { e with val := v' })) hent hb hw (by
        rw [Array.toList_modify]
        exact her.mod i e v2 e.key v v' e3 rfl e5 hv e4 _ (fun e' => .inr rfl)) hz
  refine ⟨_, ?_, r1, r2⟩
  have hfi : ents.findIdx? (fun e => (e.born : Int) == Int.ofNat n) = some i := by
    have : ents = ents.toList.toArray := by simp
    rw [this, List.findIdx?_toArray]; exact e2
  simp only [Instr.entryStore, Sem.run_bind, run_getMap hw, Result.andThen_ok, asInt, asIntOf, Sem.run_pure, hfi, run_setObj hw hne]

theorem delL_zero (e : MapEntry) (l : List MapEntry) : delL (e :: l) 0 = l := rfl
theorem delL_succ (e : MapEntry) (l : List MapEntry) (i : Nat) : delL (e :: l) (i + 1) = e :: delL l i := rfl
theorem ER.del {l m : List MapEntry} (h : ER ρ l m) : ∀ (j : Nat), j < l.length → ER ρ (delL l j) (m.eraseIdx j) := by
  induction h with
  | nil => intro j hj; simp at hj
  | cons k v v' q l m hk hv h ih =>
    intro j hj
    cases j with
    | zero => exact h
    | succ j => exact .cons _ _ _ _ _ _ hk hv (ih j (by simpa using hj))
theorem eDelete_sound {T : Tr TI} (hT : TOk P T) (hR : R G ρ st w) {t : TypeId} {ti : TI} (ht : TIok P t ti) {x x' k k' : Value} {st' : St} (h : eDelete T ti.d x k st = some st') (hx : VR ρ x x') (hk : VR ρ k k') (ts : Array TypeId) (hts : ts[0]? = some t) (ty : TypeId) :
    ∃ w', (Builtin.delete_ ts ty #[x', k']).run P w = .ok (.tuple #[]) w' ∧ R G ρ st' w' ∧ Went ρ st w ρ st' w' := by
  obtain ⟨d, hd, hr⟩ := ht.desc
  have h0 : (#[x', k'] : Array Value)[0]? = some x' := rfl
  have h1 : (#[x', k'] : Array Value)[1]? = some k' := rfl
  unfold eDelete at h
  split at h
  case h_3 => cases h
  · rename_i kt et he
    rw [he] at hr
    cases d <;> simp only [DescR] at hr
    obtain ⟨rfl, rfl⟩ := hr
    split at h
    case h_2 => cases h
    rename_i hko
    cases h
    obtain ⟨dk, hdk, hkc⟩ := eKeyOk_spec hT hko
    have hk' := hk.ib (key_ib hkc)
    subst hk'
    cases hx
    refine ⟨w, ?_, hR, Went.refl _ _ _⟩
    simp only [Builtin.delete_, hts, h0, h1, Sem.run_bind, run_underlying hd, Result.andThen_ok, run_checkKey hdk hkc, Sem.run_pure]
  · rename_i kt et b he
    rw [he] at hr
    cases d <;> simp only [DescR] at hr
    obtain ⟨rfl, rfl⟩ := hr
    split at h
    case h_2 => cases h
    rename_i es cl hko hes
    obtain ⟨dk, hdk, hkc⟩ := eKeyOk_spec hT hko
    have hk' := hk.ib (key_ib hkc)
    subst hk'
    have hent := St.entries_spec hes
    cases hx with
    | map _ c hb =>
    obtain ⟨g, ents, hg, hw, her, hz⟩ := hR.map hent
    rw [hb] at hg; cases hg
    have hne : ∀ arr t fr, (Obj.map ents cl) ≠ .cells arr t fr := fun _ _ _ h => by cases h
    cases hf : eFind k' es 0 with
    | none => rw [hf] at h; cases h
    | some r =>
      rw [hf] at h
      rcases eFind_sound hkc her 0 r hf with ⟨e1, e2⟩ | ⟨j, e, v2, e1, e2, e3, e4, e5, e6⟩
      · subst e1
        cases h
        refine ⟨w, ?_, hR, Went.refl _ _ _⟩
        simp only [Builtin.delete_, hts, h0, h1, Sem.run_bind, run_underlying hd, Result.andThen_ok, run_getMap hw, run_checkKey hdk hkc, run_findKey hdk e2, run_setObj hw hne, put_same hw, Sem.run_pure]
      · subst e1
        simp only [Nat.zero_add] at h e2
        cases h
        have hj : j < es.length := by
          rcases Nat.lt_or_ge j es.length with h' | h'
          · exact h'
          · rw [List.getElem?_eq_none h'] at e4; cases e4
        have hj' : j < ents.size := by rw [← Array.length_toList, ← her.length]; exact hj
        obtain ⟨r1, r2⟩ := hR.putMap (cl' := cl) (ents' := ents.eraseIdxIfInBounds j) hent hb hw (by
          rw [Array.eraseIdxIfInBounds, dif_pos hj', Array.toList_eraseIdx]
          exact her.del j hj) hz
        refine ⟨_, ?_, r1, r2⟩
        simp only [Builtin.delete_, hts, h0, h1, Sem.run_bind, run_underlying hd, Result.andThen_ok, run_getMap hw, run_checkKey hdk hkc, run_findKey hdk e2, run_setObj hw hne, Sem.run_pure]
end Go.Proofs.YtegfafebbnlicaaGreatDoor.Ev

namespace Go.Proofs.YtegfafebbnlicaaGreatDoor.Ev
open Go
set_option linter.unusedVariables false
set_option linter.unusedSimpArgs false

variable {P : Program} {G : Nat} {ρ : Ren} {st : St} {w : World}

/-! ### The cells that are appended -/
theorem loadCells_zero (a : Addr) (w : World) : (loadCells a 0).run P w = .ok #[] w := by simp [loadCells, loadCellsFrom]
theorem eData_sound (hR : R G ρ st w) {sz n : Nat} {x x' : Value} {data : List Value} (h : eData sz x n st = some data) (hx : VR ρ x x') :
    ∃ ds, (Builtin.firstCells sz n x').run P w = .ok ds w ∧ AR ρ data.toArray ds ∧ data.length = n * sz := by
  unfold eData at h
  split at h
  · split at h
    case h_2 => cases h
    cases h; cases hx
    exact ⟨#[], rfl, AR.nil ρ, by simp⟩
  · rename_i a len c
    split at h
    case h_2 => cases h
    rename_i hle
    have hle := ble_iff.1 hle
    obtain ⟨hl, g, ds, hg, hload, har, _⟩ := hR.load P h
    cases hx with
    | slc b c' o len cap hb =>
      simp only at hg hload
      rw [hb] at hg; cases hg
      exact ⟨ds, hload, har, hl⟩
    | slu b c' o o' len cap z hb hll ho hz =>
      simp only at hg hload
      rw [hb] at hg; cases hg
      rcases ho with rfl | h0
      · exact ⟨ds, hload, har, hl⟩
      · have hn : n = 0 := by omega
        subst hn
        have hl0 : data = [] := List.length_eq_zero_iff.1 (by rw [hl]; show 0 * sz = 0; omega)
        subst hl0
        exact ⟨#[], by simp only [Builtin.firstCells, Nat.zero_mul]; exact loadCells_zero _ _, AR.nil ρ, by simp⟩
  · cases h
/-- The run of append, where there is room, and where there is none. -/
theorem run_append_in (ts : Array TypeId) (ty t t' e : TypeId) (i : TypeInfo) (ht : ts[0]? = some t) (ht' : ts[1]? = some t') (hd : P.underlying t = some (.slice e)) {d' : TypeDesc} (hd' : P.underlying t' = some d') (hi : P.info? e = some i)
    (base : Option Addr) (len cap n : Nat) (x : Value) (hroom : len + n ≤ cap) (ds : Array Value) (w' : World)
    (hcase : (∃ b c, (d' = .slice b ∧ ∃ a, x = .slice a n c) ∧ (Builtin.firstCells i.size n x).run P w = .ok ds w) ∨
      (∃ k z, d' = .int k ∧ x = .int .i64 (Int.ofNat n) ∧ n ≤ 1048576 ∧ i.bytes ≤ 1024 ∧ i.zero = some z ∧ ds = if n * i.size = 0 then #[] else Builtin.zeroCells z.cells n))
    (hst : match base with | some a => (storeCells (a.add (len * i.size)) ds.toList).run P w = .ok () w' | none => w' = w) :
    (Builtin.append_ ts ty #[.slice base len cap, x]).run P w = .ok (.slice base (len + n) cap) w' := by
  have h0 : (#[Value.slice base len cap, x] : Array Value)[0]? = some (Value.slice base len cap) := rfl
  have h1 : (#[Value.slice base len cap, x] : Array Value)[1]? = some x := rfl
  rcases hcase with ⟨b, c, ⟨rfl, a, rfl⟩, hf⟩ | ⟨k, z, rfl, rfl, hn, hb, hz, hds⟩
  · simp only [Builtin.append_, ht, ht', h0, h1, Sem.run_bind, run_underlying hd, run_underlying hd', Result.andThen_ok, sizeOf, typeInfo, run_program, hi, Sem.run_pure, Builtin.lenOf, Bool.false_eq_true, if_false, Bool.not_false, if_true, hroom, hf]
    cases base with
    | none => simp only at hst; subst hst; simp
    | some a => simp only at hst; simp [hst]
  · have hwr : IntKind.i64.wrap (Int.ofNat n) = (n : Int) := wrap_small hn
    have hpos : ¬ ((n : Int) < 0) := by omega
    have hbig : ¬ ((n : Int) * (i.bytes : Int) > 2 ^ 48) := by
      have : ((n : Int) * (i.bytes : Int)) = ((n * i.bytes : Nat) : Int) := by simp
      rw [this]
      have : n * i.bytes ≤ 1048576 * 1024 := Nat.mul_le_mul hn hb
      omega
    have happ : ((if n * i.size = 0 then pure #[] else do pure (Builtin.zeroCells (← zeroValue e).cells n)) : Sem (Array Value)).run P w = .ok ds w := by
      subst hds
      by_cases h0 : n * i.size = 0
      · rw [if_pos h0, if_pos h0]; rfl
      · rw [if_neg h0, if_neg h0]
        simp [zeroValue, typeInfo, hi, hz]
    simp only [Builtin.append_, ht, ht', h0, h1, Sem.run_bind, run_underlying hd, run_underlying hd', Result.andThen_ok, sizeOf, typeInfo, run_program, hi, Sem.run_pure, asInt, asIntOf, hwr, hpos, hbig, if_false, Int.toNat_natCast, if_true, Bool.not_true, Bool.false_eq_true, hroom, happ]
    cases base with
    | none => simp only at hst; subst hst; simp
    | some a => simp only at hst; simp [hst]
theorem run_append_out (ts : Array TypeId) (ty t t' e : TypeId) (i : TypeInfo) (z : Value) (ht : ts[0]? = some t) (ht' : ts[1]? = some t') (hd : P.underlying t = some (.slice e)) {d' : TypeDesc} (hd' : P.underlying t' = some d') (hi : P.info? e = some i) (hz : i.zero = some z)
    (base : Option Addr) (len cap n : Nat) (x : Value) (hroom : ¬ len + n ≤ cap) (olds ds : Array Value) (hbytes : i.bytes ≤ 1024) (hneed : len + n ≤ 1048576)
    (hcase : ∀ w' : World, w'.heap = w.heap → ((∃ b c, (d' = .slice b ∧ ∃ a, x = .slice a n c) ∧ (Builtin.firstCells i.size n x).run P w' = .ok ds w') ∨
      (∃ k, d' = .int k ∧ x = .int .i64 (Int.ofNat n) ∧ ds = if n * i.size = 0 then #[] else Builtin.zeroCells z.cells n)))
    (hold : ∀ w' : World, w'.heap = w.heap → (Builtin.firstCells i.size len (.slice base len cap)).run P w' = .ok olds w') :
    ∃ d c rest, (Builtin.append_ ts ty #[.slice base len cap, x]).run P w = .ok (.slice (some ⟨w.heap.size, 0, none⟩) (len + n) c) { w with heap := w.heap.push (.cells (olds ++ ds ++ rest) e (0, 0)), drawn := d } ∧ len + n ≤ c ∧ rest.size = (c - (len + n)) * z.cells.size := by
  have h0 : (#[Value.slice base len cap, x] : Array Value)[0]? = some (Value.slice base len cap) := rfl
  have h1 : (#[Value.slice base len cap, x] : Array Value)[1]? = some x := rfl
  have hn1 : n ≤ 1048576 := by omega
  have hwr : IntKind.i64.wrap (Int.ofNat n) = (n : Int) := wrap_small hn1
  have hpos : ¬ ((n : Int) < 0) := by omega
  have hfit : ¬ (Builtin.nextslicecap (len + n) cap * i.bytes > 2 ^ 48) := by
    have h1 := growslice_fits (need := len + n) (old := cap) (bytes := i.bytes) (by omega) (by
      have : (len + n) * i.bytes ≤ 1048576 * 1024 := Nat.mul_le_mul hneed hbytes
      omega)
    omega
  have h63 : ¬ (((len + n : Nat) : Int) > IntKind.i64.max) := by
    have : (IntKind.i64.max : Int) = 9223372036854775807 := rfl
    rw [this]; omega
  have hbig : ¬ ((n : Int) * (i.bytes : Int) > 2 ^ 48) := by
    have : ((n : Int) * (i.bytes : Int)) = ((n * i.bytes : Nat) : Int) := by simp
    rw [this]
    have : n * i.bytes ≤ 1048576 * 1024 := Nat.mul_le_mul hn1 hbytes
    omega
  have hzv : ∀ w : World, (zeroValue e).run P w = .ok z w := fun w => by simp [zeroValue, typeInfo, hi, hz]
  refine ⟨w.drawn + 1, grownCap w (len + n) cap e, Builtin.zeroCells z.cells (grownCap w (len + n) cap e - (len + n)), ?_, ?_, ?_⟩
  · have hdr : ({ w with drawn := w.drawn + 1 } : World).heap = w.heap := rfl
    rcases hcase _ hdr with ⟨b, c, ⟨rfl, a, rfl⟩, hf⟩ | ⟨k, rfl, rfl, hds⟩
    · simp only [Builtin.append_, ht, ht', h0, h1, Sem.run_bind, run_underlying hd, run_underlying hd', Result.andThen_ok, sizeOf, typeInfo, run_program, hi, Sem.run_pure, Builtin.lenOf, Bool.false_eq_true, if_false, Bool.not_false, if_true, hroom, hfit, h63, false_and, run_choose, Question.forced, run_askRoom, hf, hold _ hdr, hzv, newRow, run_newObj, grownCap]
    · have happ : ((if n * i.size = 0 then pure #[] else do pure (Builtin.zeroCells (← zeroValue e).cells n)) : Sem (Array Value)).run P ({ w with drawn := w.drawn + 1 } : World) = .ok ds ({ w with drawn := w.drawn + 1 } : World) := by
        subst hds
        by_cases h0 : n * i.size = 0
        · rw [if_pos h0, if_pos h0]; rfl
        · rw [if_neg h0, if_neg h0]
          simp [zeroValue, typeInfo, hi, hz]
      simp only [Builtin.append_, ht, ht', h0, h1, Sem.run_bind, run_underlying hd, run_underlying hd', Result.andThen_ok, sizeOf, typeInfo, run_program, hi, Sem.run_pure, asInt, asIntOf, hwr, hpos, hbig, if_false, Int.toNat_natCast, if_true, Bool.not_true, Bool.false_eq_true, hroom, hfit, h63, false_and, run_choose, Question.forced, run_askRoom, happ, hold _ hdr, hzv, newRow, run_newObj, grownCap]
  · unfold grownCap
    simp only [Question.cut]
    omega
  · simp [Builtin.zeroCells]

/-- One more number for a block that is live under another number, which goes. -/
theorem R.rename (hR : R G ρ st w) {b g : Nat} {o o' : EObj} {x : Obj} {w' : World} (hb : st.h.get b = some o) (hρ : ρ b = some g) (hfree : ρ st.nx = none) (ho : ObjR (ρ.add st.nx g (ρ.sz g)) o' x) (hN0 : objN x = ρ.sz g)
    (hx : w'.heap[g]? = some x) (hk : ∀ k, k ≠ g → w'.heap[k]? = w.heap[k]?) (hsz : w'.heap.size = w.heap.size) (hos : w'.os = w.os) (htp : w'.tape = w.tape) (hout : w'.output = w.output) :
    R G (ρ.add st.nx g (ρ.sz g)) ⟨(st.h.del b).set st.nx o', Nat.succ st.nx⟩ w' ∧ Went ρ st w (ρ.add st.nx g (ρ.sz g)) ⟨(st.h.del b).set st.nx o', Nat.succ st.nx⟩ w' := by
  have hle : ρ.le (ρ.add st.nx g (ρ.sz g)) := Ren.le_add hfree (fun k hk => rfl)
  have hbx : b ≠ st.nx := fun he => by have := (hR.dom b g hρ).1; omega
  have hget : ∀ b1 o1, ((st.h.del b).set st.nx o').get b1 = some o1 → (b1 = st.nx ∧ o1 = o') ∨ (b1 ≠ st.nx ∧ b1 ≠ b ∧ st.h.get b1 = some o1) := by
    intro b1 o1 h1
    rw [Tr.get_set] at h1
    by_cases e1 : b1 = st.nx
    · rw [if_pos e1] at h1; cases h1; exact .inl ⟨e1, rfl⟩
    · rw [if_neg e1, Tr.get_del] at h1
      by_cases e2 : b1 = b
      · rw [if_pos e2] at h1; cases h1
      · rw [if_neg e2] at h1; exact .inr ⟨e1, e2, h1⟩
  refine ⟨⟨?_, ?_, ?_, ?_⟩, ⟨hle, Nat.le_succ _, Nat.le_of_eq hsz.symm, ?_, ?_, ?_, hos, htp, hout⟩⟩
  · intro b1 o1 h1
    rcases hget b1 o1 h1 with ⟨rfl, rfl⟩ | ⟨e1, e2, h1⟩
    · exact ⟨g, x, Ren.add_at ρ _ _ _, hx, ho, by rw [Ren.add_sz]; exact hN0⟩
    · obtain ⟨c, y, hc, hy, hr, hn⟩ := hR.live b1 o1 h1
      refine ⟨c, y, (hle _ _ hc).1, ?_, hr.mono hle, by rw [(hle _ _ hc).2]; exact hn⟩
      rw [hk c, hy]
      intro he; subst he
      exact e2 (hR.inj b1 b o1 o c h1 hb hc hρ)
  · intro b1 b2 o1 o2 c h1 h2 hc1 hc2
    rcases hget b1 o1 h1 with ⟨e1, -⟩ | ⟨e1, e1', h1⟩ <;> rcases hget b2 o2 h2 with ⟨e2, -⟩ | ⟨e2, e2', h2⟩
    · rw [e1, e2]
    · rw [e1, Ren.add_at] at hc1; cases hc1
      rw [Ren.add_ne ρ e2] at hc2
      exact absurd (hR.inj b2 b o2 o g h2 hb hc2 hρ) e2'
    · rw [e2, Ren.add_at] at hc2; cases hc2
      rw [Ren.add_ne ρ e1] at hc1
      exact absurd (hR.inj b1 b o1 o g h1 hb hc1 hρ) e1'
    · rw [Ren.add_ne ρ e1] at hc1; rw [Ren.add_ne ρ e2] at hc2
      exact hR.inj b1 b2 o1 o2 c h1 h2 hc1 hc2
  · intro b1 c hc
    rw [hsz]
    by_cases e1 : b1 = st.nx
    · rw [e1, Ren.add_at] at hc; cases hc
      exact ⟨by rw [e1]; exact Nat.lt_succ_self _, (hR.dom b g hρ).2⟩
    · rw [Ren.add_ne ρ e1] at hc
      exact ⟨Nat.lt_succ_of_lt (hR.dom b1 c hc).1, (hR.dom b1 c hc).2⟩
  · intro q hq
    exact (hle q q (hR.glob q hq)).1
  · intro c y hy hn
    rw [hk c, hy]
    intro he; subst he
    exact hn b o hb hρ
  · intro b1 o1 c h1 hc
    rcases hget b1 o1 h1 with ⟨e1, -⟩ | ⟨e1, e1', h1⟩
    · rw [e1, Ren.add_at] at hc; cases hc
      exact .inl ⟨b, o, hb, hρ⟩
    · rw [Ren.add_ne ρ e1] at hc
      exact .inl ⟨b1, o1, h1, hc⟩
  · intro b1 c h1 h2
    by_cases e1 : b1 = st.nx
    · omega
    · rw [Ren.add_ne ρ e1] at h2; rw [h1] at h2; cases h2
theorem R.free (hR : R G ρ st w) : ρ st.nx = none := by
  cases h : ρ st.nx with
  | none => rfl
  | some c => exact absurd (hR.dom _ _ h).1 (Nat.lt_irrefl _)

/-- The cells of a grown block. -/
theorem CR.grown {l : List Value} {arr rest : Array Value} (h : AR ρ l.toArray arr) : CR ρ l.length (Ev.ofL l) (arr ++ rest) := by
  intro i hi
  obtain ⟨v, v', h1, h2, h3⟩ := CR.ofL h i hi
  refine ⟨v, v', h1, ?_, h3⟩
  have : i < arr.size := by have := h.1; simp at this; omega
  rw [Array.getElem?_append_left this]; exact h2
theorem storeL_ofL (a b : List Value) : ∀ m, (storeL b (Ev.ofL a) a.length).get m = (Ev.ofL (a ++ b)).get m := by
  intro m
  unfold Ev.ofL
  rw [storeL_get, storeL_get, storeL_get]
  simp only [Nat.zero_le, true_and, Nat.zero_add, Nat.sub_zero, List.length_append]
  by_cases h1 : a.length ≤ m ∧ m < a.length + b.length
  · rw [if_pos h1, if_pos h1.2, List.getElem?_append_right h1.1]
  · rw [if_neg h1]
    by_cases h2 : m < a.length
    · rw [if_pos h2, if_pos (by omega), List.getElem?_append_left h2]
    · rw [if_neg h2, if_neg (by omega)]
theorem CR.congr {n : Nat} {c c' : Tr Value} {arr : Array Value} (h : CR ρ n c arr) (hc : ∀ m, m < n → c'.get m = c.get m) : CR ρ n c' arr :=
  fun i hi => let ⟨v, v', a, b, r⟩ := h i hi; ⟨v, v', by rw [hc i hi]; exact a, b, r⟩
theorem R.sub {st2 : St} (hR : R G ρ st w) (h : ∀ b o, st2.h.get b = some o → st.h.get b = some o) (hn : st2.nx = st.nx) : R G ρ st2 w where
  live := fun b o hb => hR.live b o (h b o hb)
  inj := fun b b' o o' c h1 h2 => hR.inj b b' o o' c (h _ _ h1) (h _ _ h2)
  dom := fun b c hc => by rw [hn]; exact hR.dom b c hc
  glob := hR.glob
theorem Went.sub {ρ' : Ren} {st1 st2 : St} {w' : World} (hW : Went ρ st w ρ' st1 w') (h : ∀ b o, st2.h.get b = some o → st1.h.get b = some o) (hn : st2.nx = st1.nx) : Went ρ st w ρ' st2 w' where
  le := hW.le
  nx := by rw [hn]; exact hW.nx
  size := hW.size
  frame := hW.frame
  fresh := fun b o c hb hc => hW.fresh b o c (h _ _ hb) hc
  new := hW.new
  os := hW.os
  tape := hW.tape
  output := hW.output
theorem loadL_total {c : Tr Value} {arr : Array Value} {m : Nat} (hc : CR ρ m c arr) : ∀ (n o : Nat), o + n ≤ m → ∃ l, loadL c n o = some l ∧ ∀ i, i < n → c.get (o + i) = l[i]?
  | 0, o, h => ⟨[], rfl, fun i hi => absurd hi (Nat.not_lt_zero _)⟩
  | n + 1, o, h => by
    obtain ⟨v, v', h1, _, _⟩ := hc o (by omega)
    obtain ⟨l, h2, h3⟩ := loadL_total hc n (o + 1) (by omega)
    refine ⟨v :: l, by rw [loadL_succ, h1]; simp only [h2], fun i hi => ?_⟩
    cases i with
    | zero => exact h1
    | succ i => rw [show o + (i + 1) = o + 1 + i by omega, h3 i (by omega)]; rfl
/-- Stores into a block of the world. -/
theorem run_stores (P : Program) {g : Nat} {t : TypeId} {fr : Nat × Nat} (o : Nat) : ∀ (vs : List Value) (i : Nat) (arr : Array Value) (w : World), w.heap[g]? = some (.cells arr t fr) → (∀ i, i < arr.size → ¬ (fr.1 ≤ i ∧ i < fr.2)) → o + i + vs.length ≤ arr.size → (∀ v ∈ vs, v.oneCell' = true) →
    ∃ w' arr', (storeCells ⟨g, o, none⟩ vs i).run P w = .ok () w' ∧ w'.heap[g]? = some (.cells arr' t fr) ∧ arr'.size = arr.size ∧ (∀ j, arr'[j]? = if o + i ≤ j ∧ j < o + i + vs.length then vs[j - (o + i)]? else arr[j]?) ∧
      (∀ k, k ≠ g → w'.heap[k]? = w.heap[k]?) ∧ w'.heap.size = w.heap.size ∧ w'.os = w.os ∧ w'.tape = w.tape ∧ w'.output = w.output
  | [], i, arr, w, hw, hf, hle, h1 => ⟨w, arr, rfl, hw, rfl, fun j => by rw [if_neg (by simp)], fun _ _ => rfl, rfl, rfl, rfl, rfl⟩
  | v :: vs, i, arr, w, hw, hf, hle, h1 => by
    simp only [List.length_cons] at hle
    have hlt : o + i < arr.size := by omega
    obtain ⟨w', arr', e1, e2, e3, e4, e5, e6, e7, e8, e9⟩ := run_stores P o vs (i + 1) (arr.setIfInBounds (o + i) v) (w.setCell ⟨g, o + i, none⟩ v) (heap_set_cell hw) (by simpa using hf) (by simp; omega) (fun x hx => h1 x (by simp [hx]))
    refine ⟨w', arr', ?_, e2, by rw [e3]; simp, fun j => ?_, fun k hk => by rw [e5 k hk]; exact heap_set_other hk, by rw [e6]; simp [World.setCell], e7, e8, e9⟩
    · rw [storeCells]
      simp only [Sem.run_bind, add_none, run_store P w _ v _ (h1 v (by simp)), cell_of hw, Array.getElem?_eq_getElem hlt, frozen_of hw hf hlt, Bool.false_eq_true, if_false, Result.andThen_ok]
      exact e1
    · rw [e4 j]
      simp only [List.length_cons]
      by_cases h1 : o + (i + 1) ≤ j ∧ j < o + (i + 1) + vs.length
      · rw [if_pos h1, if_pos (by omega), show j - (o + i) = (j - (o + (i + 1))) + 1 by omega]; rfl
      · rw [if_neg h1]
        by_cases h2 : j = o + i
        · subst h2
          rw [if_pos (by omega), Nat.sub_self, Array.getElem?_setIfInBounds_self]
          simp [hlt]
        · rw [if_neg (by omega), Array.getElem?_setIfInBounds_ne (by omega)]

theorem AR.app {a b : List Value} {c d : Array Value} (h : AR ρ a.toArray c) (h' : AR ρ b.toArray d) : AR ρ (a ++ b).toArray (c ++ d) := by
  have := h.append h'
  simpa using this

/-- What is appended, as the evaluator and the world have it. -/
def Appd (P : Program) (ρ : Ren) (w : World) (i : TypeInfo) (z : Value) (d' : TypeDesc) (n : Nat) (data : List Value) (x : Value) : Prop :=
  ∃ ds, AR ρ data.toArray ds ∧ data.length = n * i.size ∧ ∀ w' : World, w'.heap = w.heap →
    ((∃ b c, (d' = .slice b ∧ ∃ a, x = .slice a n c) ∧ (Builtin.firstCells i.size n x).run P w' = .ok ds w') ∨
      (∃ k, d' = .int k ∧ x = .int .i64 (Int.ofNat n) ∧ n ≤ 1048576 ∧ ds = if n * i.size = 0 then #[] else Builtin.zeroCells z.cells n))

theorem eAppend_sound (hR : R G ρ st w) (ts : Array TypeId) (ty t t' e : TypeId) (i : TypeInfo) (z : Value) (ht : ts[0]? = some t) (ht' : ts[1]? = some t') (hd : P.underlying t = some (.slice e)) {d' : TypeDesc} (hd' : P.underlying t' = some d') (hi : P.info? e = some i) (hz : i.zero = some z)
    {sz by_ n : Nat} (hsz : i.size = sz) (hby : i.bytes = by_) (hzs : z.cells.size = sz) {s s' x v : Value} {data : List Value} {st' : St} (h : eAppend e sz by_ s n data st = some (v, st')) (hs : VR ρ s s') (hx : Appd P ρ w i z d' n data x) :
    ∃ v' ρ' w', (Builtin.append_ ts ty #[s', x]).run P w = .ok v' w' ∧ R G ρ' st' w' ∧ Went ρ st w ρ' st' w' ∧ VR ρ' v v' := by
  obtain ⟨ds, har, hdl, hcase⟩ := hx
  have hdsz : ds.size = n * sz := by have := har.1; simp at this; rw [← hsz]; omega
  unfold eAppend at h
  split at h
  case h_2 => cases h
  rename_i base len cap
  split at h
  case h_2 => cases h
  rename_i b1 b2 b3 b4
  have hneed : len + n ≤ 1048576 := ble_iff.1 b1
  have hbytes : i.bytes ≤ 1024 := by rw [hby]; exact ble_iff.1 b2
  have hszp : 1 ≤ sz := ble_iff.1 b3
  have hone := oneCells_iff _ b4
  have hn1 : n ≤ 1048576 := by omega
  have hin : ∀ w' : World, w'.heap = w.heap → (∃ b c, (d' = .slice b ∧ ∃ a, x = .slice a n c) ∧ (Builtin.firstCells i.size n x).run P w' = .ok ds w') ∨
      (∃ k z, d' = .int k ∧ x = .int .i64 (Int.ofNat n) ∧ n ≤ 1048576 ∧ i.bytes ≤ 1024 ∧ i.zero = some z ∧ ds = if n * i.size = 0 then #[] else Builtin.zeroCells z.cells n) := by
    intro w' hw'
    rcases hcase w' hw' with h | ⟨k, h1, h2, h3, h4⟩
    · exact .inl h
    · exact .inr ⟨k, z, h1, h2, h3, hbytes, hz, h4⟩
  have hout : ∀ w' : World, w'.heap = w.heap → (∃ b c, (d' = .slice b ∧ ∃ a, x = .slice a n c) ∧ (Builtin.firstCells i.size n x).run P w' = .ok ds w') ∨
      (∃ k, d' = .int k ∧ x = .int .i64 (Int.ofNat n) ∧ ds = if n * i.size = 0 then #[] else Builtin.zeroCells z.cells n) := by
    intro w' hw'
    rcases hcase w' hw' with h | ⟨k, h1, h2, h3, h4⟩
    · exact .inl h
    · exact .inr ⟨k, h1, h2, h4⟩
  /- a new block -/
  have hnew : ∀ (old : List Value) (olds : Array Value) (base' : Option Addr) (cap' : Nat), AR ρ old.toArray olds → old.length = len * sz → ¬ len + n ≤ cap' → s' = .slice base' len cap' →
      (∀ w' : World, w'.heap = w.heap → (Builtin.firstCells i.size len (.slice base' len cap')).run P w' = .ok olds w') → ∀ c : Tr Value, (∀ m, m < old.length + data.length → c.get m = (Ev.ofL (old ++ data)).get m) →
      ∃ v' ρ' w', (Builtin.append_ ts ty #[s', x]).run P w = .ok v' w' ∧ R G ρ' (st.new (.cells e (old.length + data.length) true c)) w' ∧ Went ρ st w ρ' (st.new (.cells e (old.length + data.length) true c)) w' ∧
        VR ρ' (.slice (some ⟨st.nx, 0, some sz⟩) (len + n) (len + n)) v' := by
    intro old olds base' cap' ho hol hroom hs' hold c hc
    obtain ⟨dr, cc, rest, hrun, hcc, hrest⟩ := run_append_out ts ty t t' e i z ht ht' hd hd' hi hz base' len cap' n x hroom olds ds hbytes hneed hout hold
    have happ := ho.app har
    have hosz : olds.size = len * sz := by have := ho.1; simp at this; omega
    have hsize : (olds ++ ds ++ rest).size = cc * sz := by
      simp only [Array.size_append, hosz, hdsz, hrest, hzs]
      rw [← Nat.add_mul, ← Nat.add_mul]
      congr 1; omega
    have hobj : ObjR (ρ.add st.nx w.heap.size (objN (.cells (olds ++ ds ++ rest) e (0, 0)))) (.cells e (old.length + data.length) true c) (.cells (olds ++ ds ++ rest) e (0, 0)) := by
      refine ⟨rfl, fun i _ h => absurd h.2 (Nat.not_lt_zero _), ?_, (by intro h; cases h), ?_⟩
      · rw [hsize, hol, hdl, hsz, ← Nat.add_mul]; exact Nat.mul_le_mul_right _ hcc
      · have := (CR.grown (rest := rest) happ)
        rw [List.length_append] at this
        exact (this.mono (Ren.le_add hR.free (fun k hk => absurd (hR.dom k _ hk).2 (Nat.lt_irrefl _)))).congr hc
    obtain ⟨r1, r2, r3⟩ := hR.new (b := st.nx) (nx := Nat.succ st.nx) (w' := { w with heap := w.heap.push (.cells (olds ++ ds ++ rest) e (0, 0)), drawn := dr }) hR.free (Nat.le_succ _) (Nat.lt_succ_self _) hobj rfl rfl rfl rfl
    refine ⟨_, _, _, by rw [hs']; exact hrun, r1, r3 (Nat.le_refl _), ?_⟩
    refine .slu st.nx w.heap.size 0 0 (len + n) cc sz (Ren.add_at ρ _ _ _) hcc (.inl rfl) (fun _ => ?_)
    rw [Ren.add_sz]
    show 0 + cc * sz ≤ (olds ++ ds ++ rest).size
    rw [hsize]; omega
  split at h
  · /- nil -/
    cases hs
    split at h
    · cases h
      refine ⟨.slice none 0 0, ρ, w, ?_, hR, Went.refl _ _ _, .nils⟩
      exact run_append_in ts ty t t' e i ht ht' hd hd' hi none 0 0 0 x (Nat.le_refl _) ds w (hin w rfl) rfl
    · rename_i k
      cases h
      have := hnew [] #[] none 0 (AR.nil ρ) (by simp) (by omega) rfl (fun w' _ => rfl) (Ev.ofL data) (fun m _ => by rw [List.nil_append])
      simpa using this
  · /- a known capacity -/
    rename_i b o
    cases hs with
    | slc _ g _ _ _ hb =>
    split at h
    · rename_i hroom
      have hroom := ble_iff.1 hroom
      split at h
      case h_2 => cases h
      rename_i st1 hst
      cases h
      obtain ⟨g', w', hg, hrun, hR', hW⟩ := hR.store P hst (by simpa using har : AR ρ data.toArray ds.toList.toArray) hone
      rw [hb] at hg; cases hg
      refine ⟨.slice (some ⟨g, o, none⟩) (len + n) cap, ρ, w', ?_, hR', hW, .slc b g o _ _ hb⟩
      exact run_append_in ts ty t t' e i ht ht' hd hd' hi (some ⟨g, o, none⟩) len cap n x hroom ds w' (hin w rfl) (by show (storeCells ((⟨g, o, none⟩ : Addr).add (len * i.size)) ds.toList).run P w = _; rw [add_none, hsz]; exact hrun)
    · rename_i hroom
      have hroom : ¬ len + n ≤ cap := fun hle => by rw [show Nat.ble (Nat.add len n) cap = true from ble_iff.2 hle] at hroom; cases hroom
      split at h
      case h_2 => cases h
      rename_i old hload
      cases h
      obtain ⟨hol, g', olds, hg, hrun, hoar, _⟩ := hR.load P hload
      rw [hb] at hg; cases hg
      refine hnew old olds (some ⟨g, o, none⟩) cap hoar hol hroom rfl (fun w' hw' => ?_) _ (fun m _ => storeL_ofL old data m)
      have hload' := (hR.congr hw').load P hload
      obtain ⟨_, g'', ds', hg', hrun', har', hc'⟩ := hload'
      rw [hb] at hg'; cases hg'
      have he : ds' = olds := by
        have h1 : (loadCells ⟨g, o, none⟩ (len * sz)).run P w = .ok olds w := hrun
        have h2 : (loadCells ⟨g, o, none⟩ (len * sz)).run P w' = .ok ds' w' := hrun'
        apply Array.ext_getElem?
        intro q
        obtain ⟨_, _, ds2, hg2, hrun2, har2, hc2⟩ := hR.load P hload
        rw [hb] at hg2; cases hg2
        have : ds2 = olds := by have := hrun2.symm.trans h1; cases this; rfl
        subst this
        by_cases hq : q < len * sz
        · rw [← hc' q hq, ← hc2 q hq]
          simp [World.cell?, hw']
        · have e1 : ds'.size = len * sz := by have := har'.1; simp [hol] at this; exact this.symm
          have e2 : ds2.size = len * sz := by have := har2.1; simp [hol] at this; exact this.symm
          rw [Array.getElem?_eq_none (by omega), Array.getElem?_eq_none (by omega)]
      rw [hsz]
      subst he
      exact hrun'
  · /- a capacity that is not known -/
    rename_i b o zz
    cases hs with
    | slu _ g _ o' _ cap' _ hb hll ho hzc =>
    split at h
    · cases h
      refine ⟨.slice (some ⟨g, o', none⟩) len cap', ρ, w, ?_, hR, Went.refl _ _ _, .slu b g o o' len cap' zz hb hll ho hzc⟩
      have hd0 : ds = #[] := Array.eq_empty_of_size_eq_zero (by rw [hdsz]; omega)
      have := run_append_in (P := P) (w := w) ts ty t t' e i ht ht' hd hd' hi (some ⟨g, o', none⟩) len cap' 0 x hll ds w (hin w rfl) (by subst hd0; rfl)
      exact this
    · rename_i k
      split at h
      case h_2 => cases h
      rename_i t0 m u c hzz ho0 hget
      split at h
      case h_2 => cases h
      rename_i hte hm
      have hzz := beq_iff.1 hzz
      have ho0 := beq_iff.1 ho0
      have hte := beq_iff.1 hte
      have hm : len * sz ≤ m := ble_iff.1 hm
      subst hzz ho0 hte
      cases h
      obtain ⟨g', arr, fr, hg, hw, hf, hmn, hu, hcr, hN⟩ := hR.cells hget
      rw [hb] at hg; cases hg
      by_cases hroom : len + (k + 1) ≤ cap'
      · /- in place -/
        have ho' : o' = 0 := by rcases ho with h | h; exact h; omega
        subst ho'
        have hcap := hzc (by omega)
        have hdl' : data.length = (k + 1) * zz := by rw [hdl, hsz]
        have hfit : len * zz + data.length ≤ arr.size := by
          rw [hdl', ← Nat.add_mul, hN]
          have := Nat.mul_le_mul_right zz hroom
          omega
        have hdl2 : ds.toList.length = data.length := by rw [Array.length_toList, hdsz, hdl']
        have hone' : ∀ v ∈ ds.toList, v.oneCell' = true := by
          intro v hv
          obtain ⟨q, hq, hqv⟩ := List.mem_iff_getElem.1 hv
          have hqd : q < data.length := by omega
          have h1 := har.2 q data[q] ds[q] (by simp [hqd]) (by simp at hq; simp [hq])
          rw [← hqv, Array.getElem_toList, h1.oneCell]
          exact hone _ (List.getElem_mem hqd)
        obtain ⟨w', arr', e1, e2, e3, e4, e5, e6, e7, e8, e9⟩ := run_stores P (len * zz) ds.toList 0 arr w hw hf (by rw [hdl2]; omega) hone'
        have hobj : ObjR (ρ.add st.nx g (ρ.sz g)) (.cells t0 (len * zz + data.length) true (storeL data c (len * zz))) (.cells arr' t0 fr) := by
          refine ⟨rfl, by rw [e3]; exact hf, by rw [e3]; exact hfit, (by intro h; cases h), fun q hq => ?_⟩
          rw [storeL_get, e4 q]
          simp only [Nat.add_zero, hdl2]
          by_cases h1 : len * zz ≤ q ∧ q < len * zz + data.length
          · rw [if_pos h1, if_pos h1]
            have hq2 : q - len * zz < data.length := by omega
            obtain ⟨y, hy, hr⟩ := har.get (i := q - len * zz) (x := data[q - len * zz]) (by simp [hq2])
            exact ⟨_, y, List.getElem?_eq_getElem hq2, by rw [Array.getElem?_toList]; exact hy, hr.mono (Ren.le_add hR.free (fun _ _ => rfl))⟩
          · rw [if_neg h1, if_neg h1]
            obtain ⟨x1, x2, x3, x4, x5⟩ := hcr q (by omega)
            exact ⟨x1, x2, x3, x4, x5.mono (Ren.le_add hR.free (fun _ _ => rfl))⟩
        obtain ⟨r1, r2⟩ := hR.rename hget hb hR.free hobj (by show arr'.size = _; rw [e3]; exact hN) e2 e5 e6 e7 e8 e9
        refine ⟨.slice (some ⟨g, 0, none⟩) (len + (k + 1)) cap', _, w', ?_, r1, r2, ?_⟩
        · exact run_append_in ts ty t t' t0 i ht ht' hd hd' hi (some ⟨g, 0, none⟩) len cap' (k + 1) x hroom ds w' (hin w rfl) (by show (storeCells ((⟨g, 0, none⟩ : Addr).add (len * i.size)) ds.toList).run P w = _; rw [add_none, hsz, Nat.zero_add]; exact e1)
        · refine .slu st.nx g 0 0 (len + (k + 1)) cap' zz (Ren.add_at ρ _ _ _) hroom (.inl rfl) (fun _ => ?_)
          rw [Ren.add_sz]; exact hcap
      · /- a new block -/
        obtain ⟨old, hload, hold⟩ := loadL_total hcr (len * zz) 0 (by omega)
        have hst : st.load b 0 (len * zz) = some old := by
          unfold St.load
          rw [hget]
          simp only
          rw [show Nat.ble (Nat.add 0 (len * zz)) m = true from ble_iff.2 (by show 0 + len * zz ≤ m; omega)]
          exact hload
        obtain ⟨hol, g', olds, hg, hrun, hoar, hoc⟩ := hR.load P hst
        rw [hb] at hg; cases hg
        have hfirst : ∀ w' : World, w'.heap = w.heap → (Builtin.firstCells i.size len (.slice (some ⟨g, o', none⟩) len cap')).run P w' = .ok olds w' := by
          intro w' hw'
          obtain ⟨_, g'', ds', hg', hrun', har', hc'⟩ := (hR.congr hw').load P hst
          rw [hb] at hg'; cases hg'
          have e1 : ds'.size = len * zz := by have := har'.1; simp [hol] at this; exact this.symm
          have e2 : olds.size = len * zz := by have := hoar.1; simp [hol] at this; exact this.symm
          have he : ds' = olds := by
            apply Array.ext_getElem?
            intro q
            by_cases hq : q < len * zz
            · rw [← hc' q hq, ← hoc q hq]
              simp [World.cell?, hw']
            · rw [Array.getElem?_eq_none (by omega), Array.getElem?_eq_none (by omega)]
          subst he
          rw [hsz]
          rcases ho with rfl | h0
          · exact hrun'
          · have hl0 : len = 0 := by omega
            subst hl0
            have : ds' = #[] := Array.eq_empty_of_size_eq_zero (by rw [e1]; omega)
            subst this
            simp only [Builtin.firstCells, Nat.zero_mul]
            exact loadCells_zero _ _
        obtain ⟨v', ρ', w', q1, q2, q3, q4⟩ := hnew old olds (some ⟨g, o', none⟩) cap' hoar hol hroom rfl hfirst (storeL data c (len * zz)) (by
          intro q hq
          rw [storeL_get]
          unfold Ev.ofL
          rw [storeL_get]
          simp only [Nat.zero_le, true_and, Nat.zero_add, Nat.sub_zero, List.length_append]
          rw [hol] at hq ⊢
          rw [if_pos (show q < len * zz + data.length from hq)]
          by_cases h1 : len * zz ≤ q ∧ q < len * zz + data.length
          · rw [if_pos h1, List.getElem?_append_right (by omega), hol]
          · rw [if_neg h1, List.getElem?_append_left (by omega)]
            have := hold q (by omega)
            rw [Nat.zero_add] at this
            exact this)
        rw [hol] at q2 q3
        have hsub : ∀ b1 o1, (((st.h.del b).set st.nx (.cells t0 (Nat.add (len * zz) data.length) true (storeL data c (len * zz)))).get b1 = some o1) →
            (st.new (.cells t0 (len * zz + data.length) true (storeL data c (len * zz)))).h.get b1 = some o1 := by
          intro b1 o1 h1
          rw [Tr.get_set] at h1
          show (st.h.set st.nx _).get b1 = _
          rw [Tr.get_set]
          by_cases e1 : b1 = st.nx
          · rw [if_pos e1] at h1 ⊢; exact h1
          · rw [if_neg e1] at h1 ⊢
            rw [Tr.get_del] at h1
            by_cases e2 : b1 = b
            · rw [if_pos e2] at h1; cases h1
            · rw [if_neg e2] at h1; exact h1
        exact ⟨v', ρ', w', q1, q2.sub hsub rfl, q3.sub hsub rfl, q4⟩
end Go.Proofs.YtegfafebbnlicaaGreatDoor.Ev

namespace Go.Proofs.YtegfafebbnlicaaGreatDoor.Ev
open Go
set_option linter.unusedVariables false
set_option linter.unusedSimpArgs false

variable {P : Program} {G : Nat} {ρ : Ren} {st : St} {w : World}

theorem firstCells_heap {sz n : Nat} {x' : Value} {data : List Value} {x : Value} (hR : R G ρ st w) (h : eData sz x n st = some data) (hx : VR ρ x x') :
    ∃ ds, AR ρ data.toArray ds ∧ data.length = n * sz ∧ ∀ w' : World, w'.heap = w.heap → (Builtin.firstCells sz n x').run P w' = .ok ds w' := by
  obtain ⟨ds, h1, h2, h3⟩ := eData_sound (P := P) hR h hx
  refine ⟨ds, h2, h3, fun w' hw' => ?_⟩
  obtain ⟨ds', h1', h2', h3'⟩ := eData_sound (P := P) (hR.congr hw') h hx
  /- the same cells -/
  have hsame : ds' = ds := by
    unfold eData at h
    split at h
    · split at h
      case h_2 => cases h
      cases h; cases hx
      cases h1; cases h1'; rfl
    · rename_i a len c
      split at h
      case h_2 => cases h
      obtain ⟨hl, g, d1, hg, hload, har, hc⟩ := hR.load P h
      obtain ⟨hl', g', d2, hg', hload', har', hc'⟩ := (hR.congr hw').load P h
      rw [hg] at hg'; cases hg'
      have hd : d2 = d1 := by
        have e1 : d1.size = n * sz := by have := har.1; simp [hl] at this; exact this.symm
        have e2 : d2.size = n * sz := by have := har'.1; simp [hl] at this; exact this.symm
        apply Array.ext_getElem?
        intro q
        by_cases hq : q < n * sz
        · rw [← hc' q hq, ← hc q hq]
          simp [World.cell?, hw']
        · rw [Array.getElem?_eq_none (by omega), Array.getElem?_eq_none (by omega)]
      cases hx with
      | slc b c' o len cap hb =>
        simp only at hg
        rw [hb] at hg; cases hg
        have q1 := h1.symm.trans hload
        have q2 := h1'.symm.trans hload'
        cases q1; cases q2
        exact hd
      | slu b c' o o' len cap z hb hll ho hz =>
        simp only at hg
        rw [hb] at hg; cases hg
        rcases ho with rfl | h0
        · have q1 := h1.symm.trans hload
          have q2 := h1'.symm.trans hload'
          cases q1; cases q2
          exact hd
        · have e1 : ds.size = 0 := by
            have := h2.1; rename_i hle; have hle := ble_iff.1 hle
            have hn : n = 0 := by omega
            subst hn
            simp [h3] at this; omega
          have e2 : ds'.size = 0 := by
            have := h2'.1; rename_i hle; have hle := ble_iff.1 hle
            have hn : n = 0 := by omega
            subst hn
            simp [h3'] at this; omega
          rw [Array.eq_empty_of_size_eq_zero e1, Array.eq_empty_of_size_eq_zero e2]
    · cases h
  subst hsame
  exact h1'
theorem zeroCells_rep {te : TI} {e : TypeId} (ht : TIok P e te) {sz : Nat} (hz : (eCells te.zero).length = sz) (hpos : 0 < sz) (n : Nat) : AR ρ (repL (eCells te.zero) n).toArray (if n * sz = 0 then #[] else Builtin.zeroCells te.zero.cells n) := by
  have harr : te.zero.cells = (eCells te.zero).toArray := by rw [← cells_list]
  have hself : AR ρ (eCells te.zero).toArray (eCells te.zero).toArray := (VR.plain ρ ht.plain).cells
  by_cases h0 : n * sz = 0
  · rw [if_pos h0]
    have : repL (eCells te.zero) n = [] := List.length_eq_zero_iff.1 (by rw [repL_length, hz]; exact h0)
    rw [this]
    exact AR.nil ρ
  · rw [if_neg h0, harr]
    have hzp : 0 < (eCells te.zero).length := by omega
    refine ⟨by simp [Builtin.zeroCells, repL_length], fun k x y hx hy => ?_⟩
    have hk : k < n * (eCells te.zero).length := by
      rcases Nat.lt_or_ge k (n * (eCells te.zero).length) with h' | h'
      · exact h'
      · rw [Array.getElem?_eq_none (by simp [repL_length]; omega)] at hx; cases hx
    have hx' : (repL (eCells te.zero) n)[k]? = some x := by simpa using hx
    rw [repL_get _ hzp n k hk] at hx'
    have hmod : k % (eCells te.zero).length < (eCells te.zero).length := Nat.mod_lt _ hzp
    unfold Builtin.zeroCells at hy
    rw [Array.getElem?_eq_getElem (by simpa using hk)] at hy
    simp only [Array.getElem_map, Array.getElem_range, List.size_toArray, Option.some.injEq] at hy
    rw [getElem!_pos _ _ (by simpa using hmod)] at hy
    refine hself.2 (k % (eCells te.zero).length) x y (by simpa using hx') ?_
    rw [← hy, Array.getElem?_eq_getElem (by simpa using hmod)]

theorem eAppendOp_sound {T : Tr TI} (hT : TOk P T) (hR : R G ρ st w) {ts : Array TypeId} {ty t t' : TypeId} {ti ti' : TI} (hts : ts[0]? = some t) (hts' : ts[1]? = some t') (ht : TIok P t ti) (ht' : TIok P t' ti') {s s' x x' v : Value} {st' : St}
    (h : eAppendOp T ti.d ti'.d s x st = some (v, st')) (hs : VR ρ s s') (hx : VR ρ x x') (hel : ∀ e sz by_, ti.d = .slice e sz by_ → ∃ te, T.get e = some te ∧ (eCells te.zero).length = sz) :
    ∃ v' ρ' w', (Builtin.append_ ts ty #[s', x']).run P w = .ok v' w' ∧ R G ρ' st' w' ∧ Went ρ st w ρ' st' w' ∧ VR ρ' v v' := by
  obtain ⟨d, hd, hr⟩ := ht.desc
  obtain ⟨d', hd', hr'⟩ := ht'.desc
  unfold eAppendOp at h
  split at h
  case h_3 => cases h
  · rename_i e0 sz by_ e1 sz1 by1 he he'
    obtain ⟨te, hte, hzs⟩ := hel _ _ _ he
    rw [he] at hr; rw [he'] at hr'
    cases d <;> simp only [DescR] at hr
    cases d' <;> simp only [DescR] at hr'
    rename_i e e'
    obtain ⟨he2, hs1, hby⟩ := hr
    subst he2
    obtain ⟨i, hi, hi1, hi2, hi3⟩ := (hT _ _ hte).info
    obtain ⟨i', hi', his⟩ := hs1
    rw [hi] at hi'; cases hi'
    have hbi : i.bytes = by_ := by rw [← hby, Program.bytesOf, hi]; rfl
    have hzc : te.zero.cells.size = sz := by rw [← Array.length_toList, cells_list]; exact hzs
    split at h
    case h_2 => cases h
    rename_i n hn
    split at h
    case h_2 => cases h
    rename_i data hdata
    obtain ⟨ds, h1, h2, h3⟩ := firstCells_heap (P := P) hR hdata hx
    refine eAppend_sound hR ts ty t t' e i te.zero hts hts' hd hd' hi hi3 his hbi hzc h hs ⟨ds, h1, by rw [his]; exact h2, fun w' hw' => .inl ?_⟩
    unfold eLenOf at hn
    split at hn
    · rename_i a n0 c
      cases hn
      cases hx with
      | nils => exact ⟨_, 0, ⟨rfl, none, rfl⟩, by rw [his]; exact h3 w' hw'⟩
      | slc b c' o len cap hb => exact ⟨_, _, ⟨rfl, _, rfl⟩, by rw [his]; exact h3 w' hw'⟩
      | slu b c' o o' len cap z hb hll ho hz => exact ⟨_, cap, ⟨rfl, _, rfl⟩, by rw [his]; exact h3 w' hw'⟩
    · cases hn
  · rename_i e0 sz by_ k he he'
    rw [he] at hr; rw [he'] at hr'
    cases d <;> simp only [DescR] at hr
    cases d' <;> simp only [DescR] at hr'
    rename_i e k'
    obtain ⟨he2, hs1, hby⟩ := hr
    subst he2
    split at h
    case h_2 => cases h
    rename_i n te hte
    split at h
    case h_2 => cases h
    rename_i hz1 hn
    have hzs := beq_iff.1 hz1
    have hn := ble_iff.1 hn
    obtain ⟨i, hi, hi1, hi2, hi3⟩ := (hT _ _ hte).info
    obtain ⟨i', hi', his⟩ := hs1
    rw [hi] at hi'; cases hi'
    have hbi : i.bytes = by_ := by rw [← hby, Program.bytesOf, hi]; rfl
    have hzc : te.zero.cells.size = sz := by rw [← Array.length_toList, cells_list]; exact hzs
    have hszp : 0 < sz := by
      unfold eAppend at h
      split at h
      case h_2 => cases h
      split at h
      case h_2 => cases h
      rename_i b3 _
      exact ble_iff.1 b3
    cases hx
    refine eAppend_sound hR ts ty t t' e i te.zero hts hts' hd hd' hi hi3 his hbi hzc h hs ⟨_, zeroCells_rep (hT _ _ hte) hzs hszp n, by rw [repL_length, hzs, his], fun w' hw' => .inr ⟨k', rfl, rfl, hn, ?_⟩⟩
    rw [his]

theorem eCopy_sound (hR : R G ρ st w) {ts : Array TypeId} {ty t : TypeId} {ti : TI} (hts : ts[0]? = some t) (ht : TIok P t ti) {x x' y y' v : Value} {st' : St} (h : eCopy ti.d x y st = some (v, st')) (hx : VR ρ x x') (hy : VR ρ y y') :
    ∃ v' w', (Builtin.copy_ ts ty #[x', y']).run P w = .ok v' w' ∧ R G ρ st' w' ∧ Went ρ st w ρ st' w' ∧ VR ρ v v' := by
  obtain ⟨d, hd, hr⟩ := ht.desc
  unfold eCopy at h
  split at h
  case h_2 => cases h
  rename_i e0 sz by_ base len cap m he hm
  rw [he] at hr
  cases d <;> simp only [DescR] at hr
  rename_i e
  obtain ⟨he2, hs1, hby⟩ := hr
  subst he2
  split at h
  case h_2 => cases h
  rename_i data hdata
  split at h
  case h_1 => cases h
  rename_i hone
  have hmn : eMinN m len = min m len := eMin_eq m len
  rw [hmn] at h hdata
  obtain ⟨ds, h1, h2, h3⟩ := firstCells_heap (P := P) hR hdata hy
  have hlen : (Builtin.lenOf y').run P w = .ok m w := by
    unfold eLenOf at hm
    split at hm
    · cases hm
      cases hy <;> rfl
    · cases hm
  have h0 : (#[x', y'] : Array Value)[0]? = some x' := rfl
  have h1' : (#[x', y'] : Array Value)[1]? = some y' := rfl
  have hgo : ∀ (base' : Option Addr) (cap' : Nat), x' = .slice base' len cap' → ∀ w', (match base' with | some a => (storeCells a ds.toList).run P w = .ok () w' | none => w' = w) →
      (Builtin.copy_ ts ty #[x', y']).run P w = .ok (.int .i64 (Int.ofNat (min m len))) w' := by
    intro base' cap' hx' w' hst
    subst hx'
    simp only [Builtin.copy_, hts, h0, h1', Sem.run_bind, run_underlying hd, Result.andThen_ok, hlen, run_sizeIs hs1]
    have hf : (Builtin.firstCells sz (Nat.min m len) y').run P w = .ok ds w := h3 w rfl
    simp only [hf, Result.andThen_ok]
    cases base' with
    | none => simp only at hst; subst hst; simp only [Sem.run_pure]; rfl
    | some a => simp only at hst; simp only [Sem.run_bind, hst, Result.andThen_ok, Sem.run_pure]; rfl
  split at h
  · cases h
    cases hx
    exact ⟨_, w, hgo none 0 rfl w rfl, hR, Went.refl _ _ _, .int _ _⟩
  · rename_i a
    split at h
    case h_2 => cases h
    rename_i st1 hst
    cases h
    obtain ⟨g, w', hg, hrun, hR', hW⟩ := hR.store P hst (by simpa using h1 : AR ρ data.toArray ds.toList.toArray) (oneCells_iff _ hone)
    cases hx with
    | slc b c' o len cap hb =>
      simp only at hg hrun
      rw [hb] at hg; cases hg
      exact ⟨_, w', hgo _ _ rfl w' hrun, hR', hW, .int _ _⟩
    | slu b c' o o' len cap z hb hll ho hz =>
      simp only at hg hrun
      rw [hb] at hg; cases hg
      rcases ho with rfl | hc0
      · exact ⟨_, w', hgo _ _ rfl w' hrun, hR', hW, .int _ _⟩
      · have hl0 : len = 0 := by omega
        subst hl0
        have hd0 : data = [] := List.length_eq_zero_iff.1 (by rw [h2, Nat.min_zero, Nat.zero_mul])
        subst hd0
        have hds : ds = #[] := Array.eq_empty_of_size_eq_zero (by have := h1.1; simpa using this.symm)
        subst hds
        have : w' = w := by cases hrun; rfl
        subst this
        exact ⟨_, w', hgo _ _ rfl w' rfl, hR', hW, .int _ _⟩

theorem eClear_sound {T : Tr TI} (hT : TOk P T) (hR : R G ρ st w) {ts : Array TypeId} {ty t : TypeId} {ti : TI} (hts : ts[0]? = some t) (ht : TIok P t ti) {x x' : Value} {st' : St} (h : eClear T ti.d x st = some st') (hx : VR ρ x x') :
    ∃ w', (Builtin.clear_ ts ty #[x']).run P w = .ok (.tuple #[]) w' ∧ R G ρ st' w' ∧ Went ρ st w ρ st' w' := by
  obtain ⟨d, hd, hr⟩ := ht.desc
  have h0 : (#[x'] : Array Value)[0]? = some x' := rfl
  unfold eClear at h
  split at h
  case h_5 => cases h
  · rename_i he
    rw [he] at hr
    cases d <;> simp only [DescR] at hr
    cases h; cases hx
    exact ⟨w, by simp only [Builtin.clear_, hts, h0, Sem.run_bind, run_underlying hd, Result.andThen_ok, Sem.run_pure], hR, Went.refl _ _ _⟩
  · rename_i kt et b he
    rw [he] at hr
    cases d <;> simp only [DescR] at hr
    split at h
    case h_2 => cases h
    rename_i es cl hes
    cases h
    have hent := St.entries_spec hes
    cases hx with
    | map _ c hb =>
    obtain ⟨g, ents, hg, hw, her, hz⟩ := hR.map hent
    rw [hb] at hg; cases hg
    have hne : ∀ arr t fr, (Obj.map ents cl) ≠ .cells arr t fr := fun _ _ _ h => by cases h
    obtain ⟨r1, r2⟩ := hR.putMap (cl' := cl) (ents' := #[]) hent hb hw .nil hz
    exact ⟨_, by simp only [Builtin.clear_, hts, h0, Sem.run_bind, run_underlying hd, Result.andThen_ok, run_getMap hw, run_setObj hw hne, Sem.run_pure], r1, r2⟩
  · rename_i he
    rw [he] at hr
    cases d <;> simp only [DescR] at hr
    cases h
    refine ⟨w, ?_, hR, Went.refl _ _ _⟩
    cases hx <;> simp only [Builtin.clear_, hts, h0, Sem.run_bind, run_underlying hd, Result.andThen_ok, Sem.run_pure]
  · rename_i e0 sz by_ a n c hn0 he
    rw [he] at hr
    cases d <;> simp only [DescR] at hr
    rename_i e
    obtain ⟨he2, hs1, hby⟩ := hr
    subst he2
    split at h
    case h_2 => cases h
    rename_i te hte
    split at h
    case h_2 => cases h
    rename_i hzs hone
    have hzs := beq_iff.1 hzs
    have hone := oneCells_iff _ hone
    have hnz : n ≠ 0 := fun hh => hn0 hh
    have hone' : ∀ v ∈ repL (eCells te.zero) n, v.oneCell' = true := by
      intro v hv
      obtain ⟨q, hq, hqv⟩ := List.mem_iff_getElem.1 hv
      have hl := repL_length (eCells te.zero) n
      have hp : 0 < (eCells te.zero).length := by
        rcases Nat.eq_zero_or_pos (eCells te.zero).length with h' | h'
        · rw [hl, h', Nat.mul_zero] at hq; omega
        · exact h'
      have hg := repL_get (eCells te.zero) hp n q (by rw [← hl]; exact hq)
      rw [List.getElem?_eq_getElem hq, hqv, List.getElem?_eq_getElem (Nat.mod_lt _ hp)] at hg
      cases hg
      exact hone _ (List.getElem_mem _)
    have hz2 : ∃ ds : Array Value, (Builtin.zeroCells te.zero.cells n) = ds ∧ AR ρ (repL (eCells te.zero) n).toArray ds := by
      rcases Nat.eq_zero_or_pos sz with hs0 | hs0
      · refine ⟨_, rfl, ?_⟩
        have hl0 : (repL (eCells te.zero) n) = [] := List.length_eq_zero_iff.1 (by rw [repL_length, hzs, hs0, Nat.mul_zero])
        have : te.zero.cells.size = 0 := by rw [← Array.length_toList, cells_list, hzs, hs0]
        rw [hl0, show Builtin.zeroCells te.zero.cells n = #[] from Array.eq_empty_of_size_eq_zero (by simp [Builtin.zeroCells, this])]
        exact AR.nil ρ
      · have := zeroCells_rep (ρ := ρ) (hT _ _ hte) hzs hs0 n
        rw [if_neg (by have := Nat.mul_pos (Nat.pos_of_ne_zero hnz) hs0; omega)] at this
        exact ⟨_, rfl, this⟩
    obtain ⟨ds, hds, har⟩ := hz2
    obtain ⟨g, w', hg, hrun, hR', hW⟩ := hR.store P h (by simpa using har : AR ρ (repL (eCells te.zero) n).toArray ds.toList.toArray) hone'
    have hfin : ∀ (a' : Addr) (c' : Nat), x' = .slice (some a') n c' → (storeCells a' ds.toList).run P w = .ok () w' → (Builtin.clear_ ts ty #[x']).run P w = .ok (.tuple #[]) w' := by
      intro a' c' hx' hr
      subst hx'
      obtain ⟨m, rfl⟩ : ∃ m, n = m + 1 := ⟨n - 1, by omega⟩
      simp only [Builtin.clear_, hts, h0, Sem.run_bind, run_underlying hd, Result.andThen_ok, (hT _ _ hte).run_zero, hds, hr, Sem.run_pure]
    cases hx with
    | slc b c' o len cap hb =>
      simp only at hg hrun
      rw [hb] at hg; cases hg
      exact ⟨w', hfin _ _ rfl hrun, hR', hW⟩
    | slu b c' o o' len cap z hb hll ho hz =>
      simp only at hg hrun
      rw [hb] at hg; cases hg
      rcases ho with rfl | hc0
      · exact ⟨w', hfin _ _ rfl hrun, hR', hW⟩
      · exact absurd (show n = 0 by omega) hnz

/-- The bytes of a string, as a new slice. -/
theorem eToBytes_sound {T : Tr TI} (hT : TOk P T) {s d : TypeId} {si di : TI} (hs : TIok P s si) (hd : TIok P d di) {e : TypeId} {sz by_ : Nat} (hse : si.d = .string) (hde : di.d = .slice e sz by_) {b : ByteArray} {fr : Fresh}
    (h : eToBytes T e b = some fr) : FreshOk P ρ (convert s d (.string b)) fr := by
  obtain ⟨ds, hds, hr⟩ := hs.desc
  rw [hse] at hr
  cases ds <;> simp only [DescR] at hr
  obtain ⟨dd, hdd, hr⟩ := hd.desc
  rw [hde] at hr
  cases dd <;> simp only [DescR] at hr
  rename_i el
  obtain ⟨he2, _⟩ := hr
  subst he2
  unfold eToBytes at h
  split at h
  case h_2 => cases h
  rename_i te hte
  split at h
  case h_2 => cases h
  rename_i hteu
  cases h
  obtain ⟨du, hdu, hr⟩ := (hT _ _ hte).desc
  rw [hteu] at hr
  cases du <;> simp only [DescR] at hr
  subst hr
  intro w
  obtain ⟨cap, hcap⟩ : ∃ cap, cap = (Question.appendCap b.size 0 el).cut (w.tape w.drawn (.appendCap b.size 0 el)) := ⟨_, rfl⟩
  have hcut : b.size ≤ cap := by
    rw [hcap]
    show b.size ≤ b.size + _; omega
  have hbl : b.data.toList.length = b.size := rfl
  obtain ⟨arr, harr⟩ : ∃ arr : Array Value, arr = b.data.map (fun b => Value.int .u8 b.toNat) ++ Array.replicate (cap - b.size) (.int .u8 0) := ⟨_, rfl⟩
  have hasz : arr.size = cap := by
    rw [harr]; simp only [Array.size_append, Array.size_map, Array.size_replicate]
    show b.size + (cap - b.size) = cap; omega
  refine ⟨.cells arr el (cap, cap + 1), fun k => .slice (some ⟨k, 0, none⟩) b.size cap, w.drawn + 1, ?_, ?_, ?_⟩
  · have hsh : ({ w with heap := w.heap.push (.cells arr el (0, 0)), drawn := w.drawn + 1 } : World).shape? w.heap.size = some (el, cap) := by
      simp [World.shape?, hasz]
    simp only [convert, Sem.run_bind, run_underlying hds, run_underlying hdd, Result.andThen_ok, run_underlying hdu, Conv.stringToBytes, run_choose, Question.forced, Bool.false_eq_true, if_false, newRow, run_newObj, Sem.run_pure, markStringish, run_shape, ← hcap, ← harr, hsh, run_freeze]
    have hfz : (({ w with heap := w.heap.push (.cells arr el (0, 0)), drawn := w.drawn + 1 } : World).freeze ⟨w.heap.size, cap, none⟩ 1) = { w with heap := w.heap.push (.cells arr el (cap, cap + 1)), drawn := w.drawn + 1 } := by
      unfold World.freeze
      simp only [Nat.one_ne_zero, if_false]
      congr 1
      apply Array.ext_getElem?
      intro k
      rw [Array.getElem?_modify]
      by_cases hk : w.heap.size = k
      · subst hk; simp
      · rw [if_neg hk, Array.getElem?_push, Array.getElem?_push, if_neg (Ne.symm hk), if_neg (Ne.symm hk)]
    rw [hfz]
  · intro ρ' hle
    refine ⟨rfl, fun i hi h => ?_, by rw [hasz, hbl]; exact hcut, (by intro h; cases h), ?_⟩
    · rw [hasz] at hi; exact absurd h.1 (Nat.not_le.2 hi)
    · have h1 : AR ρ' (bytesOfS b.data.toList).toArray (b.data.map (fun b => Value.int .u8 b.toNat)) := by
        refine ⟨by simp [bytesOfS], fun i x y hx hy => ?_⟩
        have hx' : (bytesOfS b.data.toList)[i]? = some x := by simpa using hx
        unfold bytesOfS at hx'
        rw [List.getElem?_map, Array.getElem?_toList] at hx'
        rw [Array.getElem?_map] at hy
        cases hbi : b.data[i]? with
        | none => rw [hbi] at hy; cases hy
        | some q => rw [hbi] at hx' hy; cases hx'; cases hy; exact .int _ _
      have := CR.grown (rest := Array.replicate (cap - b.size) (.int .u8 0)) h1
      rw [harr]
      have hl : (bytesOfS b.data.toList).length = b.data.toList.length := by simp [bytesOfS]
      rw [hl] at this
      exact this
  · intro ρ' k hle hk hn
    refine .slu k _ 0 0 b.size cap 1 hk hcut (.inl rfl) (fun _ => ?_)
    rw [hn]
    show 0 + cap * 1 ≤ arr.size
    omega
end Go.Proofs.YtegfafebbnlicaaGreatDoor.Ev
