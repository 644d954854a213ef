/-
  apply, persist of the package device, at rows of any values.
  Fence of the package device, at rows of any values: each noted line is persisted whole.
-/
import Derived.Test.YtegfafebbnlicaaGreatDoorMBaseA
import Derived.Maps.Own
import Derived.Maps.RangeWalk
import Derived.Test.YtegfafebbnlicaaGreatDoorProg
import Derived.Handy
import Derived.BigQuiet
import Derived.BigGuard
import Derived.OwnWalk
import Derived.StillTailTactics
namespace Go.Proofs.YtegfafebbnlicaaGreatDoor.Fe
open Go.RowKit Dv

/-- Block b holds f 0, .., f (n - 1), and no more. -/
def Row (w : World) (b : Nat) (e : TypeId) (n : Nat) (f : Nat → Value) : Prop :=
  ∃ c, w.heap[b]? = some (.cells c e (0, 0)) ∧ c.size = n ∧ ∀ x, x < n → c[x]? = some (f x)

theorem Row.lt {w : World} {b : Nat} {e : TypeId} {n : Nat} {f : Nat → Value} (h : Row w b e n f) : b < w.heap.size := by
  obtain ⟨c, hc, _⟩ := h; exact heap_lt hc
theorem Row.cell {w : World} {b : Nat} {e : TypeId} {n : Nat} {f : Nat → Value} (h : Row w b e n f) (x : Nat) (hx : x < n) : w.cell? ⟨b, x, none⟩ = some (f x) := by
  obtain ⟨c, hc, _, hf⟩ := h
  rw [cell_block hc]; exact hf x hx
theorem Row.free {w : World} {b : Nat} {e : TypeId} {n : Nat} {f : Nat → Value} (h : Row w b e n f) (x : Nat) : w.frozen? ⟨b, x, none⟩ = false := by
  obtain ⟨c, hc, _⟩ := h
  exact free_block hc
theorem Row.of_block {w w' : World} {b : Nat} {e : TypeId} {n : Nat} {f : Nat → Value} (h : Row w b e n f) (hb : w'.heap[b]? = w.heap[b]?) : Row w' b e n f := by
  obtain ⟨c, hc, h2⟩ := h
  exact ⟨c, hb.trans hc, h2⟩
theorem Row.congr {w : World} {b : Nat} {e : TypeId} {n : Nat} {f g : Nat → Value} (h : Row w b e n f) (hg : ∀ x, x < n → g x = f x) : Row w b e n g := by
  obtain ⟨c, hc, h1, h2⟩ := h
  exact ⟨c, hc, h1, fun x hx => by rw [h2 x hx, hg x hx]⟩
theorem Row.set {w : World} {b : Nat} {e : TypeId} {n : Nat} {f : Nat → Value} (h : Row w b e n f) (i : Nat) (v : Value) :
    Row (w.setCell ⟨b, i, none⟩ v) b e n (fun x => if x = i then v else f x) := by
  obtain ⟨c, hc, h1, h2⟩ := h
  refine ⟨_, heap_set hc, by simpa using h1, fun x hx => ?_⟩
  have hxs : x < c.size := by omega
  by_cases e : x = i
  · subst e; simp [hxs]
  · have e' : ¬ i = x := fun h => e h.symm
    simp [e, e', h2 x hx]
theorem Row.set_other {w : World} {b b' i : Nat} {e : TypeId} {n : Nat} {f : Nat → Value} {v : Value} (h : Row w b e n f) (hb : b ≠ b') : Row (w.setCell ⟨b', i, none⟩ v) b e n f :=
  h.of_block (heap_set_ne hb)
theorem Row.alloc {w : World} {b : Nat} {e : TypeId} {n : Nat} {f : Nat → Value} (h : Row w b e n f) (o : Obj) : Row (w.alloc o) b e n f := h.of_block (heap_alloc_lt h.lt)
def ptr (b : Nat) : Value := .pointer (some ⟨b, 0, none⟩)
def u64 (n : Nat) : Value := .int .u64 n
def i64 (n : Nat) : Value := .int .i64 n

/-- The value of word x after these stores. -/
def aft (v : Value) (x : Nat) : List (Nat × Nat) → Value
  | [] => v
  | s :: l => aft (if s.1 / 8 = x then u64 s.2 else v) x l
theorem aft_snoc (v : Value) (x : Nat) (l : List (Nat × Nat)) (s : Nat × Nat) : aft v x (l ++ [s]) = if s.1 / 8 = x then u64 s.2 else aft v x l := by
  induction l generalizing v with
  | nil => rfl
  | cons a l ih => exact ih _
theorem aft_other {v : Value} {x : Nat} {l : List (Nat × Nat)} (h : ∀ p ∈ l, p.1 / 8 ≠ x) : aft v x l = v := by
  induction l generalizing v with
  | nil => rfl
  | cons a l ih =>
    unfold aft
    rw [if_neg (h a (by simp))]
    exact ih (fun p hp => h p (by simp [hp]))
theorem takeSnoc {l : List (Nat × Nat)} {k : Nat} (h : k < l.length) : l.take (k + 1) = l.take k ++ [l[k]] := by
  rw [List.take_add_one, List.getElem?_eq_getElem h]; rfl

def ApRow (l : List (Nat × Nat)) (w : World) (B N : Nat) (f : Nat → Value) (i : Value) (wr : World) : Prop :=
  ∃ k : Nat, k ≤ l.length ∧ i = .int .i64 k ∧ Row wr B 29 N (fun x => aft (f x) x (l.take k)) ∧ Only (fun b => b = B) w wr

theorem apply_row {w : World} {B N : Nat} {f : Nat → Value} {l : List (Nat × Nat)} {bs o wc sc : Nat} (hrow : Row w B 29 N f) (hne : bs ≠ B)
    (hc : ∀ i p, l[i]? = some p → w.cell? ⟨bs, o + 2 * i, none⟩ = some (u64 p.1) ∧ w.cell? ⟨bs, o + 2 * i + 1, none⟩ = some (u64 p.2)) (hl : ∀ p ∈ l, p.1 / 8 < N ∧ p.1 < 18446744073709551616 ∧ p.2 < 18446744073709551616) (hlen : l.length ≤ 1000000) :
    Calls Tryz.prog 382 #[.slice (some ⟨B, 0, none⟩) N wc, .slice (some ⟨bs, o, none⟩) l.length sc] w fun r w' =>
      r = .returned (.tuple #[]) ∧ Row w' B 29 N (fun x => aft (f x) x l) ∧ Only (fun b => b = B) w w' := by
  have HR := Lib.hid hrow; have HC := Lib.hid hc; have HL := Lib.hid hl; have HN := Lib.hid hne
  clear hrow hc hl hne
  have hlen2 : (l.length : Int) ≤ 1000000 := by omega
  go_enter Tryz.func382, Tryz.ntmps382
  go_wp2_with fail
  go_loopw [8] (fun i wr => ApRow l w B N f i wr) (fun i _ => l.length - (intOf i).toNat)
  case atStart => exact ⟨0, by omega, rfl, HR.out, Only.refl _ _⟩
  case round =>
    obtain ⟨k, hk, rfl, hrow, honly⟩ := hrel
    by_cases hlt : k < l.length
    · have hlt2 : (k : Int) < l.length := by omega
      have hg : l[k]? = some l[k] := List.getElem?_eq_getElem hlt
      obtain ⟨p, hp⟩ : ∃ p, p = l[k] := ⟨_, rfl⟩
      rw [← hp] at hg
      obtain ⟨h1, h2⟩ := HC.out k p hg
      obtain ⟨b1, b2, b3⟩ := HL.out p (by rw [hp]; exact List.getElem_mem hlt)
      have c1 := honly.cell h1 HN.out
      have c2 := honly.cell h2 HN.out
      have hrow2 := hrow.alloc (.cells #[u64 p.1, u64 p.2] 128)
      have c3 := hrow2.cell (p.1 / 8) b1
      have f3 := hrow2.free (p.1 / 8)
      have HR2 := Lib.hid (hrow2.set (p.1 / 8) (u64 p.2))
      have HO2 := Lib.hid ((honly.alloc (.cells #[u64 p.1, u64 p.2] 128)).set (b := B) (i := p.1 / 8) rfl (u64 p.2))
      have HP := Lib.hid hp; clear hp
      have e1 : o + k * 2 = o + 2 * k := by omega
      have bi1 : (p.1 : Int) / 8 < N := by omega
      have bi2 : (p.1 : Int) < 18446744073709551616 := by omega
      rw [← e1] at c1 c2
      clear h1 h2 hrow2 hrow honly e1 hg b1 b2 b3
      obtain ⟨old, hold⟩ : ∃ old, old = aft (f (p.1 / 8)) (p.1 / 8) (List.take k l) := ⟨_, rfl⟩
      rw [← hold] at c3
      clear hold
      unfold u64 at *
      go_wp2_with fail
      go_roundw
      case rel =>
        refine ⟨k + 1, by omega, by go_num, ?_, HO2.out⟩
        refine HR2.out.congr (fun x hx => ?_)
        rw [takeSnoc (by omega), aft_snoc, ← HP.out]
        by_cases e : p.1 / 8 = x
        · rw [if_pos e, if_pos e.symm]; rfl
        · rw [if_neg e, if_neg (fun h => e h.symm)]
      case measure => simp [intOf]; omega
    · obtain rfl : k = l.length := by omega
      rw [List.take_length] at hrow
      have H1 := Lib.hid hrow; have H2 := Lib.hid honly; clear hrow honly
      go_wp2_with fail
      go_returns
      exact ⟨rfl, H1.out, H2.out⟩

theorem setCell_again (w : World) (p : Addr) (a b : Value) : (w.setCell p a).setCell p b = w.setCell p b := by
  have hh : ((w.setCell p a).setCell p b).heap = (w.setCell p b).heap := by
    apply Array.ext_getElem?
    intro i
    simp only [World.setCell, Array.getElem?_modify]
    by_cases e : p.block = i
    · rw [if_pos e, if_pos e, if_pos e, Option.map_map]
      congr 1
      funext o
      cases o <;> simp only [Function.comp]
      split <;> simp
    · rw [if_neg e, if_neg e, if_neg e]
  show ({ w with heap := ((w.setCell p a).setCell p b).heap } : World) = { w with heap := (w.setCell p b).heap }
  rw [hh]

/-- The lines when line n is persisted whole. -/
def linAft (fl : Nat → Value) (n p : Nat) (x : Nat) : Value := if x = n * 2 then u64 p else if x = n * 2 + 1 then .slice none 0 0 else fl x

set_option maxRecDepth 4000 in
/-- persist of a line's whole history. -/
theorem persist_row {w : World} {D pb lb N wc L lc n dn b o cap : Nat} {f fl : Nat → Value} {l : List (Nat × Nat)}
    (h1 : w.cell? ⟨D, 0, none⟩ = some (.slice (some ⟨pb, 0, none⟩) N wc)) (h0 : w.cell? ⟨D, 2, none⟩ = some (.slice (some ⟨lb, 0, none⟩) L lc))
    (hper : Row w pb 29 N f) (hlin : Row w lb 394 (2 * L) fl) (hne : lb ≠ pb) (hbp : b ≠ pb)
    (hn : n < L) (hk1 : 1 ≤ l.length) (hkc : l.length ≤ cap) (hdn : fl (n * 2) = u64 dn) (hh : fl (n * 2 + 1) = .slice (some ⟨b, o, none⟩) l.length cap)
    (hc : ∀ i p, l[i]? = some p → w.cell? ⟨b, o + 2 * i, none⟩ = some (u64 p.1) ∧ w.cell? ⟨b, o + 2 * i + 1, none⟩ = some (u64 p.2)) (hl : ∀ p ∈ l, p.1 / 8 < N ∧ p.1 < 18446744073709551616 ∧ p.2 < 18446744073709551616)
    (hlen : dn + l.length ≤ 1000000) (hL : L ≤ 100000) :
    Calls Tryz.prog 381 #[ptr D, i64 n, i64 l.length] w fun r w' => r = .returned (.tuple #[]) ∧ Row w' pb 29 N (fun x => aft (f x) x l) ∧ Row w' lb 394 (2 * L) (linAft fl n (dn + l.length)) ∧
      Only (fun b => b = pb ∨ b = lb) w w' := by
  obtain ⟨k, hk⟩ : ∃ k, k = l.length := ⟨_, rfl⟩
  have c2 : w.cell? ⟨lb, n * 2 + 1, none⟩ = some (.slice (some ⟨b, o, none⟩) k cap) := by rw [hlin.cell _ (by omega), hh, hk]
  have hap := fun w1 (ho : Only (fun _ => False) w w1) => apply_row (wc := wc) (sc := cap) (hper.of_block (ho.block _ hper.lt (fun f => f))) hbp (l := l)
    (fun i p hi => ⟨ho.cell (hc i p hi).1 (fun f => f), ho.cell (hc i p hi).2 (fun f => f)⟩) hl (by omega)
  rw [← hk] at hap hk1 hkc hlen ⊢
  have HA := Lib.hid hap
  have b1 : (n : Int) < L := by omega
  have b2 : (k : Int) ≤ cap := by omega
  have b4 : (L : Int) ≤ 100000 := by omega
  have HX := Lib.hid hlin; have HDN := Lib.hid hdn; have HNE := Lib.hid hne
  have HH := Lib.hid hh; have HK := Lib.hid hk
  have l1 : (dn : Int) + k ≤ 1000000 := by omega
  simp only [ptr, i64]
  go_enter Tryz.func381, Tryz.ntmps381
  clear hlin hper hc hl hap hdn hne hh hk hlen hL hbp
  go_wp2_with fail
  go_still_tail 10, (by kernel_rfl)
  go_wp2_with fail
  refine (HA.out _ ?_).mono ?_
  · exact (Only.refl _ _).drew
  rintro e w1 ⟨rfl, hr1, ho1⟩
  have hlin1 : Row w1 lb 394 (2 * L) fl := HX.out.of_block (ho1.block _ HX.out.lt HNE.out)
  have k1 : w1.cell? ⟨lb, n * 2, none⟩ = some (.int .u64 dn) := by
    rw [hlin1.cell _ (by omega), HDN.out]; rfl
  have k2 : w1.cell? ⟨lb, n * 2 + 1, none⟩ = some (.slice (some ⟨b, o, none⟩) k cap) := by
    rw [hlin1.cell _ (by omega), HH.out, ← HK.out]
  have f1 : w1.frozen? ⟨lb, n * 2, none⟩ = false := hlin1.free _
  have f2 : w1.frozen? ⟨lb, n * 2 + 1, none⟩ = false := hlin1.free _
  have hfin : Row ((w1.setCell ⟨lb, n * 2, none⟩ (u64 (dn + k))).setCell ⟨lb, n * 2 + 1, none⟩ (.slice none 0 0)) pb 29 N (fun x => aft (f x) x l) ∧
      Row ((w1.setCell ⟨lb, n * 2, none⟩ (u64 (dn + k))).setCell ⟨lb, n * 2 + 1, none⟩ (.slice none 0 0)) lb 394 (2 * L) (linAft fl n (dn + k)) ∧
      Only (fun b => b = pb ∨ b = lb) w ((w1.setCell ⟨lb, n * 2, none⟩ (u64 (dn + k))).setCell ⟨lb, n * 2 + 1, none⟩ (.slice none 0 0)) := by
    refine ⟨(hr1.set_other (fun e => HNE.out e.symm)).set_other (fun e => HNE.out e.symm), ((hlin1.set (n * 2) _).set (n * 2 + 1) _).congr (fun x _ => ?_), ?_⟩
    · unfold linAft
      by_cases e1 : x = n * 2 + 1
      · rw [if_pos e1, if_neg (by omega), if_pos e1]
      · rw [if_neg e1, if_neg e1]
    · exact ((((Only.refl _ w).drew).trans (ho1.mono (G := fun b => b = pb ∨ b = lb) (fun b hb => .inl hb)) (fun _ _ e => e)).set (.inr rfl) _).set (.inr rfl) _
  have HR := Lib.hid hfin
  clear hfin hr1 ho1 hlin1 HA c2 h0 h1 HX HDN HH HK
  have d0 : (((k - k : Nat) : Int) == 0) = true := by simp
  simp only [u64, Int.natCast_add] at HR
  by_cases hcc : cap = k
  · go_wp2_with fail
    go_returns
    rw [setCell_again]
    exact ⟨rfl, HR.out⟩
  · go_wp2_with fail
    go_returns
    rw [setCell_again]
    exact ⟨rfl, HR.out⟩
end Go.Proofs.YtegfafebbnlicaaGreatDoor.Fe

namespace Go.Proofs.YtegfafebbnlicaaGreatDoor.Fe
open Go.RowKit Dv

theorem keyed_int : Maps.Keyed Tryz.prog 3 := Maps.int_keyed Tryz.underlying3
/-- What Fence meets at a noted line: the note, what is done, the stores that are left, their block. -/
structure NE where
  p : Nat
  dn : Nat
  l : List (Nat × Nat)
  b : Nat
  o : Nat
  cap : Nat

def fper (nt : Nat → Option NE) (left : Nat → Bool) (f : Nat → Value) (x : Nat) : Value :=
  match nt (x / 8) with
  | some e => if left (x / 8) then f x else aft (f x) x e.l
  | none => f x
def flin (nt : Nat → Option NE) (left : Nat → Bool) (fl : Nat → Value) (x : Nat) : Value :=
  match nt (x / 2) with
  | some e => if left (x / 2) then fl x else if e.p ≤ e.dn then fl x else linAft fl (x / 2) e.p x
  | none => fl x

/-- The blocks as Fence finds them behind the count. -/
structure FRdy (w : World) (T D pb lb m N wc L lc nb : Nat) (f fl : Nat → Value) (nt : Nat → Option NE) (DD : DataW Unit) : Prop where
  thr : w.cell? ⟨T, 0, none⟩ = some (.pointer (some ⟨D, 0, none⟩))
  note : w.cell? ⟨T, 3, none⟩ = some (.map (some m))
  dper : w.cell? ⟨D, 0, none⟩ = some (.slice (some ⟨pb, 0, none⟩) N wc)
  dlin : w.cell? ⟨D, 2, none⟩ = some (.slice (some ⟨lb, 0, none⟩) L lc)
  per : Row w pb 29 N f
  lin : Row w lb 394 (2 * L) fl
  ne : lb ≠ pb
  tp : T ≠ pb
  tl : T ≠ lb
  dp : D ≠ pb
  dl : D ≠ lb
  mp : m ≠ pb
  ml : m ≠ lb
  hL : L ≤ 100000
  owns : w.ownsMap Tryz.prog 3 (plainElem Tryz.prog 29) m nb DD
  key : ∀ x, Maps.has DD (.int .i64 x) = true → ∃ n : Nat, x = n ∧ (nt n).isSome
  has : ∀ n : Nat, (nt n).isSome → Maps.has DD (.int .i64 n) = true
  at_ : ∀ (n : Nat) e, nt n = some e → ∀ zd, DD.atKey (.int .i64 n) zd = .lit (.int .u64 e.p)
  lt : ∀ (n : Nat) e, nt n = some e → n < L ∧ e.p ≤ 1000000 ∧ e.dn ≤ 1000000 ∧ fl (n * 2) = u64 e.dn
  idle : ∀ (n : Nat) e, nt n = some e → e.p ≤ e.dn → e.l = []
  full : ∀ (n : Nat) e, nt n = some e → e.dn < e.p → e.dn + e.l.length = e.p ∧ e.l.length ≤ e.cap ∧ fl (n * 2 + 1) = .slice (some ⟨e.b, e.o, none⟩) e.l.length e.cap ∧ e.b ≠ pb ∧ e.b ≠ lb ∧
    (∀ i p, e.l[i]? = some p → w.cell? ⟨e.b, e.o + 2 * i, none⟩ = some (u64 p.1) ∧ w.cell? ⟨e.b, e.o + 2 * i + 1, none⟩ = some (u64 p.2)) ∧
    ∀ p ∈ e.l, p.1 / 8 < N ∧ p.1 < 18446744073709551616 ∧ p.2 < 18446744073709551616 ∧ p.1 / 64 = n
/-- The blocks as Fence leaves them. -/
structure FDone (w : World) (pb lb m N L : Nat) (f fl : Nat → Value) (nt : Nat → Option NE) (w' : World) : Prop where
  per : Row w' pb 29 N (fper nt (fun _ => false) f)
  lin : Row w' lb 394 (2 * L) (flin nt (fun _ => false) fl)
  map : ∀ es c, w.heap[m]? = some (.map es c) → w'.heap[m]? = some (.map #[] c)
  only : Only (fun b => b = pb ∨ b = lb ∨ b = m) w w'

def FnR (w : World) (pb lb m N L nb : Nat) (f fl : Nat → Value) (nt : Nat → Option NE) (r : Nat) (D : DataW Unit) (wr : World) : Prop :=
  ∃ (left : Lit → Bool) (cnt : Nat), wr.ranges Tryz.prog 3 (plainElem Tryz.prog 29) m r nb D left cnt ∧ Row wr pb 29 N (fper nt (fun n => left (.int .i64 n)) f) ∧
    Row wr lb 394 (2 * L) (flin nt (fun n => left (.int .i64 n)) fl) ∧ Only (fun b => b = pb ∨ b = lb) w wr ∧ (∀ kl, left kl = true → Maps.has D kl = true) ∧ w.heap.size ≤ r

theorem ranges_kept {H : Type} {w w' : World} {P : Program} {k : TypeId} {R : Value → Option (DataW H × List MemPlace)} {b r n : Nat} {D : DataW H} {left : Lit → Bool} {cnt : Nat}
    (h : w.ranges P k R b r n D left cnt) (hb : w'.heap[b]? = w.heap[b]?) (hr : w'.heap[r]? = w.heap[r]?) : w'.ranges P k R b r n D left cnt := by
  obtain ⟨es, clock, since, seen, c0, hb0, F, hs, hD, hr0, rest⟩ := h
  exact ⟨es, clock, since, seen, c0, hb.trans hb0, F, hs, hD, hr.trans hr0, rest⟩

/-- clear of a map. -/
theorem clear_at {w : World} {P : Program} {k e t : TypeId} {b : Nat} {es : Array MapEntry} {clock : Nat} (hb : w.heap[b]? = some (.map es clock)) (ht : P.underlying t = some (.map k e)) :
    ∃ w', (∀ ty, (Builtin.clear_ #[t] ty #[.map (some b)]).run P w = .ok (.tuple #[]) w') ∧ w'.heap[b]? = some (.map #[] clock) ∧ Only (fun x => x = b) w w' := by
  have hlt := heap_lt hb
  refine ⟨{ w with heap := w.heap.setIfInBounds b (.map #[] clock) }, fun ty => ?_, by simp [hlt], ⟨rfl, rfl, rfl, by simp, fun i hi hne => ?_⟩⟩
  · simp [Builtin.clear_, run_underlying ht, MapKept.run_getObj_map hb, MapKept.run_setObj_map _ hb, Result.andThen]
  · have : b ≠ i := fun e => hne e.symm
    simp [this]

theorem fper_step {nt : Nat → Option NE} {left left' : Nat → Bool} {n : Nat} {e : NE} (hn : nt n = some e) (h : left n = true) (hl : ∀ m, left' m = (left m && decide (m ≠ n))) (f : Nat → Value) (hw : ∀ p ∈ e.l, p.1 / 64 = n) (x : Nat) :
    fper nt left' f x = aft (fper nt left f x) x e.l := by
  unfold fper
  by_cases hx : x / 8 = n
  · rw [hx, hn]
    dsimp only
    rw [hl n, h]; simp
  · have h0 : aft (match nt (x / 8) with | some e => if left (x / 8) then f x else aft (f x) x e.l | none => f x) x e.l = (match nt (x / 8) with | some e => if left (x / 8) then f x else aft (f x) x e.l | none => f x) := by
      refine aft_other (fun p hp hpx => hx ?_)
      have := hw p hp
      omega
    rw [h0]
    have : left' (x / 8) = left (x / 8) := by rw [hl]; simp [hx]
    rw [this]
theorem flin_step {nt : Nat → Option NE} {left left' : Nat → Bool} {n : Nat} {e : NE} (hn : nt n = some e) (h : left n = true) (hl : ∀ m, left' m = (left m && decide (m ≠ n))) (fl : Nat → Value) (hp : e.dn < e.p) (x : Nat) :
    flin nt left' fl x = linAft (flin nt left fl) n e.p x := by
  unfold flin
  by_cases hx : x / 2 = n
  · rw [hx, hn]
    dsimp only
    rw [hl n]
    simp only [h, ne_eq, not_true_eq_false, decide_false, Bool.and_false, Bool.false_eq_true, if_false, if_neg (Nat.not_le.2 hp)]
    unfold linAft
    by_cases h1 : x = n * 2
    · rw [if_pos h1, if_pos h1]
    · have h2 : x = n * 2 + 1 := by omega
      rw [if_neg h1, if_neg h1, if_pos h2, if_pos h2]
  · have : left' (x / 2) = left (x / 2) := by rw [hl]; simp [hx]
    rw [this]
    unfold linAft
    rw [if_neg (show ¬ x = n * 2 by omega), if_neg (show ¬ x = n * 2 + 1 by omega)]
theorem fper_idle {nt : Nat → Option NE} {left left' : Nat → Bool} {n : Nat} {e : NE} (hn : nt n = some e) (h : left n = true) (hl : ∀ m, left' m = (left m && decide (m ≠ n))) (f : Nat → Value) (he : e.l = []) (x : Nat) :
    fper nt left' f x = fper nt left f x := by
  rw [fper_step hn h hl f (by rw [he]; simp) x, he]; rfl
theorem flin_idle {nt : Nat → Option NE} {left left' : Nat → Bool} {n : Nat} {e : NE} (hn : nt n = some e) (h : left n = true) (hl : ∀ m, left' m = (left m && decide (m ≠ n))) (fl : Nat → Value) (hp : e.p ≤ e.dn) (x : Nat) :
    flin nt left' fl x = flin nt left fl x := by
  unfold flin
  by_cases hx : x / 2 = n
  · rw [hx, hn]
    dsimp only
    rw [hl n]
    simp [h, hp]
  · have : left' (x / 2) = left (x / 2) := by rw [hl]; simp [hx]
    rw [this]
theorem fper_start {nt : Nat → Option NE} {left : Nat → Bool} (h : ∀ n, (nt n).isSome → left n = true) (f : Nat → Value) (x : Nat) : fper nt left f x = f x := by
  unfold fper
  cases hn : nt (x / 8) with
  | none => rfl
  | some e => dsimp only; rw [h _ (by rw [hn]; rfl)]; rfl
theorem flin_start {nt : Nat → Option NE} {left : Nat → Bool} (h : ∀ n, (nt n).isSome → left n = true) (fl : Nat → Value) (x : Nat) : flin nt left fl x = fl x := by
  unfold flin
  cases hn : nt (x / 2) with
  | none => rfl
  | some e => dsimp only; rw [h _ (by rw [hn]; rfl)]; rfl

set_option maxRecDepth 4000 in
theorem fence_row {w : World} {T D0 : Nat} (c0 : w.cell? ⟨T, 0, none⟩ = some (.pointer (some ⟨D0, 0, none⟩))) {Qf Q : World → Prop}
    (HC : Calls Tryz.prog 199 #[ptr T, .bool true] w fun e w1 => (e = .returned (.bool false) ∧ Qf w1) ∨ (e = .returned (.bool true) ∧ ∃ D pb lb m N wc L lc nb f fl nt DD,
      FRdy w1 T D pb lb m N wc L lc nb f fl nt DD ∧ ∀ w2, FDone w1 pb lb m N L f fl nt w2 → Q w2)) :
    Calls Tryz.prog 378 #[ptr T] w fun e w' => e = .returned (.tuple #[]) ∧ (Qf w' ∨ Q w') := by
  have HC := Lib.hid HC
  simp only [ptr]
  go_enter Tryz.func378, Tryz.ntmps378
  go_wp2_with fail
  refine HC.out.mono ?_
  rintro e w1 (⟨rfl, h1⟩ | ⟨rfl, D, pb, lb, m, N, wc, L, lc, nb, f, fl, nt, DD, h1, h2⟩)
  · have H1 := Lib.hid h1; clear h1
    go_wp2_with fail
    go_returns
    exact ⟨rfl, .inl H1.out⟩
  · have k3 : w1.cell? ⟨T, 3, none⟩ = some (.map (some m)) := h1.note
    have hown := h1.owns
    have H1 := Lib.hid h1; have H2 := Lib.hid h2
    clear h1 h2 HC
    go_wp2_with (at_range; refine wpList_range_own _ rfl _ 239 rfl 3 29 keyed_int Tryz.underlying239 _ m nb _ rfl hown ?_; intro w0 hrg0 hg0 hs0)
    have hst : FnR w1 pb lb m N L nb f fl nt w1.heap.size DD w0 := by
      refine ⟨_, _, hrg0, ?_, ?_, ⟨hg0.os, hg0.tape, hg0.output, hg0.size, fun k hk _ => hg0.block k hk (by simp)⟩, fun _ h => h, Nat.le_refl _⟩
      · exact (H1.out.per.of_block (hg0.block _ H1.out.per.lt (by simp))).congr (fun x _ => fper_start (fun n hn => H1.out.has n hn) f x)
      · exact (H1.out.lin.of_block (hg0.block _ H1.out.lin.lt (by simp))).congr (fun x _ => flin_start (fun n hn => H1.out.has n hn) fl x)
    have HST := Lib.hid hst; clear hst hg0 hs0 hrg0 hown k3
    go_frame
    go_loopw [2, 3, 4] (fun _ _ _ wr => FnR w1 pb lb m N L nb f fl nt w1.heap.size DD wr) (fun _ _ _ wr => wr.rangeLeft m w1.heap.size)
    case atStart => exact HST.out
    case round =>
      obtain ⟨left, cnt, hrg, hper, hlin, honly, hlf, hr⟩ := hrel
      go_wp2_with (at_next; refine wpList_next_ranges_ii _ rfl _ rfl 3 29 .i64 .u64 keyed_int Tryz.underlying3 Tryz.underlying29 m w1.heap.size nb _ _ _ rfl hrg ?_ ?_)
      · intro _ hl0
        have k3 : wr.cell? ⟨T, 3, none⟩ = some (.map (some m)) := honly.cell H1.out.note (fun e => by rcases e with e | e; exact H1.out.tp e; exact H1.out.tl e)
        obtain ⟨es0, cl0, hm0⟩ : ∃ es c, w1.heap[m]? = some (.map es c) := by
          obtain ⟨es, c, hb, _⟩ := H1.out.owns; exact ⟨es, c, hb⟩
        have hmr : wr.heap[m]? = some (.map es0 cl0) := (honly.block m (heap_lt hm0) (fun e => by rcases e with e | e; exact H1.out.mp e; exact H1.out.ml e)).trans hm0
        obtain ⟨w3, hrun, hmap3, honly3⟩ := clear_at hmr Tryz.underlying239
        have hd : FDone w1 pb lb m N L f fl nt w3 := by
          refine ⟨?_, ?_, fun es c hm => ?_, ?_⟩
          · refine (hper.of_block (honly3.block _ hper.lt (fun e => H1.out.mp e.symm))).congr (fun x _ => ?_)
            have : (fun n : Nat => left (.int .i64 n)) = fun _ => false := funext fun n => hl0 _
            rw [this]
          · refine (hlin.of_block (honly3.block _ hlin.lt (fun e => H1.out.ml e.symm))).congr (fun x _ => ?_)
            have : (fun n : Nat => left (.int .i64 n)) = fun _ => false := funext fun n => hl0 _
            rw [this]
          · rw [hm0] at hm; cases hm; exact hmap3
          · exact (honly.mono (G := fun b => b = pb ∨ b = lb ∨ b = m) (fun b hb => by rcases hb with h | h; exact .inl h; exact .inr (.inl h))).trans (honly3.mono (G := fun b => b = pb ∨ b = lb ∨ b = m) (fun b hb => .inr (.inr hb))) (fun _ _ e => e)
        have G1 := Lib.hid (H2.out w3 hd)
        clear hrg hper hlin honly hlf hr hmap3 honly3 hd hl0 hmr hm0
        go_wp2_with fail
        go_returns
        exact ⟨rfl, .inr G1.out⟩
      · intro x c w2 cnt1 hwx hwc hlx hat hrg1 hlt hg1 hs1 hen
        obtain ⟨n, rfl, hsome⟩ := H1.out.key x (hlf _ hlx)
        obtain ⟨e, he⟩ := Option.isSome_iff_exists.1 hsome
        obtain rfl : c = (e.p : Int) := by
          have h1 := H1.out.at_ n e he (.lit (.int .u64 0))
          rw [hat] at h1
          injection h1 with h1
          injection h1 with h1
        obtain ⟨n1, n2, n2', n3⟩ := H1.out.lt n e he
        have hrp : w1.heap.size ≠ pb := fun q => by have := H1.out.per.lt; omega
        have hrl : w1.heap.size ≠ lb := fun q => by have := H1.out.lin.lt; omega
        have hper2 := hper.of_block (hg1.block _ hper.lt (fun q => hrp (Option.some.inj q).symm))
        have hlin2 := hlin.of_block (hg1.block _ hlin.lt (fun q => hrl (Option.some.inj q).symm))
        have honly2 : Only (fun b => b = pb ∨ b = lb) w1 w2 := ⟨hg1.os.trans honly.os, hg1.tape.trans honly.tape, hg1.output.trans honly.output, Nat.le_trans honly.size hg1.size, fun k hk hf =>
          (hg1.block k (Nat.lt_of_lt_of_le hk honly.size) (fun q => by have := Option.some.inj q; omega)).trans (honly.block k hk hf)⟩
        have hlf' : ∀ m : Nat, (fun m : Nat => left (.int .i64 m) && !(Lit.int .i64 (m : Int)).sameKey (.int .i64 (n : Int))) m = ((fun n : Nat => left (.int .i64 n)) m && decide (m ≠ n)) :=
          fun m => by simp [Lit.sameKey]; by_cases e : m = n <;> simp [e]; omega
        have elin : flin nt (fun n => left (.int .i64 n)) fl (n * 2) = u64 e.dn := by
          unfold flin; rw [show n * 2 / 2 = n by omega, he]; dsimp only; rw [if_pos hlx]; exact n3
        have k0 : w2.cell? ⟨T, 0, none⟩ = some (.pointer (some ⟨D, 0, none⟩)) := honly2.cell H1.out.thr (fun e => by rcases e with e | e; exact H1.out.tp e; exact H1.out.tl e)
        have k1 : w2.cell? ⟨D, 2, none⟩ = some (.slice (some ⟨lb, 0, none⟩) L lc) := honly2.cell H1.out.dlin (fun e => by rcases e with e | e; exact H1.out.dp e; exact H1.out.dl e)
        have k2 : w2.cell? ⟨lb, n * 2, none⟩ = some (.int .u64 e.dn) := by rw [hlin2.cell _ (by omega), elin]; rfl
        have k5 : w2.cell? ⟨D, 0, none⟩ = some (.slice (some ⟨pb, 0, none⟩) N wc) := honly2.cell H1.out.dper (fun e => by rcases e with e | e; exact H1.out.dp e; exact H1.out.dl e)
        have b1 : (n : Int) < L := by omega
        have b4 : (L : Int) ≤ 100000 := by have := H1.out.hL; omega
        by_cases hgt : e.dn < e.p
        · obtain ⟨g1, g2, g3, g4, g5, g6, g7⟩ := H1.out.full n e he hgt
          have elin2 : flin nt (fun n => left (.int .i64 n)) fl (n * 2 + 1) = .slice (some ⟨e.b, e.o, none⟩) e.l.length e.cap := by
            unfold flin; rw [show (n * 2 + 1) / 2 = n by omega, he]; dsimp only; rw [if_pos hlx]; exact g3
          have hpd := persist_row k5 k1 hper2 hlin2 H1.out.ne g4 n1 (by omega) g2 elin elin2
            (fun i p hi => ⟨honly2.cell (g6 i p hi).1 (fun e => by rcases e with e | e; exact g4 e; exact g5 e), honly2.cell (g6 i p hi).2 (fun e => by rcases e with e | e; exact g4 e; exact g5 e)⟩)
            (fun p hp => ⟨(g7 p hp).1, (g7 p hp).2.1, (g7 p hp).2.2.1⟩) (by omega) H1.out.hL
          have d1 : decide ((e.dn : Int) < e.p) = true := by simp; omega
          have d2 : ((e.l.length : Nat) : Int) = (e.p : Int) - e.dn := by omega
          have b2 : (e.p : Int) ≤ 1000000 := by omega
          have b3 : (e.dn : Int) < e.p := by omega
          rw [g1] at hpd
          simp only [i64, ptr, d2] at hpd
          have es1 := fper_step he hlx hlf' f (fun p hp => (g7 p hp).2.2.2)
          have es2 := flin_step he hlx hlf' fl hgt
          have HP := Lib.hid hpd; have HR := Lib.hid hrg1; have HL := Lib.hid hlf; have HW := Lib.hid hrg; have HT := Lib.hid hlt; have HO := Lib.hid honly2
          have E1 := Lib.hid es1; have E2 := Lib.hid es2; have E3 := Lib.hid hrp; have E4 := Lib.hid hrl
          clear hpd hrg1 hlf hper hlin hper2 hlin2 honly honly2 g1 g2 g3 g4 g5 g6 g7 elin elin2 hat hwx hwc hlx hg1 hs1 hr d2 hgt hrg hlt hlf' es1 es2 hrp hrl hsome n1 n2 n2' n3 he
          go_wp2_with fail
          refine HP.out.mono ?_
          rintro e3 w3 ⟨rfl, h3, h4, h5⟩
          have H3 := Lib.hid h3; have H4 := Lib.hid h4; have H5 := Lib.hid h5
          clear h3 h4 h5 HP
          go_wp2_with fail
          have hrg3 := ranges_kept HR.out (H5.out.block m HR.out.owns.lt (fun e => by rcases e with e | e; exact H1.out.mp e; exact H1.out.ml e)) (H5.out.block w1.heap.size HR.out.lt (fun e => by
            rcases e with e | e
            · exact E3.out e
            · exact E4.out e))
          go_roundw
          case rel => exact ⟨_, cnt1, hrg3, H3.out.congr (fun x _ => E1.out x), H4.out.congr (fun x _ => E2.out x), HO.out.trans H5.out (fun _ _ e => e), fun kl hk => HL.out kl (by simp at hk; exact hk.1), Nat.le_refl _⟩
          case measure => rw [hrg3.left_eq, HW.out.left_eq]; exact HT.out
        · have hle : e.p ≤ e.dn := Nat.le_of_not_lt hgt
          have d1 : decide ((e.dn : Int) < e.p) = false := by simp; omega
          have d2 : ¬ ((e.dn : Int) < e.p) := by omega
          have es1 := fper_idle he hlx hlf' f (H1.out.idle n e he hle)
          have es2 := flin_idle he hlx hlf' fl hle
          have HR := Lib.hid hrg1; have HL := Lib.hid hlf; have HW := Lib.hid hrg; have HT := Lib.hid hlt; have HO := Lib.hid honly2
          have E1 := Lib.hid es1; have E2 := Lib.hid es2; have G1 := Lib.hid hper2; have G2 := Lib.hid hlin2
          clear hrg1 hlf hper hlin hper2 hlin2 honly honly2 elin hat hwx hwc hlx hg1 hs1 hr hgt hle hrg hlt hlf' es1 es2 hrp hrl hsome n1 n2 n2' n3 he k5
          go_wp2_with fail
          go_roundw
          case rel => exact ⟨_, cnt1, HR.out, G1.out.congr (fun x _ => E1.out x), G2.out.congr (fun x _ => E2.out x), HO.out, fun kl hk => HL.out kl (by simp at hk; exact hk.1), Nat.le_refl _⟩
          case measure => rw [HR.out.left_eq, HW.out.left_eq]; exact HT.out
end Go.Proofs.YtegfafebbnlicaaGreatDoor.Fe
