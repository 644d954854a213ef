/-
  The pool of the statement while its operations are prepared: what holds between them. No walk.
-/
import Derived.Test.YtjoipeojenfiiaaGreatDoorMPl5
import Derived.Test.YtjoipeojenfiiaaGreatDoorMTopA
namespace Go.Proofs.YtjoipeojenfiiaaGreatDoor.Dv
open Go.RowKit
set_option linter.unusedVariables false

theorem infoMach : (Tryz.prog.info? 130).map (fun i => (i.zero, i.size, i.bytes)) = some (some .nilIface, 1, 16) := by kernel_rfl
theorem elMachs : El Tryz.prog 41 130 1 16 := El.of Tryz.underlying41 infoMach rfl (by omega)

theorem below_mmoved {w W w' : World} {F G F' G' : Nat → Option Role} (hb : Below w.heap.size w W) (hF : ∀ k, F k ≠ none ∨ G k ≠ none → w.heap.size ≤ k) (hm : MMoved F G F' G' W w') : Below w.heap.size w w' ∧ ∀ k, F' k ≠ none ∨ G' k ≠ none → w.heap.size ≤ k := by
  constructor
  · refine ⟨hm.only.os.trans hb.os, hm.only.tape.trans hb.tape, hm.only.output.trans hb.output, Nat.le_trans hb.size hm.only.size, fun k hk => ?_⟩
    exact (hm.only.block k (Nat.lt_of_lt_of_le hk hb.size) (fun hf => by have := hF k hf; omega)).trans (hb.block k hk)
  · intro k hk
    rcases Nat.lt_or_ge k W.heap.size with h | h
    · rw [(hm.same k h).1, (hm.same k h).2] at hk
      exact hF k hk
    · have := hb.size
      omega
theorem ctl_eqv (s : DSt) (o a : Bool) (l x : Nat) : Eqv (s.ctl o a l x) s := ⟨rfl, rfl, rfl, rfl, rfl⟩
theorem begin_dev (s : DSt) (t : Nat) (es : List (Nat × Nat × Nat)) (ord : List Nat) : ((ms0 s).begin 0 t es ord).dev = s ∧ ((ms0 s).begin 0 t es ord).cur = none := ⟨rfl, rfl⟩
theorem MW.none {w : World} {A : DAd} {B : MAd} {Lr N : Nat} {m : MS} {F G : Nat → Option Role} (h : MW w A B Lr N m F G) {b : Nat} (hb : w.heap.size ≤ b) : F b = none ∧ G b = none := by
  constructor
  · cases e : F b with
    | none => rfl
    | some q => have := h.dev.lt b (by rw [e]; simp); omega
  · cases e : G b with
    | none => rfl
    | some q => have := (h.gf b (by rw [e]; simp)).2; omega

def mcells (B : MAd) (K : Nat) : List Value := (List.range K).map (fun i => mach (B.o i))
theorem mcells_succ (B : MAd) (K : Nat) : mcells B (K + 1) = mcells B K ++ [mach (B.o K)] := by unfold mcells; rw [List.range_succ, List.map_append]; rfl
theorem mcells_congr {B B' : MAd} {K : Nat} (h : ∀ i, i < K → B'.o i = B.o i) : mcells B' K = mcells B K := by
  unfold mcells
  apply List.map_congr_left
  intro i hi
  rw [h i (by simpa using hi)]

/-- N operations are prepared, K of them are in the slice v of machines. -/
structure TpSt (W : World) (A : DAd) (n N K : Nat) (m : MS) (p0 o0 X : Nat) (F G : Nat → Option Role) (B : MAd) (v : Value) (w : World) : Prop where
  mw : MW w A B 32 N m F G
  sz : 1 ≤ N ∧ N ≤ 3
  dev : m.dev = set2
  cur : m.cur = none
  stat : ∀ i, i < N → Stat n i (m.op i)
  z : ∀ i, i < N → (m.op i).stage = 0 ∧ (m.op i).loaded = 0 ∧ (m.op i).done = false ∧ (m.op i).ended = false ∧ (m.op i).tgt = none
  b1 : ∀ k, k < N → m.busy k = true
  b2 : ∀ k, N ≤ k → m.busy k = false
  nb : B.nb = 8
  p : B.p = p0
  o : B.o 0 = o0
  own : w.ownsRow X 130 1 v K (mcells B K)
  fv : ∀ b, v.ownBlock = some b → F b = none ∧ G b = none
  bel : Below W.heap.size W w
  lo : ∀ b, F b ≠ none ∨ G b ≠ none → W.heap.size ≤ b
  x : W.heap.size ≤ X ∧ X ≤ w.heap.size

section
variable {W : World} {A : DAd} {n N K : Nat} {m : MS} {p0 o0 X : Nat} {F G : Nat → Option Role} {B : MAd} {v : Value} {w : World}
theorem TpSt.below (h : TpSt W A n N K m p0 o0 X F G B v w) {w' : World} (hb : Below w.heap.size w w') : TpSt W A n N K m p0 o0 X F G B v w' :=
  { h with mw := (h.mw.below hb).1, own := own_agree h.own (fun b hb2 => hb.block b (h.own.lt b hb2).2), bel := h.bel.trans (hb.mono h.bel.size), x := ⟨h.x.1, Nat.le_trans h.x.2 hb.size⟩ }
/-- A new operation: what it is. -/
theorem TpSt.new (h : TpSt W A n N N m p0 o0 X F G B v w) (hn : 2 ≤ n ∧ n ≤ 6) (hN : N ≤ 2) {o : Nat} {w1 : World} (hnew : NewOp w A B N m F G (HlpEs n) o w1) :
    ∃ m' G' B', TpSt W A n (N + 1) N m' p0 o0 X F G' B' v w1 ∧ o = B'.o N := by
  obtain ⟨es, t, ord, B', G', ho, ht, hes, hmw, hord, hnb, hp, hoi, hmv⟩ := hnew
  obtain ⟨hb2, hlo2⟩ := below_mmoved h.bel h.lo hmv
  have hopN : (m.begin N t es ord).op N = opNew t N es ord := by unfold MS.begin MS.begun; dsimp only; rw [upd_same]
  have hopi : ∀ i, i < N → (m.begin N t es ord).op i = m.op i := fun i hi => by unfold MS.begin MS.begun; dsimp only; rw [upd_ne _ _ (by omega)]
  refine ⟨_, G', B', { mw := hmw, sz := by have := h.sz; omega, dev := h.dev, cur := h.cur, stat := ?_, z := ?_, b1 := ?_, b2 := ?_, nb := hnb.trans h.nb, p := hp.trans h.p, o := (hoi 0 (by have := h.sz; omega)).trans h.o, own := ?_, fv := ?_, bel := hb2, lo := hlo2, x := ⟨h.x.1, Nat.le_trans h.x.2 hmv.only.size⟩ }, ho⟩
  · intro i hi
    rcases Nat.lt_or_ge i N with h1 | h1
    · rw [hopi i h1]; exact h.stat i h1
    · obtain rfl : i = N := by omega
      rw [hopN]
      exact { k := rfl, main := fun e => by have := h.sz; omega, help := fun _ e he => hes.conf e he, nd := hes.ok.nd, len := hes.ok.n, ordl := hord.len, ordm := fun x hx => hord.all x hx, ordv := fun x hx => hord.lt x hx }
  · intro i hi
    rcases Nat.lt_or_ge i N with h1 | h1
    · rw [hopi i h1]; exact h.z i h1
    · obtain rfl : i = N := by omega
      rw [hopN]
      exact ⟨rfl, rfl, rfl, rfl, rfl⟩
  · intro k hk
    unfold MS.begin MS.begun
    dsimp only
    by_cases e : k = N
    · rw [e, upd_same]
    · rw [upd_ne _ _ e]; exact h.b1 k (by omega)
  · intro k hk
    unfold MS.begin MS.begun
    dsimp only
    rw [upd_ne _ _ (by omega)]
    exact h.b2 k (by omega)
  · rw [mcells_congr hoi]
    exact own_agree h.own (fun b hb => hmv.only.block b (h.own.lt b hb).2 (by rw [(h.fv b hb).1, (h.fv b hb).2]; simp))
  · intro b hb
    rw [(hmv.same b (h.own.lt b hb).2).1, (hmv.same b (h.own.lt b hb).2).2]
    exact h.fv b hb
/-- It is appended. -/
theorem TpSt.app (h : TpSt W A n N K m p0 o0 X F G B v w) {w4 : World} {g4 cap4 : Nat} (hown : w4.ownsRow X 130 1 (.slice (some ⟨g4, 0, none⟩) (K + 1) cap4) (K + 1) (mcells B K ++ [mach (B.o K)]))
    (hgr : w.grownBy w4 v.ownBlock) (hg : v.ownBlock = some g4 ∨ w.heap.size ≤ g4) : TpSt W A n N (K + 1) m p0 o0 X F G B (.slice (some ⟨g4, 0, none⟩) (K + 1) cap4) w4 := by
  have hon : Only (fun b => v.ownBlock = some b) w w4 := ⟨hgr.os, hgr.tape, hgr.output, hgr.size, fun b hb hn => hgr.block b hb (fun e => hn e.symm)⟩
  refine { h with mw := h.mw.free hon (fun b hb _ => h.fv b hb), own := by rw [mcells_succ]; exact hown, fv := ?_, bel := below_grown h.bel hgr (Nat.le_trans h.x.1 h.x.2) (fun b hb => Nat.le_trans h.x.1 (h.own.lt b hb).1), x := ⟨h.x.1, Nat.le_trans h.x.2 hgr.size⟩ }
  intro b hb
  have hbg : b = g4 := by have : some g4 = some b := hb; exact (Option.some.inj this).symm
  subst hbg
  rcases hg with hg | hg
  · exact h.fv b hg
  · exact h.mw.none hg
/-- The machine is ready to run. -/
theorem TpSt.start (h : TpSt W A n N K m p0 o0 X F G B v w) (hn : 2 ≤ n ∧ n ≤ 6) (T : Nat → Nat) (o a : Bool) (l x : Nat) : Inv T n N { m with dev := m.dev.ctl o a l x } ∧ Ready T N { m with dev := m.dev.ctl o a l x } := by
  obtain ⟨s1, _⟩ := set_ok
  have hq : Eqv (m.dev.ctl o a l x) set2 := by rw [h.dev]; exact ctl_eqv set2 o a l x
  exact inv_start ⟨hn.1, hn.2, h.sz.1, h.sz.2⟩ (hq.L.trans s1.L) h.stat (fun j hj => hq.all (s1.val j hj)) (fun k hk => hq.all (s1.sta k hk)) h.cur h.z
end

/-- The first operation is prepared and stands alone in the slice. -/
theorem TpSt.first {W : World} {A : DAd} {n : Nat} {F G : Nat → Option Role} {B : MAd} {w w1 : World} (hmw : MW w A B 32 0 (ms0 set2) F G) (hbel : Below W.heap.size W w) (hlo : ∀ b, F b ≠ none ∨ G b ≠ none → W.heap.size ≤ b) (hnb : B.nb = 8) (hn : 2 ≤ n ∧ n ≤ 6)
    {ord : List Nat} {B' : MAd} {G' : Nat → Option Role} (h1 : MW w1 A B' 32 1 ((ms0 set2).begin 0 0 (mainEs n) ord) F G') (hord : OrdL (mainEs n).length ord) (hnb' : B'.nb = B.nb) (hp : B'.p = B.p) (hmv : MMoved F G F G' w w1) :
    TpSt W A n 1 1 ((ms0 set2).begin 0 0 (mainEs n) ord) B.p (B'.o 0) w1.heap.size F G' B' (.slice (some ⟨w1.heap.size, 0, none⟩) 1 1) (w1.alloc (.cells #[mach (B'.o 0)] 130)) := by
  obtain ⟨hb2, hlo2⟩ := below_mmoved hbel hlo hmv
  have hb : Below w1.heap.size w1 (w1.alloc (.cells #[mach (B'.o 0)] 130)) := below_alloc (Below.refl _ _)
  have hlen : (mainEs n).length = n := by simp [mainEs]
  have hop : ((ms0 set2).begin 0 0 (mainEs n) ord).op 0 = opNew 0 0 (mainEs n) ord := by unfold MS.begin MS.begun; dsimp only; rw [upd_same]
  refine { mw := (h1.below hb).1, sz := ⟨by omega, by omega⟩, dev := (begin_dev _ _ _ _).1, cur := (begin_dev _ _ _ _).2, stat := ?_, z := ?_, b1 := ?_, b2 := ?_, nb := hnb'.trans hnb, p := hp, o := rfl, own := ?_, fv := ?_, bel := hb2.trans (hb.mono hb2.size), lo := hlo2, x := ⟨hb2.size, by simp⟩ }
  · intro i hi
    obtain rfl : i = 0 := by omega
    rw [hop]
    refine { k := rfl, main := fun _ => rfl, help := fun e => absurd rfl e, nd := ?_, len := by show 1 ≤ (mainEs n).length ∧ (mainEs n).length ≤ 6; omega, ordl := hord.len, ordm := fun x hx => hord.all x hx, ordv := fun x hx => hord.lt x hx }
    show ((mainEs n).map (·.1)).Nodup
    obtain ⟨a, b⟩ := hn
    have : n = 2 ∨ n = 3 ∨ n = 4 ∨ n = 5 ∨ n = 6 := by omega
    rcases this with rfl | rfl | rfl | rfl | rfl <;> decide +kernel
  · intro i hi
    obtain rfl : i = 0 := by omega
    rw [hop]
    exact ⟨rfl, rfl, rfl, rfl, rfl⟩
  · intro k hk
    obtain rfl : k = 0 := by omega
    unfold MS.begin MS.begun
    dsimp only
    rw [upd_same]
  · intro k hk
    unfold MS.begin MS.begun
    dsimp only
    rw [upd_ne _ _ (by omega)]
    rfl
  · refine ⟨rfl, .inr ⟨w1.heap.size, 1, _, rfl, Nat.le_refl _, heap_alloc_new _ _, by omega, by unfold maxLen; omega, rfl, rfl⟩⟩
  · intro b hb3
    have : w1.heap.size = b := by have : some w1.heap.size = some b := hb3; exact Option.some.inj this
    exact h1.none (by omega)

/-- The device is armed. -/
theorem TpSt.armed {W : World} {A : DAd} {n N cap g : Nat} {m : MS} {p0 o0 X : Nat} {F G : Nat → Option Role} {B : MAd} {w w' : World} {T : Nat → Nat} {l : Nat} (h : TpSt W A n N N m p0 o0 X F G B (.slice (some ⟨g, 0, none⟩) N cap) w) (hn : 2 ≤ n ∧ n ≤ 6) (hT : NTab W T)
    (hd : Dev w' A (m.dev.ctl false true l m.dev.ex) F) (hm : Moved F F w w') :
    ∃ m' : MS, MW w' A B 32 N m' F G ∧ Tb w' T F G ∧ Inv T n N m' ∧ Ready T N m' ∧ Machs w' B N g F G ∧ m'.dev.ex ≤ 10000 ∧ Below W.heap.size W w' := by
  obtain ⟨h1, mv1⟩ := h.mw.moved hd hm rfl
  obtain ⟨h2, h3⟩ := h.start hn T false true l m.dev.ex
  obtain ⟨hb, _⟩ := below_mmoved h.bel h.lo mv1
  have hnl := hT.lt
  have hlow : ∀ b, b < W.heap.size → F b = none ∧ G b = none := fun b hb => by
    constructor
    · cases e : F b with
      | none => rfl
      | some q => have := h.lo b (.inl (by rw [e]; simp)); omega
    · cases e : G b with
      | none => rfl
      | some q => have := h.lo b (.inr (by rw [e]; simp)); omega
  have hg := h.fv g rfl
  have hgl := (h.own.lt g rfl).2
  have hgb : w'.heap[g]? = w.heap[g]? := mv1.only.block g hgl (by rw [hg.1, hg.2]; simp)
  refine ⟨_, h1, ⟨hT.below hb (Nat.le_refl _), (hlow _ hnl).1, (hlow _ hnl).2⟩, h2, h3, ⟨fun i hi => ?_, ?_, hg⟩, ?_, hb⟩
  · rw [World.cell?_of_block (a := ⟨g, i, none⟩) hgb]
    have := h.own.cells (g := g) rfl i (mach (B.o i)) (by unfold mcells; rw [List.getElem?_map, List.getElem?_range hi]; rfl)
    rw [Addr.add_lit, Nat.zero_add] at this
    exact this
  · rcases h.own.2 with ⟨e, _⟩ | ⟨g', cap', cur, e, _, hh, _⟩
    · cases e
    · simp only [Value.slice.injEq, Option.some.injEq, Addr.mk.injEq] at e
      rw [← e.1.1] at hh
      exact ⟨cur, hgb.trans hh⟩
  · have := set_ok.1.ex
    rw [← h.dev] at this
    show m.dev.ex ≤ 10000
    omega

/-- After a crash: what recovery finds, and what it leaves. -/
theorem Inv.crashed {T : Nat → Nat} {n N : Nat} {m : MS} (h : Inv T n N m) {c : Nat → Nat} (hc : m.dev.Cut c) :
    ∃ D, RecOk (m.dev.after c) 3 D ∧ (∀ k, k < 8 → Desc T 32 (64 * (m.dev.after c).L) (m.dev.after c).cur k (D k)) ∧
      ∃ b : Bool, (((m.op 0).ended && decide ((m.op 0).err = 0)) = true → b = true) ∧ ∀ j, j < 8 → (recs (m.dev.after c) 3 D 8).cur (288 + j) < 4611686018427387904 ∧ (recs (m.dev.after c) 3 D 8).cur (288 + j) % 1099511627776 = newV n b j := by
  obtain ⟨b, h1, h2⟩ := h.recovered hc 3
  refine ⟨Dv.found m c, h.recok hc 3, fun k hk => h.desc hc hk, b, fun e => ?_, h2⟩
  rw [Bool.and_eq_true] at e
  exact h1 e.1 (of_decide_eq_true e.2)
theorem Chs.le {w : World} {a : Option Addr} {n k : Nat} (h : Chs w a n) (hk : k ≤ n) : Chs w a k := by
  refine ⟨Nat.le_trans hk h.1, fun h0 => ?_⟩
  obtain ⟨cb, co, e, hh⟩ := h.2 (by omega)
  exact ⟨cb, co, e, fun j hj => hh j (by omega)⟩
def cnt (n : Nat) (b : Bool) (j : Nat) : Nat := if b then min j n else 0

/-! ### the entries of the change -/
theorem mainEs_new {n : Nat} (hn : 2 ≤ n ∧ n ≤ 6) : EsNew (64 * set2.L) (mainEs n) := by
  have hL := set_ok.1.L
  rw [hL]
  have hlen : (mainEs n).length = n := by simp [mainEs]
  refine ⟨by omega, fun e he => ?_, fun e he => ?_, ?_⟩
  · obtain ⟨j, hj, rfl⟩ := mem_mainEs he
    dsimp only
    omega
  · obtain ⟨j, hj, rfl⟩ := mem_mainEs he
    dsimp only
    omega
  · have : n = 2 ∨ n = 3 ∨ n = 4 ∨ n = 5 ∨ n = 6 := by omega
    rcases this with rfl | rfl | rfl | rfl | rfl <;> decide +kernel
theorem mainEs_get {n k : Nat} (h : k < n) : (mainEs n)[k]? = some (2304 + 8 * (n - 1 - k), n - 1 - k, 100 + (n - 1 - k)) := by
  unfold mainEs
  rw [List.getElem?_map, List.getElem?_range h]
  rfl
theorem mainEs_take {n k : Nat} (h : k < n) : (mainEs n).take (k + 1) = (mainEs n).take k ++ [(2304 + 8 * (n - 1 - k), n - 1 - k, 100 + (n - 1 - k))] := by
  rw [List.take_add_one, mainEs_get h]
  rfl
theorem mainEs_len (n : Nat) : (mainEs n).length = n := by simp [mainEs]
end Go.Proofs.YtjoipeojenfiiaaGreatDoor.Dv
