/- Part 12. -/
import Derived.Test.YteomliechfdhhaaGreatDoorY11
import Derived.IntWalk
import Derived.Test.YteomliechfdhhaaGreatDoorY0
set_option maxHeartbeats 8000000
set_option maxRecDepth 20000
set_option linter.all false
namespace Go.Proofs.YteomliechfdhhaaGreatDoor.Dv
open Tryz
section
open Go.RowKit
def Yd (L:Nat)(g:Nat->Nat):DSt:=
 {L:=L,base:=g,H:=fun _=>[],dn:=fun _=>0,off:=false,armed:=false,left:=0,ex:=0,err:=fun _=>0,notes:=fun _ _=>none,nb:=0}
theorem ZGT {L:Nat}{g:Nat->Nat}(hL:1<=L/\L<=4096)(hg:∀ x,g x < 18446744073709551616):(Yd L g).Ok where
 lines:=hL
 base:=hg
 dn:=fun _=>nR
 word:=fun n p hp=>by simp [Yd] at hp
 len:=fun _=>nR
 ex:=by simp [Yd]
 left:=by simp [Yd]
 note:=fun t n p hp=>by simp [Yd] at hp
 err:=fun _=>by simp [Yd]
 nb:=nR
def ZB0 (A:DAd)(s:DSt)(k:Nat)(y:Nat):Value:=if 3+k<=y/\y < 11 then .pointer none else VO A s y
structure PDev (w:World)(A:DAd)(s:DSt)(F:Nat->Option ZK)(k:Nat):Prop where
 dev:Row w A.d 171 15 (ZB0 A s k)
 per:Row w A.per 29 (8 * s.L) (fun x=>u64 (s.per x))
 cur:Row w A.cur 29 (8 * s.L) (fun x=>u64 (s.cur x))
 cap:8 * s.L<=A.cap
 lin:∃ hv,Row w A.lin 446 (2 * s.L) (X0 s hv)/\∀ n,n < s.L->Hist w F n (hv n) (s.hist n)
 thr:∀ i,i < k->Row w (A.t i) 174 4 (ZDy A s i)
 note:∀ i,i < k->Notes w (A.m i) s.nb (s.notes i)
 fd:F A.d=some (0,0)
 fper:F A.per=some (1,0)
 fcur:F A.cur=some (2,0)
 flin:F A.lin=some (3,0)
 ft:∀ i,i < k->F (A.t i)=some (4,i)
 fm:∀ i,i < k->F (A.m i)=some (5,i)
 lt:∀ k,F k≠none->k < w.heap.size
theorem PDev.full {w:World}{A:DAd}{s:DSt}{F:Nat->Option ZK}(h:PDev w A s F 8)(hok:s.Ok):Dev w A s F:=
 {h with ok:=hok,dev:=h.dev.congr (fun y _=>by unfold ZB0;rw [ZKu (by omega)])}
theorem PDev.step {w:World}{A:DAd}{L k:Nat}{g:Nat->Nat}{F:Nat->Option ZK}(h:PDev w A (Yd L g) F k)(hk:k < 8):
 PDev (((w.alloc (.map #[] 0)).alloc (.cells #[ptr A.d,i64 k,i64 0,.map (some w.heap.size)] 174)).setCell ⟨A.d,3+k,none⟩ (ptr (w.heap.size+1)))
  {A with t:=upd A.t k (w.heap.size+1),m:=upd A.m k w.heap.size} (Yd L g) (upd (upd F w.heap.size (some (5,k))) (w.heap.size+1) (some (4,k))) (k+1):=by
 obtain ⟨W,hW⟩:=xE ((w.alloc (.map #[] 0)).alloc (.cells #[ptr A.d,i64 k,i64 0,.map (some w.heap.size)] 174));rw [<-hW];have hd:A.d < w.heap.size:=h.lt _ (by rw [h.fd];simp);have s1:(w.alloc (.map #[] 0)).heap.size=w.heap.size+1:=by simp
 have old:∀ b,b < w.heap.size->W.heap[b]?=w.heap[b]?:=fun b hb=>by rw [hW,ZI (by omega),ZI hb]
 have oldd:∀ b,b < w.heap.size->b≠A.d->(W.setCell ⟨A.d,3+k,none⟩ (ptr (w.heap.size+1))).heap[b]?=w.heap[b]?:=fun b hb hn=>by rw [ZF hn,old b hb]
 have Fold:∀ b q,F b=some q->(upd (upd F w.heap.size (some (5,k))) (w.heap.size+1) (some (4,k))) b=some q:=fun b q hb=>by
  have:=h.lt b (by rw [hb];simp);unfold upd;rw [ZKu (by omega),ZKu (by omega)];exact hb
 have ltOf:∀ b q,F b=some q->b < w.heap.size:=fun b q hb=>h.lt b (by rw [hb];simp)
 have keep:∀ b q,F b=some q->q≠(0,0)->(W.setCell ⟨A.d,3+k,none⟩ (ptr (w.heap.size+1))).heap[b]?=w.heap[b]?:=fun b q hb hq=>oldd b (ltOf b q hb) (ZU hb h.fd hq)
 refine {dev:=?_,per:=?_,cur:=?_,cap:=h.cap,lin:=?_,thr:=?_,note:=?_,fd:=Fold _ _ h.fd,fper:=Fold _ _ h.fper,fcur:=Fold _ _ h.fcur,flin:=Fold _ _ h.flin,ft:=?_,fm:=?_,lt:=?_}
 ·refine ((h.dev.of_block (old _ hd)).set (3+k) (ptr (w.heap.size+1))).congr (fun y hy=>?_)
  unfold ZB0
  by_cases e:y=3+k
  ·rw [ZKv e,ZKu (by omega)]
   subst e;have:k=0\/k=1\/k=2\/k=3\/k=4\/k=5\/k=6\/k=7:=by omega
   rcases this with rfl|rfl|rfl|rfl|rfl|rfl|rfl|rfl <;> simp [VO,upd]
  ·rw [ZKu e]
   by_cases e2:3+(k+1)<=y/\y < 11
   ·rw [ZKv e2,ZKv (by omega)]
   ·rw [ZKu e2,ZKu (by omega)]
    by_cases e3:3<=y/\y < 3+k
    ·have:y=3\/y=4\/y=5\/y=6\/y=7\/y=8\/y=9\/y=10:=by omega
     rcases this with rfl|rfl|rfl|rfl|rfl|rfl|rfl|rfl <;> simp only [VO] <;> rw [ZZ _ _ (by omega)]
    ·have:y=0\/y=1\/y=2\/y=11\/y=12\/y=13\/y=14:=by omega
     rcases this with rfl|rfl|rfl|rfl|rfl|rfl|rfl <;> rfl
 ·exact h.per.of_block (keep _ _ h.fper (by simp))
 ·exact h.cur.of_block (keep _ _ h.fcur (by simp))
 ·obtain ⟨hv,h1,h2⟩:=h.lin
  refine ⟨hv,h1.of_block (keep _ _ h.flin (by simp)),fun n hn=>?_⟩;rcases h2 n hn with h3|⟨b,o,cap,c,g1,g2,g3,g4⟩
  ·exact .inl h3
  ·exact .inr ⟨b,o,cap,c,g1,Fold _ _ g2,(keep _ _ g2 (by simp)).trans g3,g4⟩
 ·intro i hi
  by_cases e:i=k
  ·subst e
   dsimp only;rw [ZS];refine YL ?_ ?_ (c:=#[ptr A.d,i64 i,i64 0,.map (some w.heap.size)])
   ·rw [ZF (by omega),hW,<-s1,ZB]
   ·intro x hx
    have:x=0\/x=1\/x=2\/x=3:=by omega
    rcases this with rfl|rfl|rfl|rfl <;> simp [ZDy,upd,Yd]
  ·dsimp only
   rw [ZZ _ _ e];refine ((h.thr i (by omega)).of_block (keep _ _ (h.ft i (by omega)) (by simp))).congr (fun x hx=>?_);have:x=0\/x=1\/x=2\/x=3:=by omega
   rcases this with rfl|rfl|rfl|rfl <;> simp [ZDy,upd,e]
 ·intro i hi
  by_cases e:i=k
  ·subst e
   dsimp only;rw [ZS];refine Notes.of_agree (w:=w.alloc (.map #[] 0)) ⟨_,World.ownsMap_made w _ _ _,fun k hk=>by simp [Maps.has] at hk,fun n=>⟨by simp [Maps.has,Yd],fun p zd hp=>by simp [Yd] at hp⟩⟩ ?_;rw [ZF (by omega),hW,ZI (by omega)]
  ·dsimp only
   rw [ZZ _ _ e];exact (h.note i (by omega)).of_agree (keep _ _ (h.fm i (by omega)) (by simp))
 ·intro i hi
  by_cases e:i=k
  ·subst e;dsimp only;rw [ZS,ZS]
  ·dsimp only;rw [ZZ _ _ e];exact Fold _ _ (h.ft i (by omega))
 ·intro i hi
  by_cases e:i=k
  ·subst e;dsimp only;rw [ZS,ZZ _ _ (by omega),ZS]
  ·dsimp only;rw [ZZ _ _ e];exact Fold _ _ (h.fm i (by omega))
 ·intro b hb
  have hsz:(W.setCell ⟨A.d,3+k,none⟩ (ptr (w.heap.size+1))).heap.size=w.heap.size+2:=by rw [hW];simp [World.setCell]
  rw [hsz];unfold upd at hb
  by_cases e1:b=w.heap.size+1
  ·omega
  ·rw [ZKu e1] at hb
   by_cases e2:b=w.heap.size
   ·omega
   ·rw [ZKu e2] at hb
    have:=h.lt b hb;omega
theorem ZD {a w:World}(h:Bl a w):Bl a w.drew:=⟨h.os,h.tape,h.output,h.size,h.block⟩
theorem ZA {a w:World}{o:Obj}(h:Bl a w):Bl a (w.alloc o):=h.alloc h.size o
def OfStart (w:World)(p L:Nat)(g:Nat->Nat)(v:Value)(wx:World):Prop:=
 ∃ A F,v=ptr A.d/\A.per=p/\PDev wx A (Yd L g) F 0/\Bl w wx/\(∀ k,F k≠none->k=p\/w.heap.size<=k)
theorem OfStart.of {w wx:World} {p L:Nat} {g:Nat->Nat} {d cur cap lin:Nat} {cl:Array Value} (hrow:Row w p 29 (8 * L) (fun x=>u64 (g x))) (hb:Bl w wx)
 (hd:wx.heap[d]?=some (.cells #[.slice (some ⟨p,0,none⟩) (8 * L) (8 * L),.slice (some ⟨cur,0,none⟩) (8 * L) cap,.slice (some ⟨lin,0,none⟩) L L,
   .pointer none,.pointer none,.pointer none,.pointer none,.pointer none,.pointer none,.pointer none,.pointer none,.bool false,.bool false,.int .i64 0,.int .u64 0] 171 (0,0)))
 (hc:Row wx cur 29 (8 * L) (fun x=>u64 (g x))) (hcap:8 * L<=cap/\cap<=maxLen) (hl:wx.heap[lin]?=some (.cells cl 446 (0,0))) (hcl:cl=madeCells #[.int .u64 0,.slice none 0 0] (L * 2))
 (h1:w.heap.size<=d)(h2:w.heap.size<=cur)(h3:w.heap.size<=lin)(n1:d≠cur)(n2:d≠lin)(n3:cur≠lin):OfStart w p L g (.pointer (some ⟨d,0,none⟩)) wx:=by
 have hp:=hrow.lt
 refine ⟨{d:=d,per:=p,cur:=cur,cap:=cap,lin:=lin,t:=fun _=>0,m:=fun _=>0},fun b=>if b=d then some (0,0) else if b=p then some (1,0) else if b=cur then some (2,0) else if b=lin then some (3,0) else none,rfl,rfl,
  {dev:=?_,per:=?_,cur:=?_,cap:=hcap.1,lin:=?_,thr:=fun i hi=>by omega,note:=fun i hi=>by omega,fd:=?_,fper:=?_,fcur:=?_,flin:=?_,ft:=fun i hi=>by omega,fm:=fun i hi=>by omega,lt:=?_},hb,?_⟩
 ·refine YL hd (fun x hx=>?_)
  have:x=0\/x=1\/x=2\/x=3\/x=4\/x=5\/x=6\/x=7\/x=8\/x=9\/x=10\/x=11\/x=12\/x=13\/x=14:=by omega
  rcases this with rfl|rfl|rfl|rfl|rfl|rfl|rfl|rfl|rfl|rfl|rfl|rfl|rfl|rfl|rfl <;> simp [ZB0,VO,Yd,i64,u64]
 ·exact hrow.of_block (hb.block _ hp)
 ·exact hc
 ·refine ⟨fun _=>.slice none 0 0,YL hl (fun x hx=>?_),fun n hn=>.inl ⟨rfl,rfl⟩⟩
  have hx':x < L * 2:=by simp [Yd] at hx;omega
  rw [hcl];unfold X0 madeCells;rw [Array.getElem?_map,Array.getElem?_range,ZKv hx'];have:x % 2=0\/x % 2=1:=by omega
  rcases this with e|e <;> simp [e,Yd,u64]
 ·simp
 ·simp;omega
 ·simp [n1.symm];omega
 ·simp [n2.symm,n3.symm];omega
 ·intro k hk
  have:=heap_lt hd;have:=heap_lt hl;have:=hc.lt;have:=hb.size
  by_cases e1:k=d
  ·omega
  ·by_cases e2:k=p
   ·omega
   ·by_cases e3:k=cur
    ·omega
    ·by_cases e4:k=lin
     ·omega
     ·exact absurd (by simp [e1,e2,e3,e4]) hk
 ·intro k hk
  by_cases e1:k=d
  ·omega
  ·by_cases e2:k=p
   ·omega
   ·by_cases e3:k=cur
    ·omega
    ·by_cases e4:k=lin
     ·omega
     ·exact absurd (by simp [e1,e2,e3,e4]) hk
def ZHj (w:World)(B:Nat->Prop)(s:DSt)(r:Value)(w':World):Prop:=
 ∃ A F,r=ptr A.d/\Dev w' A s F/\Bl w w'/\(∀ k,F k≠none->B k\/w.heap.size<=k)
def ZF0 (w:World)(p L:Nat)(g:Nat->Nat)(d:Nat)(i:Value)(wr:World):Prop:=
 ∃ A F k,k<=8/\i=.int .i64 (k:Nat)/\A.d=d/\A.per=p/\PDev wr A (Yd L g) F k/\Bl w wr/\(∀ k,F k≠none->k=p\/w.heap.size<=k)
theorem ZJO {w:World}{p L:Nat}{g:Nat->Nat}(hrow:Row w p 29 (8 * L) (fun x=>u64 (g x)))(hL:1<=L/\L<=4096)(hg:∀ x,g x < 18446744073709551616):
 Calls prog 43 #[.slice (some ⟨p,0,none⟩) (8 * L) (8 * L)] w fun r w'=>∃ v,r=.returned v/\ZHj w (fun k=>k=p) (Yd L g) v w':=by
 have hmm:=@run_makeMap prog;obtain ⟨N,hN⟩:=xE (8 * L);have hmk:∀ w':World,(Instr.makeSlice 168 (.int .i64 ((N:Int) / 8)) (.int .i64 ((N:Int) / 8))).run prog w'=.ok (.slice (some ⟨w'.heap.size,0,none⟩) L L) (w'.alloc (.cells (madeCells #[.int .u64 0,.slice none 0 0] (L * 2)) 446)):=by
  intro w';obtain ⟨i,hi,hz,hsz,hby⟩:=info_parts ZGb;have:=run_make (P:=prog) w' 168 446 i _ underlying168 hi hz .i64 .i64 ((N:Int) / 8) ((N:Int) / 8) (by omega) (Int.le_refl _) (by rw [hby];omega) (by omega);rw [this,hsz];have e:((N:Int) / 8).toNat=L:=by omega
  rw [e];rfl
 have hcl:=fun (w':World) (hb:Bl w w')=>ZBp (cap:=8 * L) (hrow.of_block (hb.block _ hrow.lt)) (by omega) (by omega)
 rw [<-hN] at hcl ⊢;have HC:=zh hcl;have HR:=zh hrow;have b1:(N:Int)<=100000:=by omega
 have HN:=zh hN;clear hcl hrow hN;have hwr:IntKind.i64.wrap ((N:Int) / 8)=(N:Int) / 8:=IntWalk.i64_in _ (by omega);go_in;go_upto_region 1 with fail
 go_cut [3] (fun v wx=>OfStart w p L g v wx)
 case first=>
  go_region_with ((go_at_call 86;refine (HC.o _ (by repeat (first|exact bR|refine ZD ?_|refine ZA ?_))).mono ?_;rintro e w' ⟨v,rfl,⟨bc,cc,rfl,hr,hge,hc1,hc2⟩,hb⟩))
  all_goals (go_wp2_with fail;go_meet;obtain rfl:=HN.o)
  ·have e1:w'.heap.size+1=(w'.alloc (.cells (madeCells #[.int .u64 0,.slice none 0 0] (L * 2)) 446)).heap.size:=by simp
   have hb':Bl w w':=(ZD (Below.refl _ w)).trans hb;have hge':w.heap.size<=bc:=hge;have hs:=hb'.size;have hlt:=hr.lt;rw [e1];refine OfStart.of HR.o (ZA (ZA hb')) (ZB _ _) ((hr.alloc _).alloc _) ⟨hc1,hc2⟩ (lin:=w'.heap.size) ((ZI (by simp)).trans (ZB _ _)) rfl ?_ hge' hs ?_ ?_ ?_ <;> (try rw [<-e1]) <;> omega
  ·have hb':Bl w w':=(ZD (ZA (Below.refl _ w))).trans (hb.mono (by simp))
   have hge':w.heap.size+1<=bc:=by simpa using hge
   have hs:w.heap.size+1<=w'.heap.size:=by simpa using hb.size
   have hlt:=hr.lt;refine OfStart.of HR.o (ZA hb') (ZB _ _) (hr.alloc _) ⟨hc1,hc2⟩ (lin:=w.heap.size) ((ZI (by omega)).trans ((hb.block _ (by simp)).trans (ZB _ _))) rfl ?_ ?_ ?_ ?_ ?_ ?_ <;> omega
 case rest=>
  obtain ⟨A,F,rfl,hp,hpd,hb,hF⟩:=hcut;have HS:=zh (show ZF0 w p L g A.d (.int .i64 (0:Nat)) _ from ⟨A,F,0,by omega,rfl,rfl,hp,hpd,hb,hF⟩);clear hp hpd hb hF HC HR hmk;obtain ⟨d,hd⟩:=xE A.d;simp only [ptr];rw [<-hd] at HS ⊢;clear hd;go_wp2_with fail
  go_loopw [4,14] (fun _ i wr=>ZF0 w p L g d i wr) (fun _ i _=>8 - (intOf i).toNat)
  case atStart=>exact HS.o
  case round=>
   obtain ⟨A,F,k,hk,rfl,hd,hp,hpd,hb,hF⟩:=hrel;subst hd
   by_cases hlt:k < 8
   ·have hlt2:(k:Int) < 8:=by omega
    have c1:wr.cell? ⟨A.d,3+k,none⟩=some (.pointer none):=by
     rw [hpd.dev.cell _ (by omega)];unfold ZB0;rw [ZKv (by omega)]
    have f1:wr.frozen? ⟨A.d,3+k,none⟩=false:=hpd.dev.free _;have hdl:A.d < wr.heap.size:=hpd.lt _ (by rw [hpd.fd];simp);have hst:=hpd.step hlt;have hF2:∀ b,(upd (upd F wr.heap.size (some (5,k))) (wr.heap.size+1) (some (4,k))) b≠none->b=p\/w.heap.size<=b:=by
     intro b hb2;have:=hb.size;unfold upd at hb2
     by_cases e1:b=wr.heap.size+1
     ·omega
     ·rw [ZKu e1] at hb2
      by_cases e2:b=wr.heap.size
      ·omega
      ·rw [ZKu e2] at hb2;exact hF b hb2
    have hdp:w.heap.size<=A.d:=by
     rcases hF A.d (by rw [hpd.fd];simp) with e|e
     ·exact absurd (e.trans hp.symm) (ZU hpd.fd hpd.fper (by simp))
     ·exact e
    have hb2:Bl w (((wr.alloc (.map #[] 0)).alloc (.cells #[ptr A.d,i64 k,i64 0,.map (some wr.heap.size)] 174)).setCell ⟨A.d,3+k,none⟩ (ptr (wr.heap.size+1))):=
     (ZA (ZA hb)).setCell hdp _
    have G:=zh (show ZF0 w p L g A.d (.int .i64 ((k+1:Nat):Int)) _ from ⟨{A with t:=upd A.t k (wr.heap.size+1),m:=upd A.m k wr.heap.size},_,k+1,by omega,rfl,rfl,hp,hst,hb2,hF2⟩);clear hst hF2 hb2 hdp hp hpd hb hF hk;simp only [ptr,i64] at G;go_wp2_with fail;go_roundw
    case rel=>
     have:=G.o;rw [World.setCell_alloc_past _ _ _ _ (by simp;omega),World.setCell_alloc_past _ _ _ _ hdl] at this;simpa using this
    case measure=>simp [intOf];omega
   ·obtain rfl:k=8:=by omega
    have G:=zh (show ZHj w (fun k=>k=p) (Yd L g) (ptr A.d) wr from ⟨A,F,rfl,hpd.full (ZGT hL hg),hb,hF⟩);clear hp hpd hb hF hk hlt;simp only [ptr] at G;go_wp2;go_returns;exact ⟨_,rfl,G.o⟩
theorem ZID {w:World}{L:Nat}(hL:1<=L/\L<=4096):
 Calls prog 19 #[i64 L] w fun r w'=>∃ v,r=.returned (.tuple #[v,.int .i64 0])/\ZHj w (fun _=>False) (Yd L (fun _=>0)) v w':=by
 obtain ⟨i,hi,hz,hsz,hby⟩:=info_parts Vj;have hmk:=run_make (P:=prog) w 123 29 i _ underlying123 hi hz .i64 .i64 ((L:Int) * 8) ((L:Int) * 8) (by omega) (Int.le_refl _) (by rw [hby];omega) (by omega);have e:((L:Int) * 8).toNat=8 * L:=by omega
 rw [e,hsz,Nat.mul_one] at hmk;obtain ⟨W,hW⟩:=xE (w.alloc (.cells (madeCells (Value.int .u64 0).cells (8 * L)) 29));have hrow:Row W w.heap.size 29 (8 * L) (fun _=>u64 0):=by
  rw [hW];refine YL (ZB _ _) (fun x hx=>?_);unfold madeCells;rw [Array.getElem?_map,Array.getElem?_range,ZKv hx];simp [Value.cells,u64,Nat.mod_one]
 have hof:=ZJO (g:=fun _=>0) hrow hL (fun _=>by omega);have HO:=zh hof;have HW:=zh hW;have b1:(1:Int)<=L:=by omega
 have b2:(L:Int)<=4096:=by omega
 have d1:decide ((L:Int) < 1)=false:=by simp;omega
 have d2:decide ((4096:Int) < L)=false:=by simp;omega
 rw [<-hW] at hmk;clear hof hW hrow e;simp only [i64];go_in;go_wp2_with fail;refine HO.o.mono ?_;rintro e w' ⟨v,rfl,hv⟩;obtain ⟨A,F,rfl,h1,h2,h3⟩:=hv;have hz:W.heap.size=w.heap.size+1:=by rw [HW.o];simp
 have G:=zh (show ZHj w (fun _=>False) (Yd L (fun _=>0)) (ptr A.d) w' from ⟨A,F,rfl,h1,(show Bl w W by rw [HW.o];exact ZA bR).trans (h2.mono (by omega)),fun k hk=>.inr (by
  rcases h3 k hk with e|e
  ·omega
  ·omega)⟩)
 clear h1 h2 h3 hz;simp only [ptr] at *;go_wp2;go_returns;exact ⟨_,rfl,G.o⟩
def Zy (g:Nat->Nat)(k:Nat):Nat:=g (k / 8) / 2 ^ (8 * (k % 8)) % 256
theorem ZEg (g:Nat->Nat)(k:Nat):Zy g k < 256:=Nat.mod_lt _ (by omega)
def BSl (w:World)(B n:Nat)(h:Nat->Nat)(v:Value):Prop:=
 ∃ b,v=.slice (some ⟨b,0,none⟩) n n/\Row w b 5 n (fun x=>.int .u8 (h x))/\B<=b
def Up (w:World)(N:Nat)(g:Nat->Nat)(B:Nat)(i:Value)(wr:World):Prop:=
 ∃ k:Nat,k<=8 * N/\i=.int .i64 (k:Nat)/\Row wr B 5 (8 * N) (fun x=>.int .u8 ((if x < k then Zy g x else 0:Nat):Int))/\Below w.heap.size w wr
theorem ZBl {w:World}{b N cap:Nat}{g:Nat->Nat}(hrow:Row w b 29 N (fun x=>u64 (g x)))(hN:N<=100000)(hg:∀ x,g x < 18446744073709551616):
 Calls prog 237 #[.slice (some ⟨b,0,none⟩) N cap] w fun r w'=>∃ v,r=.returned v/\BSl w' w.heap.size (8 * N) (Zy g) v/\Below w.heap.size w w':=by
 obtain ⟨i,hi,hz,hsz,hby⟩:=info_parts ZCB;have hmk:=run_make (P:=prog) w 242 5 i _ underlying242 hi hz .i64 .i64 ((N:Int) * 8) ((N:Int) * 8) (by omega) (Int.le_refl _) (by rw [hby];omega) (by omega);have e:((N:Int) * 8).toNat=8 * N:=by omega
 rw [e,hsz,Nat.mul_one] at hmk;obtain ⟨W,hW⟩:=xE (w.alloc (.cells (madeCells (Value.int .u8 0).cells (8 * N)) 5));have hst:Up w N g w.heap.size (.int .i64 (0:Nat)) W:=by
  refine ⟨0,by omega,rfl,?_,by rw [hW];exact ZA bR⟩;rw [hW];refine YL (ZB _ _) (fun x hx=>?_);unfold madeCells;rw [Array.getElem?_map,Array.getElem?_range,ZKv hx];simp [Value.cells,Nat.mod_one]
 rw [<-hW] at hmk;have HS:=zh hst;have HR:=zh hrow;have HG:=zh hg;have b1:(N:Int)<=100000:=by omega
 obtain ⟨B,hB⟩:=xE w.heap.size;rw [<-hB] at HS hmk ⊢;have HB:=zh hB;obtain ⟨M,hM⟩:=xE (8 * N);rw [<-hM] at hmk ⊢;have HM:=zh hM;have b2:(M:Int)<=800000:=by omega
 clear hst hrow hg hW e hi hz hsz hby hB hM;go_in;go_wp2_with fail
 go_loopw [4,11] (fun _ i wr=>Up w N g B i wr) (fun _ i _=>M - (intOf i).toNat)
 case atStart=>exact HS.o
 case round=>
  obtain ⟨k,hk,rfl,hr,hbel⟩:=hrel
  by_cases hlt:k < M
  ·have hlt2:(k:Int) < M:=by omega
   have hk8:k / 8 < N:=by have:=HM.o;omega
   have c1:wr.cell? ⟨b,k / 8,none⟩=some (.int .u64 (g (k / 8))):=by
    rw [hbel.cell HR.o.lt];exact HR.o.cell _ hk8
   have c2:=hr.cell k (by have:=HM.o;omega);have f2:=hr.free k;have bk:(k:Int) / 8 < N:=by omega
   have hgk:=HG.o (k / 8);have G:=zh (show Up w N g B (.int .i64 ((k+1:Nat):Int)) (wr.setCell ⟨B,k,none⟩ (.int .u8 (Zy g k))) from ⟨k+1,by have:=HM.o;omega,rfl,(hr.set k (.int .u8 (Zy g k))).congr (fun x hx=>by
    by_cases e:x=k
    ·rw [ZKv e,ZKv (by omega),e]
    ·rw [ZKu e]
     by_cases e2:x < k
     ·rw [ZKv e2,ZKv (by omega)]
     ·rw [ZKu e2,ZKu (by omega)]),hbel.setCell (by rw [<-HB.o];exact nR) _⟩)
   clear hr hbel hk;obtain ⟨x,hx⟩:=xE (g (k / 8));rw [<-hx] at c1 hgk;have HX:=zh hx;clear hx;go_wp2_with fail;go_roundw
   case rel=>
    have h:=G.o;have e:((Zy g k:Nat):Int)=(x:Int) / 2 ^ (k % 8 * 8) % 256:=by
     unfold Zy;rw [<-HX.o,Nat.mul_comm 8];simp
    rw [e] at h;simpa using h
   case measure=>simp [intOf];omega
  ·obtain rfl:k=M:=by have:=HM.o;omega
   have G:=zh (show BSl wr B k (Zy g) (.slice (some ⟨B,0,none⟩) k k) from ⟨B,rfl,by
    have hr':=hr;rw [<-HM.o] at hr';exact hr'.congr (fun x hx=>by rw [ZKv hx]),nR⟩)
   have G2:=zh hbel;rw [<-HB.o] at G2;clear hr hbel hk hlt;go_wp2;go_returns;exact ⟨_,rfl,G.o,G2.o⟩
theorem ZF5 {x v:Nat}{l:List (Nat×Nat)}(hv:v < 18446744073709551616)(h:∀ p∈l,p.2 < 18446744073709551616):after v x l < 18446744073709551616:=by
 induction l generalizing v with
 |nil=>exact hv
 |cons a l ih=>
  unfold after;refine ih ?_ (fun p hp=>h p (by simp [hp]));split
  ·exact h a (by simp)
  ·exact hv
theorem ZGG {s:DSt}(h:s.Ok)(x:Nat):s.cur x < 18446744073709551616:=ZF5 (h.base x) (fun p hp=>(h.word _ p hp).2.2)
theorem Zo {B:Nat}{a w:World}{o:Obj}(h:Below B a w)(hb:B<=w.heap.size):Below B a (w.alloc o):=h.alloc hb o
theorem ZR {w:World}{B:Nat}{e:TypeId}{z:Nat}{v:Value}{n:Nat}{xs:List Value}(h:w.ownsRow B e z v n xs):∃ a c,v=.slice a n c:=by
 rcases h.2 with ⟨rfl,rfl⟩|⟨g,cap,cur,rfl,_⟩
 ·exact ⟨_,_,rfl⟩
 ·exact ⟨_,_,rfl⟩
theorem ZBt {w:World}{A:DAd}{s:DSt}{F:Nat->Option ZK}(h:Dev w A s F):
 Calls prog 198 #[ptr A.d] w fun r w'=>∃ v,r=.returned v/\BSl w' w.heap.size (64 * s.L) (Zy s.cur) v/\Below w.heap.size w w':=by
 have c0:w.cell? ⟨A.d,1,none⟩=some (.slice (some ⟨A.cur,0,none⟩) (8 * s.L) A.cap):=h.dev.cell 1 (by omega);have hb:=ZBl (cap:=A.cap) h.cur (by have:=h.ok.lines;omega) (ZGG h.ok);rw [show 8 * (8 * s.L)=64 * s.L by omega] at hb;have HB:=zh hb;clear hb h;simp only [ptr];go_in;go_wp2_with fail;refine HB.o.mono ?_;rintro e w' ⟨v,rfl,⟨b,rfl,h1,h2⟩,h3⟩;have H1:=zh h1;have H3:=zh h3;clear h1 h3;go_wp2;go_returns;exact ⟨_,rfl,⟨b,rfl,H1.o,h2⟩,H3.o⟩
theorem ZHw:(prog.info? 3).map (fun i=>(i.zero,i.size,i.bytes))=some (some (.int .i64 0),1,8):=by kernel_rfl
def NTab (w:World)(T:Nat->Nat):Prop:=∀ i,i < 16->T i < 4294967296/\w.cell? ⟨1,i,none⟩=some (.int .u32 (T i))
theorem NTab.below {w w':World}{T:Nat->Nat}{B:Nat}(h:NTab w T)(hb:Below B w w')(hB:w.heap.size<=B):NTab w' T:=fun i hi=>
 ⟨(h i hi).1,by rw [hb.cell (ZLC (ZK2 _ _ (h i hi).2) hB)];exact (h i hi).2⟩
theorem NTab.lt {w:World}{T:Nat->Nat}(h:NTab w T):1 < w.heap.size:=ZK2 _ _ (h 0 (by omega)).2
theorem NTab.of_block {w w':World}{T:Nat->Nat}(h:NTab w T)(hb:w'.heap[(1:Nat)]?=w.heap[(1:Nat)]?):NTab w' T:=fun i hi=>
 ⟨(h i hi).1,by rw [ZK8 hb];exact (h i hi).2⟩
def Xe (T:Nat->Nat)(x:Nat):Nat:=x / 16 ^^^ T (x &&& 15)
def Vt (T:Nat->Nat)(r b:Nat):Nat:=Xe T (Xe T (r ^^^ b))
def Vu (T:Nat->Nat)(r x:Nat):Nat->Nat
 |0=>r
 |n+1=>Vt T (Vu T r x n) (x / 2 ^ (8 * n) % 256)
def Jk (T:Nat->Nat)(l:List Nat):Nat:=l.foldl (fun r x=>Vu T r x 8) 4294967295
def Vq (T:Nat->Nat)(l:List Nat):Nat:=4294967295 ^^^ Jk T l
theorem ZBj (x:Nat):x &&& 15 < 16:=by
 have:=@Nat.and_le_right x 15;omega
theorem J9 {w:World}{T:Nat->Nat}(hT:NTab w T){x:Nat}(hx:x < 4294967296):Xe T x < 4294967296:=by
 unfold Xe;have h1:=(hT (x &&& 15) (ZBj x)).1;exact Nat.xor_lt_two_pow (n:=32) (by omega) (by omega)
theorem ZBs {w:World}{T:Nat->Nat}(hT:NTab w T){r b:Nat}(hr:r < 4294967296)(hb:b < 256):Vt T r b < 4294967296:=by
 unfold Vt;exact J9 hT (J9 hT (Nat.xor_lt_two_pow (n:=32) (by omega) (by omega)))
theorem ZBu {w:World}{T:Nat->Nat}(hT:NTab w T){r x:Nat}(hr:r < 4294967296)(n:Nat):Vu T r x n < 4294967296:=by
 induction n with
 |zero=>exact hr
 |succ n ih=>exact ZBs hT ih (Nat.mod_lt _ (by omega))
theorem ZGS {w:World}{T:Nat->Nat}(hT:NTab w T)(l:List Nat):∀ r,r < 4294967296->l.foldl (fun r x=>Vu T r x 8) r < 4294967296:=by
 induction l with
 |nil=>exact fun r h=>h
 |cons a l ih=>exact fun r h=>ih _ (ZBu hT h 8)
theorem ZA5 {w:World}{T:Nat->Nat}(hT:NTab w T)(l:List Nat):Jk T l < 4294967296:=ZGS hT l _ (by omega)
theorem ZCn {w:World}{T:Nat->Nat}(hT:NTab w T)(r b:Nat)(hr:r < 4294967296)(hb:b < 256):
 Calls prog 175 #[.int .u32 r,.int .u8 b] w fun e w'=>e=.returned (.int .u32 (Vt T r b))/\w=w':=by
 have hx:r ^^^ b < 4294967296:=Nat.xor_lt_two_pow (n:=32) (by omega) (by omega);have hy:=J9 hT hx;have e1:=u32_xor_nat r b hr (by omega);have e2:=u32_and_nat (r ^^^ b) 15 hx (by omega);have t1:=hT _ (ZBj (r ^^^ b));have e3:=u32_xor_nat ((r ^^^ b) / 16) (T ((r ^^^ b) &&& 15)) (by omega) t1.1;have e4:=u32_and_nat (Xe T (r ^^^ b)) 15 hy (by omega);have t2:=hT _ (ZBj (Xe T (r ^^^ b)));have e5:=u32_xor_nat (Xe T (r ^^^ b) / 16) (T (Xe T (r ^^^ b) &&& 15)) (by omega) t2.1;have i1:=ZBj (r ^^^ b);have i2:=ZBj (Xe T (r ^^^ b));have ec:(((r ^^^ b) / 16 ^^^ T ((r ^^^ b) &&& 15):Nat):Int)=((Xe T (r ^^^ b):Nat):Int):=rfl;rw [ec] at e3;have ed:((Xe T (r ^^^ b) / 16 ^^^ T (Xe T (r ^^^ b) &&& 15):Nat):Int)=((Vt T r b:Nat):Int):=rfl;rw [ed] at e5;have c1:=t1.2;have c2:=t2.2;generalize Vt T r b=Z at e5 ⊢;generalize Xe T (r ^^^ b)=Y at e3 e4 e5 hy i2 c2;generalize r ^^^ b=X at e1 e2 e3 hx i1 c1;generalize X &&& 15=a1 at e2 e3 i1 c1;generalize Y &&& 15=a2 at e4 e5 i2 c2;generalize T a1=T1 at e3 c1;generalize T a2=T2 at e5 c2;have g1:(X:Int) < 4294967296:=by omega
 have g2:(Y:Int) < 4294967296:=by omega
 have g3:(a1:Int) < 16:=by omega
 have g4:(a2:Int) < 16:=by omega
 have g5:(b:Int) < 256:=by omega
 have q1:((X / 16:Nat):Int)=(X:Int) / 16:=by omega
 have q2:((Y / 16:Nat):Int)=(Y:Int) / 16:=by omega
 rw [q1] at e3;rw [q2] at e5;have q3:((15:Nat):Int)=15:=rfl;rw [q3] at e2 e4;clear hT t1 t2 hx hy ec ed q1 q2 q3 hr hb i1 i2;go_in;go_wp2;go_returns;exact ⟨rfl,rfl⟩
def Seen (w:World)(b o:Nat)(xs:List Value):Prop:=∀ j u,xs[j]?=some u->w.cell? ⟨b,o+j,none⟩=some u
theorem Seen.below {w w':World}{b o B:Nat}{xs:List Value}(h:Seen w b o xs)(hb:Below B w w')(hB:w.heap.size<=B):Seen w' b o xs:=fun j u hu=>by
 rw [hb.cell (ZLC (ZK2 _ _ (h j u hu)) hB)];exact h j u hu
theorem Seen.of_block {w w':World}{b o:Nat}{xs:List Value}(h:Seen w b o xs)(hb:w'.heap[b]?=w.heap[b]?):Seen w' b o xs:=fun j u hu=>by
 rw [ZK8 hb];exact h j u hu
theorem JT (R:Nat)(hR:R < 4294967296):Op.unary .xor (.int .u32 (R:Int))=pure (.int .u32 ((4294967295 ^^^ R:Nat):Int)):=by
 have e:IntKind.u32.max=((4294967295:Nat):Int):=by decide
 rw [<-u32_xor_nat 4294967295 R (by omega) hR,<-e];rfl
def ZKS (T:Nat->Nat)(l:List Nat)(r i:Value):Prop:=∃ k:Nat,k<=l.length/\i=.int .i64 (k:Nat)/\r=.int .u32 (Jk T (l.take k))
def CIn (T:Nat->Nat)(R x:Nat)(r v i:Value):Prop:=∃ n:Nat,n<=8/\i=.int .i64 (n:Nat)/\r=.int .u32 (Vu T R x n)/\v=.int .u64 ((x / 2 ^ (8 * n):Nat):Int)
theorem ZEu (T:Nat->Nat)(l:List Nat)(x:Nat):Jk T (l++[x])=Vu T (Jk T l) x 8:=by simp [Jk]
theorem words_any {w:World}{T:Nat->Nat}(hT:NTab w T){b o c:Nat}{l:List Nat}(hs:Seen w b o (l.map u64))(hl:∀ x∈l,x < 18446744073709551616)(hn:l.length<=1000000):
 Calls prog 118 #[.slice (some ⟨b,o,none⟩) l.length c] w fun e w'=>e=.returned (.int .u32 (Vq T l))/\w=w':=by
 have HT:=zh hT;have HS:=zh hs;have HL:=zh hl;have hn2:(l.length:Int)<=1000000:=by omega
 have hst:=fun (r b:Nat) (hr:r < 4294967296) (hb:b < 256)=>ZCn hT r b hr hb
 have HST:=zh hst;clear hT hs hl hst;go_in;go_wp2_with fail
 go_loop [3,5,8] (fun r _ i=>ZKS T l r i) (fun _ _ i=>l.length - (intOf i).toNat)
 case atStart=>exact ⟨0,by omega,rfl,rfl⟩
 case round=>
  obtain ⟨k,hk,rfl,rfl⟩:=hrel
  by_cases hlt:k < l.length
  ·have hlt2:(k:Int) < l.length:=by omega
   obtain ⟨x,hx⟩:=xE (l[k]);have c1:w.cell? ⟨b,o+k,none⟩=some (.int .u64 x):=HS.o k _ (by rw [List.getElem?_map,ZK9 hlt,hx];rfl);have hx64:x < 18446744073709551616:=HL.o x (by rw [hx];exact ZLF hlt);have hsn:Jk T (l.take (k+1))=Vu T (Jk T (l.take k)) x 8:=by rw [List.take_add_one,ZK9 hlt,<-hx];exact ZEu _ _ _
   have hR:=ZA5 HT.o (l.take k);obtain ⟨R,hRR⟩:=xE (Jk T (l.take k));rw [<-hRR] at hsn hR ⊢;have HSN:=zh hsn;have HX:=zh hx;clear hsn hx hRR;go_wp2_with fail
   go_loop [3,5,12] (fun r v i=>CIn T R x r v i) (fun _ _ i=>8 - (intOf i).toNat)
   case atStart=>exact ⟨0,by omega,rfl,rfl,by simp⟩
   case round=>
    obtain ⟨n,hn8,rfl,rfl,rfl⟩:=hrel
    by_cases hlt8:n < 8
    ·have hlt3:(n:Int) < 8:=by omega
     have hc:=ZBu HT.o (x:=x) hR n;obtain ⟨y,hy⟩:=xE (x / 2 ^ (8 * n));have hy64:y < 18446744073709551616:=by rw [hy];exact Nat.lt_of_le_of_lt (Nat.div_le_self _ _) hx64
     have hsn2:Vu T R x (n+1)=Vt T (Vu T R x n) (y % 256):=by rw [hy];rfl
     have hdv:x / 2 ^ (8 * (n+1))=y / 256:=by rw [hy,Nat.div_div_eq_div_mul,Nat.mul_add,Nat.pow_add]
     obtain ⟨C,hC⟩:=xE (Vu T R x n);rw [<-hC] at hsn2 hc ⊢;rw [<-hy];have hs:=HST.o C (y % 256) hc (Nat.mod_lt _ (by omega));have e1:((y % 256:Nat):Int)=(y:Int) % 256:=by omega
     rw [e1] at hs;have HS2:=zh hs;have HN2:=zh hsn2;have HDV:=zh hdv;have hy2:(y:Int) < 18446744073709551616:=by omega
     clear hs hsn2 hdv hy hC e1;go_wp2_with fail;refine HS2.o.mono ?_;rintro e w' ⟨rfl,rfl⟩;go_wp2_with fail;go_round
     case rel=>exact ⟨n+1,by omega,by go_num,by rw [HN2.o],by rw [HDV.o];go_num⟩
     case measure=>simp [intOf];omega
    ·obtain rfl:n=8:=by omega
     rw [<-HSN.o];go_wp2_with fail;go_round
     case rel=>exact ⟨k+1,by omega,by go_num,rfl⟩
     case measure=>simp [intOf];omega
  ·obtain rfl:k=l.length:=by omega
   rw [List.take_length];have hR:=ZA5 HT.o l;have hun:=JT (Jk T l) hR;rw [show (4294967295 ^^^ Jk T l:Nat)=Vq T l from rfl] at hun;generalize Jk T l=R at hR hun ⊢;have hR2:(R:Int) < 4294967296:=by omega
   clear hlt;go_wp2;go_returns;exact ⟨rfl,rfl⟩
theorem Xu {w:World}{T:Nat->Nat}(hT:NTab w T)(l:List Nat):Vq T l < 4294967296:=Nat.xor_lt_two_pow (n:=32) (by omega) (ZA5 hT l)
theorem Zj {P:Program} {f:FuncId} {args:Array Value} {w:World} {n:Nat} {v:Value}
 (h:Calls P f args (w.drewN n) fun e w'=>e=.returned v/\w.drewN n=w'):Calls P f args (w.drewN n) fun e w''=>e=.returned v/\∃ m,w''=w.drewN m:=
 h.mono fun _ _ ⟨he,hm⟩=>⟨he,n,hm.symm⟩
theorem ZY {a w:World}{B n:Nat}(h:Below B a w):Below B a (w.drewN n):=⟨h.os,h.tape,h.output,h.size,h.block⟩
end
end Go.Proofs.YteomliechfdhhaaGreatDoor.Dv
