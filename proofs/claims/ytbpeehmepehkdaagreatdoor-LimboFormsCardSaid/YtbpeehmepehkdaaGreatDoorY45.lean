/- Part 45. -/
import Derived.Test.YtbpeehmepehkdaaGreatDoorY28
import Derived.Test.YtbpeehmepehkdaaGreatDoorY44
import Derived.Test.YtbpeehmepehkdaaGreatDoorY8
set_option maxHeartbeats 8000000
set_option maxRecDepth 20000
set_option linter.all false
namespace Go.Proofs.YtbpeehmepehkdaaGreatDoor.Dv
open Tryz
section
open Go.RowKit Go.Proofs.YtbpeehmepehkdaaGreatDoor.Size
variable {w w':World}{A:DAd}{F F':Nat->Option ZM}{T c c' c0:Nat->Nat}{x x':Nat}{H:HAd}{ex n:Nat}{s:LS}{B:WAd}{fv iv:Value}
theorem WC.mvx (h:WC w A F T c x H ex B c0 s)(hm:HMv F F' H w w'):(∀ k,F' k≠none->H.x0<=k)/\Below H.x0 B.w0 w'/\XsB w' F' H B.xs:=by
 refine ⟨fun k hk=>?_,Zz h.xb hm.only h.x0 (fun k _ q=>q.elim (h.xf k) (h.xo k)),h.xt.moved hm⟩;have h2:=h.x0
 by_cases e:k < w.heap.size
 ·rw [hm.same k e] at hk;exact h.xf k hk
 ·omega
theorem WC.adv {wm:World}{s':LS}{v:Nat}(h:WC w A F T c x H ex B c0 s)(hw:HW wm A F' 160 T c' x' H false (plc s.k) ex (fun _=>none) (fun _=>none))(hm:HMv F F' H w wm)(hk:CkB wm A B.kb s.now s.ann)(hr:s'.Rep T c' c0)(he:s'.k=s.k/\s'.now=v/\s'.ann=s.ann):
 WC (wm.setCell ⟨B.kb,2,none⟩ (.int .u64 v)) A F' T c' x' H ex B c0 s':=by
 obtain ⟨e1,e2,e3⟩:=he;have mx:=h.mvx hm;have ho:Only (fun k=>k=B.kb) wm (wm.setCell ⟨B.kb,2,none⟩ (.int .u64 v)):=(Only.refl (fun k=>k=B.kb) wm).set (F:=fun k=>k=B.kb) rfl _;have hne:∀ {b:Nat} {a:Array Value} {e:TypeId},wm.heap[b]?=some (.cells a e (0,0))->e≠149->(wm.setCell ⟨B.kb,2,none⟩ (.int .u64 v)).heap[b]?=wm.heap[b]?:=fun {b a e} hb he=>ho.block b (heap_lt hb) (fun q=>by
  have q:b=B.kb:=q;rw [q,hk] at hb;cases hb;exact he rfl)
 have fk:=(hm.frn h.fk (heap_lt h.ck)).2;have li:=(hm.frn h.fi (heap_lt h.li)).1.trans h.li;have po:=(hm.frn h.fp (heap_lt h.po)).1.trans h.po;have rt:=(hm.frn h.fr (heap_lt h.rt)).1.trans h.rt;have dr:=h.dr.moved hm;exact {hw:=by rw [e1];exact hw.only ho (fun k _ hk=>hk▸fk),l0:=h.l0,dr:=⟨(hne dr.dr (by decide)).trans dr.dr,(hne dr.lg (by decide)).trans dr.lg,dr.t,dr.fd,dr.fl⟩,ck:=by rw [e2,e3];exact hk.now v,fk:=fk,li:=(hne li (by decide)).trans li,fi:=(hm.frn h.fi (heap_lt h.li)).2,po:=(hne po (by decide)).trans po,fp:=(hm.frn h.fp (heap_lt h.po)).2,rt:=(hne rt (by decide)).trans rt,fr:=(hm.frn h.fr (heap_lt h.rt)).2,rep:=hr,xk:=h.xk,xo:=h.xo,xf:=mx.1,xb:=Zz mx.2.1 ho (ZLi h.x0 hm.only.size) (fun k _ q=>by have q:k=B.kb:=q;rw [q];exact h.xk.1),xt:=mx.2.2.only ho (fun p hp=>mx.2.2.ne hp hk h.xk.1 (by decide))}
theorem do5 (h:WC w A F T c x H ex B c0 s)(hr:WR w F H B s fv iv)(hi:s.Inv n)(hn:n<=60)(hx:x<=900000){a b d:Int}(hk:ZX a 7=5):
 Calls prog 11 #[.pointer (some ⟨B.wb,0,none⟩),.agg #[.int .i64 a,.int .i64 b,.int .i64 d]] w fun e w'=>e=.returned (.bool true)/\DoP A T H B c0 x ex (s.stp 5 (ZX b 40) (ZX d 8)) w':=by
 have HM1:=zh (fun (w1:World)=>show Calls _ _ _ w1 _ from (Zh (w:=w1) (a:=b) (n:=40) (by omega)));have HM2:=zh (fun (w1:World)=>show Calls _ _ _ w1 _ from (Zh (w:=w1) (a:=d) (n:=8) (by omega)));have HM3:=zh (fun (w1:World)=>show Calls _ _ _ w1 _ from (Zh (w:=w1) (a:=a) (n:=7) (by omega)));rw [hk] at HM3;have ht:ZX d 8 < 8:=Z4 (by omega) rfl;have est:s.stp 5 (ZX b 40) (ZX d 8)=if Yy s.now s.ann then s.advance else s:=rfl
 rw [est];obtain ⟨i,hie⟩:=xE (ZX b 40);obtain ⟨t,hte⟩:=xE (ZX d 8);rw [<-hie] at HM1;rw [<-hte] at HM2 ht;have hnow:1<=s.now/\s.now<=500:=by have:=hi.now;have:=hi.ok.now;omega
 have HEP:=zh (fun (wx:World) (hb:Bl w wx)=>Yo (h.po.below hb));have HEN:=zh (fun (wx:World) (hb:Bl w wx)=>ZDi (x':=x+100) (h.hw.below hb) (h.ck.below hb) h.fk hnow h.rep.clk (by omega) ht (by omega) (by omega));have HRE:=zh (fun (wx:World)=>ZHz (w:=wx) (now:=s.now) (t:=t) (an:=s.ann) ht (by omega));have HREP:=zh (h.rep.advance);have HH:=zh h;have HR:=zh hr;clear hi hn hk est hie hte h hr hnow ht;go_in;go_upto_region 1 with fail;obtain ⟨w0,hw0⟩:=xE (w.alloc (.cells #[.int .i64 a,.int .i64 b,.int .i64 d] 28));have hb0:Bl w w0:=by rw [hw0];exact ZA bR
 have hx0:w0.heap[w.heap.size]?=some (.cells #[.int .i64 a,.int .i64 b,.int .i64 d] 28 (0,0)):=by rw [hw0];exact ZC _ _
 rw [<-hw0];obtain ⟨a0,a1,a2,_⟩:=ZY hx0;clear hw0;have HR0:=zh (Below.refl w0.heap.size w0)
 go_region_held3 (fun wx=>wx.cell? ⟨w.heap.size,1,none⟩=some (.int .i64 b)/\wx.cell? ⟨w.heap.size,2,none⟩=some (.int .i64 d))
  (first|assumption|exact ⟨a1,a2⟩)
  (first
    |(refine ZF rfl func26 rfl rfl rfl (HM1.o _) (by first|(simp [Act.eval];done)|(simp [Act.eval];rfl)) ?_;rintro e' V2 ⟨rfl,rfl⟩;refine ⟨_,rfl,?_⟩)
    |(refine ZF rfl func26 rfl rfl rfl (HM2.o _) (by first|(simp [Act.eval];done)|(simp [Act.eval];rfl)) ?_;rintro e' V2 ⟨rfl,rfl⟩;refine ⟨_,rfl,?_⟩))
 have hb1:Bl w w0.drew:=ZB hb0;have hx1:w0.drew.heap[w.heap.size]?=_:=hx0;obtain ⟨w1,hw1⟩:=xE w0.drew;rw [<-hw1] at hb1 hx1 ⊢;clear hw1 a0 a1 a2 hx0 hb0;obtain ⟨a0,a1,a2,_⟩:=ZY hx1;go_wp2_with fail;refine (HM3.o _).mono ?_;rintro e w' ⟨rfl,rfl⟩;have HB1:=zh hb1;have z0:=(HR.o.below hb1).zero;clear hb1 hx1 a0 a1 a2;go_wp2_with fail;refine (HEP.o _ HB1.o).mono ?_;rintro e w' ⟨rfl,rfl⟩;go_wp2_with fail;unfold ck9 at HRE;refine (HEN.o _ HB1.o).mono ?_;rintro e w2 (⟨hz,rfl,F2,wm,hwm,hmm,hkm,rfl⟩|⟨hz,rfl,hww⟩)
 ·simp only [ZLX hz] at *
  have HW2:=zh (show WC (wm.setCell ⟨B.kb,2,none⟩ (.int .u64 (s.now+1:Nat))) A F2 T (wrs c [(4480,7309464666214760448+(s.now+1))]) (x+100) H ex B c0 s.advance/\WR (wm.setCell ⟨B.kb,2,none⟩ (.int .u64 (s.now+1:Nat))) F2 H B s fv iv from
   ⟨(HH.o.below HB1.o).adv hwm hmm hkm HREP.o ⟨rfl,rfl,rfl⟩,((HR.o.below HB1.o).moved hmm).clock hkm ((Only.refl (fun k=>k=B.kb) wm).set (F:=fun k=>k=B.kb) rfl _)⟩)
  obtain ⟨w2,hw2⟩:=xE (wm.setCell ⟨B.kb,2,none⟩ (.int .u64 (s.now+1:Nat)));rw [<-hw2] at HW2 ⊢;have HA:=zh HW2.o.2;clear hwm hmm hkm hw2 z0;have z0:=HA.o.zero;have z46:=HA.o.nowc;obtain ⟨z47,z48,z49,z50,z51,z52,z53,z54⟩:=HA.o.annc;obtain ⟨NW,hNW⟩:=xE (s.now+1);have HNW:=zh hNW;rw [<-hNW] at HRE ⊢;clear hNW;go_wp2_with fail;refine (HRE.o _).mono ?_;rintro e w3 ⟨rfl,hb3⟩;have HW3:=zh (show WC w3 A F2 T (wrs c [(4480,7309464666214760448+(s.now+1))]) (x+100) H ex B c0 s.advance/\WR w3 F2 H B s fv iv from ⟨HW2.o.1.below hb3,HW2.o.2.below hb3⟩);clear hb3 z0 z46 z47 z48 z49 z50 z51 z52 z53 z54;go_upto_region 58 with fail;obtain ⟨w4,hw4⟩:=xE (w3.alloc (.cells #[.int .u64 NW,.int .u64 (s.ann 0:Nat),.int .u64 (s.ann 1:Nat),.int .u64 (s.ann 2:Nat),.int .u64 (s.ann 3:Nat),.int .u64 (s.ann 4:Nat),.int .u64 (s.ann 5:Nat),.int .u64 (s.ann 6:Nat),.int .u64 (s.ann 7:Nat)] 44));have hb4:Bl w3 w4:=by rw [hw4];exact ZA bR
  have hx4:w4.heap[w3.heap.size]?=some (.cells #[.int .u64 NW,.int .u64 (s.ann 0:Nat),.int .u64 (s.ann 1:Nat),.int .u64 (s.ann 2:Nat),.int .u64 (s.ann 3:Nat),.int .u64 (s.ann 4:Nat),.int .u64 (s.ann 5:Nat),.int .u64 (s.ann 6:Nat),.int .u64 (s.ann 7:Nat)] 44 (0,0)):=by rw [hw4];exact ZC _ _
  have HW4:=zh (show WC w4 A F2 T (wrs c [(4480,7309464666214760448+(s.now+1))]) (x+100) H ex B c0 s.advance/\WR w4 F2 H B s fv iv from ⟨HW3.o.1.below hb4,HW3.o.2.below hb4⟩);rw [<-hw4];clear hw4 hb4;have f:=HW4.o.2.free;have z46:=HW4.o.2.nowc;obtain ⟨z47,z48,z49,z50,z51,z52,z53,z54⟩:=HW4.o.2.annc;obtain ⟨⟨x0,x1,x2,x3,x4,x5,x6,x7,x8⟩,_⟩:=ZCq hx4;go_upto_region 59 with fail;have hst:=X5 (B:=B) HW4.o.1 HW4.o.2 NW s.ann;have HE:=zh (show DoP A T H B c0 x ex s.advance (ZKO w4 B.wb NW s.ann) from ⟨F2,_,_,ex,fv,iv,by omega,by omega,hst.1,by have:=hst.2;rw [HNW.o] at this ⊢;exact this⟩);clear hst z46 z47 z48 z49 z50 z51 z52 z53 z54 x0 x1 x2 x3 x4 x5 x6 x7 x8 f;go_wp2;go_returns;exact ⟨rfl,HE.o⟩
 ·subst hww
  simp only [ZLU hz] at *;have HW2:=zh (show WC w1 A F T c x H ex B c0 s/\WR w1 F H B s fv iv from ⟨HH.o.below HB1.o,HR.o.below HB1.o⟩);have HA:=zh HW2.o.2;clear z0;have z0:=HA.o.zero;have z46:=HA.o.nowc;obtain ⟨z47,z48,z49,z50,z51,z52,z53,z54⟩:=HA.o.annc;go_wp2_with fail;refine (HRE.o _).mono ?_;rintro e w3 ⟨rfl,hb3⟩;have HW3:=zh (show WC w3 A F T c x H ex B c0 s/\WR w3 F H B s fv iv from ⟨HW2.o.1.below hb3,HW2.o.2.below hb3⟩);clear hb3 z0 z46 z47 z48 z49 z50 z51 z52 z53 z54;go_upto_region 58 with fail;obtain ⟨w4,hw4⟩:=xE (w3.alloc (.cells #[.int .u64 s.now,.int .u64 (s.ann 0:Nat),.int .u64 (s.ann 1:Nat),.int .u64 (s.ann 2:Nat),.int .u64 (s.ann 3:Nat),.int .u64 (s.ann 4:Nat),.int .u64 (s.ann 5:Nat),.int .u64 (s.ann 6:Nat),.int .u64 (s.ann 7:Nat)] 44));have hb4:Bl w3 w4:=by rw [hw4];exact ZA bR
  have hx4:w4.heap[w3.heap.size]?=some (.cells #[.int .u64 s.now,.int .u64 (s.ann 0:Nat),.int .u64 (s.ann 1:Nat),.int .u64 (s.ann 2:Nat),.int .u64 (s.ann 3:Nat),.int .u64 (s.ann 4:Nat),.int .u64 (s.ann 5:Nat),.int .u64 (s.ann 6:Nat),.int .u64 (s.ann 7:Nat)] 44 (0,0)):=by rw [hw4];exact ZC _ _
  have HW4:=zh (show WC w4 A F T c x H ex B c0 s/\WR w4 F H B s fv iv from ⟨HW3.o.1.below hb4,HW3.o.2.below hb4⟩);rw [<-hw4];clear hw4 hb4;have f:=HW4.o.2.free;have z46:=HW4.o.2.nowc;obtain ⟨z47,z48,z49,z50,z51,z52,z53,z54⟩:=HW4.o.2.annc;obtain ⟨⟨x0,x1,x2,x3,x4,x5,x6,x7,x8⟩,_⟩:=ZCq hx4;go_upto_region 59 with fail;have hst:=X5 (B:=B) HW4.o.1 HW4.o.2 s.now s.ann;have HE:=zh (DoP.of (x:=x) (ex:=ex) hst.1 hst.2);clear hst z46 z47 z48 z49 z50 z51 z52 z53 z54 x0 x1 x2 x3 x4 x5 x6 x7 x8 f;go_wp2;go_returns;exact ⟨rfl,HE.o⟩
theorem ZHA (h:WC w A F T c x H ex B c0 s)(hr:WR w F H B s fv iv)(hi:s.Inv n)(hn:n<=50)(hx:x<=900000)(hex:ex<=900000){a b d:Int}(hk:ZX a 7≠6):
 Calls prog 11 #[.pointer (some ⟨B.wb,0,none⟩),.agg #[.int .i64 a,.int .i64 b,.int .i64 d]] w fun e w'=>e=.returned (.bool true)/\DoP A T H B c0 x ex (s.stp (ZX a 7) (ZX b 40) (ZX d 8)) w':=by
 have h7:ZX a 7 < 7:=Z4 (by omega) rfl;rcases (show ZX a 7=0\/ZX a 7=1\/ZX a 7=2\/ZX a 7=3\/ZX a 7=4\/ZX a 7=5 by omega) with e|e|e|e|e|e
 ·rw [e]
  by_cases h0:s.lp (ZX b 40)=0
  ·rw [show s.stp 0 (ZX b 40) (ZX d 8)=s.mk0 (ZX b 40) by unfold LS.stp;rw [ZLX rfl,ZLX h0]]
   exact ZIe h hr hi hn hx hex e h0
  ·rw [show s.stp 0 (ZX b 40) (ZX d 8)=s by unfold LS.stp;rw [ZLX rfl,ZLU h0]]
   exact ZJu h hr e h0
 ·rw [e]
  by_cases h0:s.lp (ZX b 40)=0
  ·rw [show s.stp 1 (ZX b 40) (ZX d 8)=s by unfold LS.stp;rw [ZLU (by omega),ZLX rfl,ZLX h0]]
   exact ZIf h hr e h0
  ·rw [show s.stp 1 (ZX b 40) (ZX d 8)=s.retire (ZX b 40) by unfold LS.stp;rw [ZLU (by omega),ZLX rfl,ZLU h0]]
   exact ZIg h hr hi hn hx e h0
 ·rw [e];exact do2 h hr hi hn hx e
 ·rw [e];exact do3 h hr hi (by omega) e
 ·rw [e];exact do4 h hr hi (by omega) e
 ·rw [e];exact do5 h hr hi (by omega) hx e
end
section
open Go.RowKit Go.Proofs.YtbpeehmepehkdaaGreatDoor.Size
open Go.Sort hiding Below
variable {w w':World}{A:DAd}{F:Nat->Option ZM}{L:Nat}{T c c':Nat->Nat}{x x':Nat}{H:HAd}
theorem Qi (l:List (Nat×Nat×Nat)):(icl l).length=l.length * 3:=by
 induction l with
 |nil=>rfl
 |cons y l ih=>
  have e:icl (y:: l)=[.int .i64 y.1,.int .u64 y.2.1,.int .u64 y.2.2]++icl l:=rfl;rw [e,ZLc,ih];simp;omega
theorem ZAh (d:Array (Nat×Nat×Nat))(h:∀ y∈d.toList,y.2.1 < 18446744073709551616):(flatK encI 3 d).toList=icl d.toList:=by
 apply List.ext_getElem?;intro t
 by_cases ht:t < d.size * 3
 ·have hi:t / 3 < d.size:=by omega
  obtain ⟨y,hy⟩:=xE (d[t / 3]);have hg:d.toList[t / 3]?=some y:=by rw [hy];simp [hi]
  have hm:=h y (List.mem_of_getElem? hg);obtain ⟨e0,e1,e2⟩:=VG hg;have hb:d[t / 3]! =y:=by rw [getElem!_pos d _ hi,hy]
  have hl:(flatK encI 3 d).toList[t]?=some ((encI y)[t % 3]!):=by
   have h1:=get_flatK encI 3 d t ht;rw [hb] at h1;rw [ZLx,<-h1,ZL8 (by simpa using ht),getElem!_pos _ _ (by simpa using ht)]
  have hx:encI y=[.int .i64 y.1,.int .u64 y.2.1,.int .u64 y.2.2]:=by unfold encI;rw [Nat.mod_eq_of_lt hm]
  rw [hl,hx];rcases (show t % 3=0\/t % 3=1\/t % 3=2 by omega) with h0|h0|h0
  ·have et:t=3 * (t / 3):=by omega
   rw [h0];rw [et,e0];rfl
  ·have et:t=3 * (t / 3)+1:=by omega
   rw [h0];rw [et,e1];rfl
  ·have et:t=3 * (t / 3)+2:=by omega
   rw [h0];rw [et,e2];rfl
 ·rw [List.getElem?_eq_none (by simp;omega),List.getElem?_eq_none (by rw [Qi];simp;omega)]
theorem J1 {w:World}{base g cap n K:Nat}{e:TypeId}{os:Array Obj}{cur xs:Array Value}(hsz:xs.size=K * 3)(hbase:base<=g)(hb:w.heap[g]?=some (.cells cur e (0,0)))(h1:K<=cap)(h2:cap<=maxLen)(h3:cur.size=cap * 3):
 (grow (putRow id (Sort.ahead w n) g 0 xs) os).ownsRow base e 3 (.slice (some ⟨g,0,none⟩) K cap) K xs.toList:=by
 have hh:(grow (putRow id (Sort.ahead w n) g 0 xs) os).heap[g]?=some (.cells (putCells id 0 xs cur) e (0,0)):=by
  have hg:g < w.heap.size:=(ZL4.1 hb).1;rw [heap_grow_old _ _ (by simpa using hg)];simp [putRow,mapBlock,Sort.ahead,Array.getElem?_modify,hb,onCells]
 refine ⟨by simp [hsz],.inr ⟨g,cap,_,rfl,hbase,hh,h1,h2,by simp [putCells,h3],?_⟩⟩;apply List.ext_getElem?;intro j
 by_cases hj:j < K * 3
 ·rw [List.getElem?_take_of_lt hj,ZLx,ZLx]
  have hc:j < cur.size:=by rw [h3];exact ZLq hj (Nat.mul_le_mul_right 3 h1)
  have hx:j < xs.size:=by omega
  simp [putCells,hx,hc]
 ·rw [List.getElem?_take_eq_none (by omega),List.getElem?_eq_none (by simp;omega)]
theorem J0 {w:World}{g n:Nat}{os:Array Obj}(xs:Array Value):w.grownBy (grow (putRow id (Sort.ahead w n) g 0 xs) os) (some g):=by
 refine ⟨rfl,rfl,rfl,by simp,fun k hk hne=>?_⟩;rw [heap_grow_old _ _ (by simpa using hk)];have:g≠k:=fun e=>hne (by rw [e])
 simp [putRow,mapBlock,Sort.ahead,Array.getElem?_modify,this]
theorem ZG7 {a b:Nat}:cpN a b < 0↔a < b:=by unfold cpN;split <;> (try split) <;> omega
theorem ZCD {a b:Nat}:cpN a b=0↔a=b:=by unfold cpN;split <;> (try split) <;> omega
theorem Vd {x y:Nat×Nat×Nat}:ltOf cfI x y=true↔x.2.2 < y.2.2\/x.2.2=y.2.2/\ZP (x.2.1 % 18446744073709551616) < ZP (y.2.1 % 18446744073709551616):=by
 unfold ltOf;rw [decide_eq_true_iff];unfold cfI;split
 ·rename_i h;rw [ZG7];have:=ZCD.1 h;omega
 ·rename_i h;rw [ZG7];have:¬ x.2.2=y.2.2:=fun q=>h (ZCD.2 q);omega
theorem ZIY:SWO (ltOf cfI):=by
 refine ⟨fun x=>?_,fun x y z h1 h2=>?_,fun x y z h1 h2=>?_⟩
 ·have:¬ ltOf cfI x x=true:=fun q=>by have:=Vd.1 q;omega
  simpa using this
 ·have a1:=Vd.1 h1;have a2:=Vd.1 h2
  exact Vd.2 (by omega)
 ·have a1:¬ _:=fun q=>by rw [Vd.2 q] at h1;cases h1
  have a2:¬ _:=fun q=>by rw [Vd.2 q] at h2;cases h2
  have:¬ ltOf cfI x z=true:=fun q=>by have:=Vd.1 q;omega
  simpa using this
theorem ZD3 {l:List (Nat×Nat×Nat)}(h64:∀ y∈l,y.2.1 < 18446744073709551616)(hs:l.Pairwise fun x y=>ltOf cfI y x=false)(hnd:(l.map fun y=>y.2.1 % 4294967296).Nodup):Its (l.map fun y=>(y.2.1,y.2.2)):=by
 unfold Its;rw [List.pairwise_map];have hnd2:=List.pairwise_map.1 (List.nodup_iff_pairwise_ne.1 hnd);refine (ZL7).2 fun i j hi hj hij=>?_
 have a1:=ZL7.1 hs i j hi hj hij;have a2:=ZL7.1 hnd2 i j hi hj hij;have m1:=h64 _ (ZLl hi);have m2:=h64 _ (ZLl hj);obtain ⟨X,hX⟩:=xE (l[i]);obtain ⟨Y,hY⟩:=xE (l[j]);rw [<-hX,<-hY] at a1 a2;rw [<-hX] at m1;rw [<-hY] at m2;rw [<-hX,<-hY];have a3:¬ (Y.2.2 < X.2.2\/Y.2.2=X.2.2/\ZP (Y.2.1 % 18446744073709551616) < ZP (X.2.1 % 18446744073709551616)):=fun q=>by rw [Vd.2 q] at a1;cases a1
 rw [Nat.mod_eq_of_lt m1,Nat.mod_eq_of_lt m2] at a3;unfold ZP at a3;unfold Yx;simp only [decide_eq_true_iff];omega
theorem ZEt {q e:Nat->Nat}:∀ {n:Nat} {y:Nat×Nat×Nat},y∈itm q e n->y.1 < n/\y.2.1=q y.1/\y.2.2=e y.1/\y.2.1≠0
 |0,y,h=>by cases h
 |n+1,y,h=>by
  unfold itm at h;rcases ZLZ.1 h with h|h
  ·obtain ⟨h1,h2⟩:=ZEt h
   exact ⟨Nat.lt_succ_of_lt h1,h2⟩
  ·split at h
   ·cases h
   ·have:y=(n,q n,e n):=by simpa using h
    subst this;exact ⟨Nat.lt_succ_self n,rfl,rfl,‹_›⟩
theorem ZIm (l:List (Nat×Nat×Nat)):∀ u∈icl l,u.oneCell'=true:=by
 intro u hu;unfold icl at hu;rw [List.mem_flatMap] at hu;obtain ⟨y,_,hu⟩:=hu;simp at hu;rcases hu with rfl|rfl|rfl <;> rfl
theorem ZIW {iv:Value}{IL:List (Nat×Nat×Nat)}{base:Nat}(hv:Itm w iv IL)(hK:IL.length<=29)(hbase:base<=w.heap.size):
 ∃ v w',(∀ ty,(Builtin.append_ #[127,127] ty #[.slice none 0 0,iv]).run prog w=.ok v w')/\w'.ownsRow base 132 3 v IL.length (icl IL)/\w.grownBy w' none:=by
 obtain ⟨a,cap,rfl,hg⟩:=hv
 by_cases h0:IL.length=0
 ·have e:IL=[]:=ZLr h0
  subst e;refine ⟨.slice none 0 0,w,fun ty=>?_,ZLn _ _ _ _,World.grownBy.refl _ _⟩;have hu:=underlying127;obtain ⟨i,z,hi,hz,hsz,hby,hzs⟩:=elItm.ex;cases a <;> simp [Builtin.append_,run_underlying hu,sizeOf,typeInfo,hi,Builtin.lenOf,Builtin.firstCells,loadCells,loadCellsFrom,storeCells]
 ·obtain ⟨g,rfl,hs⟩:=hg (by omega)
  obtain ⟨g2,c2,w8,hrun,how,hgr,_⟩:=Zo elItm (ZLn w base 132 3) ⟨g,0,none⟩ IL.length cap (icl IL) (Qi IL) (fun j u hj=>by rw [Addr.add_lit];exact hs j u hj) (ZIm IL) (by omega) (by unfold maxLen;omega) (by omega) hbase;refine ⟨_,w8,hrun,by simpa using how,hgr⟩
theorem ZGU {base:Nat}{v:Value}{l:List (Nat×Nat×Nat)}(h:w.ownsRow base 132 3 v l.length (icl l))(h64:∀ y∈l,y.2.1 < 18446744073709551616)(hlen:l.length<=1000):
 Calls prog 65 #[v,.func (.func 66) #[] #[]] w fun e w'=>e=.returned (.tuple #[])/\∃ l',l'.Perm l/\l'.Pairwise (fun x y=>ltOf cfI y x=false)/\w'.ownsRow base 132 3 v l'.length (icl l')/\w.grownBy w' v.ownBlock:=by
 obtain ⟨hlen2,hv⟩:=h;rcases hv with ⟨rfl,h0⟩|⟨g,cap,cur,rfl,hg,hb,h1,h2,h3,h4⟩
 ·have hn:l=[]:=ZLr h0
  subst hn;refine (AnyF.slices_SortFunc_none sortf none 0 (.func (.func 66) #[] #[]) w).mono ?_;rintro e w' ⟨rfl,rfl⟩;exact ⟨rfl,[],.nil,.nil,ZLn _ _ _ _,World.grownBy.refl _ _⟩
 ·have eg:∀ args w,(callFunc 66 args).run prog w=.ok (.enter 66 args) w:=enters_of func66 (by kernel_rfl) rfl
  have hH:HoldsK encI 3 w g 0 l.toArray:=by
   intro j hj;have hj':j < l.length * 3:=by simpa using hj
   have e1:=ZAh l.toArray (by simpa using h64);refine ⟨?_,by simp [World.frozen?,hb]⟩;have e2:cur.toList[j]?=(flatK encI 3 l.toArray).toList[j]?:=by
    rw [e1,<-h4,List.getElem?_take_of_lt hj']
   rw [ZLu,ZD hb,<-ZLx,e2,ZLx,ZL8 hj,getElem!_pos (flatK encI 3 l.toArray) j hj];rfl
  have hs:=AnyQ.slices_SortFunc sortf 3 isAgg132 sizeOf132 encI (fun _=>rfl) (fun x v hv=>by simp [encI] at hv;rcases hv with rfl|rfl|rfl <;> rfl) cfI ZIY 66 #[] g 0 cap l.toArray w eg (fun m os dk _ x y=>ZDa x y) hH (heap_lt hb) (by simp;omega)
  change Calls prog 65 _ _ _ at hs
  rw [List.size_toArray] at hs;refine hs.mono ?_;rintro e w' ⟨rfl,d',n,os,hp,hso,rfl⟩;have hsz:d'.size=l.length:=by have:=hp.1;simpa using this
  have hperm:d'.toList.Perm l:=by
   have:=hp.2.2;have e9:List.take l.length d'.toList=d'.toList:=ZL1 (by simp [hsz]);simpa [hsz,e9] using this
  refine ⟨rfl,d'.toList,hperm,?_,?_,?_⟩
  ·refine ZL7.2 fun i j hi hj hij=>?_
   have hi':i < d'.size:=by simpa using hi
   have hj':j < d'.size:=by simpa using hj
   have:=hso i j (Nat.zero_le _) hij (by omega);rw [getElem!_pos d' _ hj',getElem!_pos d' _ hi'] at this;simpa using this
  ·have e1:=ZAh d' (fun y hy=>h64 y (hperm.mem_iff.1 hy))
   rw [<-e1];have e2:d'.toList.length=l.length:=by simpa using hsz
   rw [e2];exact J1 (by simp [hsz]) hg hb h1 h2 h3
  ·exact J0 _
theorem ZCZ (h:Ar w A F L T c) {t db lb off size:Nat} (hd:DrW w A F H t db lb off size) {lib P kb cnt:Nat} {q e:Nat->Nat} (hl:LiB w lib P kb) (hn:NdC c L P 0 cnt q e)
 (hck:∀ w1,Bl w w1->Calls prog 16 #[.pointer (some ⟨db,0,none⟩),.int .u64 P,.int .u8 12] w1 fun e' w'=>e'=.returned (.int .i64 0)/\Bl w1 w')
 {S:List (Nat×Nat)} (hS:Its S) (hp:S.Perm ((itm q e 29).map fun y=>(y.2.1,y.2.2))) (hnd:(S.map fun x=>x.1 % 4294967296).Nodup):
 Calls prog 25 #[.pointer (some ⟨lib,0,none⟩),.iface 37 (.pointer (some ⟨db,0,none⟩))] w fun e' w'=>∃ v,e'=.returned v/\w'.ownsRow w.heap.size 32 1 v S.length (ptl (S.map (·.1)))/\Bl w w':=by
 have HCH:=zh (Xc h hd hl hn hck);have HN29:=zh (VI q e 29);have h64:∀ y∈itm q e 29,y.2.1 < 18446744073709551616:=by
  intro y hy;obtain ⟨h1,h2⟩:=ZEt hy;have h3:=(hn.good y.1 h1 (by rw [<-h2.1];exact h2.2.2)).2.1.lt;rw [h2.1];omega
 have HF:=zh (show ∀ l':List (Nat×Nat×Nat),l'.Perm (itm q e 29)->l'.Pairwise (fun x y=>ltOf cfI y x=false)->l'.map (fun y=>(y.2.1,y.2.2))=S from fun l' h1 h2=>by
  have hm:(l'.map fun y=>(y.2.1,y.2.2)).Perm S:=(h1.map _).trans hp.symm;have hx:(l'.map fun y=>y.2.1 % 4294967296).Nodup:=by
   have h3:=(hm.map fun x:Nat×Nat=>x.1 % 4294967296)
   rw [List.map_map] at h3;exact h3.nodup_iff.2 hnd
  exact (ZD3 (fun y hy=>h64 y (h1.mem_iff.1 hy)) h2 hx).unique hS hm)
 have HSO:=zh (fun (w1:World) (v:Value) (hv:w1.ownsRow w.heap.size 132 3 v (itm q e 29).length (icl (itm q e 29)))=>ZGU hv h64 (by have:=VI q e 29;omega));have HSL:=zh (show S.length=(itm q e 29).length by have:=hp.length_eq;simpa using this);clear h hd hl hn hck hS hp hnd h64;go_in;go_wp2_with fail;refine HCH.o.mono ?_;rintro e' w3 ⟨nv,rfl,g,cap,iv,rfl,hs,hiv,hb3,hg⟩;have HB3:=zh hb3;have HND:=zh (fun (wx:World) (hb:Bl w3 wx)=>hs.below hb nR);have HIT:=zh (fun (wx:World) (hb:Bl w3 wx)=>hiv.itm.below hb);have hisl:∃ a cap,iv=.slice a (itm q e 29).length cap:=ZN hiv;obtain ⟨ia,ic,rfl⟩:=hisl;obtain ⟨IL,hIL⟩:=xE (itm q e 29);rw [<-hIL] at HIT HN29 HND HF HSO HSL;clear hb3 hg hs hiv hIL HCH;obtain ⟨K,hK⟩:=xE IL.length;have HK:=zh hK;rw [<-hK] at HND HIT HSO HSL;clear hK;go_wp2_with fail
 go_loopw [29,7] (fun i v wr=>(i=.int .i64 0/\v=.slice none 0 0/\wr=w3)\/(i=.int .i64 1/\Bl w3 wr/\wr.ownsRow w.heap.size 132 3 v K (icl IL))) (fun i _ _=>1 - (intOf i).toNat)
 case atStart=>exact .inl ⟨rfl,rfl,rfl⟩
 case round=>
 rcases hrel with ⟨rfl,rfl,hww⟩|⟨rfl,hb,ho⟩
 ·subst hww
  have hs4:=HND.o _ bR;have n0:=hs4 0 _ rfl;have n1:=hs4 1 _ rfl;have n2:=hs4 2 _ rfl;have n3:=hs4 3 _ rfl;have hb5:Bl wr (wr.alloc (.cells #[.int .u64 P,.int .u64 0,.int .i64 cnt,.slice ia K ic] 129)):=ZA bR;obtain ⟨v6,w6,hrun,ho6,hg6⟩:=ZIW (base:=w.heap.size) (HIT.o _ hb5) HN29.o (by have:=HB3.o.size;simp;omega);rw [<-HK.o] at ho6;have HG6:=zh (show Bl wr w6/\w6.ownsRow w.heap.size 132 3 v6 K (icl IL) from ⟨ZL hb5 hg6 (by simp) (fun k hk=>by cases hk),ho6⟩);clear hs4 ho6 hg6 hb5;go_wp2_with (at_builtin;refine Zf rfl _ _ _ rfl _ _ _ _ rfl rfl hrun ?_);go_wp2_with fail;exact ⟨.inr ⟨rfl,HG6.o⟩,by simp [intOf]⟩
 ·obtain ⟨xa,xc,rfl⟩:=ZN ho
  have HB:=zh (HB3.o.trans (hb.mono HB3.o.size));have HSR:=zh (HSO.o _ _ ho);clear hb ho HSO;go_wp2_with fail;refine HSR.o.mono ?_;rintro e' w7 ⟨rfl,l',hp',hpw,ho7,hg7⟩;have hl':l'.length=K:=by rw [HK.o];exact hp'.length_eq
  have HS7:=zh (HF.o l' hp' hpw);have HPL:=zh (show S.map (·.1)=l'.map (·.2.1) by rw [<-HS7.o,List.map_map];rfl);rw [hl'] at ho7;have HL':=zh hl';have HO7:=zh ho7;have HB7:=zh (show Bl w w7 from ZL HB.o hg7 HB.o.size (fun k hk=>by
   rcases ho7.2 with ⟨e1,_⟩|⟨g9,c9,cu9,e1,hg9,_⟩
   ·rw [e1] at hk;cases hk
   ·rw [e1] at hk;cases hk;exact hg9))
  have HK29:=zh (show K<=29 by rw [HK.o];exact HN29.o);clear hp' hpw ho7 hg7 hl' HF HSR HIT HND HB;go_wp2_with fail
  go_loopw [42,10] (fun j av wr=>∃ n:Nat,n<=K/\j=.int .i64 n/\Bl w7 wr/\wr.ownsRow w7.heap.size 32 1 av n (ptl ((l'.map (·.2.1)).take n))) (fun j _ _=>K - (intOf j).toNat)
  case atStart=>exact ⟨0,by omega,rfl,bR,ZLn _ _ _ _⟩
  case round=>
  obtain ⟨n,hn,rfl,hb,ho⟩:=hrel;obtain ⟨fa,fc,rfl⟩:=ZN ho
  by_cases hlt:n < K
  ·have b1:(n:Int) < K:=by omega
   have hnl:n < l'.length:=by have:=HL'.o;omega
   have b2:(n:Int) < 29:=by have:=HK29.o;omega
   obtain ⟨gI,cI,eI,hsI,_⟩:=Zb (ZO HO7.o hb) (by omega);cases eI;obtain ⟨y,hy⟩:=xE (l'[n]);have hget:l'[n]?=some y:=by rw [hy];exact ZLg hnl
   obtain ⟨e0,e1,e2⟩:=VG hget;have t0:=hsI _ _ e0;have t1:=hsI _ _ e1;have t2:=hsI _ _ e2;have HTF:=zh (show ptl ((l'.map (·.2.1)).take (n+1))=ptl ((l'.map (·.2.1)).take n)++[.int .u64 (y.2.1:Nat)] by rw [ZLk (by simpa using hnl),List.getElem_map,<-hy];exact Qw _ _);obtain ⟨yi,yq,ye⟩:=y;simp only at t0 t1 t2 HTF;rw [show 0+3 * n=n * 3 by omega] at t0;rw [show 0+(3 * n+1)=n * 3+1 by omega] at t1;rw [show 0+(3 * n+2)=n * 3+2 by omega] at t2;have HB:=zh hb;have HO:=zh ho;have HNK:=zh (show n < K/\n < 29 from ⟨hlt,by omega⟩);clear hsI e0 e1 e2 hget hy hnl hb ho hn hlt;go_wp2_with (at_builtin;refine ZS ZJx rfl _ _ rfl (World.ownsRow.alloc HO.o _) rfl rfl ?c1 rfl ?c2 ?c3 ?c4 ?c5 ?_)
   case c1=>simp
   case c2=>rfl
   case c3=>have:=HNK.o;unfold maxLen;omega
   case c4=>have:=HNK.o;omega
   case c5=>have:=HB.o.size;simp;omega
   intro g9 cap9 w9 hop hgr hg9;have HG:=zh (show Bl w7 w9/\w9.ownsRow w7.heap.size 32 1 (.slice (some ⟨g9,0,none⟩) (n+1) cap9) (n+1) (ptl ((l'.map (·.2.1)).take (n+1))) from by
    refine ⟨ZL (ZA HB.o) hgr (by have:=HB.o.size;simp;omega) (fun k hk=>(HO.o.lt k hk).1),?_⟩;rw [HTF.o];exact hop)
   clear hop hgr hg9 t0 t1 t2 HO HB;go_wp2_with fail;exact ⟨⟨n+1,by have:=HNK.o;omega,rfl,HG.o⟩,by have:=HNK.o;simp [intOf];omega⟩
  ·obtain rfl:n=K:=by omega
   have d1:¬ (n:Int) < n:=by omega
   have et:(l'.map (·.2.1)).take n=l'.map (·.2.1):=ZL1 (by rw [ZLj,HL'.o];exact nR);rw [et] at ho;have HE:=zh (show wr.ownsRow w.heap.size 32 1 (.slice fa n fc) S.length (ptl (S.map (·.1)))/\Bl w wr from by
    rw [HPL.o,HSL.o];exact ⟨Zp ho HB7.o.size,HB7.o.trans (hb.mono HB7.o.size)⟩)
   clear ho hb et;go_wp2;go_returns;exact ⟨_,rfl,HE.o⟩
variable {F':Nat->Option ZM}{c0:Nat->Nat}{ex n:Nat}{s:LS}{B:WAd}{fv iv:Value}
theorem ZFl (w:World):(isAgg 32).run prog w=.ok false w:=by kernel_rfl
theorem ZIC (w:World):(sizeOf 32).run prog w=.ok 1 w:=by kernel_rfl
theorem ZKq {cs:Array Value}{m:Nat}{v:Value}(hm:m < 40)(hg:cs[m]?=some v)(w:World):(Instr.index 39 (.agg cs) (.int .i64 (m:Int))).run prog w=.ok v w:=by
 unfold Instr.index;have hm':(0:Int)<=m/\(m:Int) < (40:Nat):=by omega
 simp only [Sem.run_bind,asIntOf,Sem.run_pure,Result.andThen_ok,run_underlying underlying39];rw [ZLX hm'];simp only [Sem.run_bind,ZIC,Result.andThen_ok,part,ZFl,Int.toNat_natCast,Nat.mul_one,hg];rfl
theorem ZBo {l:List Nat}{k p:Nat}(h:l[k]?=some p):(ptl l)[k]?=some (.int .u64 (p:Int)):=by unfold ptl;rw [List.getElem?_map,h];rfl
theorem ZC5 (h:WC w A F T c x H ex B c0 s)(hr:WR w F H B s fv iv)(hi:s.Inv n)(hn:n<=60):
 Calls prog 12 #[.pointer (some ⟨B.wb,0,none⟩)] w fun e w'=>e=.returned (.bool true)/\Bl w w':=by
 have hlen:s.its.length<=60:=by
  have h1:=hi.ok.per.length_eq;have h2:=hi.en;have h3:(full s.en).length<=s.en.length:=ZL0 _ _;omega
 have hfrl:s.fr.length<=60:=by have:=hi.ok.fl;have:=hi.nr;omega
 have HAL:=zh (fun (wx:World) (hb:Bl w wx)=>ZCZ (h.below hb).ar (h.below hb).dr (h.below hb).li (h.rep.ndc hi hn) (fun w1 hb1=>YG ((h.below hb).below hb1)) hi.ok.its (hi.its_perm h.rep) hi.its_nd);have HCI:=zh (fun (wx:World) (hb:Bl w wx) (y:Nat×Nat) (hy:y∈s.its)=>Yg (h.below hb) hi hn (P:=y.1) (kd:=0) (LS.mem_en (hi.ok.per.mem_iff.1 hy)) (.inl rfl));have HCS:=zh (fun (wx:World) (hb:Bl w wx) (P:Nat) (hP:P∈s.fr)=>Vx (h.below hb) hi hn hP);have HCL:=zh (fun (wx:World) (hb:Bl w wx) (i:Nat) (hi40:i < 40) (h0:s.lp i≠0)=>Yg (h.below hb) hi hn (P:=s.lp i) (kd:=65) (LS.mem_lp hi40 h0) (.inr rfl));have HLD:=zh (fun (wx:World) (hb:Bl w wx) (i:Nat) (hi40:i < 40)=>show Calls prog 18 #[.pointer (some ⟨B.db,0,none⟩),.int .u64 ((ZP pA+8 * i:Nat):Int)] wx (fun e w'=>e=.returned (.int .u64 (s.lp i))/\wx=w') from by
  have:=JH (h.below hb).ar (h.below hb).dr (o:=ZP pA+8 * i) (by rw [show ZP pA=5104 from Jp.2.1];omega) (by rw [show ZP pA=5104 from Jp.2.1];omega);rw [show (ZP pA+8 * i) / 8=638+i by rw [show ZP pA=5104 from Jp.2.1];omega,h.rep.lnk i hi40] at this;exact this)
 have HAT:=zh (fun (wx:World) (i:Nat) (hi40:i < 40)=>show Calls prog 19 #[.int .u64 18014402804449918,.int .i64 i] wx (fun e w'=>e=.returned (.int .u64 (ZP pA+8 * i:Nat))/\wx=w') from XE (w:=wx) (p:=pA) (k:=i) (by decide) (by decide) (by omega));have HNI:=zh (fun (wx:World) (p:Nat)=>Zd (w:=wx) (p:=p));have HR:=zh hr;obtain ⟨ia,ic,hia⟩:=ZN hr.ite.1;subst hia;obtain ⟨fa,fc,hfa⟩:=ZN hr.fre.1;subst hfa;have HBW:=zh (Below.refl w.heap.size w);obtain ⟨L,hL⟩:=xE s.its.length;obtain ⟨M,hM⟩:=xE s.fr.length;rw [<-hL,<-hM] at HR;rw [<-hL] at HAL hlen;rw [<-hM] at hfrl;have HL:=zh hL;have HM:=zh hM;have HL60:=zh hlen;have HM60:=zh hfrl;have z1:=HR.o.one;have z2:=HR.o.two;have HZ:=zh (fun (wx:World) (hb:Bl w wx)=>show wx.cell? ⟨B.wb,1,none⟩=some (.pointer (some ⟨B.db,0,none⟩))/\wx.cell? ⟨B.wb,2,none⟩=some (.pointer (some ⟨B.lib,0,none⟩)) from ⟨(HR.o.below hb).one,(HR.o.below hb).two⟩);clear h hr hi hn hlen hfrl hL hM;go_in;go_upto_region 1 with fail
 go_region_held3 (fun wx=>wx.cell? ⟨B.wb,1,none⟩=some (.pointer (some ⟨B.db,0,none⟩))/\wx.cell? ⟨B.wb,2,none⟩=some (.pointer (some ⟨B.lib,0,none⟩)))
  (first|exact hsx|exact HZ.o _ (by repeat (with_reducible first|assumption|exact HBW.o|apply ZA|apply ZB)))
  (first|(refine ZF rfl func25 rfl rfl rfl (HAL.o _ (ZB HBW.o)) (by first|(simp [Act.eval];done)|(simp [Act.eval];rfl)) ?_;rintro e' V2 ⟨gv,rfl,hown,hbv⟩;obtain ⟨ga,gc,hgv⟩:=ZN hown;subst hgv;refine ⟨_,rfl,?_⟩;have hb2:Bl w V2:=(show Bl w _ from ZB HBW.o).trans (hbv.mono (by simp));have hsx:=HZ.o _ hb2))
 have HB2:=zh hb2;have HOW:=zh (Zp hown (Nat.zero_le _));have z45:=(HR.o.below hb2).ivc;clear hb2 hown hbv hsx z1 z2;go_wp2_with fail
 go_loopw [33] (fun i wr=>∃ k:Nat,k<=L/\i=.int .i64 k/\Bl V2 wr) (fun i _=>L - (intOf i).toNat)
 case atStart=>exact ⟨0,by omega,rfl,bR⟩
 case round=>
 obtain ⟨k,hk,rfl,hb⟩:=hrel
 by_cases hlt:k < L
 ·have b1:(k:Int) < L:=by omega
  have b2:(k:Int) < 60:=by have:=HL60.o;omega
  have hbw:=HB2.o.trans (hb.mono HB2.o.size);have hnl:k < s.its.length:=by have:=HL.o;omega
  obtain ⟨gI,cI,eI,hsI,_⟩:=Zb (HR.o.below hbw).ite.1 (by omega);cases eI;obtain ⟨gG,cG,eG,hsG,_⟩:=Zb (ZO HOW.o hb) (by omega);cases eG;obtain ⟨y,hy⟩:=xE (s.its[k]);have hget:s.its[k]?=some y:=by rw [hy];exact ZLg hnl
  have HYM:=zh (show y∈s.its by rw [hy];exact ZLl _);obtain ⟨e0,e1⟩:=VP hget;have e2:=ZBo (l:=s.its.map (·.1)) (k:=k) (p:=y.1) (by rw [List.getElem?_map,hget];rfl);have t0:=hsI _ _ e0;have t1:=hsI _ _ e1;have t2:=hsG _ _ e2;rw [show 0+2 * k=k * 2 by omega] at t0;rw [show 0+(2 * k+1)=k * 2+1 by omega] at t1;rw [show 0+k=k by omega] at t2;have HB:=zh hb;have HBW2:=zh hbw;have HLT:=zh hlt;have HT2:=zh t2;have HCI2:=zh (fun wx hb=>HCI.o wx hb y HYM.o);obtain ⟨yp,ye⟩:=y;simp only at t0 t1 t2 HT2 HCI2;clear hsI hsG e0 e1 e2 hget hy hnl hb hbw hlt hk;go_upto_region 7 with fail;obtain ⟨w5,hw5⟩:=xE (wr.alloc (.cells #[.int .u64 yp,.int .u64 ye] 54));obtain ⟨IB,hIB⟩:=xE wr.heap.size;have hb5:Bl wr w5:=by rw [hw5];exact ZA bR
  have HI5:=zh (show w5.heap[IB]?=some (.cells #[.int .u64 yp,.int .u64 ye] 54 (0,0)) by rw [hw5,hIB];exact ZC _ _);have HB5:=zh (HB.o.trans (hb5.mono HB.o.size));have HBW5:=zh (HBW2.o.trans (hb5.mono HBW2.o.size));have HG5:=zh (Zl hb5 HT2.o);have HBR:=zh (Below.refl w5.heap.size w5);rw [<-hw5,<-hIB];clear hw5 hIB hb5 t0 t1 t2;have HZ5:=zh (fun (wx:World) (hb:Bl w5 wx)=>show wx.cell? ⟨gG,k,none⟩=some (.int .u64 yp)/\wx.cell? ⟨IB,0,none⟩=some (.int .u64 yp)/\wx.cell? ⟨B.wb,1,none⟩=some (.pointer (some ⟨B.db,0,none⟩)) from ⟨Zl hb HG5.o,Zl hb (Yd HI5.o).1,(HR.o.below (HBW5.o.trans (hb.mono HBW5.o.size))).one⟩)
  go_region_held3 (fun wx=>wx.cell? ⟨gG,k,none⟩=some (.int .u64 yp)/\wx.cell? ⟨IB,0,none⟩=some (.int .u64 yp)/\wx.cell? ⟨B.wb,1,none⟩=some (.pointer (some ⟨B.db,0,none⟩)))
   (first|exact hsx|exact HZ5.o _ (by repeat (with_reducible first|assumption|exact HBR.o|apply ZA|apply ZB)))
   (first|(go_at_call 16;refine (HCI2.o _ (ZB HBW5.o)).mono ?_;rintro e' V6 ⟨rfl,hb6⟩;have hb7:Bl w5 V6:=(show Bl w5 _ from ZB HBR.o).trans (hb6.mono (by simp));have hsx:=HZ5.o _ hb7))
  have HE:=zh (HB5.o.trans (hb7.mono HB5.o.size));clear hb6 hb7 hsx;go_wp2_with fail;exact ⟨⟨k+1,by have:=HLT.o;omega,rfl,HE.o⟩,by have:=HLT.o;simp [intOf];omega⟩
 ·obtain rfl:k=L:=by omega
  have d1:¬ ((k:Int) < k):=by omega
  have HBA:=zh (HB2.o.trans (hb.mono HB2.o.size));have z44:=(HR.o.below HBA.o).fvc;clear hb hk hlt z45;go_wp2_with fail;have HW4:=zh (Below.refl wr.heap.size wr)
  go_loopw [63] (fun i wx=>∃ m:Nat,m<=M/\i=.int .i64 m/\Bl wr wx) (fun i _=>M - (intOf i).toNat)
  case atStart=>exact ⟨0,by omega,rfl,HW4.o⟩
  case round=>
  obtain ⟨m,hm,rfl,hb⟩:=hrel
  by_cases hlt:m < M
  ·have b1:(m:Int) < M:=by omega
   have b2:(m:Int) < 60:=by have:=HM60.o;omega
   have hbw:=HBA.o.trans (hb.mono HBA.o.size);have hnl:m < s.fr.length:=by have:=HM.o;omega
   obtain ⟨gF,cF,eF,hsF,_⟩:=Zb (HR.o.below hbw).fre.1 (by omega);cases eF;obtain ⟨q,hq⟩:=xE (s.fr[m]);have hget:s.fr[m]?=some q:=by rw [hq];exact ZLg hnl
   have HCQ:=zh (fun wx hb=>HCS.o wx hb q (by rw [hq];exact ZLl _));have t0:=hsF _ _ (ZBo hget);rw [show 0+m=m by omega] at t0;have z1:=(HR.o.below hbw).one;have HBW2:=zh hbw;have HLT:=zh hlt;have HB:=zh hb;clear hsF hget hq hnl hb hbw hlt hm z44;go_wp2_with fail;refine (HCQ.o _ HBW2.o).mono ?_;rintro e' w6 ⟨rfl,hb6⟩;have HE:=zh (HB.o.trans (hb6.mono HB.o.size));clear hb6 z1 t0;go_wp2_with fail;exact ⟨⟨m+1,by have:=HLT.o;omega,rfl,HE.o⟩,by have:=HLT.o;simp [intOf];omega⟩
  ·obtain rfl:m=M:=by omega
   have d1:¬ ((m:Int) < m):=by omega
   have HBB:=zh (HBA.o.trans (hb.mono HBA.o.size));clear hb hm hlt z44;obtain ⟨CS,hcs,hcg⟩:∃ CS:Array Value,CS.size=40/\∀ j,j < 40->CS[j]?=some (.int .u64 (s.lp j:Nat)):=⟨Array.ofFn (n:=40) fun i=>.int .u64 (s.lp i:Nat),by simp,fun j hj=>by simp [hj]⟩
   have HCG:=zh hcg;have HCZ:=zh hcs;have HCC:=zh (show ∀ j v,CS.toList[j]?=some v->wr.cell? ⟨B.wb,4+j,none⟩=some v from fun j v hj=>by
    have hj40:j < 40:=by
     rw [<-hcs];have:=(List.getElem?_eq_some_iff.1 hj).1;simpa using this
    have e:=hcg j hj40;rw [ZLx] at hj;rw [e] at hj;cases hj;exact (HR.o.below HBB.o).lp hj40)
   clear hcs hcg;go_wp2_with (refine Vw rfl 39 _ rfl B.wb 4 rfl CS _ HCC.o underlying39 rfl (by rw [HCZ.o];kernel_rfl) ?_);obtain ⟨w7,hw7⟩:=xE wr;subst hw7
   go_loopw [79] (fun i wx=>∃ j:Nat,j<=40/\i=.int .i64 j/\Bl w7 wx) (fun i _=>40 - (intOf i).toNat)
   case atStart=>exact ⟨0,by omega,rfl,bR⟩
   case round=>
   obtain ⟨j,hj,rfl,hb⟩:=hrel
   by_cases hlt:j < 40
   ·have b1:(j:Int) < 40:=by omega
    have hbw:=HBB.o.trans (hb.mono HBB.o.size);obtain ⟨p,hp⟩:=xE (s.lp j);have hix:=fun wx=>ZKq (w:=wx) hlt (HCG.o j hlt)
    rw [<-hp] at hix;have HL2:=zh (fun wx hb=>HLD.o wx hb j hlt);have HA2:=zh (fun wx=>HAT.o wx j hlt);have HC2:=zh (fun wx hb h0=>HCL.o wx hb j hlt h0);obtain ⟨O,hO⟩:∃ O:Nat,O=ZP pA+8 * j:=⟨_,rfl⟩
    rw [<-hO] at HL2 HA2;rw [<-hp] at HL2 HC2;have HBW2:=zh hbw;have HLT:=zh hlt;have HB:=zh hb;clear hO hp hb hbw hlt hj;go_upto_region 19 with fail;have HZ3:=zh (fun (wx:World) (hb:Bl w wx)=>show wx.cell? ⟨B.wb,1,none⟩=some (.pointer (some ⟨B.db,0,none⟩))/\wx.cell? ⟨B.wb,3,none⟩=some (.int .u64 18014402804449918) from ⟨(HR.o.below hb).one,(HR.o.below hb).three⟩)
    by_cases hp0:p=0
    ·subst hp0
     have HN2:=zh (fun (w1:World)=>show Calls prog 15 #[.int .u64 (0:Nat)] w1 (fun e w'=>e=.returned (.bool true)/\w1=w') from by
      have:=Zd (w:=w1) (p:=0);simpa using this)
     have z1:=(HR.o.below HBW2.o).one;have z3:=(HZ3.o _ HBW2.o).2
     go_quiet (first
      |(go_at_call 19;exact ZZ (HA2.o _))
      |(go_at_call 18;exact ZZ (HL2.o _ (ZU HBW2.o)))
      |(go_at_call 15;exact ZZ (HN2.o _)))
     go_wp2_with fail;exact ⟨⟨j+1,by have:=HLT.o;omega,rfl,ZU HB.o⟩,by have:=HLT.o;simp [intOf];omega⟩
    ·have HN2:=zh (fun (w1:World)=>show Calls prog 15 #[.int .u64 p] w1 (fun e w'=>e=.returned (.bool false)/\w1=w') from by
      have:=Zd (w:=w1) (p:=p);rw [show decide (p=0)=false by simp [hp0]] at this;exact this)
     have HP0:=zh hp0;clear hp0
     go_region_held3 (fun wx=>wx.cell? ⟨B.wb,1,none⟩=some (.pointer (some ⟨B.db,0,none⟩))/\wx.cell? ⟨B.wb,3,none⟩=some (.int .u64 18014402804449918))
      (first|exact hsx|exact HZ3.o _ (by repeat (with_reducible first|assumption|exact HBW2.o|apply ZA|apply ZB)))
     (first
       |(go_at_call 19;refine (HA2.o _).mono ?_;rintro e' V2 ⟨rfl,rfl⟩)
       |(go_at_call 18;refine (HL2.o _ (by repeat (with_reducible first|assumption|exact HBW2.o|apply ZA|apply ZB))).mono ?_;rintro e' V2 ⟨rfl,rfl⟩)
       |(go_at_call 15;refine (HN2.o _).mono ?_;rintro e' V2 ⟨rfl,rfl⟩)
       |(go_at_call 16;refine (HC2.o _ (by repeat (with_reducible first|assumption|exact HBW2.o|apply ZA|apply ZB)) HP0.o).mono ?_;rintro e' V6 ⟨rfl,hb6⟩;have hb7:Bl w V6:=(show Bl w _ from (by repeat (with_reducible first|assumption|exact HBW2.o|apply ZA|apply ZB))).trans (hb6.mono HBW2.o.size);have hsx:=HZ3.o _ hb7;have hb8:Bl w7 V6:=(show Bl w7 _ from by repeat (with_reducible first|exact HB.o|apply ZB)).trans (hb6.mono HB.o.size)))
     have HE:=zh hb8;clear hb6 hb7 hb8 hsx;go_wp2_with fail;exact ⟨⟨j+1,by have:=HLT.o;omega,rfl,HE.o⟩,by have:=HLT.o;simp [intOf];omega⟩
   ·obtain rfl:j=40:=by omega
    have HE:=zh (HBB.o.trans (hb.mono HBB.o.size));clear hb hj hlt;go_wp2;go_returns;exact ⟨rfl,HE.o⟩
theorem WC.redir {db lg:Nat}(h:WC w A F T c x H ex B c0 s)(hd:DrW w A F H 0 db lg 640 1664):WC w A F T c x H ex {B with db:=db,lg:=lg} c0 s:={h with dr:=hd}
theorem WC.relist {lib:Nat}(h:WC w A F T c x H ex B c0 s)(hl:LiB w lib pL B.kb)(hf:Frn F H lib):WC w A F T c x H ex {B with lib:=lib} c0 s:={h with li:=hl,fi:=hf}
def GetR (w:World)(rb:Nat)(name:ByteArray)(P:Nat):Prop:=∀ wx,Bl w wx->Calls prog 14 #[.pointer (some ⟨rb,0,none⟩),.string name] wx fun e w'=>e=.returned (.tuple #[.int .u64 P,.int .i64 0])/\Bl wx w'
theorem ZFA (h:WC w A F T c x H ex B c0 s)(hi:s.Inv n)(hn:n<=60)(hg1:GetR w B.rb {data:=#[108,105,109,98,111]} pL)(hg2:GetR w B.rb {data:=#[97,110,99,104,111,114]} pA):
 Calls prog 47 #[.pointer (some ⟨B.pb,0,none⟩)] w fun e w'=>∃ lib db,e=.returned (.tuple #[.pointer (some ⟨lib,0,none⟩),.pointer (some ⟨db,0,none⟩),.int .u64 pA,.bool true])/\w.heap.size<=lib/\LiB w' lib pL B.kb/\Bl w w':=by
 have HPD:=zh (ZAx h.po h.ar (t:=0) (by omega));have HRT:=zh (fun (wx:World) (hb:Bl w wx)=>Ux (h.po.below hb));have HEP:=zh (fun (wx:World) (hb:Bl w wx)=>Yo (h.po.below hb));have HG1:=zh hg1;have HG2:=zh hg2;have HH:=zh h;have HOP:=zh (fun (wx:World) (db lg:Nat) (hw:WC wx A F T c x H ex {B with db:=db,lg:=lg} c0 s)=>ZAr hw.ar hw.dr (kb:=B.kb) (hw.rep.ndc hi hn) (fun w1 hb=>YG (hw.below hb)));clear hg1 hg2 h hi hn;go_in;go_wp2_with fail;refine HPD.o.mono ?_;rintro e w1 ⟨db,lb,rfl,hlog,hdb,hblk⟩;have HB1:=zh hlog.1;have HW1:=zh (show WC w1 A F T c x H ex {B with db:=db,lg:=lb} c0 s from (HH.o.below hlog.1).redir ⟨hblk,hlog.2.2,by omega,⟨(HH.o.hw.newf hdb).f,(HH.o.hw.newf hdb).o⟩,⟨(HH.o.hw.newf hlog.2.1).f,(HH.o.hw.newf hlog.2.1).o⟩⟩);clear hlog hdb hblk;go_wp2_with fail;refine (HRT.o _ HB1.o).mono ?_;rintro e w' ⟨rfl,rfl⟩;go_wp2_with fail;refine (HG1.o _ HB1.o).mono ?_;rintro e w2 ⟨rfl,hb2⟩;have HB2:=zh (HB1.o.trans (hb2.mono HB1.o.size));have HW2:=zh (HW1.o.below hb2);clear hb2;go_wp2_with fail;refine (HRT.o _ HB2.o).mono ?_;rintro e w' ⟨rfl,rfl⟩;go_wp2_with fail;refine (HG2.o _ HB2.o).mono ?_;rintro e w3 ⟨rfl,hb3⟩;have HB3:=zh (HB2.o.trans (hb3.mono HB2.o.size));have HW3:=zh (HW2.o.below hb3);clear hb3;go_wp2_with fail;refine (HEP.o _ HB3.o).mono ?_;rintro e w' ⟨rfl,rfl⟩;go_wp2_with fail;refine (HOP.o _ _ _ HW3.o).mono ?_;rintro e w4 ⟨rfl,hl,hb4⟩;have HE:=zh (show w.heap.size<=w3.heap.size/\LiB w4 w3.heap.size pL B.kb/\Bl w w4 from ⟨HB3.o.size,hl,HB3.o.trans (hb4.mono HB3.o.size)⟩);clear hl hb4;go_wp2;go_returns;exact ⟨_,_,rfl,HE.o⟩
end
end Go.Proofs.YtbpeehmepehkdaaGreatDoor.Dv
