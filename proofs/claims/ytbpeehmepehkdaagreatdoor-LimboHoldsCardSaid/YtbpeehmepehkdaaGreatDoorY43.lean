/- Part 43. -/
import Derived.Test.YtbpeehmepehkdaaGreatDoorY42
set_option maxHeartbeats 8000000
set_option maxRecDepth 20000
set_option linter.all false
namespace Go.Proofs.YtbpeehmepehkdaaGreatDoor.Dv
open Tryz
section
open Go.RowKit Go.Proofs.YtbpeehmepehkdaaGreatDoor.Size
variable {w w':World}{A:DAd}{F F':Nat->Option ZM}{T c c' c0:Nat->Nat}{x x':Nat}{H:HAd}{ex n:Nat}{s:LS}{B:WAd}{fv iv:Value}
def DoP (A:DAd)(T:Nat->Nat)(H:HAd)(B:WAd)(c0:Nat->Nat)(x ex:Nat)(s':LS)(w':World):Prop:=
 ∃ F' c' x' ex' fv' iv',x'<=x+2000/\ex'<=ex+2/\WC w' A F' T c' x' H ex' B c0 s'/\WR w' F' H B s' fv' iv'
theorem DoP.of (h:WC w A F T c x H ex B c0 s)(hr:WR w F H B s fv iv):DoP A T H B c0 x ex s w:=⟨F,c,x,ex,fv,iv,by omega,by omega,h,hr⟩
theorem Z4 {a n:Int}(hn:0 < n){k:Nat}(hk:n=k):ZX a n < k:=by have:=(ZEy (a:=a) hn).1;omega
theorem do3 (h:WC w A F T c x H ex B c0 s)(hr:WR w F H B s fv iv)(hi:s.Inv n)(hn:n<=60){a b d:Int}(hk:ZX a 7=3):
 Calls prog 11 #[.pointer (some ⟨B.wb,0,none⟩),.agg #[.int .i64 a,.int .i64 b,.int .i64 d]] w fun e w'=>e=.returned (.bool true)/\DoP A T H B c0 x ex (s.stp 3 (ZX b 40) (ZX d 8)) w':=by
 have HM1:=zh (fun (w1:World)=>show Calls _ _ _ w1 _ from (Zh (w:=w1) (a:=b) (n:=40) (by omega)));have HM2:=zh (fun (w1:World)=>show Calls _ _ _ w1 _ from (Zh (w:=w1) (a:=d) (n:=8) (by omega)));have HM3:=zh (fun (w1:World)=>show Calls _ _ _ w1 _ from (Zh (w:=w1) (a:=a) (n:=7) (by omega)));rw [hk] at HM3;have ht:ZX d 8 < 8:=Z4 (by omega) rfl;have est:s.stp 3 (ZX b 40) (ZX d 8)={s with now:=s.now,ann:=if s.ann (ZX d 8)=0 then upd s.ann (ZX d 8) s.now else s.ann}:=rfl;rw [est];obtain ⟨i,hie⟩:=xE (ZX b 40);obtain ⟨t,hte⟩:=xE (ZX d 8);rw [<-hie] at HM1;rw [<-hte] at HM2 ht ⊢;have hnow:1<=s.now/\s.now<=2147483647:=by have:=hi.now;have:=hi.ok.now;omega
 have HEP:=zh (fun (wx:World) (hb:Bl w wx)=>Yo (h.po.below hb));have HEN:=zh (fun (wx:World) (hb:Bl w wx)=>ZG4 (h.ar.below hb) (h.ck.below hb) hnow h.rep.clk (by omega) ht);have HRE:=zh (fun (wx:World)=>ZEH (w:=wx) (now:=s.now) (t:=t) (an:=s.ann) ht);have HREP:=zh (show ({s with now:=s.now,ann:=if s.ann t=0 then upd s.ann t s.now else s.ann}:LS).Rep T c c0 from {h.rep with});have HH:=zh h;have HR:=zh hr;clear hi hn hk est hie hte h hr hnow ht;go_in;go_upto_region 1 with fail;obtain ⟨w0,hw0⟩:=xE (w.alloc (.cells #[.int .i64 a,.int .i64 b,.int .i64 d] 28));have hb0:Bl w w0:=by rw [hw0];exact ZA bR
 have hx0:w0.heap[w.heap.size]?=some (.cells #[.int .i64 a,.int .i64 b,.int .i64 d] 28 (0,0)):=by rw [hw0];exact ZC _ _
 rw [<-hw0];obtain ⟨a0,a1,a2,_⟩:=ZY hx0;clear hw0;have HR0:=zh (Below.refl w0.heap.size w0)
 go_region_held3 (fun wx=>wx.cell? ⟨w.heap.size,1,none⟩=some (.int .i64 b)/\wx.cell? ⟨w.heap.size,2,none⟩=some (.int .i64 d))
  (first|assumption|exact ⟨a1,a2⟩)
  (first
    |(refine ZF rfl func26 rfl rfl rfl (HM1.o _) (by first|(simp [Act.eval];done)|(simp [Act.eval];rfl)) ?_;rintro e' V2 ⟨rfl,rfl⟩;refine ⟨_,rfl,?_⟩)
    |(refine ZF rfl func26 rfl rfl rfl (HM2.o _) (by first|(simp [Act.eval];done)|(simp [Act.eval];rfl)) ?_;rintro e' V2 ⟨rfl,rfl⟩;refine ⟨_,rfl,?_⟩))
 have hb1:Bl w w0.drew:=ZB hb0;have hx1:w0.drew.heap[w.heap.size]?=_:=hx0;obtain ⟨w1,hw1⟩:=xE w0.drew;rw [<-hw1] at hb1 hx1 ⊢;clear hw1 a0 a1 a2 hx0 hb0;obtain ⟨a0,a1,a2,_⟩:=ZY hx1;go_wp2_with fail;refine (HM3.o _).mono ?_;rintro e w' ⟨rfl,rfl⟩;have HB1:=zh hb1;have z0:=(HR.o.below hb1).zero;clear hb1 hx1 a0 a1 a2;go_wp2_with fail;refine (HEP.o _ HB1.o).mono ?_;rintro e w' ⟨rfl,rfl⟩;go_wp2_with fail;refine (HEN.o _ HB1.o).mono ?_;rintro e w2 ⟨rfl,hck,ho⟩
 have HW2:=zh (show WC w2 A F T c x H ex B c0 {s with now:=s.now,ann:=if s.ann t=0 then upd s.ann t s.now else s.ann}/\WR w2 F H B s fv iv from
  ⟨(HH.o.below HB1.o).clock ho hck ⟨rfl,rfl,rfl⟩ HREP.o,(HR.o.below HB1.o).clock (HH.o.below HB1.o).ck ho⟩)
 have HA:=zh HW2.o.2;clear hck ho z0;have z0:=HA.o.zero;have z46:=HA.o.nowc;obtain ⟨z47,z48,z49,z50,z51,z52,z53,z54⟩:=HA.o.annc;unfold ck9 at HRE
 by_cases hz:s.ann t=0
 ·simp only [ZLX hz] at *
  go_wp2_with fail;refine (HRE.o _).mono ?_;rintro e w3 ⟨rfl,hb3⟩;have HW3:=zh (show WC w3 A F T c x H ex B c0 {s with now:=s.now,ann:=(upd s.ann t s.now)}/\WR w3 F H B s fv iv from ⟨HW2.o.1.below hb3,HW2.o.2.below hb3⟩);clear hb3 z0 z46 z47 z48 z49 z50 z51 z52 z53 z54;obtain ⟨AN,hAN⟩:=xE ((upd s.ann t s.now));rw [<-hAN] at HW3 ⊢;simp only [<-hAN];have HAN:=zh hAN;clear hAN;go_upto_region 44 with fail;obtain ⟨w4,hw4⟩:=xE (w3.alloc (.cells #[.int .u64 s.now,.int .u64 (AN 0:Nat),.int .u64 (AN 1:Nat),.int .u64 (AN 2:Nat),.int .u64 (AN 3:Nat),.int .u64 (AN 4:Nat),.int .u64 (AN 5:Nat),.int .u64 (AN 6:Nat),.int .u64 (AN 7:Nat)] 44));have hb4:Bl w3 w4:=by rw [hw4];exact ZA bR
  have hx4:w4.heap[w3.heap.size]?=some (.cells #[.int .u64 s.now,.int .u64 (AN 0:Nat),.int .u64 (AN 1:Nat),.int .u64 (AN 2:Nat),.int .u64 (AN 3:Nat),.int .u64 (AN 4:Nat),.int .u64 (AN 5:Nat),.int .u64 (AN 6:Nat),.int .u64 (AN 7:Nat)] 44 (0,0)):=by rw [hw4];exact ZC _ _
  have HW4:=zh (show WC w4 A F T c x H ex B c0 {s with now:=s.now,ann:=AN}/\WR w4 F H B s fv iv from ⟨HW3.o.1.below hb4,HW3.o.2.below hb4⟩);rw [<-hw4];clear hw4 hb4;have f:=HW4.o.2.free;have z46:=HW4.o.2.nowc;obtain ⟨z47,z48,z49,z50,z51,z52,z53,z54⟩:=HW4.o.2.annc;obtain ⟨⟨x0,x1,x2,x3,x4,x5,x6,x7,x8⟩,_⟩:=ZCq hx4;go_upto_region 45 with fail;have hst:=X5 (B:=B) HW4.o.1 HW4.o.2 s.now AN;have HE:=zh (DoP.of (x:=x) (ex:=ex) hst.1 hst.2);clear hst z46 z47 z48 z49 z50 z51 z52 z53 z54 x0 x1 x2 x3 x4 x5 x6 x7 x8 f;go_wp2;go_returns;exact ⟨rfl,by rw [<-HAN.o];exact HE.o⟩
 ·simp only [ZLU hz] at *
  go_wp2_with fail;refine (HRE.o _).mono ?_;rintro e w3 ⟨rfl,hb3⟩;have HW3:=zh (show WC w3 A F T c x H ex B c0 {s with now:=s.now,ann:=s.ann}/\WR w3 F H B s fv iv from ⟨HW2.o.1.below hb3,HW2.o.2.below hb3⟩);clear hb3 z0 z46 z47 z48 z49 z50 z51 z52 z53 z54;go_upto_region 44 with fail;obtain ⟨w4,hw4⟩:=xE (w3.alloc (.cells #[.int .u64 s.now,.int .u64 (s.ann 0:Nat),.int .u64 (s.ann 1:Nat),.int .u64 (s.ann 2:Nat),.int .u64 (s.ann 3:Nat),.int .u64 (s.ann 4:Nat),.int .u64 (s.ann 5:Nat),.int .u64 (s.ann 6:Nat),.int .u64 (s.ann 7:Nat)] 44));have hb4:Bl w3 w4:=by rw [hw4];exact ZA bR
  have hx4:w4.heap[w3.heap.size]?=some (.cells #[.int .u64 s.now,.int .u64 (s.ann 0:Nat),.int .u64 (s.ann 1:Nat),.int .u64 (s.ann 2:Nat),.int .u64 (s.ann 3:Nat),.int .u64 (s.ann 4:Nat),.int .u64 (s.ann 5:Nat),.int .u64 (s.ann 6:Nat),.int .u64 (s.ann 7:Nat)] 44 (0,0)):=by rw [hw4];exact ZC _ _
  have HW4:=zh (show WC w4 A F T c x H ex B c0 {s with now:=s.now,ann:=s.ann}/\WR w4 F H B s fv iv from ⟨HW3.o.1.below hb4,HW3.o.2.below hb4⟩);rw [<-hw4];clear hw4 hb4;have f:=HW4.o.2.free;have z46:=HW4.o.2.nowc;obtain ⟨z47,z48,z49,z50,z51,z52,z53,z54⟩:=HW4.o.2.annc;obtain ⟨⟨x0,x1,x2,x3,x4,x5,x6,x7,x8⟩,_⟩:=ZCq hx4;go_upto_region 45 with fail;have hst:=X5 (B:=B) HW4.o.1 HW4.o.2 s.now s.ann;have HE:=zh (DoP.of (x:=x) (ex:=ex) hst.1 hst.2);clear hst z46 z47 z48 z49 z50 z51 z52 z53 z54 x0 x1 x2 x3 x4 x5 x6 x7 x8 f;go_wp2;go_returns;exact ⟨rfl,HE.o⟩
theorem Jn {lib db:Nat}{v:Value}:Calls prog 20 #[.pointer (some ⟨lib,0,none⟩),.iface 37 (.pointer (some ⟨db,0,none⟩)),.int .u64 (0:Nat),v] w fun e' w'=>e'=.returned (.int .i64 1)/\Bl w w':=by
 have HNI:=zh (fun (w1:World)=>show Calls prog 15 #[.int .u64 (0:Nat)] w1 (fun e w'=>e=.returned (.bool true)/\w1=w') from by
  have:=Zd (w:=w1) (p:=0);simpa using this)
 have HB:=zh (ZA (o:=.cells #[.int .u64 (0:Nat)] 32) (Below.refl w.heap.size w));go_in;go_wp2_with fail;refine (HNI.o _).mono ?_;rintro e' w' ⟨rfl,rfl⟩;go_wp2;go_returns;exact ⟨rfl,HB.o⟩
theorem ZHW {i:Nat}(hi:i < 40)(hn:s.en.length < 29)(h1:s.lp i < 18446744073709551616)(h2:s.now < 18446744073709551616):UP 160 640 1664 (XU s i):=by
 unfold UP XU;refine ⟨?_,fun p hp=>?_⟩
 ·simp only [List.map_cons,List.map_nil,List.nodup_cons,List.mem_cons,List.not_mem_nil,or_false,not_false_eq_true,List.nodup_nil,and_true]
  omega
 ·simp only [List.mem_cons,List.not_mem_nil,or_false] at hp
  rcases hp with rfl|rfl|rfl|rfl <;> dsimp only <;> refine ⟨by omega,by omega,by omega,by omega⟩
theorem ZGj (h:WC w A F T c x H ex B c0 s)(hi:s.Inv n)(hn:n<=50){i:Nat}(hi40:i < 40)(h0:s.lp i≠0)(hx:x<=900000){v:Value}(hv:Wrs w v [(8 * (638+i),0)]):
 Calls prog 20 #[.pointer (some ⟨B.lib,0,none⟩),.iface 37 (.pointer (some ⟨B.db,0,none⟩)),.int .u64 (s.lp i),v] w fun e w'=>e=.returned (.int .i64 0)/\∃ F',WC w' A F' T (wrs c (cmL 640 (cmV T (XU s i)) (XU s i)).flatten) (x+100) H ex B c0 (s.retire i)/\HMv F F' H w w':=by
 have hen:s.en.length < 29:=by have:=hi.en;omega
 have hlive:=LS.mem_lp hi40 h0;obtain ⟨hc,hin,hkd,hbl⟩:=hi.live_chk (by omega) h.rep.head hlive;have hnow:s.now<=1000000:=by have:=hi.now;omega
 have hno:¬ ZGl (Dv.itm s.q (epW c) 29) (s.lp i):=by
  rintro ⟨y,hy,e⟩;have h1:(y.2.1,y.2.2)∈full s.en:=by rw [<-h.rep.itm_full];exact ZLb.2 ⟨y,hy,rfl⟩
  have hnd:=hi.ok.nd;rw [LS.live_eq] at hnd;refine (ZL3.1 hnd).2.2 (s.lp i) (ZLv.2 ⟨ZLb.2 ⟨i,ZLz.2 hi40,rfl⟩,by simpa using h0⟩) (s.lp i) (ZLb.2 ⟨_,h1,e⟩) rfl
 have hl:XU s i=[(8 * (638+i),0)]++[(ZP pL+8 * (2+2 * s.en.length),s.lp i),(ZP pL+8 * (3+2 * s.en.length),s.now),(ZP pL+8 * 1,s.en.length+1)]:=by
  unfold XU;rw [show ZP pL=4616 from XV.2.1];simp only [List.cons_append,List.nil_append,List.cons.injEq,Prod.mk.injEq,and_true,true_and];omega
 have:=ZCf (x':=x+100) h.hw h.dr (by omega) (by omega) h.rep.log h.li h.ck (h.rep.ndc hi (by omega)) hen hin.ok (fun w1 hb=>YG (h.below hb)) (fun w1 hb=>Yg (h.below hb) hi (by omega) hlive (.inl rfl)) hno hnow hv hl (by simp) (by simp) (by unfold XU;simp) (ZHW hi40 hen (by have:=hin.ok.lt;omega) (by omega)) (by unfold XU;simp only [List.length_cons,List.length_nil];omega) (by omega);refine this.mono ?_;rintro e w' ⟨rfl,F',h1,h2⟩;exact ⟨rfl,F',h.moved h1 h2 (h.rep.retire hi40 hen) ⟨rfl,rfl⟩,h2⟩
theorem ZIf (h:WC w A F T c x H ex B c0 s)(hr:WR w F H B s fv iv){a b d:Int}(hk:ZX a 7=1)(h0:s.lp (ZX b 40)=0):
 Calls prog 11 #[.pointer (some ⟨B.wb,0,none⟩),.agg #[.int .i64 a,.int .i64 b,.int .i64 d]] w fun e w'=>e=.returned (.bool true)/\DoP A T H B c0 x ex s w':=by
 have HM1:=zh (fun (w1:World)=>show Calls _ _ _ w1 _ from (Zh (w:=w1) (a:=b) (n:=40) (by omega)));have HM2:=zh (fun (w1:World)=>show Calls _ _ _ w1 _ from (Zh (w:=w1) (a:=d) (n:=8) (by omega)));have HM3:=zh (fun (w1:World)=>show Calls _ _ _ w1 _ from (Zh (w:=w1) (a:=a) (n:=7) (by omega)));rw [hk] at HM3;have hi40:ZX b 40 < 40:=Z4 (by omega) rfl;obtain ⟨i,hie⟩:=xE (ZX b 40);obtain ⟨t,hte⟩:=xE (ZX d 8);rw [<-hie] at HM1 hi40 h0;rw [<-hte] at HM2;have HLK:=zh (fun (wx:World) (hb:Bl w wx)=>Us (v:=0) (hr.below hb).three (by decide) (by decide) (show i < 60 by omega));have HRT:=zh (fun (wx:World) (v:Value)=>Jn (w:=wx) (lib:=B.lib) (db:=B.db) (v:=v));have HNI:=zh (fun (w1:World)=>show Calls prog 15 #[.int .u64 (0:Nat)] w1 (fun e w'=>e=.returned (.bool true)/\w1=w') from by
  have:=Zd (w:=w1) (p:=0);simpa using this)
 have HH:=zh h;have HR:=zh hr;have b40:(i:Int) < 40:=by omega
 have HL0:=zh h0;obtain ⟨O,hO⟩:∃ O:Nat,O=ZP pA+8 * i:=⟨_,rfl⟩
 rw [<-hO] at HLK;clear hk h hr h0 hie hte hi40 hO;go_in;go_upto_region 1 with fail;obtain ⟨w0,hw0⟩:=xE (w.alloc (.cells #[.int .i64 a,.int .i64 b,.int .i64 d] 28));have hb0:Bl w w0:=by rw [hw0];exact ZA bR
 have hx0:w0.heap[w.heap.size]?=some (.cells #[.int .i64 a,.int .i64 b,.int .i64 d] 28 (0,0)):=by rw [hw0];exact ZC _ _
 rw [<-hw0];obtain ⟨a0,a1,a2,_⟩:=ZY hx0;clear hw0;have HR0:=zh (Below.refl w0.heap.size w0)
 go_region_held3 (fun wx=>wx.cell? ⟨w.heap.size,1,none⟩=some (.int .i64 b)/\wx.cell? ⟨w.heap.size,2,none⟩=some (.int .i64 d))
  (first|assumption|exact ⟨a1,a2⟩)
  (first
    |(refine ZF rfl func26 rfl rfl rfl (HM1.o _) (by first|(simp [Act.eval];done)|(simp [Act.eval];rfl)) ?_;rintro e' V2 ⟨rfl,rfl⟩;refine ⟨_,rfl,?_⟩)
    |(refine ZF rfl func26 rfl rfl rfl (HM2.o _) (by first|(simp [Act.eval];done)|(simp [Act.eval];rfl)) ?_;rintro e' V2 ⟨rfl,rfl⟩;refine ⟨_,rfl,?_⟩))
 have hb1:Bl w w0.drew:=ZB hb0;have hx1:w0.drew.heap[w.heap.size]?=_:=hx0;obtain ⟨w1,hw1⟩:=xE w0.drew;rw [<-hw1] at hb1 hx1 ⊢;clear hw1 a0 a1 a2 hx0 hb0;obtain ⟨a0,a1,a2,_⟩:=ZY hx1;go_wp2_with fail;refine (HM3.o _).mono ?_;rintro e w' ⟨rfl,rfl⟩;have HB1:=zh hb1;have hR1:=HR.o.below hb1;have z1:=hR1.one;have z2:=hR1.two;have z4:=hR1.lp (i:=i) (by omega);rw [HL0.o] at z4;have HS1:=zh (fun (wx:World) (hb:Bl w1 wx)=>show wx.cell? ⟨B.wb,1,none⟩=some (.pointer (some ⟨B.db,0,none⟩))/\wx.cell? ⟨B.wb,2,none⟩=some (.pointer (some ⟨B.lib,0,none⟩)) from ⟨(hR1.below hb).one,(hR1.below hb).two⟩);have HR1:=zh (Below.refl w1.heap.size w1);clear hb1 hx1 a0 a1 a2 hR1;go_upto_region 20 with fail
 go_region_held3 (fun wx=>wx.cell? ⟨B.wb,1,none⟩=some (.pointer (some ⟨B.db,0,none⟩))/\wx.cell? ⟨B.wb,2,none⟩=some (.pointer (some ⟨B.lib,0,none⟩)))
  (first|exact hsx|exact HS1.o _ (by repeat (with_reducible first|assumption|exact HR1.o|apply ZA|apply ZB)))
  (first
    |(refine ZF rfl func21 rfl rfl rfl (HLK.o _ (ZB HB1.o)) (by first|(simp [Act.eval];done)|(simp [Act.eval];rfl)) ?_;rintro e' V2 ⟨rfl,rfl⟩;refine ⟨_,rfl,?_⟩)
    |(refine ZF rfl func20 rfl rfl rfl (HRT.o _ _) (by first|(simp [Act.eval];done)|(simp [Act.eval];rfl)) ?_;rintro e' V3 ⟨rfl,hbv⟩;refine ⟨_,rfl,?_⟩;have hb3:Bl w1 V3:=(show Bl w1 _ from by repeat (with_reducible first|exact HR1.o|apply ZA|apply ZB)).trans (hbv.mono (by simp));have hsx:=HS1.o _ hb3))
 have HB3:=zh (HB1.o.trans (hb3.mono HB1.o.size));have HE:=zh (DoP.of (x:=x) (ex:=ex) (HH.o.below HB3.o) (HR.o.below HB3.o));clear hb3 hbv hsx z1 z2 z4;go_wp2_with fail;refine (HNI.o _).mono ?_;rintro e' w' ⟨rfl,rfl⟩;go_wp2;go_returns;exact ⟨rfl,HE.o⟩
theorem HW.newf {L:Nat}{lk:Bool}{p:Nat->Plc}{res held:Nat->Option Nat}(h:HW w A F L T c x H lk p ex res held){b:Nat}(hb:w.heap.size<=b):Frn F H b:=by
 obtain ⟨q,h1,_⟩:=h.aq.dev;have ne:∀ {k},k < w.heap.size->b≠k:=fun {k} hk e=>by omega
 refine ⟨?_,?_,⟨ne (heap_lt h.hp.hp),ne (heap_lt h.set.set)⟩,⟨ne h.aq.nib.lt,ne h.aq.tab.lt⟩⟩
 ·cases e:F b with
  |none=>rfl
  |some r=>exact absurd (h1.lt b (by rw [e];simp)) (by omega)
 ·rintro (e|e|e)
  ·exact ne h.set.row.lt e
  ·exact ne h.rm.lt e
  ·exact ne h.vm.lt e
theorem WC.own {w1:World}(h:WC w A F T c x H ex B c0 s){e:TypeId}{z n:Nat}{v:Value}{xs:List Value}(ho:w1.ownsRow w.heap.size e z v n xs):OwF w1 F H e z v n xs:=
 ⟨Zp ho (Nat.zero_le _),fun k hk=>⟨h.hw.newf (ho.lt k hk).1,ZLi h.x0 (ho.lt k hk).1⟩⟩
theorem ZKW {fv iv:Value}{i v y:Nat}(hi:i < 40):wwC B {s with lp:=upd s.lp i v} fv iv y=if y=4+i then .int .u64 v else wwC B s fv iv y:=by
 by_cases e:y=4+i
 ·rw [ZLX e];unfold wwC
  rw [ZLU (by omega),ZLU (by omega),ZLU (by omega),ZLU (by omega),ZLX (by omega)];show Value.int .u64 ((upd s.lp i v (y - 4):Nat):Int)=_;rw [show y - 4=i by omega];unfold upd;rw [ZLX rfl]
 ·rw [ZLU e];unfold wwC
  by_cases h:4<=y/\y < 44
  ·rw [ZLU (by omega),ZLU (by omega),ZLU (by omega),ZLU (by omega),ZLX (by omega),ZLU (by omega),ZLU (by omega),ZLU (by omega),ZLU (by omega),ZLX (by omega)]
   show Value.int .u64 ((upd s.lp i v (y - 4):Nat):Int)=_;unfold upd;rw [ZLU (by omega)]
  ·split;rfl;split;rfl;split;rfl;split;rfl
   have hh:¬ y < 44:=by omega
   rw [ZLU hh,ZLU hh]
theorem ZIO {fv iv u:Value}{y:Nat}:wwC B s fv u y=if y=45 then u else wwC B s fv iv y:=by
 by_cases e:y=45
 ·rw [ZLX e];subst e;rfl
 ·rw [ZLU e];unfold wwC
  split;rfl;split;rfl;split;rfl;split;rfl;split;rfl;split;rfl;rfl
theorem ZKV {fv iv u:Value}{y:Nat}:wwC B s u iv y=if y=44 then u else wwC B s fv iv y:=by
 by_cases e:y=44
 ·rw [ZLX e];subst e;rfl
 ·rw [ZLU e];unfold wwC
  split;rfl;split;rfl;split;rfl;split;rfl;split;rfl;rfl
theorem WR.link (h:WR w F H B s fv iv){i:Nat}(hi:i < 40)(v:Nat){s':LS}(hl:s'.lp=upd s.lp i v)(he:s'.now=s.now/\s'.ann=s.ann/\s'.fr=s.fr/\s'.its=s.its):WR (w.setCell ⟨B.wb,4+i,none⟩ (.int .u64 v)) F H B s' fv iv:=by
 obtain ⟨e1,e2,e3,e4⟩:=he;refine h.put _ _ rfl (fun y hy=>?_) (by rw [e3];exact h.fre) (by rw [e4];exact h.ite);rw [<-ZKW hi];unfold wwC;rw [hl,e1,e2]
theorem ZIg (h:WC w A F T c x H ex B c0 s)(hr:WR w F H B s fv iv)(hi:s.Inv n)(hn:n<=50)(hx:x<=900000){a b d:Int}(hk:ZX a 7=1)(h0:s.lp (ZX b 40)≠0):
 Calls prog 11 #[.pointer (some ⟨B.wb,0,none⟩),.agg #[.int .i64 a,.int .i64 b,.int .i64 d]] w fun e w'=>e=.returned (.bool true)/\DoP A T H B c0 x ex (s.retire (ZX b 40)) w':=by
 have HM1:=zh (fun (w1:World)=>show Calls _ _ _ w1 _ from (Zh (w:=w1) (a:=b) (n:=40) (by omega)));have HM2:=zh (fun (w1:World)=>show Calls _ _ _ w1 _ from (Zh (w:=w1) (a:=d) (n:=8) (by omega)));have HM3:=zh (fun (w1:World)=>show Calls _ _ _ w1 _ from (Zh (w:=w1) (a:=a) (n:=7) (by omega)));rw [hk] at HM3;have hi40:ZX b 40 < 40:=Z4 (by omega) rfl;obtain ⟨i,hie⟩:=xE (ZX b 40);obtain ⟨t,hte⟩:=xE (ZX d 8);rw [<-hie] at HM1 hi40 h0 ⊢;rw [<-hte] at HM2;obtain ⟨O,hO⟩:∃ O:Nat,O=ZP pA+8 * i:=⟨_,rfl⟩
 obtain ⟨p,hp⟩:=xE (s.lp i);have HLK:=zh (fun (wx:World) (hb:Bl w wx)=>Us (v:=0) (hr.below hb).three (by decide) (by decide) (show i < 60 by omega))
 have HRT:=zh (fun (wx:World) (hb:Bl w wx)=>ZGj (w:=wx.alloc (.cells #[.int .u64 (O:Nat),.int .u64 (0:Nat)] 138)) (h.below (ZA hb)) hi hn hi40 h0 hx (v:=.slice (some ⟨wx.heap.size,0,none⟩) 1 1)
  (.inr ⟨_,_,_,rfl,by
    rw [hO,show ZP pA=5104 from Jp.2.1,show 5104+8 * i=8 * (638+i) by omega];exact Yp _ _ _ _⟩))
 have HNI:=zh (fun (w1:World)=>show Calls prog 15 #[.int .u64 p] w1 (fun e w'=>e=.returned (.bool false)/\w1=w') from by
  have:=Zd (w:=w1) (p:=p);rw [show decide (p=0)=false by simp [hp,h0]] at this;exact this)
 have hlen:s.its.length<=100:=by
  have h1:=hi.ok.per.length_eq;have h2:=hi.en;have h3:(full s.en).length<=s.en.length:=ZL0 _ _;omega
 have HAD:=zh (fun (wx:World) (hq:Rit wx iv s.its)=>ZHy (w:=wx) hq hlen (xp:=p) (xe:=s.now));obtain ⟨ia,ic,hia⟩:=ZN hr.ite.1;subst hia;have HH:=zh h;have HR:=zh hr;have b40:(i:Int) < 40:=by omega
 have HI:=zh hi40;have HP:=zh hp;rw [<-hO] at HLK;rw [<-hp] at HRT;clear hk h hr h0 hie hte hi40 hO hp hlen hi;go_in;go_upto_region 1 with fail;obtain ⟨w0,hw0⟩:=xE (w.alloc (.cells #[.int .i64 a,.int .i64 b,.int .i64 d] 28));have hb0:Bl w w0:=by rw [hw0];exact ZA bR
 have hx0:w0.heap[w.heap.size]?=some (.cells #[.int .i64 a,.int .i64 b,.int .i64 d] 28 (0,0)):=by rw [hw0];exact ZC _ _
 rw [<-hw0];obtain ⟨a0,a1,a2,_⟩:=ZY hx0;clear hw0;have HR0:=zh (Below.refl w0.heap.size w0)
 go_region_held3 (fun wx=>wx.cell? ⟨w.heap.size,1,none⟩=some (.int .i64 b)/\wx.cell? ⟨w.heap.size,2,none⟩=some (.int .i64 d))
  (first|assumption|exact ⟨a1,a2⟩)
  (first
    |(refine ZF rfl func26 rfl rfl rfl (HM1.o _) (by first|(simp [Act.eval];done)|(simp [Act.eval];rfl)) ?_;rintro e' V2 ⟨rfl,rfl⟩;refine ⟨_,rfl,?_⟩)
    |(refine ZF rfl func26 rfl rfl rfl (HM2.o _) (by first|(simp [Act.eval];done)|(simp [Act.eval];rfl)) ?_;rintro e' V2 ⟨rfl,rfl⟩;refine ⟨_,rfl,?_⟩))
 have hb1:Bl w w0.drew:=ZB hb0;have hx1:w0.drew.heap[w.heap.size]?=_:=hx0;obtain ⟨w1,hw1⟩:=xE w0.drew;rw [<-hw1] at hb1 hx1 ⊢;clear hw1 a0 a1 a2 hx0 hb0;obtain ⟨a0,a1,a2,_⟩:=ZY hx1;go_wp2_with fail;refine (HM3.o _).mono ?_;rintro e w' ⟨rfl,rfl⟩;have HB1:=zh hb1;have hR1:=HR.o.below hb1;have z1:=hR1.one;have z2:=hR1.two;have z4:=hR1.lp (i:=i) (by omega);rw [<-HP.o] at z4;have HS1:=zh (fun (wx:World) (hb:Bl w1 wx)=>show wx.cell? ⟨B.wb,1,none⟩=some (.pointer (some ⟨B.db,0,none⟩))/\wx.cell? ⟨B.wb,2,none⟩=some (.pointer (some ⟨B.lib,0,none⟩)) from ⟨(hR1.below hb).one,(hR1.below hb).two⟩);have HR1:=zh (Below.refl w1.heap.size w1);clear hb1 hx1 a0 a1 a2 hR1;go_upto_region 20 with fail
 go_region_held3 (fun wx=>wx.cell? ⟨B.wb,1,none⟩=some (.pointer (some ⟨B.db,0,none⟩))/\wx.cell? ⟨B.wb,2,none⟩=some (.pointer (some ⟨B.lib,0,none⟩)))
  (first|exact hsx|exact HS1.o _ (by repeat (with_reducible first|assumption|exact HR1.o|apply ZA|apply ZB)))
  (first
    |(refine ZF rfl func21 rfl rfl rfl (HLK.o _ (ZB HB1.o)) (by first|(simp [Act.eval];done)|(simp [Act.eval];rfl)) ?_;rintro e' V2 ⟨rfl,rfl⟩;refine ⟨_,rfl,?_⟩)
    |(refine ZF rfl func20 rfl rfl rfl (HRT.o _ (ZB HB1.o)) (by first|(simp [Act.eval];done)|(simp [Act.eval];rfl)) ?_;rintro e' V3 ⟨rfl,F2,hW3,hm3⟩;refine ⟨_,rfl,?_⟩;have hR3:=(HR.o.below (ZA (ZB HB1.o))).moved hm3;have hsx:=And.intro hR3.one hR3.two))
 have HW3:=zh hW3;have HR3:=zh hR3;clear hW3 hm3 hR3 hsx z1 z2 z4;have z4:=HR3.o.cells (i:=4+i) (by have:=HI.o;omega);have f:=HR3.o.free;go_wp2_with fail;refine (HNI.o _).mono ?_;rintro e' w' ⟨rfl,rfl⟩;go_upto_region 26 with fail;have HW4:=zh (HW3.o.setw HR3.o.row HR3.o.fw (i:=4+i) (.int .u64 (0:Nat)));have HR4:=zh (HR3.o.link (s':={s with lp:=upd s.lp i 0}) HI.o 0 rfl ⟨rfl,rfl,rfl,rfl⟩);obtain ⟨w4,hw4⟩:=xE (V3.setCell ⟨B.wb,4+i,none⟩ (.int .u64 (0:Nat)));rw [<-hw4] at HW4 HR4;have hz:w4=V3.setCell ⟨B.wb,4+i,none⟩ (.int .u64 (0:Int)):=hw4;rw [<-hz];clear hz;clear hw4 z4 f;have HS0:=zh (show Bl w4 w4.drew from ZB bR);refine Zy 15 (fun wx=>Bl w4 wx) (by kernel_rfl) ?_;refine Zj (i:=0) (z:=15) (v:=.pointer (some ⟨B.wb,0,none⟩)) (by decide) rfl (by kernel_rfl) (by kernel_rfl) (by kernel_rfl) (by kernel_rfl) (by kernel_rfl) (fun _ _ _ h=>h) HS0.o (Or.inl ⟨by rfl,fun w' hc=>?_⟩) ?_
 ·go_simp
 (try simp only [Act.put,ZLT,ZLV,ZLW])
 refine Zj (i:=1) (z:=15) (v:=.pointer (some ⟨B.wb,0,none⟩)) (by decide) rfl (by kernel_rfl) (by kernel_rfl) (by kernel_rfl) (by kernel_rfl) (by kernel_rfl) (fun _ _ _ h=>h) HS0.o (Or.inl ⟨by rfl,fun w' hc=>?_⟩) ?_
 ·go_simp
 (try simp only [Act.put,ZLT,ZLV,ZLW])
 refine Zj (i:=2) (z:=15) (v:=.pointer (some ⟨B.wb,0,none⟩)) (by decide) rfl (by kernel_rfl) (by kernel_rfl) (by kernel_rfl) (by kernel_rfl) (by kernel_rfl) (fun _ _ _ h=>h) HS0.o (Or.inl ⟨by rfl,fun w' hc=>?_⟩) ?_
 ·go_simp
 (try simp only [Act.put,ZLT,ZLV,ZLW])
 refine Zj (i:=3) (z:=15) (v:=.pointer (some ⟨B.wb,45,none⟩)) (by decide) rfl (by kernel_rfl) (by kernel_rfl) (by kernel_rfl) (by kernel_rfl) (by kernel_rfl) (fun _ _ _ h=>h) HS0.o (Or.inl ⟨by rfl,fun w' hc=>?_⟩) ?_
 ·go_simp
 (try simp only [Act.put,ZLT,ZLV,ZLW])
 refine Zj (i:=4) (z:=15) (v:=.slice ia s.its.length ic) (by decide) rfl (by kernel_rfl) (by kernel_rfl) (by kernel_rfl) (by kernel_rfl) (by kernel_rfl) (fun _ _ _ h=>h) HS0.o (Or.inl ⟨by rfl,fun w' hc=>?_⟩) ?_
 ·have z:=(HR4.o.below hc).ivc;go_simp
 (try simp only [Act.put,ZLT,ZLV,ZLW])
 refine Zj (i:=5) (z:=15) (v:=.int .u64 p) (by decide) rfl (by kernel_rfl) (by kernel_rfl) (by kernel_rfl) (by kernel_rfl) (by kernel_rfl) (fun _ _ _ h=>h) HS0.o (Or.inl ⟨by rfl,fun w' hc=>?_⟩) ?_
 ·go_simp
 (try simp only [Act.put,ZLT,ZLV,ZLW])
 refine Zj (i:=6) (z:=15) (v:=.pointer (some ⟨B.wb,0,none⟩)) (by decide) rfl (by kernel_rfl) (by kernel_rfl) (by kernel_rfl) (by kernel_rfl) (by kernel_rfl) (fun _ _ _ h=>h) HS0.o (Or.inl ⟨by rfl,fun w' hc=>?_⟩) ?_
 ·go_simp
 (try simp only [Act.put,ZLT,ZLV,ZLW])
 refine Zj (i:=7) (z:=15) (v:=.pointer (some ⟨B.wb,0,none⟩)) (by decide) rfl (by kernel_rfl) (by kernel_rfl) (by kernel_rfl) (by kernel_rfl) (by kernel_rfl) (fun _ _ _ h=>h) HS0.o (Or.inl ⟨by rfl,fun w' hc=>?_⟩) ?_
 ·go_simp
 (try simp only [Act.put,ZLT,ZLV,ZLW])
 refine Zj (i:=8) (z:=15) (v:=.pointer (some ⟨B.wb,46,none⟩)) (by decide) rfl (by kernel_rfl) (by kernel_rfl) (by kernel_rfl) (by kernel_rfl) (by kernel_rfl) (fun _ _ _ h=>h) HS0.o (Or.inl ⟨by rfl,fun w' hc=>?_⟩) ?_
 ·go_simp
 (try simp only [Act.put,ZLT,ZLV,ZLW])
 refine Zj (i:=9) (z:=15) (v:=.pointer (some ⟨B.wb,46,none⟩)) (by decide) rfl (by kernel_rfl) (by kernel_rfl) (by kernel_rfl) (by kernel_rfl) (by kernel_rfl) (fun _ _ _ h=>h) HS0.o (Or.inl ⟨by rfl,fun w' hc=>?_⟩) ?_
 ·go_simp
 (try simp only [Act.put,ZLT,ZLV,ZLW])
 refine Zj (i:=10) (z:=15) (v:=.int .u64 s.now) (by decide) rfl (by kernel_rfl) (by kernel_rfl) (by kernel_rfl) (by kernel_rfl) (by kernel_rfl) (fun _ _ _ h=>h) HS0.o (Or.inl ⟨by rfl,fun w' hc=>?_⟩) ?_
 ·have z:=(HR4.o.below hc).nowc;go_simp
 (try simp only [Act.put,ZLT,ZLV,ZLW])
 refine Zj (i:=11) (z:=15) (v:=.agg #[.int .u64 p,.int .u64 s.now]) (by decide) rfl (by kernel_rfl) (by kernel_rfl) (by kernel_rfl) (by kernel_rfl) (by kernel_rfl) (fun _ _ _ h=>h) HS0.o (Or.inl ⟨by rfl,fun w' hc=>?_⟩) ?_
 ·go_simp
 (try simp only [Act.put,ZLT,ZLV,ZLW])
 refine YA (j:=12) (z:=15) (by kernel_rfl) rfl (fun K hK=>?_);refine Yw rfl (HAD.o _ (RitW.rit (HR4.o.below HS0.o).ite.1)) (by kernel_rfl) ?_;rintro e6 w6 ⟨sv,rfl,hro,hb6⟩;obtain ⟨sa,sc,hsv⟩:=ZN hro;subst hsv;have hbx:Bl w4 w6:=HS0.o.trans (hb6.mono HS0.o.size);refine ⟨_,rfl,hK _ _ hbx ?_⟩;clear hK K
 (try simp only [Act.put,ZLT,ZLV,ZLW])
 refine YA (j:=13) (z:=15) (by kernel_rfl) rfl (fun K hK=>?_);go_simp;refine hK _ _ hbx ?_;clear hK K
 (try simp only [Act.put,ZLT,ZLV,ZLW])
 refine YA (j:=14) (z:=15) (by kernel_rfl) rfl (fun K hK=>?_);go_simp;refine hK _ _ hbx ?_;clear hK K
 (try simp only [Act.put,ZLT,ZLV,ZLW])
 have HR6:=zh (HR4.o.below hbx);have HW6:=zh (HW4.o.below hbx);have HO6:=zh (HW4.o.own (Zp hro (by have:=HS0.o.size;omega)));have z:=HR6.o.ivc;have f:=HR6.o.free;clear hbx hb6 hro;refine Vm (z:=15) (by kernel_rfl) rfl (by kernel_rfl) (by kernel_rfl) (fun K hK=>?_);go_simp;refine hK _ _ ?_;clear hK K z f
 have HE:=zh (show DoP A T H B c0 x ex (s.retire i) (w6.setCell ⟨B.wb,45,none⟩ (.slice sa (YK (p,s.now) s.its).length sc)) from
  ⟨F2,_,x+100,ex,fv,_,by omega,by omega,HW6.o.setw HR6.o.row HR6.o.fw _,HR6.o.put 45 _ rfl (fun y hy=>ZIO) HR6.o.fre (by
    show OwF w6 F2 H _ 2 _ (YK (s.lp i,s.now) s.its).length (rcl (YK (s.lp i,s.now) s.its));rw [<-HP.o];exact HO6.o)⟩)
 go_wp2;go_returns;exact ⟨rfl,HE.o⟩
theorem ZF3 {l:List (Nat×Nat)}(h:(l.map (·.1 / 8)).Nodup):(l.map (·.1)).Nodup:=
 List.pairwise_map.2 ((List.pairwise_map.1 h).imp fun hne e=>hne (by rw [e]))
theorem ZE9 {k:Chk}(hk:k.Head)(hc:k.cl=0){tk:List (Nat×Nat)}{dr:List Nat}(h:k.Can tk dr)(hg:∀ j,1<=(k.blk j).gen/\(k.blk j).gen < 65536)(hT:∀ i,i < 4294967296->Zc T i < 18446744073709551616):
 ∀ p∈ZR T 103 k tk dr,p.1 % 8=0/\p.1 < 64 * 160/\6592<=p.1/\p.2 < 18446744073709551616:=by
 intro p hp;refine ⟨Ug p hp,?_,by have:=ZAT p hp;omega,?_⟩
 ·unfold ZR YR Ye ZAB hdW at hp
  simp only [ZLZ,ZLb,ZLt] at hp;rcases hp with (⟨q,hq,rfl⟩|⟨q,hq,rfl⟩)|rfl
  ·have:=YI hk (h.lt q.1 (ZLZ.2 (.inl (ZLb.2 ⟨q,hq,rfl⟩))))
   simp only;omega
  ·have:=YI hk (h.lt q (ZLZ.2 (.inr hq)))
   simp only;omega
  ·simp
 ·unfold ZR YR Ye ZAB hdW at hp
  simp only [ZLZ,ZLb,ZLt] at hp;rcases hp with (⟨q,hq,rfl⟩|⟨q,hq,rfl⟩)|rfl
  ·have hkd:=h.kind q hq
   exact hT _ (Blk.Good.info_lt ⟨hg q.1,.inr (.inl ⟨rfl,hkd.1,hkd.2⟩)⟩)
  ·have:=hg q
   refine hT _ (Blk.Good.info_lt ?_);unfold Blk.freed;split
   ·rename_i e;exact ⟨⟨by simp,by simp⟩,.inr (.inr ⟨rfl,rfl,rfl⟩)⟩
   ·rename_i e;exact ⟨⟨by simp only;omega,by simp only;omega⟩,.inl ⟨rfl,rfl⟩⟩
  ·have hb:=Ym (k.after tk dr).used (perN (k.after tk dr))
   have hp:perN (k.after tk dr)=62:=Xd ((k.same_after tk dr).cl.trans hc);rw [hp] at hb ⊢;exact Nat.lt_trans hb (by decide)
theorem ZB3 {k:Chk} (hk:k.Head) (hc:k.cl=0) {tk:List (Nat×Nat)} {dr:List Nat} (h:k.Can tk dr) (hg:∀ j,1<=(k.blk j).gen/\(k.blk j).gen < 65536) (hT:∀ i,i < 4294967296->Zc T i < 18446744073709551616)
 {lw:List (Nat×Nat)} (hn:(lw.map (·.1)).Nodup) (hl:∀ p∈lw,p.1 % 8=0/\2304<=p.1/\p.1 < 6592/\p.2 < 18446744073709551616):UP 160 640 1664 (lw++ZR T 103 k tk dr):=by
 have ha:=ZE9 hk hc h hg hT;refine ⟨?_,fun p hp=>?_⟩
 ·rw [ZLs,ZL3]
  refine ⟨hn,ZF3 (Uh hk h),fun a ha1 b hb1 e=>?_⟩;obtain ⟨p,hp,rfl⟩:=ZLb.1 ha1;obtain ⟨q,hq,rfl⟩:=ZLb.1 hb1;have:=(hl p hp).2.2.1;have:=(ha q hq).2.2.1;omega
 ·rcases ZLZ.1 hp with hp|hp
  ·obtain ⟨h1,h2,h3,h4⟩:=hl p hp
   exact ⟨h1,by omega,by omega,h4⟩
  ·obtain ⟨h1,h2,h3,h4⟩:=ha p hp
   exact ⟨h1,h2,by omega,h4⟩
theorem ZHr {k k':Chk}(h:k.Same k'):plc k'=plc k:=by
 funext j;unfold plc;rw [h.cl,h.ow]
theorem LS.ixs_le (s:LS):s.ixs.length<=s.en.length:=by
 have:=ZL0 (fun i=>(s.en.getD i (0,0)).1 != 0 && s.sf (s.en.getD i (0,0))) (List.range s.en.length);simpa [LS.ixs] using this
theorem LS.drs_len (s:LS):s.drs.length=s.ixs.length:=by unfold LS.drs;rw [LS.frees_ixs];simp
theorem ZCg (s:LS)(hn:s.en.length<=29):((YH s).map (·.1)).Nodup/\∀ p∈YH s,p.1 % 8=0/\2304<=p.1/\p.1 < 6592/\p.2 < 18446744073709551616:=by
 have hix:∀ i∈s.ixs,i < s.en.length:=fun i hi=>ZLz.1 (ZLv.1 hi).1
 have hnd:s.ixs.Nodup:=List.nodup_range.filter _;have hn1:((s.ixs.map (fun i=>(8 * (579+2 * i),0))).map (·.1)).Nodup:=by
  rw [List.map_map];exact List.Pairwise.map _ (fun a b hab e=>hab (by simp only [Function.comp_apply] at e;omega)) hnd
 constructor
 ·unfold YH
  split
  ·rw [ZLs,ZL3]
   refine ⟨hn1,by simp,fun a ha b hb e=>?_⟩;rw [List.map_map] at ha;obtain ⟨i,_,rfl⟩:=ZLb.1 ha;simp at hb;simp only [Function.comp_apply] at e;omega
  ·rw [List.append_nil];exact hn1
 ·intro p hp
  unfold YH at hp;rcases ZLZ.1 hp with hp|hp
  ·obtain ⟨i,hi,rfl⟩:=ZLb.1 hp
   have:=hix i hi;exact ⟨by simp only;omega,by simp only;omega,by simp only;omega,by simp only;omega⟩
  ·split at hp
   ·simp at hp;subst hp;exact ⟨by simp,by simp,by simp,by simp⟩
   ·cases hp
theorem ZAs (s:LS):s.ixs.length<=(YH s).length/\(YH s).length<=s.ixs.length+1:=by
 unfold YH;split <;> simp
theorem ZEa (h:WC w A F T c x H ex B c0 s)(hi:s.Inv n)(hn:n<=50)(hx:x<=900000):
 Calls prog 24 #[.pointer (some ⟨B.lib,0,none⟩),.iface 37 (.pointer (some ⟨B.db,0,none⟩))] w fun e w'=>e=.returned (.tuple #[.int .i64 (s.frees.length:Nat),.int .i64 0])/\(s.frees=[]/\Bl w w'\/s.frees≠[]/\∃ F' c',WC w' A F' T c' (x+400) H ex B c0 s.collect/\HMv F F' H w w'):=by
 have hps:(s.ixs.map fun i=>(i,s.en.getD i (0,0))).map (·.2.1)=s.frees.map (·.1):=by rw [LS.frees_ixs,List.map_map,List.map_map];rfl
 have hlen:(s.ixs.map fun i=>(i,s.en.getD i (0,0))).length=s.frees.length:=by rw [LS.frees_ixs];simp
 have hen:=hi.en;have hil:=s.ixs_le;have hdl:=s.drs_len;have hfl:s.frees.length=s.ixs.length:=by rw [LS.frees_ixs];simp
 have hK:=h.rep.head
 have key:=ZBd h.ar h.dr h.li h.ck (h.rep.ndc hi (by omega)) (fun w1 hb=>YG (h.below hb)) (FL:=s.ixs.map fun i=>(i,s.en.getD i (0,0))) h.rep.itm_fl.symm (Q:=fun w'=>∃ F' c',WC w' A F' T c' (x+400) H ex B c0 s.collect/\HMv F F' H w w') (by
  intro hne wx hb v tb tc hv hs;rw [s.colW_eq h.rep.all_iff] at hv;rw [hlen,show s.frees.length=(s.frees.map (·.1)).length by simp];have h0:s.frees≠[]:=fun e=>hne (ZLr (by rw [hlen,e];rfl))
  have hpos:1<=s.frees.length:=by
   rcases Nat.eq_zero_or_pos s.frees.length with q|q
   ·exact absurd (ZLr q) h0
   ·exact q
  have hc:=(hi.cl0 (hi.ok.na_en (LS.frees_en h0))).1;have hcan:=hi.ok.drs_can hc;have hB:=h.below hb;have hR:=hB.chk (m:=1) (by omega);rw [XF] at hR;have hal:(YH s++ZR T 103 s.k [] s.drs).length<=60:=by
   have:=(ZAs s).2;rw [ZLc,XC,hdl,List.length_nil];omega
  have hcm:=ZB3 (T:=T) hK hc hcan (hi.gens (by omega)) h.hw.sealed_lt (ZCg s (by omega)).1 (ZCg s (by omega)).2;have hnd:(s.frees.map (·.1)).Nodup:=by
   have hnd:=hi.ok.nd;rw [LS.live_eq] at hnd;have h2:=(ZL3.1 hnd).2.1;exact List.Nodup.sublist (List.Sublist.map _ List.filter_sublist) h2
  have hhn:=h.hn;have hat:∀ i (h1:i < (s.frees.map (·.1)).length) (h2:i < s.drs.length),s.drs[i] < perN s.k/\ZP (s.frees.map (·.1))[i]=s.k.pay 103 s.drs[i]/\(s.frees.map (·.1))[i]≠0/\(s.frees.map (·.1))[i] < 72057594037927936/\(s.k.block 103 (s.frees.map (·.1))[i]).2=0:=by
   intro i h1 h2;have hm:s.frees[i]'(by simpa using h1)∈s.frees:=ZLl _;have hlv:=LS.mem_en (ZLv.1 hm).1;obtain ⟨j,hL⟩:=hi.ok.liv _ hlv;obtain ⟨_,h3,_,h5⟩:=hi.live_chk (by omega) hK hlv;obtain ⟨_,h6,_,_⟩:=hL.chk hK hc (hi.gens (by omega));have e1:(s.frees.map (·.1))[i]=(s.frees[i]'(by simpa using h1)).1:=by simp
   have e2:s.drs[i]=j:=by
    have:s.drs[i]=jOf (s.frees[i]'(by simpa using h1)).1:=by simp [LS.drs]
    rw [this,hL.jOf hc]
   rw [e1,e2];exact ⟨by rw [Xd hc];exact hL.1,by rw [h6,ZE0 hc],h3.ok.ne,h3.ok.lt,h5⟩
  have k1:(s.frees.map (·.1)).length=s.drs.length:=by simp [LS.drs]
  have k2:64+16 * (YH s++ZR T 103 s.k [] s.drs).length<=1664:=by omega
  have k3:x+6 * (YH s++ZR T 103 s.k [] s.drs).length+8<=x+400:=by omega
  have k4:(YH s++ZR T 103 s.k [] s.drs).length<=96:=by omega
  have k5:1<=(YH s).length:=by have:=(ZAs s).1;omega
  have e103:H.l0+32 * 1=103:=by rw [h.l0.1]
  rw [hps] at hs;have key2:=ZFZ (x':=x+400) hB.hw hB.dr (by omega) (by omega) h.rep.log (m:=1) (by omega) (by omega) hR (by omega) (ps:=s.frees.map (·.1)) (bs:=s.drs) k1 (by omega) (by omega) (by rw [e103];exact hat) hnd hcan (tc:=tc) hs hv k5 (by rw [e103];exact k4) (by rw [e103];exact k2) (by rw [e103];exact hcm) (by rw [e103];exact k3) (by omega);rw [e103] at key2;refine key2.mono ?_
  ·rintro e w' ⟨rfl,F',h2,h3⟩
   refine ⟨rfl,⟨F',_,hB.moved (s':=s.collect) (by rw [show plc s.collect.k=plc s.k from ZHr (s.k.same_after [] s.drs)];exact h2) h3 (h.rep.collect hi.ok hc) ⟨rfl,rfl⟩,(HMv.of_below hb).trans h3⟩,fun k o hk ho=>?_⟩;exact (h3.frn (h.hw.newf hk) (heap_lt ho)).1.trans ho)
 refine key.mono ?_;rintro e w' ⟨rfl,hq⟩;rw [hlen];refine ⟨rfl,hq.imp (fun q=>⟨ZLr (by rw [<-hlen,q.1];rfl),q.2⟩) (fun q=>⟨fun e=>q.1 (ZLr (by rw [hlen,e];rfl)),q.2⟩)⟩
theorem WC.hok (h:WC w A F T c x H ex B c0 s):HOK T c 160 H (plc s.k) (chs s.k) where
 rep:=by rw [h.l0.1,h.hn];exact h.rep.rep
 line j hj:=by
  rw [h.hn] at hj;rw [h.l0.1];rcases (show j=0\/j=1 by omega) with rfl|rfl <;> rfl
 cl j hj:=by
  rw [h.hn] at hj;rcases (show j=0\/j=1 by omega) with rfl|rfl <;> exact ⟨rfl,rfl⟩
 fit:=by rw [h.l0.1,h.hn];omega
theorem ZJA {k:Chk}(h:k.cl=0/\k.ow=0):Zx (plc k) ((0:Nat):Int) ((0:Nat):Int) 2=[1]:=by
 rw [ZDA (m:=1) (by unfold plc;exact ⟨h.2,h.1⟩),ZBu (m:=0) (by rintro ⟨_,q⟩;cases q)];rfl
theorem ZHs:Zx (plc kF) ((0:Nat):Int) ((0:Nat):Int) 2=[]:=by decide
theorem ZKy (k:Chk):∀ m,m < 1->0<=(plc k m).cl:=by
 intro m hm;obtain rfl:m=0:=by omega
 show (0:Int)<=4;omega
theorem ZKz (k:Chk):∀ m,m < 1->(plc k m).line≠(plc k 1).line:=by
 intro m hm;obtain rfl:m=0:=by omega
 show (71+32 * 0:Nat)≠103;omega
theorem ZJe (hi:s.Inv n)(hn:n<=60)(hk:s.clm.k.Head):s.clm.fj < 62/\InC s.np/\ZP s.np=(833+4 * s.clm.fj) * 8/\Z9 s.np=65:=by
 obtain ⟨h1,h2,h3⟩:=hi.clm;obtain ⟨f1,f2,f3,f4⟩:=h1.fj hn h2;obtain ⟨m1,m2,m3,m4,m5⟩:=ZHZ (P:=s.np) hk h2 f1 (h1.gens hn s.clm.fj) rfl;exact ⟨f1,m1,m2,m4⟩
def ZGp (A:DAd)(F:Nat->Option ZM)(T:Nat->Nat)(x:Nat)(H:HAd)(ex:Nat)(c0:Nat->Nat)(s:LS)(w w':World):Prop:=
 ∃ F' c' x',x'<=x+400/\HW w' A F' 160 T c' x' H false (Xo (plc s.clm.k) 1 ⟨103,0,0,true⟩) (ex+1) (YN (fun _=>none) (ZP s.np) s.np) (YN (fun _=>none) 103 1)/\HMv F F' H w w'/\s.clm.Rep T c' c0
theorem ZIQ (h:WC w A F T c x H ex B c0 s)(hi:s.Inv n)(hn:n<=50)(hx:x<=900000):∃ c1 x1,x1<=x+200/\s.clm.Rep T c1 c0/\ZEf w A F 160 T c x H false (plc s.k) ex (fun _=>none) (fun _=>none) 0 0 65 c1 x1 (plc s.clm.k) s.np 103:=by
 obtain ⟨hc,h1,h2⟩:=hi.clm;obtain ⟨f1,f2,f3,f4⟩:=hc.fj (by omega) h1;have hhn:=h.hn;rcases hi.ok.cl with ⟨e1,e2⟩|⟨e1,e2⟩
 ·have hk:=hi.k1 e1
  have hrep:s.clm.Rep T (wrs c (YP T 103 (Chk.made 0 0 1))) c0:=by rw [LS.clm_yes e1];exact h.rep.claim (by omega)
  have hR:=hrep.rep 1 (by omega);rw [XF] at hR;have hmk:s.clm.k=Chk.made 0 0 1:=by rw [LS.clm_yes e1]
  refine ⟨_,x+200,by omega,hrep,.inr ⟨fun w1 hb=>?_,fun w1 hb=>?_,fun F1 w1 hw1=>?_⟩⟩
  ·refine Up (th:=0) (cl:=0) (h.hw.below hb) h.hok (fun i hi2 _=>?_) 65
   rw [hhn,hk,ZHs] at hi2;cases hi2
  ·have hR0:=h.chk (m:=1) (by omega)
   rw [XF,hk,h.l0.1] at hR0;have:=Qe (h.hw.below hb) (j:=1) (by omega) (ZKy s.k) (by rw [hk];show (-1:Int) < 0;omega) (k:=kF) (by show 103+32<=160;omega) hR0 (cl:=0) (th:=0) (by omega) (by omega) (by omega);refine this.mono ?_;rintro e w' ⟨he,hp⟩;have ep:Xo (plc s.k) 1 ⟨(plc s.k 1).line,(0:Nat),(0:Nat),(plc s.k 1).held⟩=plc s.clm.k:=by
    rw [hmk];funext j;unfold Xo plc
    by_cases e:j=1
    ·subst e;rfl
    ·simp [e]
   rw [ep] at hp;exact ⟨he,hp⟩
  ·have:=Vk hw1.ar hw1.hp hw1.rm (line:=103) (k:=s.clm.k) (by omega) hR (by omega) (j:=s.clm.fj) (by rw [Xd h1];exact f1) f2 f3 (kind:=65) (by omega) rfl
   exact this
 ·have hk:s.clm=s:=LS.clm_no e1
  rw [hk] at f1 f2 f3;refine ⟨c,x,by omega,by rw [hk];exact h.rep,.inl ⟨rfl,rfl,by rw [hk],fun w1 hb=>?_⟩⟩;have hsel:Zx (plc s.k) ((0:Nat):Int) ((0:Nat):Int) H.n=[1]:=by rw [hhn];exact ZJA ⟨e1,e2⟩
  have hl0:=h.l0.1;have key:=ZCT (th:=0) (cl:=0) (h.hw.below hb) h.hok (m:=0) (by rw [hsel];exact Nat.zero_lt_one) (fun i _ hi2=>by omega) (b:=s.fj) (by simp only [hsel,ZLY,XF];rw [Xd e1];exact f1) (by simp only [hsel,ZLY,XF];exact f2) (by simp only [hsel,ZLY,XF];exact f3) (kind:=65) (by omega) rfl;simp only [hsel,ZLY,XF,hl0] at key;have enp:s.np=s.k.ptr (71+32 * 1) s.fj 65:=by unfold LS.np;rw [hk]
  rw [enp];exact key
theorem ZEc (h:WC w A F T c x H ex B c0 s)(hi:s.Inv n)(hn:n<=50)(hx:x<=900000)(hex:ex<=900000):
 Calls prog 88 #[.pointer (some ⟨H.hb,0,none⟩),.int .i64 (0:Nat),.int .i64 (3:Nat),.int .u8 (65:Nat)] w fun e w'=>e=.returned (.tuple #[.int .u64 s.np,.int .i64 0])/\ZGp A F T x H ex c0 s w w':=by
 obtain ⟨c1,x1,hx1,hrep,hf⟩:=ZIQ h hi hn hx;obtain ⟨hc,h1,h2⟩:=hi.clm;have hK:=hrep.head;obtain ⟨f1,hin,hof,hkd⟩:=ZJe hi (by omega) hK;have hhn:=h.hn;have key:=VF h.hw (th:=0) (cl:=0) (kind:=65) (n:=3) (words:=3) (by omega) (by omega) (by omega) (by decide) (by omega) (by decide) hf hin.ok.lt hin.ok.ne (by omega) (by omega) (j:=1) (by omega) (ZKz s.clm.k) (by show 0<=s.clm.k.cl;omega) rfl (by omega) (by simp) (by omega);refine key.mono ?_;rintro e w' ⟨he,F',hw,hm⟩;refine ⟨he,F',_,x1+200,by omega,?_,hm,hrep.zero h1 f1 hof⟩;have ep:(⟨(plc s.clm.k 1).line,(plc s.clm.k 1).cl,(plc s.clm.k 1).ow,true⟩:Plc)=⟨103,0,0,true⟩:=by
  show (⟨103,s.clm.k.cl,s.clm.k.ow,true⟩:Plc)=_;rw [h1,h2]
 rw [ep] at hw;exact hw
theorem ZIP (h:WC w A F T c x H ex B c0 s)(hi:s.Inv n)(hn:n<=50)(hx:x<=900000)(hex:ex<=900000):
 Calls prog 36 #[.pointer (some ⟨B.db,0,none⟩),.int .i64 (3:Nat),.int .u8 (65:Nat)] w fun e w'=>e=.returned (.tuple #[.int .u64 s.np,.int .i64 0])/\ZGp A F T x H ex c0 s w w':=
 UQ h.hw h.dr (by omega) (by omega) (fun w1 ⟨F',_,_,_,_,h2,_⟩=>⟨F',h2⟩) (fun w1 hb=>(ZEc (h.below hb) hi hn hx hex).mono fun e w' ⟨h1,F',c',x',h2,h3,h4,h5⟩=>⟨h1,F',c',x',h2,h3,(HMv.of_below hb).trans h4,h5⟩)
end
end Go.Proofs.YtbpeehmepehkdaaGreatDoor.Dv
