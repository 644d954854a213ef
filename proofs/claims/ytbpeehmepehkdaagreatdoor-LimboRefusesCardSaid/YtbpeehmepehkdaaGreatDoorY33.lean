/- Part 33. -/
import Derived.Test.YtbpeehmepehkdaaGreatDoorY32
import Derived.Test.YtbpeehmepehkdaaGreatDoorY28
set_option maxHeartbeats 8000000
set_option maxRecDepth 20000
set_option linter.all false
namespace Go.Proofs.YtbpeehmepehkdaaGreatDoor.Dv
open Tryz
section
open Go.RowKit Go.Proofs.YtbpeehmepehkdaaGreatDoor.Size
variable {w w':World}{A:DAd}{F F':Nat->Option ZM}{T c c':Nat->Nat}{x x' L:Nat}
theorem ZGc (ha:Ar w A F 160 T c):Calls prog 247 #[.iface 116 (.pointer (some ⟨A.t 0,0,none⟩)),.int .i64 36,.int .i64 26] w fun e w'=>e=.returned (.tuple #[.pointer (some ⟨w.heap.size,0,none⟩),.int .i64 0])/\w'=w.alloc (.cells #[.iface 116 (.pointer (some ⟨A.t 0,0,none⟩)),.int .u64 2304,.int .i64 26] 384):=by
 have HS:=zh (Xp ha (i:=0) (by omega) w bR);rw [show ((160 * 64:Nat):Int)=10240 by rfl] at HS;clear ha;go_in;go_wp2_with fail;refine HS.o.mono ?_;rintro e w' ⟨rfl,rfl⟩;go_wp2;go_returns;exact ⟨rfl,rfl⟩
def Ul (w:World)(b:Nat)(A:DAd):Prop:=w.heap[b]?=some (.cells #[.iface 116 (.pointer (some ⟨A.t 0,0,none⟩)),.int .u64 2304,.int .i64 26] 384 (0,0))
theorem Ul.below {b:Nat}(h:Ul w b A)(hb:Bl w w'):Ul w' b A:=(hb.block _ (heap_lt h)).trans h
theorem Jh {b:Nat}(hg:Ul w b A):Calls prog 303 #[.pointer (some ⟨b,0,none⟩)] w fun e w'=>e=.returned (.bool false)/\w=w':=by
 obtain ⟨c0,c1,c2,_⟩:=ZY hg;clear hg;go_in;go_wp2;go_returns;exact ⟨rfl,rfl⟩
theorem ZII {b:Nat}(hg:Ul w b A):Calls prog 318 #[.pointer (some ⟨b,0,none⟩)] w fun e w'=>e=.returned (.int .i64 100)/\w=w':=by
 have HN:=zh (Jh hg);obtain ⟨c0,c1,c2,_⟩:=ZY hg;clear hg;go_in;go_wp2_with (first|(go_at_call 303;refine HN.o.mono ?_;rintro e w' ⟨rfl,rfl⟩));go_returns;exact ⟨rfl,rfl⟩
theorem ZGe (h:Ar w A F 160 T c)(hz:c 288=0){b:Nat}(hg:Ul w b A):
 Calls prog 304 #[.pointer (some ⟨b,0,none⟩)] w fun e w'=>e=.returned (.slice none 0 0)/\Bl w w':=by
 have HL:=zh (fun (w1:World) (hb:Bl w w1)=>show Calls prog 52 #[.pointer (some ⟨A.t 0,0,none⟩),.int .u64 2304] w1 (fun r w'=>r=.returned (.int .u64 0)/\w1=w') from by
  have:=Y4 h (i:=0) (by omega) w1 hb 2304 (by omega) (by omega);rw [show 2304 / 8=288 by rfl,hz] at this;exact this)
 have HN:=zh (Jh hg);have HC:=zh (fun (w1:World) (hb:Bl w w1)=>ZII (hg.below hb));have HB:=zh (Below.refl w.heap.size w);have HD:=zh (fun (wx:World) (hb:Bl w wx)=>(ZY (hg.below hb)).2.1);obtain ⟨c0,c1,c2,_⟩:=ZY hg;have hnl:=Y5;clear h hz hg;go_in;go_wp2_with fail;refine HN.o.mono ?_;rintro e w' ⟨rfl,rfl⟩;go_upto_region 4 with fail
 go_region_held3 (fun wx=>wx.cell? ⟨b,1,none⟩=some (.int .u64 2304))
  (first|exact HD.o _ (by repeat (with_reducible first|assumption|exact HB.o|apply ZA|apply ZB)))
  (first
    |(rw [Y5];exact ⟨rfl,rfl⟩)
    |(go_invoke;go_simp;go_at_call 52;refine (HL.o _ (by repeat (with_reducible first|exact HB.o|apply ZB))).mono ?_;rintro e' V1 ⟨rfl,rfl⟩))
 have HB1:=zh (ZB HB.o);go_wp2_with fail;refine (HC.o _ HB1.o).mono ?_;rintro e w' ⟨rfl,rfl⟩;go_wp2_with fail
 go_loopw [5,30] (fun v i wr=>v=.slice none 0 0/\i=.int .i64 0/\Bl w wr) (fun _ i _=>0)
 case atStart=>exact ⟨rfl,rfl,HB1.o⟩
 case round=>
 obtain ⟨rfl,rfl,hb⟩:=hrel;have HB2:=zh hb;clear hb;go_wp2;go_returns;exact ⟨rfl,HB2.o⟩
theorem ZDL (h:Ar w A F 160 T c)(hz:c 288=0){b:Nat}(hg:Ul w b A):
 Calls prog 280 #[.pointer (some ⟨b,0,none⟩)] w fun e w'=>e=.returned (.tuple #[.slice none 0 0,.int .i64 0])/\Bl w w':=by
 have HE:=zh (fun (w1:World) (hb:Bl w w1)=>Zs h (i:=0) (by omega) w1 hb);have HS:=zh (ZGe h hz hg);have HN:=zh (Jh hg);have HD:=zh (fun (wx:World) (hb:Bl w wx)=>(ZY (hg.below hb)).1);have HB:=zh (Below.refl w.heap.size w);have c0:=HD.o w HB.o;have hne:=YT;clear h hz hg;go_in;go_wp2_with fail;refine HN.o.mono ?_;rintro e w' ⟨rfl,rfl⟩;go_wp2_with fail;refine (HE.o w HB.o).mono ?_;rintro e w' ⟨rfl,rfl⟩;go_wp2_with fail;refine HS.o.mono ?_;rintro e w1 ⟨rfl,hb1⟩;have HB1:=zh hb1;clear hb1 c0;have c0:=HD.o w1 HB1.o;go_wp2_with fail;refine (HE.o w1 HB1.o).mono ?_;rintro e w' ⟨rfl,rfl⟩;go_wp2;go_returns;exact ⟨rfl,HB1.o⟩
theorem ZIJ (h:Ar w A F 160 T c)(hz:c 288=0){b:Nat}(hg:Ul w b A):
 Calls prog 248 #[.pointer (some ⟨b,0,none⟩)] w fun e w'=>e=.returned (.tuple #[.slice none 0 0,.bool true,.int .i64 0])/\Bl w w':=by
 have HS:=zh (ZDL h hz hg);clear h hz hg;go_in;go_wp2_with fail;refine HS.o.mono ?_;rintro e w1 ⟨rfl,hb1⟩;have HB1:=zh hb1;clear hb1;go_wp2_with fail
 go_loopw [7,20] (fun v i wr=>v=.slice none 0 0/\i=.int .i64 0/\Bl w wr) (fun _ i _=>0)
 case atStart=>exact ⟨rfl,rfl,HB1.o⟩
 case round=>
 obtain ⟨rfl,rfl,hb⟩:=hrel;have HB2:=zh hb;clear hb;go_wp2;go_returns;exact ⟨rfl,HB2.o⟩
theorem ZDN (h:Ar w A F 160 T c)(hz:c 288=0){b:Nat}(hg:Ul w b A):
 Calls prog 208 #[.pointer (some ⟨b,0,none⟩)] w fun e w'=>e=.returned (.tuple #[.int .i64 0,.int .i64 0])/\Bl w w':=by
 have HS:=zh (ZIJ h hz hg);clear h hz hg;go_in;go_wp2_with fail;refine HS.o.mono ?_;rintro e w1 ⟨rfl,hb1⟩;have HB1:=zh hb1;clear hb1;go_wp2;go_returns;exact ⟨rfl,HB1.o⟩
def ZFJ:Value:=.agg #[.int .i64 160,.int .i64 26,.int .i64 26,.int .i64 8,.int .i64 0,.int .i64 0]
theorem default_yes:Calls prog 33 #[.int .i64 160] w fun e w'=>e=.returned ZFJ/\Bl w w':=by
 unfold ZFJ;go_in;go_wp2;go_returns;exact ⟨rfl,ZA bR⟩
theorem ZDp:Calls prog 74 #[ZFJ] w fun e w'=>e=.returned supz.val/\Bl w w':=by
 unfold ZFJ supz Sup.val;go_in;go_wp2;go_returns;exact ⟨rfl,ZA (ZA bR)⟩
theorem ZHE:Calls prog 229 #[.int .u64 7309464666214760449] w fun e w'=>e=.returned (.tuple #[.int .u64 1,.bool true])/\w=w':=by
 go_in;go_wp2;go_returns;exact ⟨rfl,rfl⟩
theorem ZCK (h:Ar w A F L T c)(w1:World)(hb:Bl w w1):Calls prog 76 #[.pointer (some ⟨A.d,0,none⟩)] w1 fun r w'=>r=.returned (.int .i64 L)/\w1=w':=by
 obtain ⟨s,h1,h2,rfl⟩:=(h.below hb).dev;exact ZAq h1
def an0:Nat->Nat:=fun _=>0
theorem ZKk (h:Aq w A F 160 T c x){kb:Nat}(hk:CkB w A kb 0 an0)(hf:F kb=none)(hx:x+10<=1000000):
 Calls prog 103 #[.pointer (some ⟨kb,0,none⟩),.pointer (some ⟨A.t 0,0,none⟩),.int .u64 2] w fun e w'=>e=.returned (.int .i64 0)/\∃ F' wm,Aq wm A F' 160 T (wrs c [(4480,7309464666214760450)]) (x+10)/\Moved F F' w wm/\CkB wm A kb 0 an0/\w'=wm.setCell ⟨kb,2,none⟩ (.int .u64 2):=by
 have HPK:=zh (fun (w1:World)=>ZEk (w:=w1) (n:=2) (by omega));have HST:=zh (Yl (Below.refl w.heap.size w) (M:=4480) (S:=7309464666214760450) (by omega))
 have HRUN:=zh (fun (w1:World) (hb:Bl w w1) (v:Value) (hv:Prg w1 w.heap.size v (Zk [(4480,7309464666214760450)]))=>
  (VO h (ls:=[[(4480,7309464666214760450)]]) (x':=x+10) (by decide) (by decide) (Nat.add_le_add_left (show Zw [[(4480,7309464666214760450)]]<=10 by decide) x) hx w1 hb (by rw [Z2];exact hv) nR).mono
    (R':=fun e w'=>e=.returned (.int .i64 0)/\∃ F',Aq w' A F' 160 T (wrs c [(4480,7309464666214760450)]) (x+10)/\Moved F F' w w'/\CkB w' A kb 0 an0) (by
      rintro e w' ⟨h1,F',h2,h3⟩;exact ⟨h1,F',h2,h3,YL h3 hf hk⟩))
 have HKP:=zh (fun (w1:World) (hb:Bl w w1)=>(show w1.cell? ⟨kb,1,none⟩=some (.int .u64 4480) from (hk.below hb).three.2.1));have HR1:=zh (Below.refl w.heap.size w);obtain ⟨c0,c1,c2⟩:=hk.three;clear h hk hf hx;go_in;go_upto_region 1 with fail
 go_region_held3 (fun wx=>wx.cell? ⟨kb,1,none⟩=some (.int .u64 4480))
  (first|exact hq.2.2.three.2.1|exact HKP.o _ hbz|exact HKP.o _ (by repeat (with_reducible first|assumption|exact HR1.o|apply ZA|apply ZB)))
  (first
    |(go_at_call 165;refine (HPK.o _).mono ?_;rintro e V1 ⟨rfl,rfl⟩)
    |(go_at_call 111;(first|refine (HST.o _ (by repeat (with_reducible first|assumption|exact HR1.o|apply ZA|apply ZB))).mono ?_|refine (HST.o w.drew (by repeat (with_reducible first|assumption|exact HR1.o|apply ZA|apply ZB))).mono ?_|refine (HST.o w.drew.drew (by repeat (with_reducible first|assumption|exact HR1.o|apply ZA|apply ZB))).mono ?_);rintro e V2 ⟨r,rfl,hpr,hbz⟩)
    |(go_at_call 112;refine (HRUN.o _ hbz _ hpr).mono ?_;rintro e V3 ⟨rfl,F3,hq⟩))
 all_goals
  obtain ⟨hq1,hq2,hq3⟩:=hq;have z2:=hq3.three.2.2;have zf:=ZH (i:=2) hq3;have HQ:=zh (show ∃ F' wm,Aq wm A F' 160 T (wrs c [(4480,7309464666214760450)]) (x+10)/\Moved F F' w wm/\CkB wm A kb 0 an0/\(V3.setCell ⟨kb,2,none⟩ (.int .u64 2))=wm.setCell ⟨kb,2,none⟩ (.int .u64 2) from ⟨F3,V3,hq1,hq2,hq3,rfl⟩);clear hq1 hq2 hq3 hpr hbz;go_wp2;go_returns;exact ⟨rfl,HQ.o⟩
theorem ZFd (h:Ar w A F 160 T c){kb:Nat}(hk:CkB w A kb 0 an0)(hc:c 560=7309464666214760449):
 Calls prog 164 #[.pointer (some ⟨kb,0,none⟩),.pointer (some ⟨A.t 0,0,none⟩)] w fun e w'=>e=.returned (.tuple #[.int .u64 1,.int .i64 0])/\w=w':=by
 have HL:=zh (Y4 h (i:=0) (by omega) w bR 4480 (by omega) (by omega));rw [show 4480 / 8=560 by rfl,hc] at HL;have HE:=zh (Zs h (i:=0) (by omega) w bR);have HU:=zh (ZHE (w:=w));obtain ⟨c0,c1,c2⟩:=hk.three;clear h hk hc;go_in;go_wp2_with fail;refine HL.o.mono ?_;rintro e w' ⟨rfl,rfl⟩;go_wp2_with fail;refine HE.o.mono ?_;rintro e w' ⟨rfl,rfl⟩;go_wp2_with fail;refine HU.o.mono ?_;rintro e w' ⟨rfl,rfl⟩;go_wp2;go_returns;exact ⟨rfl,rfl⟩
theorem ZFb (h:Aq w A F 160 T c x)(hx:x+10<=1000000)(hc:c 560=7309464666214760449)(hz:∀ k,k < 7->c (561+k)=0):
 Calls prog 138 #[.pointer (some ⟨A.d,0,none⟩),.int .i64 70] w fun e w'=>e=.returned (.tuple #[.pointer (some ⟨w.heap.size,0,none⟩),.int .i64 0])/\∃ F',Aq w' A F' 160 T (wrs c [(4480,7309464666214760450)]) (x+10)/\Moved F F' w w'/\CkB w' A w.heap.size 2 an0/\F' w.heap.size=none:=by
 have HLN:=zh (ZCK h.ar w bR);have HTH:=zh (Q4 h.ar (i:=0) (by omega) w bR);have HER:=zh (Zs h.ar (i:=0) (by omega) w bR);have HLD:=zh (fun (w1:World) (hb:Bl w w1) (k:Nat) (hk:k < 7)=>show Calls prog 52 #[.pointer (some ⟨A.t 0,0,none⟩),.int .u64 (4480+((k+1:Nat):Int) * 8)] w1 (fun r w'=>r=.returned (.int .u64 0)/\w1=w') from by
  have:=Y4 h.ar (i:=0) (by omega) w1 hb (4480+(k+1) * 8) (by omega) (by omega);rw [show (4480+(k+1) * 8) / 8=561+k by omega,hz k hk] at this;rw [show ((4480+(k+1) * 8:Nat):Int)=4480+((k+1:Nat):Int) * 8 by omega] at this;exact this)
 have hb1:Bl w (w.alloc (.cells (ckC A 0 an0) 149)):=ZA bR;have hck:CkB (w.alloc (.cells (ckC A 0 an0) 149)) A w.heap.size 0 an0:=ZC _ _;have HPR:=zh (ZFd (h.ar.below hb1) hck hc);have HBG:=zh (ZKk (h.below hb1) hck (h.new nR) hx);have HCK:=zh hck;have HB1:=zh hb1;have HNW:=zh (show F w.heap.size=none/\w.heap.size≠1/\w.heap.size≠0 from ⟨h.new nR,fun e=>by have:=h.nib.lt;omega,fun e=>by have:=h.tab.lt;omega⟩);clear h hx hc hz hck hb1;go_in;go_wp2_with fail;refine HLN.o.mono ?_;rintro e w' ⟨rfl,rfl⟩;go_wp2_with fail;refine HTH.o.mono ?_;rintro e w' ⟨rfl,rfl⟩;go_wp2_with fail;refine HER.o.mono ?_;rintro e w' ⟨rfl,rfl⟩;go_wp2_with fail;refine HPR.o.mono ?_;rintro e w' ⟨rfl,hww⟩;obtain ⟨w1,hw1⟩:=xE (w.alloc (.cells (ckC A 0 an0) 149));rw [<-hw1] at HCK HB1 HBG hww;subst hww;obtain ⟨kb,hkb⟩:=xE w.heap.size;have HKB:=zh hkb;rw [<-hkb] at HCK HBG ⊢;obtain ⟨c0,c1,c2⟩:=HCK.o.three;clear hw1 hkb;go_wp2_with fail
 go_loopw [11] (fun i wr=>(∃ m:Nat,m<=7/\i=.int .u64 ((m+1:Nat):Int))/\wr=w1) (fun i _=>8 - (intOf i).toNat)
 case atStart=>exact ⟨⟨0,by omega,rfl⟩,rfl⟩
 case round=>
  obtain ⟨⟨m,hm,rfl⟩,rfl⟩:=hrel
  by_cases hlt:m < 7
  ·have HL:=zh (HLD.o wr HB1.o m hlt)
   obtain ⟨q,hq⟩:=xE (m+1);rw [<-hq] at HL ⊢;have d0:(q:Int) < 8:=by omega
   have HQ:=zh hq;clear hlt hq;go_wp2_with fail;refine HL.o.mono ?_;rintro e w' ⟨rfl,rfl⟩;go_wp2_with fail;go_roundw
   case rel=>first|exact ⟨⟨q,by omega,by simp⟩,trivial⟩|exact ⟨q,by omega,by simp⟩
   case measure=>simp [intOf];omega
  ·obtain rfl:m=7:=by omega
   clear hlt hm;go_wp2_with fail;refine HBG.o.mono ?_;rintro e w2 ⟨rfl,F',wm,h1,h2,h3,rfl⟩;go_wp2;go_returns;have hk:=HKB.o;subst hk;have hm:=Moved.trans ⟨Only.of_below HB1.o,fun _ _=>rfl⟩ h2;have f':F' w.heap.size=none:=(h2.same _ (heap_lt HCK.o)).trans HNW.o.1;refine ⟨rfl,F',h1.agree (fun k hk=>ZG ?_) (by simp [World.setCell]),⟨⟨hm.only.os,hm.only.tape,hm.only.output,by simpa [World.setCell] using hm.only.size,fun k hk hn=>(ZG (by omega)).trans (hm.only.block k hk hn)⟩,hm.same⟩,(ZI h3).trans rfl,f'⟩;rcases hk with hk|rfl|rfl
   ·exact fun e=>hk (by rw [e];exact f')
   ·exact fun e=>HNW.o.2.1 e.symm
   ·exact fun e=>HNW.o.2.2 e.symm
def PsC (w:World)(b:Nat):Prop:=w.cell? ⟨b,1,none⟩=some (.int .i64 1)/\w.cell? ⟨b,2,none⟩=some (.int .i64 160)/\w.cell? ⟨b,3,none⟩=some (.int .i64 26)/\w.cell? ⟨b,4,none⟩=some (.int .i64 26)/\w.cell? ⟨b,5,none⟩=some (.int .i64 8)/\w.cell? ⟨b,6,none⟩=some (.int .i64 0)/\w.cell? ⟨b,7,none⟩=some (.int .i64 0)/\w.cell? ⟨b,8,none⟩=some (.int .u64 1)
theorem ZE3 {w:World}{r a b:Nat}(hr:r < 9)(ha:sup0.at r=a)(hb:sup0.sizes.getD r 0=b):Calls prog 127 #[sup0.val,.int .u8 (r+1:Nat)] w fun e w'=>e=.returned (.tuple #[.int .i64 (a:Nat),.int .i64 (b:Nat),.int .i64 0])/\Bl w w':=by
 have:=Vt (w:=w) QI hr;rw [ha,hb] at this;exact this
theorem ZGF (h:Ar w A F 160 T c){pb:Nat}(hs:PsC w pb):
 Calls prog 207 #[.pointer (some ⟨pb,0,none⟩),.pointer (some ⟨A.t 0,0,none⟩)] w fun e w'=>∃ b,e=.returned (.tuple #[.pointer (some ⟨b,0,none⟩),.int .i64 0])/\Ul w' b A/\Bl w w':=by
 have HR:=zh (ZE3 (w:=w) (r:=3) (a:=36) (b:=26) (by omega) rfl rfl);have HO:=zh (fun (w1:World) (hb:Bl w w1)=>ZGc (h.below hb));obtain ⟨c0,c1,c2,c3,c4,c5,c6,c7⟩:=hs;clear h;unfold sup0 Sup.val at HR;go_in;go_wp2_with fail;refine HR.o.mono ?_;rintro e w1 ⟨rfl,hb1⟩;have HB1:=zh hb1;clear hb1;go_wp2_with fail;refine (HO.o w1 HB1.o).mono ?_;rintro e w2 ⟨rfl,hw2⟩;have HU:=zh (show Ul w2 w1.heap.size A by rw [hw2];exact ZC _ _);have HB2:=zh (show Bl w w2 by rw [hw2];exact ZA HB1.o);clear hw2;go_wp2;go_returns;exact ⟨_,rfl,HU.o,HB2.o⟩
theorem ZGD (h:Ar w A F 160 T c){pb:Nat}(hs:PsC w pb):
 Calls prog 84 #[.pointer (some ⟨pb,0,none⟩),.pointer (some ⟨A.t 0,0,none⟩)] w fun e w'=>∃ b,e=.returned (.tuple #[.pointer (some ⟨b,0,none⟩),.int .i64 0])/\Lg w' b A 0 640 1664/\Bl w w':=by
 have HR:=zh (ZE3 (w:=w) (r:=2) (a:=10) (b:=26) (by omega) rfl rfl);have HO:=zh (fun (w1:World) (hb:Bl w w1)=>ZA0 (h.below hb) (t:=0) (by omega));obtain ⟨c0,c1,c2,c3,c4,c5,c6,c7⟩:=hs;clear h;unfold sup0 Sup.val at HR;go_in;go_wp2_with fail;refine HR.o.mono ?_;rintro e w1 ⟨rfl,hb1⟩;have HB1:=zh hb1;clear hb1;go_wp2_with fail;refine (HO.o w1 HB1.o).mono ?_;rintro e w2 ⟨rfl,hw2⟩;have HU:=zh (show Lg w2 w1.heap.size A 0 640 1664 by rw [hw2];exact ZC _ _);have HB2:=zh (show Bl w w2 by rw [hw2];exact ZA HB1.o);clear hw2;go_wp2;go_returns;exact ⟨_,rfl,HU.o,HB2.o⟩
structure LdU (w0:World)(fn:Nat)(first cap:Array Value):Prop where
 call:∀ (args:Array Value) (w:World),(callFunc fn args).run prog w=.ok (.enter fn args) w
 get:∀ (w:World) (k:Nat),k < 2->Bl w0 w->Calls prog fn (first.push (.int .u64 (3968+256 * k:Nat))++cap) w fun e w'=>e=.returned (.int .u64 1836515329)/\w=w'
theorem LdU.below {fn:Nat}{first cap:Array Value}(h:LdU w fn first cap)(hb:Bl w w'):LdU w' fn first cap:=
 {h with get:=fun w1 k hk h1=>h.get w1 k hk (hb.trans (h1.mono hb.size))}
theorem ZHa {fn k:Nat}{first cap:Array Value}(hl:LdU w fn first cap)(hk:k < 2):
 Calls prog 283 #[.agg #[.int .i64 62,.int .i64 8,.int .u64 10240],.func (.func fn) first cap,.int .u64 (3968+256 * k:Nat)] w fun e w'=>e=.returned (.tuple #[.agg #[.int .u8 1,.slice none 0 0,.slice none 0 0],.bool true])/\Bl w w':=by
 have hcall:=hl.call;have HG:=zh (fun w' hb=>hl.get w' k hk hb);clear hl hk;go_in;go_wp2_with fail;refine (HG.o _ (ZA (ZA bR))).mono ?_;rintro e w' ⟨rfl,rfl⟩;go_wp2;go_returns;exact ⟨rfl,ZA (ZA bR)⟩
theorem ZIq:(prog.info? 396).map (fun i=>(i.zero,i.size,i.bytes))=some (some (.agg #[.int .u8 0,.slice none 0 0,.slice none 0 0]),3,56):=by kernel_rfl
theorem ZJy:El prog 386 396 3 56:=El.of underlying386 ZIq rfl (by omega)
def ZDM (n:Nat):List Value:=(List.range n).flatMap fun _=>[.int .u8 1,.slice none 0 0,.slice none 0 0]
theorem ZGd (n:Nat):ZDM (n+1)=ZDM n++[.int .u8 1,.slice none 0 0,.slice none 0 0]:=by unfold ZDM;rw [ZLy,List.flatMap_append];rfl
def MaR (W:World)(v i:Value)(wr:World):Prop:=
 ∃ m:Nat,m<=2/\i=.int .i64 (m:Nat)/\wr.ownsRow W.heap.size 396 3 v m (ZDM m)/\Bl W wr
theorem ZEw {fn:Nat}{first cap:Array Value}(hl:LdU w fn first cap):
 Calls prog 252 #[.agg #[.int .i64 62,.int .i64 8,.int .u64 10240],.func (.func fn) first cap] w fun e w'=>∃ v,e=.returned (.tuple #[v,.bool true])/\w'.ownsRow w.heap.size 396 3 v 2 (ZDM 2)/\Bl w w':=by
 have HL:=zh hl;clear hl;go_in;go_wp2_with fail;refine mcount_yes.mono ?_;rintro e W ⟨rfl,hbW⟩;have HH:=zh ((hbW.block w.heap.size (by simp)).trans (ZC _ _));have HBW:=zh ((ZA (Below.refl _ w)).trans (hbW.mono (by simp)));clear hbW;go_wp2_with fail
 go_loopw [6,12] (fun v i wr=>MaR W v i wr) (fun _ i _=>2 - (intOf i).toNat)
 case atStart=>exact ⟨0,by omega,rfl,ZLn _ _ _ _,bR⟩
 case round=>
  obtain ⟨m,hm,rfl,hown,hbel⟩:=hrel;have HB:=zh hbel;have HO:=zh hown;obtain ⟨ra,rc,hv⟩:=ZN hown;subst hv;clear hown hbel
  by_cases hlt:m < 2
  ·have d0:(m:Int) < 2:=by omega
   have HLw:=zh (HL.o.below (HBW.o.trans (HB.o.mono HBW.o.size)));have HAT:=zh (fun (wx:World) (hb:Bl wr wx)=>VA (ZEx (w:=wx) hlt) hb);have HRD:=zh (fun (wx:World) (hb:Bl wr wx)=>VA (ZHa (HLw.o.below hb) hlt) hb);have HK:=zh (fun (wx:World) (hb:Bl wr wx)=>(show wx.cell? ⟨w.heap.size,0,none⟩=some (.int .i64 62)/\wx.cell? ⟨w.heap.size,1,none⟩=some (.int .i64 8)/\wx.cell? ⟨w.heap.size,2,none⟩=some (.int .u64 10240) from by
    obtain ⟨a0,a1,a2,_⟩:=ZY (Yt HH.o (HB.o.trans (hb.mono HB.o.size)));exact ⟨a0,a1,a2⟩))
   have HB0:=zh (Below.refl wr.heap.size wr);obtain ⟨r0,r1,r2⟩:=HK.o wr HB0.o;clear hlt;go_upto_region 5 with fail
   go_cut [8,9] (fun p o wx=>∃ b,p=.pointer (some ⟨b,0,none⟩)/\o=.bool true/\wx.heap[b]?=some (.cells #[.int .u8 1,.slice none 0 0,.slice none 0 0] 396 (0,0))/\Bl wr wx)
   case first=>
    go_region_held3 (fun wx=>wx.cell? ⟨w.heap.size,0,none⟩=some (.int .i64 62)/\wx.cell? ⟨w.heap.size,1,none⟩=some (.int .i64 8)/\wx.cell? ⟨w.heap.size,2,none⟩=some (.int .u64 10240))
     (exact HK.o _ (by repeat (first|with_reducible assumption|with_reducible exact HB0.o|with_reducible apply ZA|with_reducible apply ZB|with_reducible apply ZE|with_reducible exact nR|exact Below.size (by with_reducible assumption))))
     (first
       |(go_at_call 200;refine (HAT.o _ (by repeat (with_reducible first|assumption|exact HB0.o|apply ZA|apply ZB))).mono ?_;rintro e V1 ⟨rfl,hb1,hm1,hm2,hm3,HB1⟩)
       |(go_at_call 283;refine (HRD.o _ (by repeat (with_reducible first|assumption|exact HB0.o|apply ZA|apply ZB))).mono ?_;rintro e V2 ⟨rfl,hb2,hl1,hl2,hl3,HBB⟩))
    ·go_wp2_with fail
     go_meet;exact ⟨_,rfl,rfl,ZC _ _,ZA hb2⟩
    ·go_wp2_with fail
     go_meet;have hblk:=(HBB.o.block V1.heap.size (by simp)).trans (ZC V1 _);exact ⟨_,rfl,rfl,(ZI (ZI (ZI hblk))).trans rfl,ZE (ZE (ZE hb2 hb1.size) hb1.size) hb1.size⟩
    ·go_wp2_with fail
     go_meet;have hz:=HB1.o.size;simp at hz;have hblk:=(HBB.o.block wr.heap.size hz).trans ((HB1.o.block wr.heap.size (by simp)).trans (ZC wr _));exact ⟨_,rfl,rfl,(ZI (ZI (ZI hblk))).trans rfl,ZE (ZE (ZE hb2 nR) nR) nR⟩
   case rest=>
    obtain ⟨b,rfl,rfl,hb,hbel⟩:=hcut;obtain ⟨c0,c1,c2,_⟩:=ZY hb;have HO2:=zh (ZO HO.o hbel);have HB2:=zh (HB.o.trans (hbel.mono HB.o.size));clear hb hbel r0 r1 r2;go_wp2_with (at_builtin;refine ZS ZJy rfl _ _ rfl HO2.o rfl rfl ?c1 rfl ?c2 ?c3 ?c4 ?c5 ?_)
    case c1=>rfl
    case c2=>first|rfl|exact ⟨rfl,rfl⟩|simp
    case c3=>unfold maxLen;omega
    case c4=>omega
    case c5=>exact HB2.o.size
    intro g4 cap4 w5 hop5 hgr5 hg5
    have G:=zh (show MaR W (.slice (some ⟨g4,0,none⟩) (m+1) cap4) (.int .i64 ((m+1:Nat):Int)) w5 from ⟨m+1,by omega,rfl,by
     rw [ZGd];exact hop5,ZL HB2.o hgr5 HB2.o.size (fun b hb=>(HO2.o.lt b hb).1)⟩)
    clear hop5 hgr5 hg5;go_wp2_with fail;go_roundw
    case rel=>simpa using G.o
    case measure=>simp [intOf];omega
  ·obtain rfl:m=2:=by omega
   clear hlt hm;go_wp2;go_returns;exact ⟨_,rfl,HO.o.mono HBW.o.size,HBW.o.trans (HB.o.mono HBW.o.size)⟩
theorem ZG2 (args:Array Value)(w:World):(callFunc 52 args).run prog w=.ok (.enter 52 args) w:=by kernel_rfl
theorem ZD7 (h:Ar w A F 160 T c)(h0:c 496=1836515329)(h1:c 528=1836515329):LdU w 52 #[.pointer (some ⟨A.t 0,0,none⟩)] #[] where
 call:=ZG2
 get:=fun w1 k hk hb=>by
  have hl:=Y4 h (i:=0) (by omega) w1 hb (3968+256 * k) (by omega) (by omega);have hc:c ((3968+256 * k) / 8)=1836515329:=by
   rcases (show k=0\/k=1 by omega) with rfl|rfl
   ·exact h0
   ·exact h1
  rw [hc] at hl;exact hl
def O1U (a i:Value):Prop:=∃ k:Nat,k<=8/\i=.int .u64 k/\a=.int .u64 ((1836515329 % 2 ^ (8 * k):Nat):Int)
theorem unB {f:Nat->Nat}{off:Nat}(h8:off % 8=0)(hf:f (off / 8)=1836515329)(k:Nat)(hk:k < 8):Z3 f (off+k)=1836515329 / 2 ^ (8 * k) % 256:=by
 unfold Z3;rw [show (off+k) / 8=off / 8 by omega,show (off+k) % 8=k by omega,hf]
theorem ZHf {cb g off:Nat}{f:Nat->Nat}(hc:w.cell? ⟨cb,0,none⟩=some (.slice (some ⟨g,0,none⟩) 10240 10240))(hrow:Row w g 5 10240 (fun x=>.int .u8 (Z3 f x)))(h8:off % 8=0)(ho:off+8<=10240)(hf:f (off / 8)=1836515329):
 Calls prog 251 #[.int .u64 off,.pointer (some ⟨cb,0,none⟩)] w fun e w'=>e=.returned (.int .u64 1836515329)/\w=w':=by
 have HC:=zh (fun (k:Nat) (hk:k < 8)=>show w.cell? ⟨g,off+k,none⟩=some (.int .u8 ((1836515329 / 2 ^ (8 * k) % 256:Nat):Int)) from by
  rw [hrow.cell _ (by omega),unB h8 hf k hk])
 have b1:(off:Int)+8<=10240:=by omega
 clear hrow h8 ho hf;go_in;go_wp2_with fail
 go_loop [4,5,6] (fun a _ i=>O1U a i) (fun _ _ i=>8 - (intOf i).toNat)
 case atStart=>exact ⟨0,by omega,rfl,rfl⟩
 case round=>
  obtain ⟨k,hk,rfl,rfl⟩:=hrel;rcases (show k=0\/k=1\/k=2\/k=3\/k=4\/k=5\/k=6\/k=7\/k=8 by omega) with rfl|rfl|rfl|rfl|rfl|rfl|rfl|rfl|rfl
  case inr.inr.inr.inr.inr.inr.inr.inr=>
   go_wp2;go_returns;exact ⟨rfl,rfl⟩
  case inl=>
   have c1:=HC.o 0 (by omega);simp at c1 ⊢;go_wp2_with fail;go_round
   case rel=>exact ⟨_,_,_,⟨1,by omega,rfl,rfl⟩,congrArg _ (by decide),rfl,rfl⟩
   case measure=>simp [intOf]
  case inr.inl=>
   have c1:=HC.o 1 (by omega);simp at c1 ⊢;go_wp2_with fail;go_round
   case rel=>exact ⟨_,_,_,⟨2,by omega,rfl,rfl⟩,congrArg _ (by decide),rfl,rfl⟩
   case measure=>simp [intOf]
  case inr.inr.inl=>
   have c1:=HC.o 2 (by omega);simp at c1 ⊢;go_wp2_with fail;go_round
   case rel=>exact ⟨_,_,_,⟨3,by omega,rfl,rfl⟩,congrArg _ (by decide),rfl,rfl⟩
   case measure=>simp [intOf]
  case inr.inr.inr.inl=>
   have c1:=HC.o 3 (by omega);simp at c1 ⊢;go_wp2_with fail;go_round
   case rel=>exact ⟨_,_,_,⟨4,by omega,rfl,rfl⟩,congrArg _ (by decide),rfl,rfl⟩
   case measure=>simp [intOf]
  case inr.inr.inr.inr.inl=>
   have c1:=HC.o 4 (by omega);simp at c1 ⊢;go_wp2_with fail;go_round
   case rel=>exact ⟨_,_,_,⟨5,by omega,rfl,rfl⟩,congrArg _ (by decide),rfl,rfl⟩
   case measure=>simp [intOf]
  case inr.inr.inr.inr.inr.inl=>
   have c1:=HC.o 5 (by omega);simp at c1 ⊢;go_wp2_with fail;go_round
   case rel=>exact ⟨_,_,_,⟨6,by omega,rfl,rfl⟩,congrArg _ (by decide),rfl,rfl⟩
   case measure=>simp [intOf]
  case inr.inr.inr.inr.inr.inr.inl=>
   have c1:=HC.o 6 (by omega);simp at c1 ⊢;go_wp2_with fail;go_round
   case rel=>exact ⟨_,_,_,⟨7,by omega,rfl,rfl⟩,congrArg _ (by decide),rfl,rfl⟩
   case measure=>simp [intOf]
  case inr.inr.inr.inr.inr.inr.inr.inl=>
   have c1:=HC.o 7 (by omega);simp at c1 ⊢;go_wp2_with fail;go_round
   case rel=>exact ⟨_,_,_,⟨8,by omega,rfl,rfl⟩,congrArg _ (by decide),rfl,rfl⟩
   case measure=>simp [intOf]
theorem ZFH (args:Array Value)(w:World):(callFunc 251 args).run prog w=.ok (.enter 251 args) w:=by kernel_rfl
theorem ZHU {cb g:Nat}{f:Nat->Nat}(hc:w.cell? ⟨cb,0,none⟩=some (.slice (some ⟨g,0,none⟩) 10240 10240))(hrow:Row w g 5 10240 (fun x=>.int .u8 (Z3 f x)))(h0:f 496=1836515329)(h1:f 528=1836515329):
 LdU w 251 #[] #[.pointer (some ⟨cb,0,none⟩)] where
 call:=ZFH
 get:=fun w1 k hk hb=>by
  have hlt:=ZLf _ _ hc;refine ZHf (by rw [hb.cell hlt];exact hc) (hrow.of_block (hb.block _ hrow.lt)) (by omega) (by omega) ?_;rcases (show k=0\/k=1 by omega) with rfl|rfl
  ·exact h0
  ·exact h1
theorem ZIh (h:Ar w A F 160 T c)(w1:World)(hb:Bl w w1):Calls prog 171 #[.pointer (some ⟨A.d,0,none⟩)] w1 fun r w'=>r=.returned (.int .u64 10240)/\w1=w':=by
 obtain ⟨s,h1,h2,h3⟩:=(h.below hb).dev;have:=U3 h1;rw [h3] at this;exact this
theorem ZJs (h:Ar w A F 160 T c)(w1:World)(hb:Bl w w1):Calls prog 250 #[.pointer (some ⟨A.d,0,none⟩)] w1 fun r w'=>∃ g,r=.returned (.slice (some ⟨g,0,none⟩) 10240 10240)/\Row w' g 5 10240 (fun x=>.int .u8 (Z3 c x))/\Bl w1 w':=by
 obtain ⟨s,h1,h2,h3⟩:=(h.below hb).dev;refine (ZCF h1).mono ?_;rintro e w' ⟨v,rfl,⟨b,rfl,hr,_⟩,hb⟩;rw [h3,show s.cur=c from funext h2.cur] at hr;rw [h3];exact ⟨b,rfl,hr,hb⟩
theorem ZHO:(prog.info? 4).map (fun i=>(i.zero,i.size,i.bytes))=some (some (.bool false),1,1):=by kernel_rfl
theorem ZCi:madeCells (Value.bool false).cells 2=#[.bool false,.bool false]:=by kernel_rfl
def MpB (w:World)(A:DAd)(p z:Nat):Prop:=w.heap[p]?=some (.cells #[.pointer (some ⟨A.d,0,none⟩),.int .i64 62,.int .i64 8,.int .u64 10240,.slice (some ⟨z,0,none⟩) 2 2,.pointer none] 392 (0,0))/\w.heap[z]?=some (.cells #[.bool false,.bool false] 4 (0,0))
theorem ZF2 (h:Ar w A F 160 T c)(h0:c 496=1836515329)(h1:c 528=1836515329):
 Calls prog 209 #[.pointer (some ⟨A.d,0,none⟩),.int .i64 62,.int .i64 8] w fun e w'=>∃ p z,e=.returned (.tuple #[.pointer (some ⟨p,0,none⟩),.int .i64 0])/\MpB w' A p z/\Bl w w'/\w.heap.size<=p:=by
 have HS:=zh (ZIh h);have HCU:=zh (ZJs h);have H0:=zh h0;have H1:=zh h1;have HR:=zh (Below.refl w.heap.size w);clear h h0 h1;go_in;go_wp2_with fail;refine (HS.o w HR.o).mono ?_;rintro e w' ⟨rfl,rfl⟩;go_wp2_with fail;refine mvalid_yes.mono ?_;rintro e w1 ⟨rfl,hb1⟩;have HB1:=zh ((ZA HR.o).trans (hb1.mono (by simp)));have HH1:=zh ((hb1.block w.heap.size (by simp)).trans (ZC _ _));clear hb1;go_wp2_with fail;refine (HCU.o w1 HB1.o).mono ?_;rintro e w2 ⟨g,rfl,hrow,hb2⟩;have HB2:=zh (HB1.o.trans (hb2.mono HB1.o.size));have HH2:=zh (Yt HH1.o hb2);have HW:=zh hrow;clear hb2 hrow;go_upto_region 8 with fail;obtain ⟨w3,hw3⟩:=xE (w2.alloc (.cells #[.slice (some ⟨g,0,none⟩) 10240 10240] 277));have HB3:=zh (show Bl w w3 by rw [hw3];exact ZA HB2.o);have h23:Bl w2 w3:=by rw [hw3];exact ZA bR
 have HH3:=zh (Yt HH2.o h23);have HL:=zh (ZHU (w:=w3) (cb:=w2.heap.size) (by rw [hw3];exact (ZD (ZC _ _)).trans rfl) (HW.o.of_block (h23.block _ HW.o.lt)) H0.o H1.o);obtain ⟨cb,hcb⟩:=xE w2.heap.size;rw [<-hcb] at HL;rw [<-hw3,<-hcb];obtain ⟨c0,c1,c2,_⟩:=ZY HH3.o;clear hw3 hcb h23;go_wp2_with fail;refine (ZEw HL.o).mono ?_;rintro e w4 ⟨v,rfl,hown,hb4⟩;obtain ⟨va,vc,hv⟩:=ZN hown;subst hv;have HB4:=zh (HB3.o.trans (hb4.mono HB3.o.size));have HH4:=zh (Yt HH3.o hb4);clear hown hb4 c0 c1 c2;go_upto_region 11 with fail;have HK:=zh (fun (wx:World) (hb:Bl w4 wx)=>(show wx.cell? ⟨w.heap.size,0,none⟩=some (.int .i64 62)/\wx.cell? ⟨w.heap.size,1,none⟩=some (.int .i64 8)/\wx.cell? ⟨w.heap.size,2,none⟩=some (.int .u64 10240) from by
  obtain ⟨a0,a1,a2,_⟩:=ZY (Yt HH4.o hb);exact ⟨a0,a1,a2⟩))
 have HMC:=zh (fun (wx:World) (hb:Bl w4 wx)=>VA (mcount_yes (w:=wx)) hb);have HB0:=zh (Below.refl w4.heap.size w4);obtain ⟨r0,r1,r2⟩:=HK.o w4 HB0.o;obtain ⟨i,hi,hz,hsz,hby⟩:=info_parts ZHO;have hmk:=fun V=>run_make (P:=prog) V 389 4 i _ underlying389 hi hz .i64 .i64 2 2 (by omega) (Int.le_refl _) (by rw [hby];omega) (by omega)
 simp only [show (2:Int).toNat=2 from rfl,hsz,Nat.mul_one,ZCi] at hmk;clear hi hz hsz hby
 go_region_held3 (fun wx=>wx.cell? ⟨w.heap.size,0,none⟩=some (.int .i64 62)/\wx.cell? ⟨w.heap.size,1,none⟩=some (.int .i64 8)/\wx.cell? ⟨w.heap.size,2,none⟩=some (.int .u64 10240))
  (exact HK.o _ (by repeat (with_reducible first|assumption|exact HB0.o|apply ZA|apply ZB)))
  (first
    |(go_at_call 199;refine (HMC.o _ (by repeat (with_reducible first|assumption|exact HB0.o|apply ZA|apply ZB))).mono ?_;rintro e V1 ⟨rfl,hb1,hm1,hm2,hm3,HB1⟩))
 obtain ⟨V2,hV2⟩:=xE (V1.alloc (.cells #[.bool false,.bool false] 4));have hz2:V2.heap.size=V1.heap.size+1:=by rw [hV2];simp
 have HE:=zh (fun (O:Obj) (hO:O=.cells #[.pointer (some ⟨A.d,0,none⟩),.int .i64 62,.int .i64 8,.int .u64 10240,.slice (some ⟨V1.heap.size,0,none⟩) 2 2,.pointer none] 392)=>show MpB (V2.alloc O) A V2.heap.size V1.heap.size/\Bl w (V2.alloc O)/\w.heap.size<=V2.heap.size from by
  refine ⟨⟨by rw [ZC,hO],by rw [ZK (by omega),hV2];exact ZC _ _⟩,?_,by have:=ZLi HB4.o.size hb1.size;omega⟩;rw [hV2];exact Zr (Zr (HB4.o.trans (hb1.mono HB4.o.size)) (ZLi HB4.o.size hb1.size)) (by have:=ZLi HB4.o.size hb1.size;simp;omega))
 rw [hz2,hV2] at HE;clear hV2 hz2;go_wp2;go_returns;exact ⟨_,_,rfl,HE.o _ rfl⟩
theorem MpB.below {p z:Nat}(h:MpB w A p z)(hb:Bl w w'):MpB w' A p z:=⟨(hb.block _ (heap_lt h.1)).trans h.1,(hb.block _ (heap_lt h.2)).trans h.2⟩
theorem ZF1 {p z:Nat}(h:MpB w A p z):
 Calls prog 253 #[.pointer (some ⟨p,0,none⟩)] w fun r w'=>r=.returned (.int .i64 2)/\w=w':=by
 obtain ⟨_,_,_,_,c4,_⟩:=ZI6 h.1;have HB:=zh (fun (k:Nat) (hk:k < 2)=>show w.cell? ⟨z,k,none⟩=some (.bool false) from by
  rw [ZD h.2];rcases (show k=0\/k=1 by omega) with rfl|rfl <;> rfl)
 clear h;go_in;go_wp2_with fail
 go_loop [3,13] (fun c i=>∃ k:Nat,k<=2/\i=.int .i64 (k:Nat)/\c=.int .i64 (k:Nat)) (fun _ i=>2 - (intOf i).toNat)
 case atStart=>exact ⟨0,by omega,rfl,rfl⟩
 case round=>
  obtain ⟨k,hk,rfl,rfl⟩:=hrel
  by_cases hlt:k < 2
  ·have hlt2:(k:Int) < 2:=by omega
   have c1:=HB.o k hlt;clear hk;go_wp2_with fail;go_round
   case rel=>exact ⟨k+1,by omega,rfl,rfl⟩
   case measure=>simp [intOf];omega
  ·obtain rfl:k=2:=by omega
   go_wp2;go_returns;exact ⟨rfl,rfl⟩
theorem JJ (h:Ar w A F L T c){i:Nat}(hi:i < 8)(w1:World)(hb:Bl w w1):
 Calls prog 77 #[.pointer (some ⟨A.d,0,none⟩),.int .i64 i] w1 fun r w'=>r=.returned (.pointer (some ⟨A.t i,0,none⟩))/\w1=w':=by
 obtain ⟨s,h1,h2,h3⟩:=(h.below hb).dev;exact Q5 h1 hi
theorem ZIK:∀ k,k < 2->(ZDM 2)[3 * k]?=some (.int .u8 1)/\(ZDM 2)[3 * k+1]?=some (.slice none 0 0)/\(ZDM 2)[3 * k+2]?=some (.slice none 0 0):=fun k hk=>by
 rcases (show k=0\/k=1 by omega) with rfl|rfl <;> exact ⟨rfl,rfl,rfl⟩
theorem ZCl (h:Ar w A F 160 T c)(h0:c 496=1836515329)(h1:c 528=1836515329){p z:Nat}(hm:MpB w A p z):
 Calls prog 210 #[.pointer (some ⟨p,0,none⟩),.int .i64 0] w fun e w'=>e=.returned (.tuple #[.int .i64 0,.int .i64 0])/\MpB w' A p z/\Only (fun k=>k=p) w w':=by
 have HT:=zh (JJ h (i:=0) (by omega) w bR);have HE:=zh (fun (w1:World) (hb:Bl w w1)=>Zs h (i:=0) (by omega) w1 hb);have HFR:=zh (fun (w1:World) (hb:Bl w w1)=>ZF1 (hm.below hb));have HAL:=zh (fun (w1:World) (hb:Bl w w1)=>ZEw (ZD7 (h.below hb) h0 h1));have HM:=zh hm;have HR:=zh (Below.refl w.heap.size w);have HK:=zh (fun (w1:World) (hb:Bl w w1)=>ZI6 (hm.below hb).1);obtain ⟨c0,c1,c2,c3,c4,c5,f0,f1,f2,f3,f4,f5⟩:=ZI6 hm.1;clear h h0 h1 hm;go_in;go_wp2_with fail;refine HT.o.mono ?_;rintro e w' ⟨rfl,rfl⟩;go_wp2_with fail;refine (HE.o w HR.o).mono ?_;rintro e w' ⟨rfl,rfl⟩;go_wp2_with fail
 go_quiet ((go_at_call 253;exact ZZ (HFR.o _ (ZU HR.o))))
 obtain ⟨W0,hW0⟩:=xE (w.drewN nq);rw [<-hW0];have HB0:=zh (show Bl w W0 by rw [hW0];exact ZU bR);clear hW0 c0 c1 c2 c3 c4 c5 f0 f1 f2 f3 f4 f5;obtain ⟨c0,c1,c2,c3,c4,c5,f0,f1,f2,f3,f4,f5⟩:=HK.o W0 HB0.o;go_wp2_with fail;refine (HAL.o _ HB0.o).mono ?_;rintro e W ⟨v,rfl,hown,hb⟩;obtain ⟨g,cap,hv⟩:∃ g cap,v=.slice (some ⟨g,0,none⟩) 2 cap:=by
  rcases hown.2 with ⟨_,e⟩|⟨g,cap,cur,e,_⟩
  ·omega
  ·exact ⟨g,cap,e⟩
 subst hv;have HB:=zh (HB0.o.trans (hb.mono HB0.o.size));have HO:=zh (ZC9 hown);clear hown hb c0 c1 c2 c3 c4 c5 f0 f1 f2 f3 f4 f5;go_wp2_with fail;refine (HE.o _ HB.o).mono ?_;rintro e w' ⟨rfl,rfl⟩;go_wp2_with fail
 go_loopw [11,64] (fun n i wr=>n=.int .i64 0/\∃ k:Nat,k<=2/\i=.int .i64 k/\Bl W wr) (fun _ i _=>2 - (intOf i).toNat)
 case atStart=>exact ⟨rfl,0,by omega,rfl,bR⟩
 case round=>
 obtain ⟨rfl,k,hk,rfl,hb⟩:=hrel;have HBR:=zh hb;have HBB:=zh (HB.o.trans (hb.mono HB.o.size));clear hb
 by_cases hlt:k < 2
 ·have hlt2:(k:Int) < 2:=by omega
  obtain ⟨q1,q2,q3⟩:=ZIK k hlt;have hs:=HO.o.below HBR.o nR;have k1:wr.cell? ⟨g,k * 3,none⟩=some (.int .u8 1):=by have:=hs _ _ q1;rw [ZLu,Nat.mul_comm] at this;exact this
  have k2:wr.cell? ⟨g,k * 3+1,none⟩=some (.slice none 0 0):=by have:=hs _ _ q2;rw [ZLu,Nat.mul_comm] at this;exact this
  have k3:wr.cell? ⟨g,k * 3+2,none⟩=some (.slice none 0 0):=by have:=hs _ _ q3;rw [ZLu,Nat.mul_comm] at this;exact this
  have HLT:=zh hlt;clear hs q1 q2 q3 hk hlt;go_wp2_with fail;go_roundw
  case rel=>exact ⟨rfl,k+1,by have:=HLT.o;omega,rfl,ZA HBR.o⟩
  case measure=>have:=HLT.o;simp [intOf];omega
 ·obtain rfl:k=2:=by omega
  clear hk hlt;have hm2:=HM.o.below HBB.o;obtain ⟨c0,c1,c2,c3,c4,c5,f0,f1,f2,f3,f4,f5⟩:=ZI6 hm2.1;have HE2:=zh (show MpB (wr.setCell ⟨p,5,none⟩ (.pointer none)) A p z/\Only (fun k=>k=p) w (wr.setCell ⟨p,5,none⟩ (.pointer none)) from by
   refine ⟨⟨(ZI hm2.1).trans rfl,?_⟩,Only.set (F:=fun k=>k=p) (Only.of_below HBB.o) (b:=p) rfl _⟩;rw [ZG (fun e=>by have:=hm2.1;rw [<-e,hm2.2] at this;simp at this)];exact hm2.2)
  clear hm2;go_wp2;go_returns;exact ⟨rfl,HE2.o⟩
end
end Go.Proofs.YtbpeehmepehkdaaGreatDoor.Dv
