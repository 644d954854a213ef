/- Part 34. -/
import Derived.Test.YtbpeehmepehkdaaGreatDoorY33
set_option maxHeartbeats 8000000
set_option maxRecDepth 20000
set_option linter.all false
namespace Go.Proofs.YtbpeehmepehkdaaGreatDoor.Dv
open Tryz
section
open Go.RowKit Go.Proofs.YtbpeehmepehkdaaGreatDoor.Size
variable {w w':World}{A:DAd}{F F':Nat->Option ZM}{T c c':Nat->Nat}{x x' L:Nat}
theorem Ar.only {b:Nat}(h:Ar w A F L T c)(ho:Only (fun k=>k=b) w w')(hF:F b=none)(hn:b≠1/\b≠0):Ar w' A F L T c:=by
 obtain ⟨s,h1,_⟩:=h.dev;refine h.agree (fun k hk=>?_) ho.size;rcases hk with hk|rfl|rfl
 ·exact ho.block k (h1.lt k hk) (fun e=>hk (by rw [e];exact hF))
 ·exact ho.block _ h.nib.lt (fun e=>hn.1 e.symm)
 ·exact ho.block _ h.tab.lt (fun e=>hn.2 e.symm)
theorem VY {P:Program} {ops:Array Oper} {rest:List Oper} {o:Oper} {a:Act} {w:World} {Q:Exit->Act->World->Prop} (hgd:o.guard=none) (ty:TypeId) (x y:Operand) (ho:o.op=.store ty x y)
 (g k:Nat) (cs:Array Value) (hx:a.eval x=.pointer (some ⟨g,k,none⟩)) (hy:a.eval y=.agg cs) (ht:w.there g k cs.size)
 (hi:(P.info? ty).map (·.size)=some cs.size) (h1:cs.all (·.oneCell')=true)
 (h:wpList P ops Q rest (a.put o.dst undef) (w.setCells g k cs.toList)):wpList P ops Q (o:: rest) a w:=
 wpList_plain hgd fun K hK=>by
  unfold Oper.wp execOp;simp only [ho,hx,hy,Instr.storeAt,Instr.sureAddr,Sem.run_bind,Sem.run_pure,Result.andThen_ok,run_storeVar_mid w g k ty cs ht hi h1];exact hK _ _ h
def zrC:Array Value:=#[.int .i64 0,.int .i64 0,.int .i64 0]
def poX (A:DAd)(h r k m:Value):Array Value:=#[.pointer (some ⟨A.d,0,none⟩),.int .i64 1,.int .i64 160,.int .i64 26,.int .i64 26,.int .i64 8,.int .i64 0,.int .i64 0,.int .u64 1,h,r,k,m,.pointer none,.int .u8 0]
def PoY (w:World)(A:DAd)(pb:Nat)(h r k m:Value):Prop:=w.heap[pb]?=some (.cells (poX A h r k m) 111 (0,0))
theorem PoY.below {pb:Nat}{h r k m:Value}(hy:PoY w A pb h r k m)(hb:Bl w w'):PoY w' A pb h r k m:=(hb.block _ (heap_lt hy)).trans hy
theorem PoY.setne {pb k i:Nat}{v h r kk m:Value}(hy:PoY w A pb h r kk m)(hk:pb≠k):PoY (w.setCell ⟨k,i,none⟩ v) A pb h r kk m:=(ZG hk).trans hy
theorem PoY.psc {pb:Nat}{h r k m:Value}(hy:PoY w A pb h r k m):PsC w pb:=by
 refine ⟨?_,?_,?_,?_,?_,?_,?_,?_⟩ <;> exact (ZD hy).trans rfl
theorem PoY.cc {pb:Nat}{h r k m:Value}(hy:PoY w A pb h r k m):w.cell? ⟨pb,0,none⟩=some (.pointer (some ⟨A.d,0,none⟩))/\w.cell? ⟨pb,12,none⟩=some m/\∀ i,w.frozen? ⟨pb,i,none⟩=false:=⟨(ZD hy).trans rfl,(ZD hy).trans rfl,fun i=>ZH hy⟩
structure RcS (w:World)(A:DAd)(pb b4 b6:Nat)(m:Value)(wx:World):Prop where
 only:Only (fun k=>k=pb) w wx
 po:PoY wx A pb (.pointer none) (.pointer none) (.pointer none) m
 h4:wx.heap[b4]?=some (.cells zrC 173 (0,0))
 h6:wx.heap[b6]?=some (.cells zrC 173 (0,0))
 nw:w.heap.size<=b4/\w.heap.size<=b6/\b4≠b6/\pb < w.heap.size
variable {pb b4 b6:Nat}{m:Value}
theorem RcS.below (h:RcS w A pb b4 b6 m w'){w2:World}(hb:Bl w' w2):RcS w A pb b4 b6 m w2:=
 ⟨h.only.trans (Only.of_below (F:=fun _=>False) hb) (fun _ _ q=>q.elim),h.po.below hb,(hb.block _ (heap_lt h.h4)).trans h.h4,(hb.block _ (heap_lt h.h6)).trans h.h6,h.nw⟩
theorem RcS.set6 (h:RcS w A pb b4 b6 m w'){i:Nat}(hi:i < 3):RcS w A pb b4 b6 m (w'.setCell ⟨b6,i,none⟩ (.int .i64 0)):=by
 obtain ⟨n1,n2,n3,n4⟩:=h.nw;refine ⟨⟨h.only.os,h.only.tape,h.only.output,by simpa [World.setCell] using h.only.size,fun k hk hn=>(ZG (by omega)).trans (h.only.block k hk hn)⟩,(ZG (by omega)).trans h.po,(ZG n3).trans h.h4,?_,h.nw⟩;rw [ZI h.h6];rcases (show i=0\/i=1\/i=2 by omega) with rfl|rfl|rfl <;> rfl
theorem RcS.set4 (h:RcS w A pb b4 b6 m w'):RcS w A pb b4 b6 m (w'.setCells b4 0 #[.int .i64 0,.int .i64 0,.int .i64 0].toList):=by
 obtain ⟨n1,n2,n3,n4⟩:=h.nw;have e:∀ k,k≠b4->(w'.setCells b4 0 #[.int .i64 0,.int .i64 0,.int .i64 0].toList).heap[k]?=w'.heap[k]?:=fun k hk=>(ZG hk).trans ((ZG hk).trans (ZG hk))
 refine ⟨⟨h.only.os,h.only.tape,h.only.output,by simpa [World.setCells,World.setCell] using h.only.size,fun k hk hn=>(e k (by omega)).trans (h.only.block k hk hn)⟩,(e _ (by omega)).trans h.po,?_,(e _ (fun e=>n3 e.symm)).trans h.h6,h.nw⟩;exact ZI (ZI (ZI h.h4))
theorem RcS.set12 (h:RcS w A pb b4 b6 m w')(m':Value):RcS w A pb b4 b6 m' (w'.setCell ⟨pb,12,none⟩ m'):=by
 obtain ⟨n1,n2,n3,n4⟩:=h.nw;exact ⟨h.only.set rfl _,(ZI h.po).trans rfl,(ZG (by omega)).trans h.h4,(ZG (by omega)).trans h.h6,h.nw⟩
theorem RcS.f6 (h:RcS w A pb b4 b6 m w'):(∀ i,w'.frozen? ⟨b6,i,none⟩=false)/\(∀ i,w'.frozen? ⟨b4,i,none⟩=false):=⟨fun i=>ZH h.h6,fun i=>ZH h.h4⟩
theorem ZBn (h:Ar w A F 160 T c)(h0:c 496=1836515329)(h1:c 528=1836515329)(hz:c 80=0)(hu:c 288=0)(hF:F pb=none)(hn:pb≠1/\pb≠0)(hp:PoY w A pb (.pointer none) (.pointer none) (.pointer none) (.pointer none)):
 Calls prog 137 #[.pointer (some ⟨pb,0,none⟩),.pointer (some ⟨A.t 0,0,none⟩)] w fun e w'=>e=.returned (.tuple #[.agg zrC,.int .i64 0])/\∃ mb z,MpB w' A mb z/\PoY w' A pb (.pointer none) (.pointer none) (.pointer none) (.pointer (some ⟨mb,0,none⟩))/\Only (fun k=>k=pb) w w':=by
 have HA:=zh (fun (wx:World) (b4 b6:Nat) (m:Value) (hs:RcS w A pb b4 b6 m wx)=>h.only hs.only hF hn);have HST:=zh (show RcS w A pb w.heap.size (w.heap.size+1) (.pointer none) ((w.alloc (.cells zrC 173)).alloc (.cells zrC 173)) from by
  have hlt:=heap_lt hp;have e:(w.alloc (.cells zrC 173)).heap.size=w.heap.size+1:=by simp
  refine ⟨Only.of_below (ZA (ZA bR)),(ZK (by rw [e];omega)).trans ((ZK hlt).trans hp),(ZK (by rw [e];omega)).trans (ZC _ _),?_,⟨nR,Nat.le_succ _,by omega,hlt⟩⟩;rw [<-e];exact ZC _ _)
 have HF:=zh hF;have H0:=zh h0;have H1:=zh h1;have HZ:=zh hz;have HU:=zh hu;clear h h0 h1 hz hu hF hn hp;unfold zrC at *;go_in;go_upto_region 2 with fail;obtain ⟨w1,hw1⟩:=xE ((w.alloc (.cells #[.int .i64 0,.int .i64 0,.int .i64 0] 173)).alloc (.cells #[.int .i64 0,.int .i64 0,.int .i64 0] 173));obtain ⟨b6,hb6⟩:=xE (w.heap.size+1);obtain ⟨b4,hb4⟩:=xE w.heap.size;rw [<-hw1,<-hb6] at HST;have HB6:=zh hb6;have HB4:=zh hb4;rw [<-hw1,<-hb6];have HS1:=zh (show RcS w A pb b4 b6 (.pointer none) w1 by rw [hb4];exact HST.o);rw [<-hb4];clear hw1 hb6 hb4 HST;go_wp2_with fail;refine (ZGD (HA.o _ _ _ _ HS1.o) HS1.o.po.psc).mono ?_;rintro e w2 ⟨lg,rfl,hlg,hb2⟩;have HS2:=zh (HS1.o.below hb2);have HLG:=zh hlg;clear hlg hb2 HS1;go_wp2_with fail;refine (ZAP (HA.o _ _ _ _ HS2.o) HZ.o HLG.o).mono ?_;rintro e w3 ⟨rfl,hb3⟩;have HS3:=zh (HS2.o.below hb3);clear hb3 HS2 HLG;obtain ⟨r0,r1,r2,f0,f1,f2⟩:=ZY HS3.o.h6;go_upto_region 8 with fail;have HS4:=zh (HS3.o.set6 (i:=0) (by omega));obtain ⟨w4,hw4⟩:=xE (w3.setCell ⟨b6,0,none⟩ (.int .i64 0));rw [<-hw4] at HS4 ⊢;clear hw4 HS3 r0 r1 r2 f0 f1 f2;go_wp2_with fail;refine (ZGF (HA.o _ _ _ _ HS4.o) HS4.o.po.psc).mono ?_;rintro e w5 ⟨ul,rfl,hul,hb5⟩;have HS5:=zh (HS4.o.below hb5);have HUL:=zh hul;clear hul hb5 HS4;go_wp2_with fail;refine (ZDN (HA.o _ _ _ _ HS5.o) HU.o HUL.o).mono ?_;rintro e w6 ⟨rfl,hb6⟩;have HS6:=zh (HS5.o.below hb6);clear hb6 HS5 HUL;obtain ⟨r0,r1,r2,f0,f1,f2⟩:=ZY HS6.o.h6;go_upto_region 14 with fail;have HS7:=zh (HS6.o.set6 (i:=1) (by omega));obtain ⟨w7,hw7⟩:=xE (w6.setCell ⟨b6,1,none⟩ (.int .i64 0));rw [<-hw7] at HS7 ⊢;clear hw7 HS6 r0 r1 r2 f0 f1 f2;obtain ⟨p1,p2,p3,p4,p5,p6,p7,p8⟩:=HS7.o.po.psc;have HRG:=zh (ZE3 (w:=w7) (r:=4) (a:=62) (b:=8) (by omega) rfl rfl);unfold sup0 Sup.val at HRG;go_wp2_with fail;refine HRG.o.mono ?_;rintro e w8 ⟨rfl,hb8⟩;have HS8:=zh (HS7.o.below hb8);clear hb8 HS7 p1 p2 p3 p4 p5 p6 p7 p8 HRG;obtain ⟨q0,q12,qf⟩:=HS8.o.po.cc;go_wp2_with fail;refine (ZF2 (HA.o _ _ _ _ HS8.o) H0.o H1.o).mono ?_;rintro e w9 ⟨mb,z,rfl,hm,hb9,hmn⟩;have HS9:=zh (HS8.o.below hb9);have HM9:=zh hm;have HMN:=zh (ZLi HS8.o.only.size hmn);clear hb9 hm hmn HS8 q0 q12 qf;obtain ⟨q0,q12,qf⟩:=HS9.o.po.cc;have q12f:=qf 12;go_upto_region 18 with fail;have hne:mb≠pb:=fun e=>by have h1:=HM9.o.1;rw [e,HS9.o.po] at h1;simp [poX] at h1
 have hne2:z≠pb:=fun e=>by have h1:=HM9.o.2;rw [e,HS9.o.po] at h1;simp [poX] at h1
 have HS10:=zh (HS9.o.set12 (.pointer (some ⟨mb,0,none⟩)));have HM10:=zh (show MpB (w9.setCell ⟨pb,12,none⟩ (.pointer (some ⟨mb,0,none⟩))) A mb z from ⟨(ZG hne).trans HM9.o.1,(ZG hne2).trans HM9.o.2⟩);obtain ⟨w10,hw10⟩:=xE (w9.setCell ⟨pb,12,none⟩ (.pointer (some ⟨mb,0,none⟩)));rw [<-hw10] at HS10 HM10 ⊢;clear hw10 HS9 HM9 q0 q12 qf q12f hne hne2;have HAW:=zh (HA.o _ _ _ _ HS10.o);have HID:=zh (fun (wx:World) (hb:Bl w10 wx)=>ZKp HAW.o (i:=0) (by omega) wx hb);have hmb:mb≠pb/\mb≠b4/\mb≠b6/\mb < w10.heap.size:=by
  refine ⟨fun e=>?_,fun e=>?_,fun e=>?_,heap_lt HM10.o.1⟩ <;> have h1:=HM10.o.1 <;> rw [e] at h1
  ·rw [HS10.o.po] at h1;simp [poX] at h1
  ·rw [HS10.o.h4] at h1;simp [zrC] at h1
  ·rw [HS10.o.h6] at h1;simp [zrC] at h1
 have HMR:=zh (fun (wx:World) (hb:Bl w10 wx)=>(ZCl (HAW.o.below hb) H0.o H1.o (HM10.o.below hb)).mono (R':=fun e w'=>e=.returned (.tuple #[.int .i64 0,.int .i64 0])/\MpB w' A mb z/\Only (fun k=>k=mb) w10 w'/\PoY w' A pb (.pointer none) (.pointer none) (.pointer none) (.pointer (some ⟨mb,0,none⟩))/\w'.heap[b6]?=some (.cells zrC 173 (0,0))) fun e w' ⟨h1,h2,h3⟩=>⟨h1,h2,(Only.of_below (F:=fun k=>k=mb) hb).trans h3 (fun _ _ q=>q),(h3.block _ (heap_lt (HS10.o.below hb).po) (fun e=>hmb.1 e.symm)).trans (HS10.o.below hb).po,(h3.block _ (heap_lt (HS10.o.below hb).h6) (fun e=>hmb.2.2.1 e.symm)).trans (HS10.o.below hb).h6⟩);have hbz:z≠b6/\z≠b4:=by
  refine ⟨fun e=>?_,fun e=>?_⟩ <;> have h1:=HM10.o.2 <;> rw [e] at h1
  ·rw [HS10.o.h6] at h1;simp [zrC] at h1
  ·rw [HS10.o.h4] at h1;simp [zrC] at h1
 have HBZ:=zh hbz;clear hbz;have HMB:=zh hmb;have HNB:=zh (show pb≠b6 from by have:=HS10.o.nw;omega);clear hmb;have HKP:=zh (fun (wx:World) (hb:Bl w10 wx)=>show wx.cell? ⟨pb,12,none⟩=some (.pointer (some ⟨mb,0,none⟩)) from (HS10.o.below hb).po.cc.2.1);have HR:=zh (Below.refl w10.heap.size w10);have q12:=HKP.o _ HR.o;obtain ⟨r0,r1,r2,f0,f1,f2⟩:=ZY HS10.o.h6
 go_region_held3 (fun wx=>wx.cell? ⟨pb,12,none⟩=some (.pointer (some ⟨mb,0,none⟩)))
  (first|exact hq.cc.2.1|exact (hq.setne HNB.o).cc.2.1|exact HKP.o _ (by repeat (with_reducible first|assumption|exact HR.o|apply ZA|apply ZB)))
  (first
    |(go_at_call 87;refine (HID.o _ (by repeat (with_reducible first|assumption|exact HR.o|apply ZA|apply ZB))).mono ?_;rintro e V1 ⟨rfl,rfl⟩)
    |(go_at_call 210;refine (HMR.o _ (by repeat (with_reducible first|assumption|exact HR.o|apply ZA|apply ZB))).mono ?_;rintro e V1 ⟨rfl,hm1,ho1,hq,hz6⟩;obtain ⟨r0,r1,r2,f0,f1,f2⟩:=ZY hz6))
 all_goals
  have HW1:=zh (show RcS w A pb b4 b6 (.pointer (some ⟨mb,0,none⟩)) V1 from ⟨HS10.o.only.trans ho1 (fun k hk q=>by have:=HMN.o;omega),hq,(ho1.block _ (heap_lt HS10.o.h4) (fun e=>HMB.o.2.1 e.symm)).trans HS10.o.h4,hz6,HS10.o.nw⟩);have HM1:=zh (show MpB (V1.setCell ⟨b6,2,none⟩ (.int .i64 0)) A mb z from ⟨(ZG HMB.o.2.2.1).trans hm1.1,(ZG HBZ.o.1).trans hm1.2⟩);have HW2:=zh (HW1.o.set6 (i:=2) (by omega));clear hm1 ho1 hq hz6 r0 r1 r2 f0 f1 f2 q12 HW1;obtain ⟨w11,hw11⟩:=xE (V1.setCell ⟨b6,2,none⟩ (.int .i64 0));rw [<-hw11] at HW2 HM1 ⊢;clear hw11;obtain ⟨r0,r1,r2,f0,f1,f2⟩:=ZY HW2.o.h6;obtain ⟨s0,s1,s2,g0,g1,g2⟩:=ZY HW2.o.h4;have HL:=zh (show ∀ j v,#[Value.int .i64 0,.int .i64 0,.int .i64 0].toList[j]?=some v->w11.cell? ⟨b6,0+j,none⟩=some v from fun j v hv=>by
   rw [ZLu];exact (ZD HW2.o.h6).trans ((ZLx (xs:=#[Value.int .i64 0,.int .i64 0,.int .i64 0])▸hv)))
  have HT:=zh (show w11.there b4 0 3 from fun j hj=>by
   rw [ZLu];rcases (show j=0\/j=1\/j=2 by omega) with rfl|rfl|rfl
   ·exact ⟨by rw [s0];rfl,g0⟩
   ·exact ⟨by rw [s1];rfl,g1⟩
   ·exact ⟨by rw [s2];rfl,g2⟩)
  have HW3:=zh (HW2.o.set4);have HM3:=zh (show MpB (w11.setCells b4 0 #[.int .i64 0,.int .i64 0,.int .i64 0].toList) A mb z from ⟨(ZG HMB.o.2.1).trans ((ZG HMB.o.2.1).trans ((ZG HMB.o.2.1).trans HM1.o.1)),(ZG HBZ.o.2).trans ((ZG HBZ.o.2).trans ((ZG HBZ.o.2).trans HM1.o.2))⟩);go_wp2_with (first|refine Vw rfl 173 _ rfl b6 0 rfl #[.int .i64 0,.int .i64 0,.int .i64 0] _ HL.o underlying173 rfl (by kernel_rfl) ?_|refine VY rfl 173 _ _ rfl b4 0 #[.int .i64 0,.int .i64 0,.int .i64 0] (by rfl) (by rfl) HT.o (by kernel_rfl) (by kernel_rfl) ?_);refine bodyPost_ret (VQ rfl _ _ b4 173 #[.int .i64 0,.int .i64 0,.int .i64 0] (0,0) _ rfl HW3.o.h4 underlying173 rfl (by kernel_rfl)) rfl ?_
  first|exact ⟨rfl,mb,z,HM3.o,HW3.o.po,HW3.o.only⟩|exact ⟨rfl,mb,⟨z,HM3.o⟩,HW3.o.po,HW3.o.only⟩
variable {H:HAd}{lk:Bool}{p p':Nat->Plc}{ex:Nat}{res held:Nat->Option Nat}
theorem ZBb (h:Ar w A F L T c)(hp:HpW w A H lk)(hr:QJ w H.rb ex res){k:Chk}{line:Nat}(hl:line+32<=L)(hR:CRep T c (8 * line) k)(hk:0<=k.cl){i j:Nat}(hij:i < j)(hj:j < perN k)(hf0:k.free 0=(i:Int))(hu0:k.used i=false)(hf:k.free (i+1)=(j:Int))(hu:k.used j=false){kind q:Nat}(hkd:1<=kind/\kind<=127)(hn0:res (k.pay line i)=some q)(hn:res (k.pay line j)=none):
 Calls prog 145 #[.pointer (some ⟨H.hb,0,none⟩),.int .i64 line,.int .u8 kind] w fun e w'=>e=.returned (.tuple #[.int .u64 (k.ptr line j kind),.int .i64 0])/\Bl w w':=by
 have hL:=h.lines;have hgd:=hR.good hk;have hz:=hR.head.sizes.2.2.1;have HOP:=zh (fun w1 (hb:Bl w w1)=>Y3 (h.below hb) hp.t hl hR hk);have HFR:=zh (fun w1 (hb:Bl w w1)=>hf0▸V7 (h.below hb) hp.t hl hR hk 0 (by omega));have HFS:=zh (fun w1 (hb:Bl w w1)=>hf▸V7 (h.below hb) hp.t hl hR hk (i+1) (by omega));have HPT:=zh (fun w1 (hb:Bl w w1)=>Xk (h.below hb) hp.t hl hR hk hj hu hkd);have HPS:=zh (fun w1 (hb:Bl w w1)=>Xk (h.below hb) hp.t hl hR hk (j:=i) (by omega) hu0 hkd);have HER:=zh (fun w1 hb=>Zs h hp.t w1 hb)
 have hpp:∀ m,m < perN k->ZP (k.ptr line m kind)=k.pay line m/\k.ptr line m kind < 72057594037927936:=fun m hm=>
  ⟨(ZAy hR.head (line:=line) (kind:=kind) (hgd m hm).gen.2 hm (by omega) (by omega)).1,ZHv hR.head (line:=line) (kind:=kind) (hgd m hm).gen.2 hm (by omega) (by omega)⟩
 have HOF:=zh (fun (m:Nat) (hm:m < perN k) (w1:World)=>(hpp m hm).1▸YJ (w:=w1) (p:=k.ptr line m kind) (by have:=(hpp m hm).2;omega));have HLK:=zh (fun (m:Nat) (hm:m < perN k) (w1:World) (hb:Bl w w1)=>(hr.kept (hb.block _ hr.lt)).look2 underlying31 underlying154 (ZKX _) (n:=k.pay line m) (wfU (by have h1:=VL (k.ptr line m kind);rw [(hpp m hm).1] at h1;omega)));unfold cPtr at HLK;simp only at HLK;have HLI:=zh (fun w1 hb=>HLK.o i (by omega) w1 hb);have HLJ:=zh (fun w1 hb=>HLK.o j hj w1 hb);rw [hn0] at HLI;rw [hn] at HLJ;have HOI:=zh (HOF.o i (by omega));have HOJ:=zh (HOF.o j hj);obtain ⟨P,hP⟩:=xE (k.ptr line j kind);rw [<-hP] at HPT HOJ ⊢;obtain ⟨O,hO⟩:=xE (k.pay line j);rw [<-hO] at HOJ HLJ;obtain ⟨Q,hQ⟩:=xE (k.ptr line i kind);rw [<-hQ] at HPS HOI;obtain ⟨S,hS⟩:=xE (k.pay line i);rw [<-hS] at HOI HLI;have HH:=zh hp;have HB:=zh (Below.refl w.heap.size w);obtain ⟨ti,hti⟩:=xE H.t;rw [<-hti] at HER HOP HFR HFS HPT HPS;have HTI:=zh hti;obtain ⟨c0,_⟩:=Z5 hp.hp;rw [<-HTI.o] at c0;have d1:(j:Int)>=0:=by omega
 have d2:(i:Int)>=0:=by omega
 have b62:(i:Int) < 62:=by omega
 have HIJ:=zh hij;unfold chV Xv ptr at *;clear h hp hr hl hR hk hij hj hf0 hu0 hf hu hkd hn0 hn hL hgd hz hpp HOF HLK hP hO hQ hS hti;go_in;go_wp2_with fail;refine (HOP.o _ HB.o).mono ?_;rintro e x1 ⟨rfl,hb⟩;replace HB:=zh (ZA (o:=.cells #[.iface 116 (.pointer (some ⟨A.t ti,0,none⟩)),.int .i64 line,.int .i64 k.cl,.int .i64 k.ow,.int .u16 k.gen] 211) (HB.o.trans (hb.mono HB.o.size)));have HC:=zh (CBox.new (w:=x1) (A:=A) (i:=ti) (line:=line) (k:=k));clear hb c0;obtain ⟨b0,b1,b2,b3,b4⟩:=id HC.o;go_wp2_with fail;refine (HFR.o _ HB.o).mono ?_;rintro e x2 ⟨rfl,hb⟩;replace HB:=zh (HB.o.trans (hb.mono HB.o.size));replace HC:=zh (HC.o.below hb);clear hb b0 b1 b2 b3 b4;go_wp2_with fail
 go_loopw [10] (fun v wr=>(v=.int .i64 i\/v=.int .i64 j)/\Bl x2 wr) (fun v _=>j - (intOf v).toNat)
 case atStart=>exact ⟨.inl rfl,bR⟩
 case round=>
  obtain ⟨hv,hb⟩:=hrel;replace HB:=zh (HB.o.trans (hb.mono HB.o.size));have HC2:=zh (HC.o.below hb);have HX:=zh hb;clear hb;obtain ⟨b0,b1,b2,b3,b4⟩:=id HC2.o;rcases hv with rfl|rfl
  ·go_wp2_with fail
   refine (HPS.o _ HB.o).mono ?_;rintro e x3 ⟨rfl,hb⟩;replace HB:=zh (HB.o.trans (hb.mono HB.o.size));replace HX:=zh (HX.o.trans (hb.mono HX.o.size));replace HC2:=zh (HC2.o.below hb);clear hb b0 b1 b2 b3 b4;obtain ⟨c0,_,_,_,c4,_⟩:=Z5 (HH.o.below HB.o).hp;rw [<-HTI.o] at c0;go_wp2_with fail;refine (HER.o _ HB.o).mono ?_;rintro e w' ⟨rfl,rfl⟩;go_wp2_with fail;have k4:=fun q:BW x3=>ZW c4 q
   have HOF4:=zh (fun q:BW x3=>Y2 (HOI.o q.v));have hlk:=fun q:BW x3=>HLI.o q.v (HB.o.trans (q.h.mono HB.o.size))
   refine Zv (by kernel_rfl) (by kernel_rfl) ?_
   repeat (quiet_step (first
    |(go_at_call 53;exact HOF4.o _)))
   refine wpQuiet_nil ?_;rintro _ ⟨q,rfl⟩;have HB5:=zh (HB.o.trans (q.h.mono HB.o.size));have HX5:=zh (HX.o.trans (q.h.mono HX.o.size));obtain ⟨b0,b1,b2,b3,b4⟩:=id (HC2.o.below q.h);clear k4 hlk c0 c4;go_wp2_with fail;refine (HFS.o _ HB5.o).mono ?_;rintro e x6 ⟨rfl,hb⟩;have HX6:=zh (HX5.o.trans (hb.mono HX5.o.size));clear hb b0 b1 b2 b3 b4;go_wp2_with fail;go_roundw
   case rel=>exact ⟨.inr rfl,HX6.o⟩
   case measure=>have:=HIJ.o;simp [intOf];omega
  ·go_wp2_with fail
   refine (HPT.o _ HB.o).mono ?_;rintro e x3 ⟨rfl,hb⟩;replace HB:=zh (HB.o.trans (hb.mono HB.o.size));clear hb b0 b1 b2 b3 b4;obtain ⟨c0,_,_,_,c4,_⟩:=Z5 (HH.o.below HB.o).hp;rw [<-HTI.o] at c0;go_wp2_with fail;refine (HER.o _ HB.o).mono ?_;rintro e w' ⟨rfl,rfl⟩;go_wp2_with fail;have k4:=fun q:BW x3=>ZW c4 q
   have HOF4:=zh (fun q:BW x3=>Y2 (HOJ.o q.v));have hlk:=fun q:BW x3=>HLJ.o q.v (HB.o.trans (q.h.mono HB.o.size))
   refine Zv (by kernel_rfl) (by kernel_rfl) ?_
   repeat (quiet_step (first
    |(go_at_call 53;exact HOF4.o _)))
   refine wpQuiet_nil ?_;rintro _ ⟨q,rfl⟩;have HB5:=zh (HB.o.trans (q.h.mono HB.o.size));clear k4 hlk c0 c4;go_wp2;go_returns;exact ⟨rfl,HB5.o⟩
theorem ZCn (w:World)(v:Value)(k:Nat):(nilAhead (k+1) 37 v "Alloc").run prog w=.ok (some false) w:=by kernel_rfl
theorem ZCc {db P:Nat}{Q:World->Prop}(hal:Calls prog 36 #[.pointer (some ⟨db,0,none⟩),.int .i64 (60:Nat),.int .u8 (12:Nat)] w fun e w'=>e=.returned (.tuple #[.int .u64 P,.int .i64 0])/\Q w'):
 Calls prog 35 #[.iface 37 (.pointer (some ⟨db,0,none⟩))] w fun e w'=>∃ w1,Q w1/\e=.returned (.tuple #[.int .u64 P,.slice (some ⟨w1.heap.size,0,none⟩) 1 1,.int .i64 0])/\w'=w1.alloc (.cells #[.int .u64 P] 32):=by
 have HAL:=zh hal;have hna:=ZCn;clear hal;go_in;go_wp2_with fail;refine HAL.o.mono ?_;rintro e w1 ⟨rfl,hq⟩;go_wp2;go_returns;exact ⟨w1,hq,rfl,rfl⟩
theorem Jt {b:Nat}(h1:97<=b)(h2:b<=122):Calls prog 148 #[.int .u8 b] w fun e w'=>e=.returned (.bool true)/\w=w':=by
 have d1:(97:Int)<=b:=by omega
 have d2:(b:Int)<=122:=by omega
 have d3:decide ((65:Int)<=b)=true:=by simp;omega
 have d4:decide ((b:Int)<=90)=false:=by simp;omega
 have d5:decide ((97:Int)<=b)=true:=by simp;omega
 have d6:decide ((b:Int)<=122)=true:=by simp;omega
 clear h1 h2;go_in;go_wp2;go_returns;exact ⟨rfl,rfl⟩
theorem ZJE:Calls prog 90 #[.string {data:=#[108,105,109,98,111]}] w fun e w'=>e=.returned (.bool true)/\w=w':=by
 have HL:=zh (fun (b:Nat) (h1:97<=b) (h2:b<=122) (wx:World)=>Jt (w:=wx) h1 h2);go_in;go_wp2_with fail;refine (HL.o 108 (by omega) (by omega) _).mono ?_;rintro e w' ⟨rfl,rfl⟩;go_wp2_with fail
 go_loopw [19] (fun i wr=>∃ m:Nat,m<=5/\i=.int .i64 m/\w=wr) (fun i _=>5 - (intOf i).toNat)
 case atStart=>exact ⟨0,by omega,rfl,rfl⟩
 case round=>
 obtain ⟨m,hm,rfl,hw⟩:=hrel;subst hw
 by_cases hlt:m < 5
 ·rcases (show m=0\/m=1\/m=2\/m=3\/m=4 by omega) with rfl|rfl|rfl|rfl|rfl
  ·clear hm hlt
   go_wp2_with fail;refine (HL.o 108 (by omega) (by omega) _).mono ?_;rintro e w' ⟨rfl,rfl⟩;go_wp2_with fail;go_roundw
   case rel=>exact ⟨1,by omega,by first|rfl|simp,by first|rfl|simp⟩
   case measure=>simp [intOf]
  ·clear hm hlt
   go_wp2_with fail;refine (HL.o 105 (by omega) (by omega) _).mono ?_;rintro e w' ⟨rfl,rfl⟩;go_wp2_with fail;go_roundw
   case rel=>exact ⟨2,by omega,by first|rfl|simp,by first|rfl|simp⟩
   case measure=>simp [intOf]
  ·clear hm hlt
   go_wp2_with fail;refine (HL.o 109 (by omega) (by omega) _).mono ?_;rintro e w' ⟨rfl,rfl⟩;go_wp2_with fail;go_roundw
   case rel=>exact ⟨3,by omega,by first|rfl|simp,by first|rfl|simp⟩
   case measure=>simp [intOf]
  ·clear hm hlt
   go_wp2_with fail;refine (HL.o 98 (by omega) (by omega) _).mono ?_;rintro e w' ⟨rfl,rfl⟩;go_wp2_with fail;go_roundw
   case rel=>exact ⟨4,by omega,by first|rfl|simp,by first|rfl|simp⟩
   case measure=>simp [intOf]
  ·clear hm hlt
   go_wp2_with fail;refine (HL.o 111 (by omega) (by omega) _).mono ?_;rintro e w' ⟨rfl,rfl⟩;go_wp2_with fail;go_roundw
   case rel=>exact ⟨5,by omega,by first|rfl|simp,by first|rfl|simp⟩
   case measure=>simp [intOf]
 ·obtain rfl:m=5:=by omega
  clear hm hlt;go_wp2;go_returns;exact ⟨rfl,rfl⟩
theorem ZJD:Calls prog 90 #[.string {data:=#[97,110,99,104,111,114]}] w fun e w'=>e=.returned (.bool true)/\w=w':=by
 have HL:=zh (fun (b:Nat) (h1:97<=b) (h2:b<=122) (wx:World)=>Jt (w:=wx) h1 h2);go_in;go_wp2_with fail;refine (HL.o 97 (by omega) (by omega) _).mono ?_;rintro e w' ⟨rfl,rfl⟩;go_wp2_with fail
 go_loopw [19] (fun i wr=>∃ m:Nat,m<=6/\i=.int .i64 m/\w=wr) (fun i _=>6 - (intOf i).toNat)
 case atStart=>exact ⟨0,by omega,rfl,rfl⟩
 case round=>
 obtain ⟨m,hm,rfl,hw⟩:=hrel;subst hw
 by_cases hlt:m < 6
 ·rcases (show m=0\/m=1\/m=2\/m=3\/m=4\/m=5 by omega) with rfl|rfl|rfl|rfl|rfl|rfl
  ·clear hm hlt
   go_wp2_with fail;refine (HL.o 97 (by omega) (by omega) _).mono ?_;rintro e w' ⟨rfl,rfl⟩;go_wp2_with fail;go_roundw
   case rel=>exact ⟨1,by omega,by first|rfl|simp,by first|rfl|simp⟩
   case measure=>simp [intOf]
  ·clear hm hlt
   go_wp2_with fail;refine (HL.o 110 (by omega) (by omega) _).mono ?_;rintro e w' ⟨rfl,rfl⟩;go_wp2_with fail;go_roundw
   case rel=>exact ⟨2,by omega,by first|rfl|simp,by first|rfl|simp⟩
   case measure=>simp [intOf]
  ·clear hm hlt
   go_wp2_with fail;refine (HL.o 99 (by omega) (by omega) _).mono ?_;rintro e w' ⟨rfl,rfl⟩;go_wp2_with fail;go_roundw
   case rel=>exact ⟨3,by omega,by first|rfl|simp,by first|rfl|simp⟩
   case measure=>simp [intOf]
  ·clear hm hlt
   go_wp2_with fail;refine (HL.o 104 (by omega) (by omega) _).mono ?_;rintro e w' ⟨rfl,rfl⟩;go_wp2_with fail;go_roundw
   case rel=>exact ⟨4,by omega,by first|rfl|simp,by first|rfl|simp⟩
   case measure=>simp [intOf]
  ·clear hm hlt
   go_wp2_with fail;refine (HL.o 111 (by omega) (by omega) _).mono ?_;rintro e w' ⟨rfl,rfl⟩;go_wp2_with fail;go_roundw
   case rel=>exact ⟨5,by omega,by first|rfl|simp,by first|rfl|simp⟩
   case measure=>simp [intOf]
  ·clear hm hlt
   go_wp2_with fail;refine (HL.o 114 (by omega) (by omega) _).mono ?_;rintro e w' ⟨rfl,rfl⟩;go_wp2_with fail;go_roundw
   case rel=>exact ⟨6,by omega,by first|rfl|simp,by first|rfl|simp⟩
   case measure=>simp [intOf]
 ·obtain rfl:m=6:=by omega
  clear hm hlt;go_wp2;go_returns;exact ⟨rfl,rfl⟩
theorem ZD0 (w:World):(isAgg 31).run prog w=.ok false w:=by kernel_rfl
theorem ZGR (w:World):(sizeOf 31).run prog w=.ok 1 w:=by kernel_rfl
theorem ZLI {cs:Array Value}{m:Nat}{v:Value}(hm:m < 4)(hg:cs[m]?=some v)(w:World):(Instr.index 113 (.agg cs) (.int .i64 (m:Int))).run prog w=.ok v w:=by
 unfold Instr.index;have hm':(0:Int)<=m/\(m:Int) < (4:Nat):=by omega
 simp only [Sem.run_bind,asIntOf,Sem.run_pure,Result.andThen_ok,run_underlying underlying113];rw [ZLX hm'];simp only [Sem.run_bind,ZGR,Result.andThen_ok,part,ZD0,Int.toNat_natCast,Nat.mul_one,hg];rfl
def PkR (s:ByteArray)(a:Nat):Prop:=∀ wx,Calls prog 151 #[.string s] wx fun r w'=>r=.returned (.agg #[.int .u64 a,.int .u64 0])/\Bl wx w'
def ZKb (W:World)(T:Nat->Nat)(e a P:Nat)(v i:Value)(wr:World):Prop:=
 ∃ m:Nat,m<=4/\i=.int .i64 (m:Nat)/\wr.ownsRow W.heap.size 138 2 v m (ZT ((JG T e a P).take m))/\Bl W wr
theorem ZFW (T:Nat->Nat)(e a P:Nat)(m:Nat)(hm:m < 4):ZT ((JG T e a P).take (m+1))=ZT ((JG T e a P).take m)++[.int .u64 (8 * (16+(e * 4+m)):Nat),.int .u64 (([a,0,P,4294967296+UE T [a,0]]:List Nat).getD m 0:Nat)]:=by
 unfold JG;rcases (show m=0\/m=1\/m=2\/m=3 by omega) with rfl|rfl|rfl|rfl
 ·rw [show 8 * (16+(e * 4+0))=128+32 * e by omega];rfl
 ·rw [show 8 * (16+(e * 4+1))=136+32 * e by omega];rfl
 ·rw [show 8 * (16+(e * 4+2))=144+32 * e by omega];rfl
 ·rw [show 8 * (16+(e * 4+3))=152+32 * e by omega];rfl
theorem ZGI {rb:Nat}(hr:RtB w A rb)(hT:NTab w T){e a P:Nat}(he:e < 16)(ha:a < 18446744073709551616){s:ByteArray}(hpk:PkR s a):
 Calls prog 95 #[.pointer (some ⟨rb,0,none⟩),.int .i64 e,.string s,.int .u64 P] w fun r w'=>∃ v,r=.returned v/\Wrs w' v (JG T e a P)/\Bl w w':=by
 have HAT:=zh (fun (wx:World) (hb:Bl w wx) (k:Nat) (hk:k < 4)=>ZBp (hr.below hb) he hk);have HTG:=zh (fun (wx:World) (hb:Bl w wx) (p q:Nat)=>ZH7 (p:=p) (q:=q) (hT.below hb nR) ha (b:=0) (by omega));have hk:=VB hT [a,0];have HPK:=zh hpk;obtain ⟨TG,hTG⟩:=xE (4294967296+UE T [a,0]);rw [<-hTG] at HTG;have HTE:=zh hTG;obtain ⟨w1,hw1⟩:=xE (w.alloc (.cells #[.int .u64 0,.int .u64 0,.int .u64 0,.int .u64 0] 113));have HX1:=zh (show w1.heap[w.heap.size]?=some (.cells #[.int .u64 0,.int .u64 0,.int .u64 0,.int .u64 0] 113 (0,0)) by rw [hw1];exact ZC _ _);have HB1:=zh (show Bl w w1 by rw [hw1];exact ZA bR);obtain ⟨g,hg⟩:=xE w.heap.size;have HGN:=zh hg;rw [<-hg] at HX1;clear hr hT he ha hpk hk hTG;go_in;go_upto_region 2 with fail;rw [<-hw1,<-hg];clear hw1 hg;go_wp2_with fail;refine (HPK.o _).mono ?_;rintro r w2 ⟨rfl,hb2⟩;have HB2:=zh (HB1.o.trans (hb2.mono HB1.o.size));have HX2:=zh ((hb2.block _ (heap_lt HX1.o)).trans HX1.o);clear hb2 HPK;go_upto_region 3 with fail;obtain ⟨w3,hw3⟩:=xE ((w2.alloc (.cells #[.int .u64 a,.int .u64 0] 268)).drew);obtain ⟨q,hq⟩:=xE w2.heap.size;have h23:Bl w2 w3:=by rw [hw3];exact ZB (ZA bR)
 have HX3:=zh ((h23.block _ (heap_lt HX2.o)).trans HX2.o);have HQ3:=zh (show w3.heap[q]?=some (.cells #[.int .u64 a,.int .u64 0] 268 (0,0)) by rw [hw3,hq];exact ZC _ _);have HB3:=zh (HB2.o.trans (h23.mono HB2.o.size));have HS0:=zh (show True from trivial);refine Zy 2 (fun wx=>True) (by kernel_rfl) ?_;rw [<-hw3,<-hq];clear hw3 hq h23;refine Y0 (i:=0) (z:=2) (v:=.slice (some ⟨g,0,none⟩) 4 4) rfl (by kernel_rfl) (fun _ _ _ h=>h) HS0.o rfl (fun w' hc=>by go_simp) ?_
 (try simp only [Act.put,ZLe,ZLY,ZLa,ZLT,ZLV,ZLW])
 refine Y0 (i:=1) (z:=2) (v:=.slice (some ⟨q,0,none⟩) 2 2) rfl (by kernel_rfl) (fun _ _ _ h=>h) HS0.o rfl (fun w' hc=>by go_simp) ?_
 (try simp only [Act.put,ZLe,ZLY,ZLa,ZLT,ZLV,ZLW])
 refine Vm (z:=2) (by kernel_rfl) rfl (by kernel_rfl) (by kernel_rfl) (fun K hK=>?_);have hcp:=fun ty=>run_copy_cells (P:=prog) w3 166 166 ty 31 g 0 4 4 ⟨q,0,none⟩ 2 2 [.int .u64 a,.int .u64 0] underlying166 (by kernel_rfl) rfl (fun j v hj=>by
  rcases j with _|_|j
  ·cases hj;rw [Addr.add_lit];exact (ZD HQ3.o).trans rfl
  ·cases hj;rw [Addr.add_lit];exact (ZD HQ3.o).trans rfl
  ·simp at hj) (fun j hj=>by
   rw [ZD HX3.o];rcases (show j=0\/j=1 by simp at hj;omega) with rfl|rfl <;> rfl) (fun j hj=>ZH HX3.o) (by simp [Value.oneCell'])
 refine Xr rfl (.tmp 16) (.tmp 17) _ _ rfl rfl rfl hcp ?_;refine hK _ _ ?_;clear hK K hcp;simp only [World.setCells];obtain ⟨w4,hw4⟩:=xE ((w3.setCell ⟨g,0,none⟩ (.int .u64 a)).setCell ⟨g,0+1,none⟩ (.int .u64 0));have HX4:=zh (show w4.heap[g]?=some (.cells #[.int .u64 a,.int .u64 0,.int .u64 0,.int .u64 0] 113 (0,0)) by rw [hw4];exact (ZI (ZI HX3.o)).trans rfl);have HB4:=zh (show Bl w w4 by rw [hw4];exact ZE (ZE HB3.o (by have:=HGN.o;omega)) (by have:=HGN.o;omega));rw [<-hw4];clear hw4 HX3 HQ3;obtain ⟨c0,c1,c2,c3,f0,f1,f2,f3⟩:=Ya HX4.o
 (try simp only [Act.put,ZLe,ZLY,ZLa,ZLT,ZLV,ZLW])
 go_upto_region 5 with fail;obtain ⟨w5,hw5⟩:=xE (w4.setCell ⟨g,2,none⟩ (.int .u64 P));have HX5:=zh (show w5.heap[g]?=some (.cells #[.int .u64 a,.int .u64 0,.int .u64 P,.int .u64 0] 113 (0,0)) by rw [hw5];exact (ZI HX4.o).trans rfl);have HB5:=zh (show Bl w w5 by rw [hw5];exact ZE HB4.o (by have:=HGN.o;omega));rw [<-hw5];clear hw5 c0 c1 c2 c3 f0 f1 f2 f3;obtain ⟨c0,c1,c2,c3,f0,f1,f2,f3⟩:=Ya HX5.o;go_wp2_with fail;refine (HTG.o _ HB5.o P 0).mono ?_;rintro r w6 ⟨rfl,hb6⟩;have HB6:=zh (HB5.o.trans (hb6.mono HB5.o.size));have HX6:=zh ((hb6.block _ (heap_lt HX5.o)).trans HX5.o);clear hb6 c0 c1 c2 c3 f0 f1 f2 f3;obtain ⟨c0,c1,c2,c3,f0,f1,f2,f3⟩:=Ya HX6.o;go_upto_region 7 with fail;obtain ⟨w7,hw7⟩:=xE (w6.setCell ⟨g,3,none⟩ (.int .u64 TG));have HX7:=zh (show w7.heap[g]?=some (.cells #[.int .u64 a,.int .u64 0,.int .u64 P,.int .u64 TG] 113 (0,0)) by rw [hw7];exact (ZI HX6.o).trans rfl);have HB7:=zh (show Bl w w7 by rw [hw7];exact ZE HB6.o (by have:=HGN.o;omega));rw [<-hw7];clear hw7 c0 c1 c2 c3 f0 f1 f2 f3;obtain ⟨c0,c1,c2,c3,f0,f1,f2,f3⟩:=Ya HX7.o;go_wp2_with fail
 go_loopw [11,25] (fun v i wr=>ZKb w T e a P v i wr) (fun _ i _=>4 - (intOf i).toNat)
 case atStart=>exact ⟨0,by omega,rfl,ZLn _ _ _ _,HB7.o⟩
 case round=>
 obtain ⟨m,hm,rfl,hown,hbel⟩:=hrel;have HB:=zh hbel;have HO:=zh hown;obtain ⟨ra,rc,hv⟩:=ZN hown;subst hv;clear hbel hown c0 c1 c2 c3 f0 f1 f2 f3
 by_cases hlt:m < 4
 ·have HL:=zh (fun (wx:World) (hb:Bl wr wx)=>HAT.o wx (HB.o.trans (hb.mono HB.o.size)) m hlt)
  have HDT:=zh (ZFW T e a P m hlt);rw [<-HTE.o] at HDT;obtain ⟨ov,hov⟩:∃ ov:Nat,ov=8 * (16+(e * 4+m)):=⟨_,rfl⟩
  rw [<-hov] at HL HDT;have HR:=zh (Below.refl wr.heap.size wr);obtain ⟨xv,hxv⟩:∃ xv:Nat,xv=([a,0,P,TG]:List Nat).getD m 0:=⟨_,rfl⟩
  rw [<-hxv] at HDT
  have hix:=fun wx=>ZLI (w:=wx) (cs:=#[.int .u64 a,.int .u64 0,.int .u64 P,.int .u64 TG]) (v:=.int .u64 xv) hlt (by
   rw [hxv];rcases (show m=0\/m=1\/m=2\/m=3 by omega) with rfl|rfl|rfl|rfl <;> rfl)
  have HM:=zh hlt;have d0:(m:Int) < 4:=by omega
  clear hov hm hxv hlt;go_wp2_with fail;refine (HL.o _ HR.o).mono ?_;rintro r V1 ⟨rfl,rfl⟩;go_wp2_with (at_builtin;refine ZS elWrites rfl _ _ rfl HO.o rfl rfl ?c1 rfl ?c2 ?c3 ?c4 ?c5 ?_)
  case c1=>rfl
  case c2=>first|rfl|exact ⟨rfl,rfl⟩|simp
  case c3=>unfold maxLen;omega
  case c4=>omega
  case c5=>exact HB.o.size
  intro g4 cap4 w5 hop5 hgr5 hg5
  have G:=zh (show ZKb w T e a P (.slice (some ⟨g4,0,none⟩) (m+1) cap4) (.int .i64 ((m+1:Nat):Int)) w5 from ⟨m+1,HM.o,rfl,by
   rw [HDT.o];exact hop5,ZL HB.o hgr5 HB.o.size (fun b hb=>(HO.o.lt b hb).1)⟩)
  clear hop5 hgr5 hg5;have hM:=HM.o;go_wp2_with fail;go_roundw
  case rel=>simpa using G.o
  case measure=>simp [intOf];omega
 ·obtain rfl:m=4:=by omega
  clear hm hlt;go_wp2;go_returns;refine ⟨_,rfl,?_,HB.o⟩;have ho:=HO.o;rcases ho.2 with ⟨_,e4⟩|⟨gg,cap,cur,e4,_⟩
  ·omega
  ·rw [e4] at ho ⊢
   exact .inr ⟨gg,0,cap,rfl,ZC9 ho⟩
theorem Uz (h:Ar w A F 160 T c) {rb:Nat} (hr:RtB w A rb) {nm:Nat->Option ByteArray} (hn:NmT (fun y=>c (16+y)) nm) {s:ByteArray} (hno:∀ m,m < 16->NeN nm m s)
 (hna:∀ wx,Calls prog 90 #[.string s] wx fun e w'=>e=.returned (.bool true)/\wx=w'){e a P:Nat}(he:e < 16)(h1:∀ m,m < e->c (16+(4 * m+3))≠0)(h0:c (16+(4 * e+3))=0)(ha:a < 18446744073709551616)(hpk:PkR s a)(hp:PtrOk P)(hp2:ZP P < 10240)(hp0:P≠0):
 Calls prog 37 #[.pointer (some ⟨rb,0,none⟩),.string s,.int .u64 P] w fun r w'=>∃ v,r=.returned (.tuple #[v,.int .i64 0])/\Wrs w' v (JG T e a P)/\Bl w w':=by
 have HNO:=zh (ZAz hr);have HNA:=zh hna;have HSZ:=zh (fun (w1:World) (hb:Bl w w1)=>Xp h (i:=0) (by omega) w1 hb);have HNL:=zh (fun (w1:World)=>show Calls prog 15 #[.int .u64 P] w1 (fun e w'=>e=.returned (.bool false)/\w1=w') from by
  have:=Zd (w:=w1) (p:=P);rw [ZLh hp0] at this;exact this)
 have HVL:=zh (fun (w1:World)=>Qx (w:=w1) hp hp2 (by omega));have HLD:=zh (fun (wx:World) (hb:Bl w wx)=>JW (h.below hb) (by omega) (hr.below hb));have HFD:=zh (fun (CS:Array Value) (hz:CS.size=64) (hc:∀ y,y < 64->CS[y]?=some (.int .u64 (c (16+y):Nat))) (wx:World)=>JV (w:=wx) (f:=fun y=>c (16+y)) hz hc hn (.inl ⟨rfl,hno⟩));have HFL:=zh (fun (wx:World) (hb:Bl w wx)=>ZGI (P:=P) (hr.below hb) (h.below hb).nib he ha hpk);have HT:=zh (show ∀ m,m<=e->(m < e->c (16+(4 * m+3))≠0)/\(m=e->c (16+(4 * m+3))=0) from fun m hm=>⟨h1 m,fun q=>by rw [q];exact h0⟩);have HE:=zh he;have HR:=zh (Below.refl w.heap.size w);have HRT:=zh (fun (wx:World) (hb:Bl w wx)=>(Yd (hr.below hb)).1);have c0:=HRT.o w HR.o;rw [show ((160 * 64:Nat):Int)=10240 by rfl] at HSZ;clear h hr hn hno hna he h1 h0 ha hpk hp hp2 hp0;go_in;go_wp2_with fail;refine HNO.o.mono ?_;rintro r w' ⟨rfl,rfl⟩;go_wp2_with fail;refine (HNA.o _).mono ?_;rintro r w' ⟨rfl,rfl⟩;go_wp2_with fail;refine (HNL.o _).mono ?_;rintro r w' ⟨rfl,rfl⟩;go_wp2_with fail;refine (HSZ.o _ HR.o).mono ?_;rintro r w' ⟨rfl,rfl⟩;go_wp2_with fail;refine (HVL.o _).mono ?_;rintro r w' ⟨rfl,rfl⟩;go_wp2_with fail;refine (HLD.o _ HR.o).mono ?_;rintro r w2 ⟨CS,rfl,hcs,hcg,hb2⟩;have HB2:=zh hb2;have HIX:=zh (fun (m:Nat) (hm:m < 16) (wx:World)=>ZHN (f:=fun y=>c (16+y)) hcs hcg hm wx);have HCZ:=zh hcs;have HF2:=zh (HFD.o CS hcs hcg);have HALL:=zh (show CS.all (·.oneCell')=true from by
  refine Array.all_eq_true_iff_forall_mem.2 fun v hv=>?_
  obtain ⟨j,hj,e⟩:=Array.getElem_of_mem hv;have hj64:j < 64:=by rw [hcs] at hj;exact hj
  have:=hcg j hj64;rw [ZL8 hj,e] at this;cases this;rfl)
 clear hb2 hcs hcg HLD HFD HNO HNA HVL HSZ c0;go_upto_region 8 with (refine wpList_store_row rfl 184 (.tmp 8) (.tmp 34) rfl w2.heap.size CS rfl rfl 184 _ (ZC _ _) (by rw [HCZ.o];kernel_rfl) (by rw [HCZ.o];rfl) HALL.o ?_)
 generalize hold:(Obj.cells _ 184 (0,0))=OB;obtain ⟨w3,hw3⟩:=xE ((w2.alloc OB).setRow w2.heap.size CS);obtain ⟨g,hg⟩:=xE w2.heap.size;have h23:Bl w2 w3:=by rw [hw3];exact Yi (ZA bR) nR CS
 have HC3:=zh (show w3.heap[g]?=some (.cells CS 184 (0,0)) by rw [hw3,<-hold,hg];exact setRow_heap _ _ _ _ _ _ (ZC _ _));have HB3:=zh (HB2.o.trans (h23.mono HB2.o.size));rw [<-hw3,<-hg];clear hw3 hold OB HALL h23 hg;go_wp2_with (refine wpList_load_row rfl 184 (.tmp 8) rfl g rfl 184 CS (0,0) _ HC3.o underlying184 rfl (by rw [HCZ.o];kernel_rfl) ?_);refine (HF2.o _).mono ?_;rintro r w4 ⟨rfl,hb4⟩;have HB4:=zh (HB3.o.trans (hb4.mono HB3.o.size));have HC4:=zh ((hb4.block _ (heap_lt HC3.o)).trans HC3.o);clear hb4;go_wp2_with fail;refine (HNL.o _).mono ?_;rintro r w' ⟨rfl,rfl⟩;go_wp2_with fail;refine (HNL.o _).mono ?_;rintro r w' ⟨rfl,rfl⟩;go_wp2_with (refine wpList_load_row rfl 184 (.tmp 8) rfl g rfl 184 CS (0,0) _ HC4.o underlying184 rfl (by rw [HCZ.o];kernel_rfl) ?_)
 go_loopw [67] (fun i wr=>∃ m:Nat,m<=e/\i=.int .i64 m/\Bl w4 wr) (fun i _=>16 - (intOf i).toNat)
 case atStart=>exact ⟨0,by omega,rfl,bR⟩
 case round=>
 obtain ⟨m,hm,rfl,hb⟩:=hrel;have hlt:m < 16:=by have:=HE.o;omega
 have d0:(m:Int) < 16:=by omega
 have hix:=HIX.o m hlt;have HB:=zh hb;have HM:=zh hm;have HL:=zh hlt;obtain ⟨t1,t0⟩:=HT.o m hm;unfold ZCO at hix;simp only at hix;obtain ⟨f0,hf0⟩:=xE (c (16+4 * m));obtain ⟨f1,hf1⟩:=xE (c (16+(4 * m+1)));obtain ⟨f2,hf2⟩:=xE (c (16+(4 * m+2)));obtain ⟨f3,hf3⟩:=xE (c (16+(4 * m+3)));rw [<-hf3] at t0 t1;rw [<-hf0,<-hf1,<-hf2,<-hf3] at hix;clear hb hm hlt hf0 hf1 hf2 hf3
 by_cases hme:m=e
 ·have t0:=t0 hme
  subst t0 hme;clear t1;go_wp2_with fail;have hbx:=fun o=>HB4.o.trans ((Zr (o:=o) HB.o HB.o.size).mono HB4.o.size)
  refine (HFL.o _ (hbx _)).mono ?_;rintro r w6 ⟨v,rfl,hw,hb6⟩;have HW:=zh hw;have HB6:=zh ((hbx _).trans (hb6.mono (hbx _).size));clear hw hb6 hbx;go_wp2;go_returns;exact ⟨v,rfl,HW.o,HB6.o⟩
 ·have t1:=t1 (by have:=HM.o;omega)
  have d3:((f3:Int) == 0)=false:=by simp;exact t1
  have HX:=zh (Zr (o:=.cells #[.int .u64 f0,.int .u64 f1,.int .u64 f2,.int .u64 f3] 113) HB.o HB.o.size);clear t0;have hM:=HM.o;have hl:=HL.o;go_wp2_with fail;go_roundw
  case rel=>exact ⟨m+1,by omega,by go_num,HX.o⟩
  case measure=>simp [intOf];omega
end
end Go.Proofs.YtbpeehmepehkdaaGreatDoor.Dv
