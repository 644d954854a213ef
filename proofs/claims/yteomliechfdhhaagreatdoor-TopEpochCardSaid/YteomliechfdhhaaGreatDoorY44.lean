/- Part 44. -/
import Derived.Test.YteomliechfdhhaaGreatDoorY43
import Derived.Test.YteomliechfdhhaaGreatDoorY34
set_option maxHeartbeats 8000000
set_option maxRecDepth 20000
set_option linter.all false
namespace Go.Proofs.YteomliechfdhhaaGreatDoor.Dv
open Tryz
section
open Go.RowKit Go.Proofs.YteomliechfdhhaaGreatDoor.Size
variable {w w':World}{A:DAd}{F F':Nat->Option ZK}{T c c':Nat->Nat}{x x' L:Nat}
theorem Aq.only {b:Nat}(h:Aq w A F L T c x)(ho:Only (fun k=>k=b) w w')(hF:F b=none)(hn:b≠1/\b≠0):Aq w' A F L T c x:=by
 obtain ⟨s,h1,_⟩:=h.dev;refine h.agree (fun k hk=>?_) ho.size;rcases hk with hk|rfl|rfl
 ·exact ho.block k (h1.lt k hk) (fun e=>hk (by rw [e];exact hF))
 ·exact ho.block _ h.nib.lt (fun e=>hn.1 e.symm)
 ·exact ho.block _ h.tab.lt (fun e=>hn.2 e.symm)
theorem Moved.setn {b i:Nat}{v:Value}{w0:World}(h:Moved F F' w0 w)(hb:w0.heap.size<=b):Moved F F' w0 (w.setCell ⟨b,i,none⟩ v):=
 ⟨⟨h.only.os,h.only.tape,h.only.output,by simpa [World.setCell] using h.only.size,fun k hk hn=>(ZF (by omega)).trans (h.only.block k hk hn)⟩,h.same⟩
theorem Moved.belowN {w0:World}(h:Moved F F' w0 w)(hb:Bl w w'):Moved F F' w0 w':=h.trans ⟨Only.of_below hb,fun _ _=>rfl⟩
theorem ZBB {H:HAd}{b n m:Nat}(h:Aq w A F L T c x)(hF:F' b=none)(h1:b < n)(hn:n<=H.hb/\n<=H.sb/\∀ k,H.own k->n<=k)(h2:w.heap.size<=b):Frn F' H b:=
 ⟨hF,fun q=>by have:=hn.2.2 _ q;omega,⟨by have:=hn.1;omega,by have:=hn.2.1;omega⟩,⟨by have:=h.nib.lt;omega,by have:=h.tab.lt;omega⟩⟩
theorem ZCY {P:Program} {fn:Func} {r p q:Tmp} {ty:TypeId} (h:fn.results=#[.tmp r,.cell p ty,.tmp q]) (tmps:Array Value) (w:World) (g:Nat) (t:TypeId) (cs:Array Value) (fr:Nat×Nat) (d:TypeDesc)
 (hp:tmps.getD p undef=.pointer (some ⟨g,0,none⟩)) (hg:w.heap[g]?=some (.cells cs t fr))
 (hu:P.underlying ty=some d)(hd:(match d with|.struct _|.array _ _=>true|_=>false)=true)(hi:(P.info? ty).map (·.size)=some cs.size):
 (results fn tmps).run P w=.ok (.tuple #[tmps.getD r undef,.agg cs,tmps.getD q undef]) w:=by
 have hp':tmps[p]?.getD undef=.pointer (some ⟨g,0,none⟩):=by simpa using hp
 simp [results,h,hp',asAddr,run_loadVar_row w g t ty cs fr d hg hu hd hi]
structure PoS (w0:World)(A:DAd)(pb b6 b9 b3:Nat)(h r k m:Value)(w:World):Prop where
 po:PoY w A pb h r k m
 h6:w.heap[b6]?=some (.cells #[.int .i64 1,.int .i64 160,.int .i64 26,.int .i64 26,.int .i64 8,.int .i64 0,.int .i64 0,.int .u64 1] 86 (0,0))
 h9:w.heap[b9]?=some (.cells zrC 130 (0,0))
 h3:w.heap[b3]?=some (.cells zrC 130 (0,0))
 nw:w0.heap.size<=pb/\w0.heap.size<=b6/\w0.heap.size<=b9/\w0.heap.size<=b3
 ne:pb≠b6/\pb≠b9/\pb≠b3
variable {w0:World}{pb b6 b9 b3:Nat}{h r k m:Value}
theorem PoS.below (hs:PoS w0 A pb b6 b9 b3 h r k m w)(hb:Bl w w'):PoS w0 A pb b6 b9 b3 h r k m w':=
 ⟨hs.po.below hb,(hb.block _ (heap_lt hs.h6)).trans hs.h6,(hb.block _ (heap_lt hs.h9)).trans hs.h9,(hb.block _ (heap_lt hs.h3)).trans hs.h3,hs.nw,hs.ne⟩
theorem PoS.moved (hs:PoS w0 A pb b6 b9 b3 h r k m w)(hm:Moved F F' w w')(hf:∀ b,w0.heap.size<=b->b < w.heap.size->F b=none):PoS w0 A pb b6 b9 b3 h r k m w':=by
 obtain ⟨n1,n2,n3,n4⟩:=hs.nw;exact ⟨YH hm (hf _ n1 (heap_lt hs.po)) hs.po,YH hm (hf _ n2 (heap_lt hs.h6)) hs.h6,YH hm (hf _ n3 (heap_lt hs.h9)) hs.h9,YH hm (hf _ n4 (heap_lt hs.h3)) hs.h3,hs.nw,hs.ne⟩
theorem PoS.set (hs:PoS w0 A pb b6 b9 b3 h r k m w){i:Nat}{v h' r' k' m':Value}(hp:(poX A h r k m).setIfInBounds i v=poX A h' r' k' m'):PoS w0 A pb b6 b9 b3 h' r' k' m' (w.setCell ⟨pb,i,none⟩ v):=by
 refine ⟨(ZH hs.po).trans (by rw [hp]),(ZF (Ne.symm hs.ne.1)).trans hs.h6,(ZF (Ne.symm hs.ne.2.1)).trans hs.h9,(ZF (Ne.symm hs.ne.2.2)).trans hs.h3,hs.nw,hs.ne⟩
theorem ZFT (h:Aq w A F 160 T0 (cF T0) x)(hx:x+10<=1000000)(x0:Nat):
 Calls prog 50 #[.pointer (some ⟨A.d,0,none⟩)] w fun e w'=>∃ F' H pb rb kb mb,e=.returned (.tuple #[.pointer (some ⟨pb,0,none⟩),.agg zrC,.int .i64 0])/\(H.l0=71/\H.ls=64/\H.t=0/\H.x0=x0)/\HW w' A F' 160 T0 (cO T0) (x+10) H false pF 0 (fun _=>none) (fun _=>none)/\PoB w' A pb H.hb rb kb mb/\CkB w' A kb 2 an0/\RtB w' A rb/\Frn F' H pb/\Frn F' H kb/\Frn F' H rb/\Moved F F' w w'/\(w.heap.size<=pb/\w.heap.size<=kb/\w.heap.size<=rb/\w.heap.size<=H.hb/\∀ k,H.own k->w.heap.size<=k):=by
 have HTH:=zh (Ux h.ar (i:=0) (by omega));have HSO:=zh (fun (wx:World) (hb:Bl w wx)=>ZFh (h.ar.below hb) ZKK ZKJ);have H0:=zh h;have HX:=zh hx;have HRG:=zh (fun (wx:World) (r a b:Nat) (hr:r < 9) (ha:sup0.at r=a) (hb:sup0.sizes.getD r 0=b)=>ZEV (w:=wx) hr ha hb);unfold sup0 Sup.val at HSO;clear h hx;go_in;go_wp2_with fail;obtain ⟨w1,hw1⟩:=xE (w.alloc (.cells #[.int .i64 0,.int .i64 0,.int .i64 0] 130));obtain ⟨b3,hb3⟩:=xE w.heap.size;have H31:=zh (show w1.heap[b3]?=some (.cells zrC 130 (0,0)) by rw [hw1,hb3];exact ZB _ _);have HB1:=zh (show Bl w w1 by rw [hw1];exact ZA bR);have HN3:=zh (show w.heap.size<=b3 by omega);rw [<-hw1,<-hb3];clear hw1 hb3;refine (HTH.o w1 HB1.o).mono ?_;rintro e w' ⟨rfl,rfl⟩;go_wp2_with fail;refine (HSO.o w1 HB1.o).mono ?_;rintro e w2 ⟨rfl,hb2⟩;have HB2:=zh (HB1.o.trans (hb2.mono HB1.o.size));have H32:=zh ((hb2.block _ (heap_lt H31.o)).trans H31.o);clear hb2 HSO HTH;go_upto_region 7 with fail;obtain ⟨w3,hw3⟩:=xE (w2.alloc (.cells #[.int .i64 1,.int .i64 160,.int .i64 26,.int .i64 26,.int .i64 8,.int .i64 0,.int .i64 0,.int .u64 1] 86));obtain ⟨b6,hb6⟩:=xE w2.heap.size;have HG6:=zh (show w3.heap[b6]?=some (.cells #[.int .i64 1,.int .i64 160,.int .i64 26,.int .i64 26,.int .i64 8,.int .i64 0,.int .i64 0,.int .u64 1] 86 (0,0)) by rw [hw3,hb6];exact ZB _ _);have h23:Bl w2 w3:=by rw [hw3];exact ZA bR
 have HB3:=zh (HB2.o.trans (h23.mono HB2.o.size));have H33:=zh ((h23.block _ (heap_lt H32.o)).trans H32.o);have HN6:=zh (show w.heap.size<=b6 by have:=HB2.o.size;omega);rw [<-hw3,<-hb6];clear hw3 hb6 h23 H31 H32 HB1 HB2;obtain ⟨s0,_⟩:=Zz HG6.o;go_upto_region 9 with fail;clear s0;go_upto_region 10 with (refine wpList_load_row rfl 86 (.tmp 6) rfl b6 rfl 86 #[.int .i64 1,.int .i64 160,.int .i64 26,.int .i64 26,.int .i64 8,.int .i64 0,.int .i64 0,.int .u64 1] (0,0) _ HG6.o underlying86 rfl (by kernel_rfl) ?_)
 obtain ⟨w4,hw4⟩:=xE (w3.alloc (.cells (poX A (.pointer none) (.pointer none) (.pointer none) (.pointer none)) 92));obtain ⟨pb,hpb⟩:=xE w3.heap.size;have HP4:=zh (show PoY w4 A pb (.pointer none) (.pointer none) (.pointer none) (.pointer none) by rw [hw4,hpb];exact ZB _ _);have h34:Bl w3 w4:=by rw [hw4];exact ZA bR
 have HB4:=zh (HB3.o.trans (h34.mono HB3.o.size));have H34:=zh ((h34.block _ (heap_lt H33.o)).trans H33.o);have H64:=zh ((h34.block _ (heap_lt HG6.o)).trans HG6.o);have HNP:=zh (show w.heap.size<=pb by have:=HB3.o.size;omega);have HNE:=zh (show pb≠b6/\pb≠b3 from ⟨by have:=heap_lt HG6.o;omega,by have:=heap_lt H33.o;omega⟩);unfold poX at hw4;rw [<-hw4,<-hpb];clear hw4 hpb h34 HG6 H33 HB3;go_wp2_with fail;refine (ZBS (H0.o.below HB4.o).ar ZCW.2.2.1 ZCW.2.2.2.1 ZCW.1 ZCW.2.1 (H0.o.new HNP.o) ⟨by have:=H0.o.nib.lt;have:=HNP.o;omega,by have:=H0.o.tab.lt;have:=HNP.o;omega⟩ HP4.o).mono ?_;rintro e w5 ⟨rfl,mb,z,hm5,hp5,ho5⟩;have H35:=zh ((ho5.block _ (heap_lt H34.o) (fun e=>HNE.o.2 e.symm)).trans H34.o);have H65:=zh ((ho5.block _ (heap_lt H64.o) (fun e=>HNE.o.1 e.symm)).trans H64.o);have HM5:=zh (show Only (fun k=>k=pb) w w5 from (Only.of_below HB4.o).trans ho5 (fun _ _ q=>q));have HA5:=zh ((H0.o.below HB4.o).only ho5 (H0.o.new HNP.o) ⟨by have:=H0.o.nib.lt;have:=HNP.o;omega,by have:=H0.o.tab.lt;have:=HNP.o;omega⟩);have HP5:=zh hp5;clear hm5 hp5 ho5 H34 H64 HB4 HP4;unfold zrC;go_upto_region 13 with fail;obtain ⟨w6,hw6⟩:=xE (w5.alloc (.cells #[.int .i64 0,.int .i64 0,.int .i64 0] 130));obtain ⟨b9,hb9⟩:=xE w5.heap.size;have h56:Bl w5 w6:=by rw [hw6];exact ZA bR
 have HS6:=zh (show PoS w A pb b6 b9 b3 (.pointer none) (.pointer none) (.pointer none) (.pointer (some ⟨mb,0,none⟩)) w6 from ⟨HP5.o.below h56,(h56.block _ (heap_lt H65.o)).trans H65.o,by rw [hw6,hb9];exact ZB _ _,(h56.block _ (heap_lt H35.o)).trans H35.o,⟨HNP.o,HN6.o,by have:=HM5.o.size;omega,HN3.o⟩,⟨HNE.o.1,by have:=heap_lt HP5.o;omega,HNE.o.2⟩⟩);have HA6:=zh (HA5.o.below h56);have ho6:=HM5.o.trans (Only.of_below (F:=fun _=>False) h56) (fun _ _ q=>q.elim);have HM6:=zh (show Moved F F w w6 from ⟨⟨ho6.os,ho6.tape,ho6.output,ho6.size,fun k hk hn=>ho6.block k hk (by have:=HNP.o;omega)⟩,fun _ _=>rfl⟩);clear ho6;rw [<-hw6,<-hb9];clear hw6 hb9 h56 HP5 H65 H35 HA5 HM5;have HRG5:=zh (HRG.o w6 5 70 1 (by omega) rfl rfl);unfold sup0 Sup.val at HRG5;have HG6:=zh HS6.o.h6;go_wp2_with (refine wpList_load_row rfl 86 (.tmp 6) rfl b6 rfl 86 #[.int .i64 1,.int .i64 160,.int .i64 26,.int .i64 26,.int .i64 8,.int .i64 0,.int .i64 0,.int .u64 1] (0,0) _ HG6.o underlying86 rfl (by kernel_rfl) ?_);refine HRG5.o.mono ?_;rintro e w7 ⟨rfl,hb7⟩;have HS7:=zh (HS6.o.below hb7);have HA7:=zh (HA6.o.below hb7);have HM7:=zh (HM6.o.belowN hb7);clear hb7 HS6 HA6 HM6 HRG5 HG6;go_wp2_with fail;refine (ZE0 HA7.o HX.o ZCW.2.2.2.2 (fun k hk=>ZLP (Z1 ZKH k hk))).mono ?_;rintro e w8 ⟨rfl,F',ha8,hm8,hk8,hf8⟩;obtain ⟨kb,hkb⟩:=xE w7.heap.size;rw [<-hkb] at hk8 hf8 ⊢;have hlt:=heap_lt HS7.o.po;have HKN:=zh (show w.heap.size<=kb/\kb≠pb from ⟨by have:=HM7.o.only.size;omega,by omega⟩);have HS8:=zh (HS7.o.moved hm8 (fun b hb _=>H0.o.new hb));have HFP:=zh (show F' pb=none/\F' kb=none/\F' b3=none from ⟨(hm8.same pb hlt).trans (H0.o.new HNP.o),hf8,(hm8.same b3 (heap_lt HS7.o.h3)).trans (H0.o.new HN3.o)⟩);have HA8:=zh (show Aq w8 A F' 160 T0 (cO T0) (x+10) from ha8);have HM8:=zh (HM7.o.trans hm8);have HK8:=zh hk8;have HK7:=zh (show kb < w8.heap.size from heap_lt hk8);clear ha8 hm8 hk8 hf8 hkb hlt HS7 HA7 HM7;have p11:w8.cell? ⟨pb,11,none⟩=some (.pointer none):=(ZC HS8.o.po).trans rfl;have f11:=ZG (i:=11) HS8.o.po;go_upto_region 17 with fail;have HS9:=zh (HS8.o.set (i:=11) (v:=.pointer (some ⟨kb,0,none⟩)) (k':=.pointer (some ⟨kb,0,none⟩)) rfl);have HA9:=zh (HA8.o.only ((Only.refl (fun k=>k=pb) w8).set (F:=fun k=>k=pb) (b:=pb) (i:=11) rfl (.pointer (some ⟨kb,0,none⟩))) HFP.o.1 ⟨by have:=H0.o.nib.lt;have:=HNP.o;omega,by have:=H0.o.tab.lt;have:=HNP.o;omega⟩);have HM9:=zh (HM8.o.setn (b:=pb) (i:=11) (v:=.pointer (some ⟨kb,0,none⟩)) HNP.o);have HK9:=zh (show CkB (w8.setCell ⟨pb,11,none⟩ (.pointer (some ⟨kb,0,none⟩))) A kb 2 an0 from (ZF HKN.o.2).trans HK8.o);obtain ⟨w9,hw9⟩:=xE (w8.setCell ⟨pb,11,none⟩ (.pointer (some ⟨kb,0,none⟩)));rw [<-hw9] at HS9 HA9 HM9 HK9 ⊢;clear hw9 HS8 HA8 HM8 HK8 p11 f11;have HRG5:=zh (HRG.o w9 8 71 64 (by omega) rfl rfl);unfold sup0 Sup.val at HRG5;have HG6:=zh HS9.o.h6;go_wp2_with (refine wpList_load_row rfl 86 (.tmp 6) rfl b6 rfl 86 #[.int .i64 1,.int .i64 160,.int .i64 26,.int .i64 26,.int .i64 8,.int .i64 0,.int .i64 0,.int .u64 1] (0,0) _ HG6.o underlying86 rfl (by kernel_rfl) ?_);refine HRG5.o.mono ?_;rintro e w10 ⟨rfl,hb10⟩;have HS10:=zh (HS9.o.below hb10);have HA10:=zh (HA9.o.below hb10);have HM10:=zh (HM9.o.belowN hb10);have HK10:=zh (HK9.o.below hb10);clear hb10 HS9 HA9 HM9 HK9 HRG5 HG6;go_wp2_with fail;refine (ZE5 HA10.o (ZDn ZJX) (ZDn ZKI) x0).mono ?_;rintro e w11 ⟨H,rfl,hH,hw11,hb11,hn1,hn2,hn3⟩;have HH:=zh hH;have HW11:=zh hw11;have HS11:=zh (HS10.o.below hb11);have HM11:=zh (HM10.o.belowN hb11);have HK11:=zh (HK10.o.below hb11);have HFR:=zh (show Frn F' H pb/\Frn F' H kb/\Frn F' H b3 from ⟨ZBB (m:=0) H0.o HFP.o.1 (heap_lt HS10.o.po) ⟨hn1,hn2,hn3⟩ HNP.o,ZBB (m:=0) H0.o HFP.o.2.1 (heap_lt HK10.o) ⟨hn1,hn2,hn3⟩ HKN.o.1,ZBB (m:=0) H0.o HFP.o.2.2 (heap_lt HS10.o.h3) ⟨hn1,hn2,hn3⟩ HN3.o⟩);have HHN:=zh (show w.heap.size<=H.hb/\∀ k,H.own k->w.heap.size<=k from by
  have:=HM10.o.only.size;exact ⟨by omega,fun k q=>by have:=hn3 k q;omega⟩)
 clear hH hw11 hb11 hn1 hn2 hn3 HS10 HA10 HM10 HK10;obtain ⟨hbp,hhbp⟩:=xE H.hb;have HHB:=zh hhbp;rw [<-hhbp];clear hhbp;have p9:w11.cell? ⟨pb,9,none⟩=some (.pointer none):=(ZC HS11.o.po).trans rfl;have f9:=ZG (i:=9) HS11.o.po;go_upto_region 21 with fail;have HS12:=zh (HS11.o.set (i:=9) (v:=.pointer (some ⟨hbp,0,none⟩)) (h':=.pointer (some ⟨hbp,0,none⟩)) rfl);have HW12:=zh (HW11.o.only ((Only.refl (fun k=>k=pb) w11).set (F:=fun k=>k=pb) (b:=pb) (i:=9) rfl (.pointer (some ⟨hbp,0,none⟩))) (fun k _ e=>by rw [e];exact HFR.o.1));have HM12:=zh (HM11.o.setn (b:=pb) (i:=9) (v:=.pointer (some ⟨hbp,0,none⟩)) HNP.o);have HK12:=zh (show CkB (w11.setCell ⟨pb,9,none⟩ (.pointer (some ⟨hbp,0,none⟩))) A kb 2 an0 from (ZF HKN.o.2).trans HK11.o);obtain ⟨w12,hw12⟩:=xE (w11.setCell ⟨pb,9,none⟩ (.pointer (some ⟨hbp,0,none⟩)));rw [<-hw12] at HS12 HW12 HM12 HK12 ⊢;clear hw12 HS11 HW11 HM11 HK11 p9 f9;have HRG5:=zh (HRG.o w12 1 2 8 (by omega) rfl rfl);unfold sup0 Sup.val at HRG5;have HG6:=zh HS12.o.h6;go_wp2_with (refine wpList_load_row rfl 86 (.tmp 6) rfl b6 rfl 86 #[.int .i64 1,.int .i64 160,.int .i64 26,.int .i64 26,.int .i64 8,.int .i64 0,.int .i64 0,.int .u64 1] (0,0) _ HG6.o underlying86 rfl (by kernel_rfl) ?_);refine HRG5.o.mono ?_;rintro e w13 ⟨rfl,hb13⟩;have HS13:=zh (HS12.o.below hb13);have HW13:=zh (HW12.o.below hb13);have HM13:=zh (HM12.o.belowN hb13);have HK13:=zh (HK12.o.below hb13);clear hb13 HS12 HW12 HM12 HK12 HRG5 HG6;go_wp2_with fail;refine (ZDq HW13.o.ar (fun y hy=>ZLP (Z1 ZKG y hy))).mono ?_;rintro e w14 ⟨rb,rfl,hrt,hb14,hrn⟩;have HS14:=zh (HS13.o.below hb14);have HW14:=zh (HW13.o.below hb14);have HM14:=zh (HM13.o.belowN hb14);have HK14:=zh (HK13.o.below hb14);have HRT:=zh hrt;have HRN:=zh (show Frn F' H rb/\rb≠pb/\rb≠b3/\w.heap.size<=rb from ⟨HW13.o.newf hrn,by have:=heap_lt HS13.o.po;omega,by have:=heap_lt HS13.o.h3;omega,by have:=HM13.o.only.size;omega⟩);have HKB:=zh (show kb≠b3 from fun e=>by have h1:=HK13.o;rw [e] at h1;have h2:=HS13.o.h3;unfold CkB at h1;rw [h1] at h2;cases h2);clear hrt hb14 hrn HS13 HW13 HM13 HK13;have p10:w14.cell? ⟨pb,10,none⟩=some (.pointer none):=(ZC HS14.o.po).trans rfl;have f10:=ZG (i:=10) HS14.o.po;go_upto_region 25 with fail;have HS15:=zh (HS14.o.set (i:=10) (v:=.pointer (some ⟨rb,0,none⟩)) (r':=.pointer (some ⟨rb,0,none⟩)) rfl);have HW15:=zh (HW14.o.only ((Only.refl (fun k=>k=pb) w14).set (F:=fun k=>k=pb) (b:=pb) (i:=10) rfl (.pointer (some ⟨rb,0,none⟩))) (fun k _ e=>by rw [e];exact HFR.o.1));have HM15:=zh (HM14.o.setn (b:=pb) (i:=10) (v:=.pointer (some ⟨rb,0,none⟩)) HNP.o);have HK15:=zh (show CkB (w14.setCell ⟨pb,10,none⟩ (.pointer (some ⟨rb,0,none⟩))) A kb 2 an0 from (ZF HKN.o.2).trans HK14.o);have HR15:=zh (show RtB (w14.setCell ⟨pb,10,none⟩ (.pointer (some ⟨rb,0,none⟩))) A rb from (ZF HRN.o.2.1).trans HRT.o);obtain ⟨w15,hw15⟩:=xE (w14.setCell ⟨pb,10,none⟩ (.pointer (some ⟨rb,0,none⟩)));rw [<-hw15] at HS15 HW15 HM15 HK15 HR15 ⊢;clear hw15 HS14 HW14 HM14 HK14 HRT p10 f10;have HG9:=zh HS15.o.h9;have HG3:=zh HS15.o.h3;unfold zrC at HG9 HG3;obtain ⟨w16,hw16⟩:=xE w15.drew;have HS0:=zh (show w16.heap[b9]?=some (.cells #[.int .i64 0,.int .i64 0,.int .i64 0] 130 (0,0)) by rw [hw16];exact HG9.o);have HT0:=zh (show w16.heap[b3]?=some (.cells #[.int .i64 0,.int .i64 0,.int .i64 0] 130 (0,0)) by rw [hw16];exact HG3.o);have h1516:Bl w15 w16:=by rw [hw16];exact ZD bR
 have HE:=zh (show HW w16 A F' 160 T0 (cO T0) (x+10) H false pF 0 (fun _=>none) (fun _=>none)/\PoY w16 A pb (.pointer (some ⟨hbp,0,none⟩)) (.pointer (some ⟨rb,0,none⟩)) (.pointer (some ⟨kb,0,none⟩)) (.pointer (some ⟨mb,0,none⟩))/\CkB w16 A kb 2 an0/\RtB w16 A rb/\Moved F F' w w16 from ⟨HW15.o.below h1516,HS15.o.po.below h1516,HK15.o.below h1516,(h1516.block _ (heap_lt HR15.o)).trans HR15.o,HM15.o.belowN h1516⟩);clear h1516;refine Z8 4 (fun wx=>wx.heap[b9]?=some (.cells #[.int .i64 0,.int .i64 0,.int .i64 0] 130 (0,0))) (by kernel_rfl) ?_;rw [<-hw16];clear hw16 HS15 HW15 HM15 HK15 HR15 HG9 HG3;refine Yr (i:=0) (z:=4) (v:=.pointer (some ⟨pb,0,none⟩)) rfl (by kernel_rfl) (fun _ _ _ h=>h) HS0.o rfl (fun w' hc=>by go_simp) ?_
 (try simp only [Act.put,ZK3,ZKy,ZK0,ZKt,ZKw,ZKx])
 refine Yr (i:=1) (z:=4) (v:=.agg #[.int .i64 0,.int .i64 0,.int .i64 0]) rfl (by kernel_rfl) (fun _ _ _ h=>h) HS0.o rfl (fun w' hc=>?_) ?_
 ·have hl:=Yo (P:=prog) w' b9 0 130 #[.int .i64 0,.int .i64 0,.int .i64 0] _ (fun j v hv=>by rw [ZLI,ZC hc,<-ZLS];exact hv) underlying130 rfl (by kernel_rfl);simp [execOp,Act.eval,Instr.loadAt,Instr.sureAddr,hl]
 (try simp only [Act.put,ZK3,ZKy,ZK0,ZKt,ZKw,ZKx])
 refine Yr (i:=2) (z:=4) (v:=.pointer (some ⟨pb,0,none⟩)) rfl (by kernel_rfl) (fun _ _ _ h=>h) HS0.o rfl (fun w' hc=>by go_simp) ?_
 (try simp only [Act.put,ZK3,ZKy,ZK0,ZKt,ZKw,ZKx])
 refine YZ (j:=3) (z:=4) (by kernel_rfl) rfl (fun K hK=>?_);refine XO rfl 130 (.tmp 3) (.tmp 109) rfl b3 #[.int .i64 0,.int .i64 0,.int .i64 0] rfl rfl 130 #[.int .i64 0,.int .i64 0,.int .i64 0] HT0.o (by kernel_rfl) rfl (by simp [Value.oneCell']) ?_;rw [setRow_self _ _ _ _ _ HT0.o];refine hK _ _ HS0.o ?_;clear hK K
 (try simp only [Act.put,ZK3,ZKy,ZK0,ZKt,ZKw,ZKx])
 refine UY (z:=4) (by kernel_rfl) rfl (by kernel_rfl) (by kernel_rfl) (fun K hK=>?_);go_simp;refine hK _ _ ?_;clear hK K;go_wp2_with fail;refine bodyPost_ret (ZCY rfl _ _ b3 130 #[.int .i64 0,.int .i64 0,.int .i64 0] (0,0) _ rfl HT0.o underlying130 rfl (by kernel_rfl)) rfl ?_;obtain ⟨h1,h2,h3,h4,h5⟩:=HE.o;rw [HHB.o] at h2
 first
  |exact ⟨F',H,pb,rb,kb,mb,rfl,HH.o,h1,h2,h3,h4,HFR.o.1,HFR.o.2.1,HRN.o.1,h5,HNP.o,HKN.o.1,HRN.o.2.2.2,HHN.o⟩
  |exact ⟨F',H,pb,rfl,HH.o,h1,rb,kb,⟨mb,h2⟩,h3,h4,HFR.o.1,HFR.o.2.1,HRN.o.1,h5,HNP.o,HKN.o.1,HRN.o.2.2.2,HHN.o⟩
theorem ZCS (h:Aq w A F 160 T0 cz x)(hx:x+200<=1000000)(x0:Nat):
 Calls prog 20 #[.pointer (some ⟨A.d,0,none⟩),ZEj] w fun e w'=>∃ F' H pb rb kb mb,e=.returned (.tuple #[.pointer (some ⟨pb,0,none⟩),.int .i64 0])/\(H.l0=71/\H.ls=64/\H.t=0/\H.x0=x0)/\HW w' A F' 160 T0 (cO T0) (x+190) H false pF 0 (fun _=>none) (fun _=>none)/\PoB w' A pb H.hb rb kb mb/\CkB w' A kb 2 an0/\RtB w' A rb/\Frn F' H pb/\Frn F' H kb/\Frn F' H rb/\Moved F F' w w'/\(w.heap.size<=pb/\w.heap.size<=kb/\w.heap.size<=rb/\w.heap.size<=H.hb/\∀ k,H.own k->w.heap.size<=k):=by
 have H0:=zh h;have HX:=zh hx;have HCS:=zh (fun (wx:World)=>ZDL (w:=wx));have HV:=zh (fun (wx:World)=>VA (w:=wx) ZBa);unfold ZEj supz Sup.val at *;clear h hx;go_in;go_upto_region 1 with fail;obtain ⟨w1,hw1⟩:=xE (w.alloc (.cells #[.int .i64 160,.int .i64 26,.int .i64 26,.int .i64 8,.int .i64 0,.int .i64 0] 72));obtain ⟨b3,hb3⟩:=xE w.heap.size;have H31:=zh (show w1.heap[b3]?=some (.cells #[.int .i64 160,.int .i64 26,.int .i64 26,.int .i64 8,.int .i64 0,.int .i64 0] 72 (0,0)) by rw [hw1,hb3];exact ZB _ _);have HB1:=zh (show Bl w w1 by rw [hw1];exact ZA bR);rw [<-hw1,<-hb3];clear hw1 hb3;go_wp2_with (refine wpList_load_row rfl 72 (.tmp 3) rfl b3 rfl 72 #[.int .i64 160,.int .i64 26,.int .i64 26,.int .i64 8,.int .i64 0,.int .i64 0] (0,0) _ H31.o underlying72 rfl (by kernel_rfl) ?_);refine (HCS.o w1).mono ?_;rintro e w2 ⟨rfl,hb2⟩;have HB2:=zh (HB1.o.trans (hb2.mono HB1.o.size));have H32:=zh ((hb2.block _ (heap_lt H31.o)).trans H31.o);clear hb2 HCS H31 HB1;go_upto_region 2 with fail;obtain ⟨w3,hw3⟩:=xE (w2.alloc (.cells #[.int .i64 1,.int .i64 160,.int .i64 26,.int .i64 26,.int .i64 8,.int .i64 0,.int .i64 0,.int .u64 0] 86));obtain ⟨b6,hb6⟩:=xE w2.heap.size;have h23:Bl w2 w3:=by rw [hw3];exact ZA bR
 have HB3:=zh (HB2.o.trans (h23.mono HB2.o.size));have H33:=zh ((h23.block _ (heap_lt H32.o)).trans H32.o);have HS3:=zh (show RS w A F b6 T0 cz x w3 from ⟨F,H0.o.below HB3.o,⟨Only.of_below HB3.o,fun _ _=>rfl⟩,H0.o.new (by have:=HB2.o.size;omega),by rw [hw3,hb6];exact ZB _ _⟩);rw [<-hw3,<-hb6];clear hw3 hb6 h23 H32 HB2;have HKP:=zh (fun (wx:World) (hb:Bl w3 wx)=>show wx.cell? ⟨b3,0,none⟩=some (.int .i64 160)/\wx.cell? ⟨b3,1,none⟩=some (.int .i64 26)/\wx.cell? ⟨b3,2,none⟩=some (.int .i64 26)/\wx.cell? ⟨b3,3,none⟩=some (.int .i64 8)/\wx.cell? ⟨b6,0,none⟩=some (.int .i64 1)/\wx.cell? ⟨b6,1,none⟩=some (.int .i64 160)/\wx.cell? ⟨b6,2,none⟩=some (.int .i64 26)/\wx.cell? ⟨b6,3,none⟩=some (.int .i64 26)/\wx.cell? ⟨b6,4,none⟩=some (.int .i64 8)/\wx.cell? ⟨b6,5,none⟩=some (.int .i64 0)/\wx.cell? ⟨b6,6,none⟩=some (.int .i64 0)/\wx.cell? ⟨b6,7,none⟩=some (.int .u64 0) from by
  obtain ⟨a0,a1,a2,a3,a4,a5,a6,a7⟩:=(HS3.o.below hb).cells;have e:=(hb.block _ (heap_lt H33.o)).trans H33.o;exact ⟨(ZC e).trans rfl,(ZC e).trans rfl,(ZC e).trans rfl,(ZC e).trans rfl,a0,a1,a2,a3,a4,a5,a6,a7⟩)
 have HVL:=zh (fun (wx:World) (hb:Bl w3 wx)=>Xs (HV.o wx) hb);have HDL:=zh (fun (wx:World) (hb:Bl w3 wx)=>ZBz (H0.o.below HB3.o).ar wx hb);have HR:=zh (Below.refl w3.heap.size w3);obtain ⟨a0,a1,a2,a3,a4,a5,a6,a7,a8,a9,a10,a11⟩:=HKP.o _ HR.o
 go_region_held3 (fun wx=>wx.cell? ⟨b3,0,none⟩=some (.int .i64 160)/\wx.cell? ⟨b3,1,none⟩=some (.int .i64 26)/\wx.cell? ⟨b3,2,none⟩=some (.int .i64 26)/\wx.cell? ⟨b3,3,none⟩=some (.int .i64 8)/\wx.cell? ⟨b6,0,none⟩=some (.int .i64 1)/\wx.cell? ⟨b6,1,none⟩=some (.int .i64 160)/\wx.cell? ⟨b6,2,none⟩=some (.int .i64 26)/\wx.cell? ⟨b6,3,none⟩=some (.int .i64 26)/\wx.cell? ⟨b6,4,none⟩=some (.int .i64 8)/\wx.cell? ⟨b6,5,none⟩=some (.int .i64 0)/\wx.cell? ⟨b6,6,none⟩=some (.int .i64 0)/\wx.cell? ⟨b6,7,none⟩=some (.int .u64 0))
  (exact HKP.o _ (by repeat (with_reducible first|assumption|exact HR.o|apply ZA|apply ZD)))
  (first
    |(go_at_call 45;refine (HVL.o _ (by repeat (with_reducible first|assumption|exact HR.o|apply ZA|apply ZD))).mono ?_;rintro e V1 ⟨rfl,hb1,hm1,hm2,hm3,HB1⟩)
    |(go_at_call 46;refine (HDL.o _ (by repeat (with_reducible first|assumption|exact HR.o|apply ZA|apply ZD))).mono ?_;rintro e V2 ⟨rfl,rfl⟩))
 have hB:=(ZD HR.o).trans (HB1.o.mono (by simp));have HS4:=zh (HS3.o.below hB);have HA4:=zh (H0.o.below (HB3.o.trans (hB.mono HB3.o.size)));have HTH:=zh (Ux HA4.o.ar (i:=0) (by omega) V1 bR);have HER:=zh (Zq HA4.o.ar (i:=0) (by omega) V1 bR);have HIN:=zh (HS4.o.run (fun F' ha=>ZH0 ha (by have:=HX.o;omega) (fun _ _=>rfl)));obtain ⟨d0,d1,d2,d3,_⟩:=HKP.o _ hB;clear hB HB1 hm1 hm2 hm3 a0 a1 a2 a3 a4 a5 a6 a7 a8 a9 a10 a11 HKP HVL HDL HS3 H33 HS4;go_wp2_with fail;refine HTH.o.mono ?_;rintro e w' ⟨rfl,rfl⟩;go_wp2_with fail;refine HER.o.mono ?_;rintro e w' ⟨rfl,rfl⟩;clear d0 d1 d2 d3;go_wp2_with fail;refine HIN.o.mono ?_;rintro e w5 ⟨rfl,hs5⟩;obtain ⟨c0,c1,c2,c3,c4,c5,c6,c7⟩:=hs5.cells;have HRG:=zh (hs5.run (fun F' ha=>ZCX ha (by have:=HX.o;omega)));unfold supz Sup.val at HRG;clear hs5 HIN HTH HER HA4;go_wp2_with fail;refine HRG.o.mono ?_;rintro e w6 ⟨rfl,hs6⟩;clear c0 c1 c2 c3 c4 c5 c6 c7;obtain ⟨c0,c1,c2,c3,c4,c5,c6,c7⟩:=hs6.cells;have HSF:=zh (hs6.run (fun F' ha=>ZCj ha (by have:=HX.o;omega)));unfold supz Sup.val at HSF;clear hs6 HRG;go_wp2_with fail;refine HSF.o.mono ?_;rintro e w7 ⟨rfl,hs7⟩;clear c0 c1 c2 c3 c4 c5 c6 c7;obtain ⟨F1,ha1,hm1,_,_⟩:=hs7;have HM1:=zh hm1;have HPO:=zh (ZFT (show Aq w7 A F1 160 T0 (cF T0) (x+10+130+40) from ha1) (by have:=HX.o;omega) x0);clear ha1 hm1 HSF;go_wp2_with fail;refine HPO.o.mono ?_;rintro e w8 ⟨F2,H,pb,rb,kb,mb,rfl,hH,hw,hp,hk,hr,f1,f2,f3,hm,n1,n2,n3,n4,n5⟩;have hb:Bl w8 (w8.alloc (.cells #[.int .i64 0,.int .i64 0,.int .i64 0] 130)):=ZA bR;have hz:=HM1.o.only.size
 have HE:=zh (show ∃ F' H' rb kb mb,(H'.hb=H.hb/\H'.l0=71/\H'.ls=64/\H'.t=0/\H'.x0=x0)/\HW (w8.alloc (.cells #[.int .i64 0,.int .i64 0,.int .i64 0] 130)) A F' 160 T0 (cO T0) (x+190) H' false pF 0 (fun _=>none) (fun _=>none)/\PoB (w8.alloc (.cells #[.int .i64 0,.int .i64 0,.int .i64 0] 130)) A pb H'.hb rb kb mb/\CkB (w8.alloc (.cells #[.int .i64 0,.int .i64 0,.int .i64 0] 130)) A kb 2 an0/\RtB (w8.alloc (.cells #[.int .i64 0,.int .i64 0,.int .i64 0] 130)) A rb/\Frn F' H' pb/\Frn F' H' kb/\Frn F' H' rb/\Moved F F' w (w8.alloc (.cells #[.int .i64 0,.int .i64 0,.int .i64 0] 130))/\(w.heap.size<=pb/\w.heap.size<=kb/\w.heap.size<=rb/\w.heap.size<=H'.hb/\∀ k,H'.own k->w.heap.size<=k) from
  ⟨F2,H,rb,kb,mb,⟨rfl,hH⟩,hw.below hb,hp.below hb,hk.below hb,(hb.block _ (heap_lt hr)).trans hr,f1,f2,f3,(HM1.o.trans hm).belowN hb,by omega,by omega,by omega,by omega,fun k q=>by have:=n5 k q;omega⟩)
 clear hH hw hp hk hr f1 f2 f3 hm n1 n2 n3 n4 n5 hb hz HPO HM1;unfold zrC;go_wp2;go_returns;obtain ⟨F',H',rb,kb,mb,⟨e,hH⟩,h1,h2,h3,h4,h5,h6,h7,h8,h9⟩:=HE.o
 first
  |exact ⟨F',H',pb,rb,kb,mb,rfl,hH,h1,h2,h3,h4,h5,h6,h7,h8,h9⟩
  |exact ⟨F',H',pb,rfl,hH,h1,rb,kb,⟨mb,h2⟩,h3,h4,h5,h6,h7,h8,h9⟩
variable {H:HAd}{ex:Nat}{res held:Nat->Option Nat}
def pG (b:Bool):Nat->Plc:=fun j=>if j=0 then ⟨71,4,0,b⟩ else plc kF j
theorem ZGv:pG false=plc kF:=by
 funext j
 unfold pG;split
 ·rename_i e;subst e;rfl
 ·rfl
theorem ZDi (b b':Bool):XQ (pG b) 0 ⟨71,4,0,b'⟩=pG b':=by
 funext j
 unfold XQ pG
 by_cases e:j=0 <;> simp [e]
theorem ZJR:XQ pF 0 ⟨71,4,0,false⟩=pG false:=by
 funext j
 unfold XQ pF pG
 by_cases e:j=0 <;> simp [e]
def ckW (c:Nat->Nat)(k:Chk):Bool:=Nat.beq (c 568) (ZX T0 k.info) && Nat.beq (c 569) (Ze k.used (perN k)) && Uq 8 (fun a=>match Nat.ble 2 a with
 |true=>Nat.beq (c (568+a)) 0
 |false=>true) && Uq 4 (fun i=>Nat.beq (c (568+hdN k i)) (ZX T0 (k.blk i).info))
theorem ZA6 {c:Nat->Nat}{k:Chk}(h:ckW c k=true)(hd:k.Head)(hp:perN k=4)(hg:∀ i,i < 4->(k.blk i).Good):CRep T0 c 568 k:=by
 unfold ckW at h;simp only [Bool.and_eq_true] at h;obtain ⟨⟨⟨h1,h2⟩,h3⟩,h4⟩:=h;exact ⟨hd,ZLP h1,fun _=>ZLP h2,fun _ a h2 h8=>by
  have h:=Z1 h3 a h8;rw [Nat.ble_eq_true_of_le h2] at h;exact ZLP h,fun _ i hi=>hg i (by rw [hp] at hi;exact hi),fun _ i hi=>ZLP (Z1 h4 i (by rw [hp] at hi;exact hi))⟩
theorem ZBH:kM.Head:=⟨by decide,.inr (by decide)⟩
theorem ZGe:perN kM=4:=by decide
theorem ZEL:∀ i,i < 4->(kM.blk i).Good:=fun i hi=>by
 rcases (show i=0\/i=1\/i=2\/i=3 by omega) with rfl|rfl|rfl|rfl <;> exact ⟨by decide,.inl (by decide)⟩
theorem ZH6:kN.Head:=⟨by decide,.inr (by decide)⟩
theorem ZJL:perN kN=4:=by decide
theorem ZH5:∀ i,i < 4->(kN.blk i).Good:=fun i hi=>by
 rcases (show i=0\/i=1\/i=2\/i=3 by omega) with rfl|rfl|rfl|rfl
 ·exact ⟨by decide,.inr (.inl (by decide))⟩
 ·exact ⟨by decide,.inl (by decide)⟩
 ·exact ⟨by decide,.inl (by decide)⟩
 ·exact ⟨by decide,.inl (by decide)⟩
theorem ZHH:CRep T0 (cC T0) 568 kM:=ZA6 (by kernel_rfl) ZBH ZGe ZEL
theorem ZJb:CRep T0 (cA T0) 568 kM:=ZA6 (by kernel_rfl) ZBH ZGe ZEL
theorem ZJd:CRep T0 (cP T0) 568 kN:=ZA6 (by kernel_rfl) ZH6 ZJL ZH5
theorem ZJc:CRep T0 (wrs (cO T0) (YM T0 71 kM)) 568 kM:=CRep.made (line:=71) ZBH
theorem ZKl:cC T0 824=ZX T0 kF.info:=by kernel_rfl
def ch1 (k:Chk):Nat->Chk:=fun j=>if j=0 then k else kF
theorem ZKF:kM.ptr 71 0 12=pL:=by kernel_rfl
theorem ZKE:kM.ptr 71 1 64=pA:=by kernel_rfl
theorem QW:ZM pL=4616/\ZM pA=5104:=⟨by decide,by decide⟩
def rs1:Nat->Option Nat:=YE (fun _=>none) 4616 pL
def hv1:Nat->Option Nat:=YE (fun _=>none) 71 1
def rs2:Nat->Option Nat:=YE rs1 5104 pA
def hv2:Nat->Option Nat:=YE hv1 71 2
theorem ZJv {k:Chk}{b:Bool}{p:Nat->Plc}(hl:H.l0=71/\H.ls=64)(h0:CRep T0 c 568 k)(h1:CRep T0 c 824 kF)(hp:∀ j,j < 2->(p j).line=71+32 * j/\(p j).cl=(ch1 k j).cl/\(p j).ow=(ch1 k j).ow):HOK T0 c 160 H p (ch1 k):=by
 have hhn:H.n=2:=by unfold HAd.n;rw [hl.2]
 refine ⟨?_,fun j hj=>?_,fun j hj=>?_,by rw [hl.1,hhn];omega⟩
 ·rw [hl.1,hhn]
  intro j hj;rcases (show j=0\/j=1 by omega) with rfl|rfl
  ·exact h0
  ·exact h1
 ·rw [hhn] at hj;rw [hl.1];exact (hp j hj).1
 ·rw [hhn] at hj;exact (hp j hj).2
theorem ZGA (h:HW w A F 160 T0 (cO T0) x H false pF ex (fun _=>none) (fun _=>none))(hl:H.l0=71/\H.ls=64)(hx:x<=900000):
 ZBe w A F 160 T0 (cO T0) x H false pF ex (fun _=>none) (fun _=>none) 0 4 12 (wrs (cO T0) (YM T0 71 kM)) (x+200) (pG false) pL 71:=by
 have hhn:H.n=2:=by unfold HAd.n;rw [hl.2]
 have ho:HOK T0 (cO T0) 160 H pF (ch1 kF):=ZJv (b:=false) hl (ZDn ZJX) (ZDn ZKI) (fun j hj=>by
  rcases (show j=0\/j=1 by omega) with rfl|rfl <;> exact ⟨rfl,rfl,rfl⟩)
 have hsel:Zt pF ((0:Nat):Int) ((4:Nat):Int) 2=[]:=by decide
 refine .inr ⟨fun w1 hb=>?_,fun w1 hb=>?_,fun F1 w1 hw1=>?_⟩
 ·refine UU (th:=0) (cl:=4) (h.below hb) ho (fun i hi2 _=>?_) 12
  rw [hhn,hsel] at hi2;cases hi2
 ·have:=QM (h.below hb) (j:=0) (by omega) (fun m hm=>by omega) (by show (-1:Int) < 0;omega) (k:=kF) (by show 71+32<=160;omega) (ZDn ZJX) (cl:=4) (th:=0) (by omega) (by omega) (by omega)
  refine this.mono ?_;rintro e w' ⟨he,hp⟩;have ep:XQ pF 0 ⟨(pF 0).line,(4:Nat),(0:Nat),(pF 0).held⟩=pG false:=ZJR;rw [ep] at hp;exact ⟨he,hp⟩
 ·have:=VT hw1.ar hw1.hp hw1.rm (line:=71) (k:=kM) (by omega) ZJc (by decide) (j:=0) (by decide) (by decide) (by decide) (kind:=12) (by omega) rfl
  rw [ZKF] at this;exact this
theorem ZF7 (h:HW w A F 160 T0 (cO T0) x H false pF ex (fun _=>none) (fun _=>none))(hl:H.l0=71/\H.ls=64)(hx:x<=900000)(hex:ex<=900000){db lg:Nat}(hd:DrW w A F H 0 db lg 640 1664):
 Calls prog 24 #[.pointer (some ⟨db,0,none⟩),.int .i64 (60:Nat),.int .u8 (12:Nat)] w fun e w'=>e=.returned (.tuple #[.int .u64 pL,.int .i64 0])/\ClP w A F 160 T0 (cC T0) (x+400) H false (pG true) (ex+1) rs1 hv1 w':=by
 have hhn:H.n=2:=by unfold HAd.n;rw [hl.2]
 refine Xv h hd (by omega) (by omega) (fun w1 ⟨F',_,h2⟩=>⟨F',h2⟩) (fun w1 hb=>?_);have key:=XC (h.below hb) (th:=0) (cl:=4) (kind:=12) (n:=60) (words:=60) (by omega) (by omega) (by omega) (by decide) (by omega) (by decide) (ZGA (h.below hb) hl hx) (by decide) (by decide) (by rw [QW.1];omega) (by omega) (j:=0) (by omega) (fun m hm=>by omega) (by show (0:Int)<=4;omega) rfl (by omega) (by simp) (by omega);refine key.mono ?_;rintro e w' ⟨he,F',hw,hm⟩;rw [show (⟨(pG false 0).line,(pG false 0).cl,(pG false 0).ow,true⟩:Plc)=⟨71,4,0,true⟩ from rfl,ZDi,QW.1] at hw;exact ⟨he,F',by unfold cC;rw [QW.1];exact hw,(HMv.of_below hb).trans hm⟩
theorem ZF9 (h:HW w A F 160 T0 (cC T0) x H false (pG true) ex rs1 hv1)(hl:H.l0=71/\H.ls=64):ZBe w A F 160 T0 (cC T0) x H false (pG true) ex rs1 hv1 0 4 64 (cC T0) x (pG true) pA 71:=by
 have hhn:H.n=2:=by unfold HAd.n;rw [hl.2]
 have hl0:=hl.1;have ho:HOK T0 (cC T0) 160 H (pG true) (ch1 kM):=ZJv (b:=true) hl ZHH (ZDn ZKl) (fun j hj=>by
  rcases (show j=0\/j=1 by omega) with rfl|rfl <;> exact ⟨rfl,rfl,rfl⟩)
 refine .inl ⟨rfl,rfl,rfl,fun w1 hb=>?_⟩;have hsel:Zt (pG true) ((0:Nat):Int) ((4:Nat):Int) H.n=[0]:=by rw [hhn];decide
 have key:=QP (th:=0) (cl:=4) (h.below hb) ho (m:=0) (by rw [hsel];exact Nat.zero_lt_one) (fun i _ hi2=>by omega) (kind:=64) (P:=pA) (fun w2 hb2=>by
  simp only [hsel,ZKy,hl0];have:=ZBG ((h.below hb).below hb2).ar ((h.below hb).below hb2).hp ((h.below hb).below hb2).rm (line:=71) (k:=kM) (by omega) ZHH (by decide) (i:=0) (j:=1) (by omega) (by decide) (by decide) (by decide) (by decide) (by decide) (kind:=64) (q:=pL) (by omega) (by decide) (by decide);rw [ZKE] at this;exact this)
 simp only [hsel,ZKy,hl0] at key;exact key
theorem ZF6 (h:HW w A F 160 T0 (cC T0) x H false (pG true) ex rs1 hv1)(hl:H.l0=71/\H.ls=64)(hx:x<=900000)(hex:ex<=900000){db lg:Nat}(hd:DrW w A F H 0 db lg 640 1664):
 Calls prog 24 #[.pointer (some ⟨db,0,none⟩),.int .i64 (60:Nat),.int .u8 (64:Nat)] w fun e w'=>e=.returned (.tuple #[.int .u64 pA,.int .i64 0])/\ClP w A F 160 T0 (cA T0) (x+200) H false (pG true) (ex+1) rs2 hv2 w':=by
 have hhn:H.n=2:=by unfold HAd.n;rw [hl.2]
 refine Xv h hd (by omega) (by omega) (fun w1 ⟨F',_,h2⟩=>⟨F',h2⟩) (fun w1 hb=>?_);have key:=XC (h.below hb) (th:=0) (cl:=4) (kind:=64) (n:=60) (words:=60) (by omega) (by omega) (by omega) (by decide) (by omega) (by decide) (ZF9 (h.below hb) hl) (by decide) (by decide) (by rw [QW.2];omega) (by omega) (j:=0) (by omega) (fun m hm=>by omega) (by show (0:Int)<=4;omega) rfl (by omega) (by decide) (by omega);refine key.mono ?_;rintro e w' ⟨he,F',hw,hm⟩;rw [show (⟨(pG true 0).line,(pG true 0).cl,(pG true 0).ow,true⟩:Plc)=⟨71,4,0,true⟩ from rfl,ZDi,QW.2,show (hv1 71).getD 0+1=2 from rfl] at hw;exact ⟨he,F',by unfold cA;rw [QW.2];exact hw,(HMv.of_below hb).trans hm⟩
theorem ZJJ:kM.Can [(0,12)] []:=⟨by decide,by decide,by decide,by decide,by decide⟩
theorem ZJK:kN.Can [(1,64)] []:=⟨by decide,by decide,by decide,by decide,by decide⟩
def ZIp (l:List (Nat×Nat)):Bool:=decide ((l.map (·.1)).Nodup) && l.all fun p=>Nat.beq (p.1 % 8) 0 && Nat.blt p.1 10240 && (Nat.blt p.1 640 || Nat.ble 2304 p.1) && Nat.blt p.2 18446744073709551616
theorem ZEE {l:List (Nat×Nat)}(h:ZIp l=true):Vp 160 640 1664 l:=by
 unfold ZIp at h;simp only [Bool.and_eq_true,List.all_eq_true,Bool.or_eq_true] at h;refine ⟨of_decide_eq_true h.1,fun p hp=>?_⟩;obtain ⟨⟨⟨h1,h2⟩,h3⟩,h4⟩:=h.2 p hp;exact ⟨ZLP h1,Nat.le_of_ble_eq_true h2,h3.imp (fun q=>Nat.le_of_ble_eq_true q) (fun q=>Nat.le_of_ble_eq_true q),Nat.le_of_ble_eq_true h4⟩
def rs3:Nat->Option Nat:=XV rs2 4616
def hv3:Nat->Option Nat:=YE hv2 71 1
theorem rs4:XV rs3 5104=fun _=>none:=by
 funext n
 unfold rs3 rs2 rs1 XV YE
 by_cases e1:n=5104 <;> by_cases e2:n=4616 <;> simp [e1,e2]
theorem hv4:XV hv3 71=fun _=>none:=by
 funext n
 unfold hv3 hv2 hv1 XV YE
 by_cases e1:n=71 <;> simp [e1]
theorem ZEO:∀ m,m < 2->(pG true m).line=71+32 * m:=fun m hm=>by
 rcases (show m=0\/m=1 by omega) with rfl|rfl <;> rfl
theorem ZDb:(l1 T0).length=6:=by kernel_rfl
theorem ZDc:(l2 T0).length=6:=by kernel_rfl
theorem ZI1 (h:HW w A F 160 T0 (cA T0) x H false (pG true) ex rs2 hv2) (hl:H.l0=71/\H.ls=64) (hx:x<=900000) (hex:ex<=900000) {db lg:Nat} (hd:DrW w A F H 0 db lg 640 1664)
 {v:Value} (hv:Wrs w v (Uw T0 0 478392707436 pL)) {tb tc:Nat} (ht:w.cell? ⟨tb,0,none⟩=some (.int .u64 (pL:Nat))) (htf:F tb=none/\¬ H.own tb):
 Calls prog 26 #[.pointer (some ⟨db,0,none⟩),v,.slice (some ⟨tb,0,none⟩) 1 tc,.slice none 0 0] w fun e w'=>e=.returned (.int .i64 0)/\ClP w A F 160 T0 (cP T0) (x+60) H false (pG true) (ex+1) rs3 hv3 w':=by
 obtain ⟨Hhb,Hsb,Hpb,Hrb,Hvb,Ht,Hl0,Hls,Hcap,Hx0⟩:=H;obtain ⟨e1,e2⟩:=hl;have e1:Hl0=71:=e1;have e2:Hls=64:=e2;subst e1 e2
 have key:=Vh (tc:=tc) h hd (by omega) (by omega) ZHD.2.1 (m:=0) (by show 0 < 64 / 32;decide) (by show 71+32 * 0+32<=160;omega) (k:=kM) ZJb (by decide) (b:=0) (kd:=12) (P:=pL) (by decide) (by show ZM pL=kM.pay 71 0;decide) (by decide) (by decide) (by decide) (by decide) (by decide) ZJJ ht htf
  (fun m hm=>ZEO m (by have hm:m < 64 / 32:=hm;omega)) (by show (0:Int)<=4;omega) (by show 64 * 71<=ZM pL;decide) (by show ZM pL < 64 * 71+2048;decide) (g:=1) (by show hv2 71=some (1+1);decide) (by omega) (by omega) hv (by decide) (by show (l1 T0).length<=96;rw [ZDb];decide) (by show 64+16 * (l1 T0).length<=1664;rw [ZDb];decide) (show Vp 160 640 1664 (l1 T0) from ZEE (by kernel_rfl)) (x':=x+60) (by show x+6 * (l1 T0).length+8<=x+60;rw [ZDb];omega) (by omega)
 exact key
theorem ZI0 (h:HW w A F 160 T0 (cP T0) x H false (pG true) ex rs3 hv3) (hl:H.l0=71/\H.ls=64) (hx:x<=900000) (hex:ex<=900000) {db lg:Nat} (hd:DrW w A F H 0 db lg 640 1664)
 {v:Value} (hv:Wrs w v (Uw T0 1 125822818283105 pA)) {tb tc:Nat} (ht:w.cell? ⟨tb,0,none⟩=some (.int .u64 (pA:Nat))) (htf:F tb=none/\¬ H.own tb):
 Calls prog 26 #[.pointer (some ⟨db,0,none⟩),v,.slice (some ⟨tb,0,none⟩) 1 tc,.slice none 0 0] w fun e w'=>e=.returned (.int .i64 0)/\ClP w A F 160 T0 cw0 (x+60) H false (plc kF) (ex+1) (fun _=>none) (fun _=>none) w':=by
 obtain ⟨Hhb,Hsb,Hpb,Hrb,Hvb,Ht,Hl0,Hls,Hcap,Hx0⟩:=H;obtain ⟨e1,e2⟩:=hl;have e1:Hl0=71:=e1;have e2:Hls=64:=e2;subst e1 e2
 have key:=Vh (tc:=tc) h hd (by omega) (by omega) ZHD.2.2 (m:=0) (by show 0 < 64 / 32;decide) (by show 71+32 * 0+32<=160;omega) (k:=kN) ZJd (by decide) (b:=1) (kd:=64) (P:=pA) (by decide) (by show ZM pA=kN.pay 71 1;decide) (by decide) (by decide) (by decide) (by decide) (by decide) ZJK ht htf
  (fun m hm=>ZEO m (by have hm:m < 64 / 32:=hm;omega)) (by show (0:Int)<=4;omega) (by show 64 * 71<=ZM pA;decide) (by show ZM pA < 64 * 71+2048;decide) (g:=0) (by show hv3 71=some (0+1);decide) (by omega) (by omega) hv (by decide) (by show (l2 T0).length<=96;rw [ZDc];decide) (by show 64+16 * (l2 T0).length<=1664;rw [ZDc];decide) (show Vp 160 640 1664 (l2 T0) from ZEE (by kernel_rfl)) (x':=x+60) (by show x+6 * (l2 T0).length+8<=x+60;rw [ZDc];omega) (by omega)
 refine key.mono ?_;rintro e w' ⟨he,F',hw,hm⟩;have hp:Qc (pG true) 0 0=plc kF:=by
  unfold Qc;rw [ZKv rfl,show (⟨(pG true 0).line,(pG true 0).cl,(pG true 0).ow,false⟩:Plc)=⟨71,4,0,false⟩ from rfl,ZDi,ZGv]
 have hr:XV rs3 (ZM pA)=fun _=>none:=by rw [QW.2];exact rs4
 have hv:Jo hv3 71 0=fun _=>none:=by unfold Jo;rw [ZKv rfl];exact hv4
 refine ⟨he,F',?_,hm⟩;have hw2:=hw;rw [hp,hr] at hw2;have e:Jo hv3 ((HAd.mk Hhb Hsb Hpb Hrb Hvb Ht 71 64 Hcap Hx0).l0+32 * 0) 0=fun _=>none:=hv
 rw [e] at hw2;exact hw2
end
end Go.Proofs.YteomliechfdhhaaGreatDoor.Dv
