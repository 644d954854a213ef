/- Part 57. -/
import Derived.Test.YtbpeehmepehkdaaGreatDoorV42
set_option maxHeartbeats 8000000
set_option maxRecDepth 20000
set_option linter.all false
namespace Go.Proofs.YtbpeehmepehkdaaGreatDoor.Dv
open Tryz
section
open Go.RowKit Go.Proofs.YtbpeehmepehkdaaGreatDoor.Size
variable {w w':World}{A:DAd}{F F':Nat->Option ZM}{L:Nat}{T c c' c0:Nat->Nat}{x x':Nat}{H:HAd}{p:Nat->Plc}{ex n:Nat}{res held:Nat->Option Nat}{s:LS}{B:WAd}
theorem Qn (h:HW w A F L T c x H false p ex res held) {t db lb off size:Nat} (hd:DrW w A F H t db lb off size) {lib P kb cnt Q:Nat} {q e:Nat->Nat} (hl:LiB w lib P kb) (hn:NdC c L P 0 cnt q e) (hQ:PtrOk Q)
 (hck:∀ w1,Bl w w1->Calls prog 16 #[.pointer (some ⟨db,0,none⟩),.int .u64 P,.int .u8 12] w1 fun e' w'=>e'=.returned (.int .i64 0)/\Bl w1 w')
 (hckq:∀ w1,Bl w w1->Calls prog 16 #[.pointer (some ⟨db,0,none⟩),.int .u64 Q,.int .u8 0] w1 fun e' w'=>e'=.returned (.int .i64 0)/\Bl w1 w')
 (hno:ZGl (itm q e 29) Q){v:Value}:
 Calls prog 20 #[.pointer (some ⟨lib,0,none⟩),.iface 37 (.pointer (some ⟨db,0,none⟩)),.int .u64 Q,v] w fun e' w'=>e'=.returned (.int .i64 6)/\Bl w w':=by
 have hq64:Q < 18446744073709551616:=by have:=hQ.lt;omega
 obtain ⟨w1,hw1⟩:=xE (w.alloc (.cells #[.int .u64 Q] 32));have hb1:Bl w w1:=by rw [hw1];exact ZA bR
 have ht:∀ wx,Bl w1 wx->Bl w wx:=fun wx hb=>hb1.trans (hb.mono hb1.size)
 have HER:=zh (fun wx (hb:Bl w1 wx)=>Vf (h.ar.below (ht _ hb)) (hd.below (ht _ hb)));have HCH:=zh (fun wx (hb:Bl w1 wx)=>Xc (h.ar.below (ht _ hb)) (hd.below (ht _ hb)) (hl.below (ht _ hb)) hn (fun w2 hb2=>hck w2 ((ht _ hb).trans (hb2.mono (ht _ hb).size))));have HCK:=zh (fun wx (hb:Bl w1 wx)=>hckq _ (ht _ hb));have HNO:=zh hno;have HN29:=zh (VI q e 29);have HNI:=zh (fun w1=>show Calls prog 15 #[.int .u64 Q] w1 (fun e' w'=>e'=.returned (.bool false)/\w1=w') from by
  have:=Zd (w:=w1) (p:=Q);rw [ZLh hQ.ne] at this;exact this)
 have HBB:=zh hb1;have hpq:w1.heap[w.heap.size]?=some (.cells #[.int .u64 Q] 32):=by rw [hw1];exact ZC _ _
 have HPQ:=zh (fun wx (hb:Bl w1 wx)=>show wx.cell? ⟨w.heap.size,0,none⟩=some (.int .u64 Q) from (ZD ((hb.block _ (heap_lt hpq)).trans hpq)).trans rfl);have HR1:=zh (bZ w1);have HP1:=zh (show w.heap.size < w1.heap.size from heap_lt hpq);clear h hd hl hn hQ hck hckq hno hq64 hb1 ht hpq;obtain ⟨PB,hPB⟩:=xE w.heap.size;rw [<-hPB] at HPQ HP1;go_in;go_wp2_with fail;rw [<-hw1];refine (HNI.o _).mono ?_;rintro e' w' ⟨rfl,rfl⟩;go_wp2_with fail;rw [<-hw1,<-hPB];refine (HER.o _ HR1.o).mono ?_;rintro e' w' ⟨rfl,rfl⟩;clear hw1 hPB;have p1:=HPQ.o _ HR1.o
 go_wp2_with (first
  |(rw [Yk];exact ⟨rfl,rfl⟩)
  |(go_invoke;go_simp;go_at_call 16;refine (HCK.o _ HR1.o).mono ?_;rintro e' w2 ⟨rfl,hb2⟩))
 have HB2:=zh hb2;clear hb2 p1 HCK;go_wp2_with fail;refine (HCH.o _ HB2.o).mono ?_;rintro e' w3 ⟨nv,rfl,g,cap,iv,rfl,hs,hiv,hb3,hg⟩;have HB3:=zh (HB2.o.trans (hb3.mono HB2.o.size));have HND:=zh (fun wx (hb:Bl w3 wx)=>hs.below hb nR);have HIT:=zh (fun wx (hb:Bl w3 wx)=>hiv.itm.below hb);have hisl:∃ a cap,iv=.slice a (itm q e 29).length cap:=ZN hiv;have HPQ3:=zh (fun wx (hb:Bl w3 wx)=>HPQ.o wx (HB3.o.trans (hb.mono HB3.o.size)));have HR3:=zh (bZ w3);obtain ⟨ia,ic,rfl⟩:=hisl;obtain ⟨IL,hIL⟩:=xE (itm q e 29);rw [<-hIL] at HIT HN29 HNO HND;clear hb3 hg hs hiv HB2 hIL HCH HPQ HR1 HER HNI;obtain ⟨K,hK⟩:=xE IL.length;have HK:=zh hK;rw [<-hK] at HND HIT;clear hK;go_wp2_with fail
 go_loopw [50] (fun i wr=>Bl w3 wr/\i=.int .i64 0) (fun i _=>0)
 case atStart=>exact ⟨HR3.o,rfl⟩
 case round=>
 obtain ⟨hb,hi⟩:=hrel;have HB4:=zh hb;clear hb;subst hi
 ·have hs4:=HND.o _ HB4.o
  have n0:=hs4 0 _ rfl;have n1:=hs4 1 _ rfl;have n2:=hs4 2 _ rfl;have n3:=hs4 3 _ rfl;clear hs4;go_wp2_with fail;obtain ⟨w4,hw4⟩:=xE (wr.alloc (.cells #[.int .u64 P,.int .u64 0,.int .i64 cnt,.slice ia K ic] 129));have HB5:=zh (show Bl w3 w4 by rw [hw4];exact ZA HB4.o);have HCN:=zh (ZEm (b:=true) (HPQ3.o _ HB5.o) (by have:=HIT.o _ HB5.o;rw [HK.o] at this;exact this) (by have:=HN29.o;omega) ⟨fun _=>HNO.o,fun _=>rfl⟩);rw [<-HK.o] at HCN;rw [<-hw4];clear hw4 HB4 n0 n1 n2 n3;refine HCN.o.mono ?_;rintro e' w5 ⟨rfl,hb5⟩;have HB6:=zh (HBB.o.trans ((HB3.o.trans ((HB5.o.trans (hb5.mono HB5.o.size)).mono HB3.o.size)).mono HBB.o.size));clear hb5 HB5;go_wp2;go_returns;exact ⟨rfl,HB6.o⟩
theorem ZAL (h:HW w A F L T c x H false p ex res held) {t db lb off size:Nat} (hd:DrW w A F H t db lb off size) {lib Q:Nat} (hQ:PtrOk Q)
 (hckq:∀ w1,Bl w w1->Calls prog 16 #[.pointer (some ⟨db,0,none⟩),.int .u64 Q,.int .u8 0] w1 fun e' w'=>e'=.returned (.int .i64 12)/\Bl w1 w'){v:Value}:
 Calls prog 20 #[.pointer (some ⟨lib,0,none⟩),.iface 37 (.pointer (some ⟨db,0,none⟩)),.int .u64 Q,v] w fun e' w'=>e'=.returned (.int .i64 12)/\Bl w w':=by
 have hq64:Q < 18446744073709551616:=by have:=hQ.lt;omega
 obtain ⟨w1,hw1⟩:=xE (w.alloc (.cells #[.int .u64 Q] 32));have hb1:Bl w w1:=by rw [hw1];exact ZA bR
 have ht:∀ wx,Bl w1 wx->Bl w wx:=fun wx hb=>hb1.trans (hb.mono hb1.size)
 have HER:=zh (fun wx (hb:Bl w1 wx)=>Vf (h.ar.below (ht _ hb)) (hd.below (ht _ hb)));have HCK:=zh (fun wx (hb:Bl w1 wx)=>hckq _ (ht _ hb));have HNI:=zh (fun w1=>show Calls prog 15 #[.int .u64 Q] w1 (fun e' w'=>e'=.returned (.bool false)/\w1=w') from by
  have:=Zd (w:=w1) (p:=Q);rw [ZLh hQ.ne] at this;exact this)
 have HBB:=zh hb1;have hpq:w1.heap[w.heap.size]?=some (.cells #[.int .u64 Q] 32):=by rw [hw1];exact ZC _ _
 have HPQ:=zh (fun wx (hb:Bl w1 wx)=>show wx.cell? ⟨w.heap.size,0,none⟩=some (.int .u64 Q) from (ZD ((hb.block _ (heap_lt hpq)).trans hpq)).trans rfl);have HR1:=zh (bZ w1);have HP1:=zh (show w.heap.size < w1.heap.size from heap_lt hpq);clear h hd hQ hckq hq64 hb1 ht hpq;obtain ⟨PB,hPB⟩:=xE w.heap.size;rw [<-hPB] at HPQ HP1;go_in;go_wp2_with fail;rw [<-hw1];refine (HNI.o _).mono ?_;rintro e' w' ⟨rfl,rfl⟩;go_wp2_with fail;rw [<-hw1,<-hPB];refine (HER.o _ HR1.o).mono ?_;rintro e' w' ⟨rfl,rfl⟩;clear hw1 hPB;have p1:=HPQ.o _ HR1.o
 go_wp2_with (first
  |(rw [Yk];exact ⟨rfl,rfl⟩)
  |(go_invoke;go_simp;go_at_call 16;refine (HCK.o _ HR1.o).mono ?_;rintro e' w2 ⟨rfl,hb2⟩))
 have HE:=zh (HBB.o.trans (hb2.mono HBB.o.size));clear hb2 p1 HCK;go_wp2;go_returns;exact ⟨rfl,HE.o⟩
theorem ZBj {db P:Nat}{v:Value}:Calls prog 20 #[.pointer none,.iface 37 (.pointer (some ⟨db,0,none⟩)),.int .u64 P,v] w fun e' w'=>e'=.returned (.int .i64 1)/\Bl w w':=by
 have HB:=zh (ZA (o:=.cells #[.int .u64 P] 32) (bZ w));go_in;go_wp2;go_returns;exact ⟨rfl,HB.o⟩
theorem ZAK {db:Nat}:Calls prog 24 #[.pointer none,.iface 37 (.pointer (some ⟨db,0,none⟩))] w fun e' w'=>e'=.returned (.tuple #[.int .i64 0,.int .i64 1])/\Bl w w':=by
 have HB:=zh (ZA (o:=.cells #[.pointer none] 38) (bZ w));go_in;go_wp2;go_returns;exact ⟨rfl,HB.o⟩
theorem ZFs {db:Nat}:Calls prog 25 #[.pointer none,.iface 37 (.pointer (some ⟨db,0,none⟩))] w fun e' w'=>e'=.returned (.slice none 0 0)/\w=w':=by
 go_in;go_wp2;go_returns;exact ⟨rfl,rfl⟩
theorem ZFz {db kb:Nat}:Calls prog 22 #[.iface 37 (.pointer (some ⟨db,0,none⟩)),.int .u64 (0:Nat),.pointer (some ⟨kb,0,none⟩)] w fun e' w'=>e'=.returned (.tuple #[.pointer none,.int .i64 1])/\w=w':=by
 have HNI:=zh (fun w1=>show Calls prog 15 #[.int .u64 (0:Nat)] w1 (fun e w'=>e=.returned (.bool true)/\w1=w') from by
  have:=Zd (w:=w1) (p:=0);simpa using this)
 go_in;go_wp2_with fail;refine (HNI.o _).mono ?_;rintro e' w' ⟨rfl,rfl⟩;go_wp2;go_returns;exact ⟨rfl,rfl⟩
theorem ZCe {db P:Nat}(hP:P≠0):Calls prog 22 #[.iface 37 (.pointer (some ⟨db,0,none⟩)),.int .u64 P,.pointer none] w fun e' w'=>e'=.returned (.tuple #[.pointer none,.int .i64 1])/\w=w':=by
 have HNI:=zh (fun w1=>show Calls prog 15 #[.int .u64 P] w1 (fun e' w'=>e'=.returned (.bool false)/\w1=w') from by
  have:=Zd (w:=w1) (p:=P);rw [ZLh hP] at this;exact this)
 clear hP;go_in;go_wp2_with fail;refine (HNI.o _).mono ?_;rintro e' w' ⟨rfl,rfl⟩;go_wp2;go_returns;exact ⟨rfl,rfl⟩
theorem J9 (h:WC w A F T c x H ex B c0 s):
 Calls prog 16 #[.pointer (some ⟨B.db,0,none⟩),.int .u64 (pA:Nat),.int .u8 12] w fun e w'=>e=.returned (.int .i64 13)/\Bl w w':=by
 have hR:=h.chk (m:=0) (by omega);rw [Jj] at hR;have h1:=Xb h.ar h.hw.hp (m:=0) (k:=k0) (by rw [h.hn];omega) (by rw [h.l0.1];omega) hR (by decide) (p:=pA) (by decide) (by decide) (by rw [h.l0.1];decide) (by rw [h.l0.1];decide) 12 (by omega);rw [h.l0.1] at h1;exact VC h.dr (by simpa [ZFq,UD,Jp.2.2] using h1)
theorem ZCb (h:Ar w A F L T c) {t db lb off size:Nat} (hd:DrW w A F H t db lb off size) {lib P kb:Nat} (hl:LiB w lib P kb)
 (hck:∀ w1,Bl w w1->Calls prog 16 #[.pointer (some ⟨db,0,none⟩),.int .u64 P,.int .u8 12] w1 fun e' w'=>e'=.returned (.int .i64 13)/\Bl w1 w'):
 Calls prog 54 #[.pointer (some ⟨lib,0,none⟩),.iface 37 (.pointer (some ⟨db,0,none⟩))] w fun e' w'=>e'=.returned (.tuple #[.slice none 0 0,.int .i64 13])/\Bl w w':=by
 have HER:=zh (fun w1 (hb:Bl w w1)=>Vf (h.below hb) (hd.below hb));have HCK:=zh hck;have HL:=zh hl;have HR0:=zh (bZ w);obtain ⟨l0,l1,_⟩:=Yd hl;clear h hd hl hck;go_in;go_wp2_with fail;refine (HER.o _ HR0.o).mono ?_;rintro e' w' ⟨rfl,rfl⟩;have hnl:=Yk;go_upto_region 4 with fail
 go_cut [7] (fun v wx=>v=.int .i64 13/\Bl w wx)
 ·go_region_held3 (fun wx=>wx.cell? ⟨lib,0,none⟩=some (.int .u64 P))
   (first|exact (Yd (HL.o.below (by repeat (with_reducible first|assumption|exact HR0.o|apply ZA|apply ZB)))).1)
   (first
     |(rw [Yk];exact ⟨rfl,rfl⟩)
     |(go_invoke;go_simp;go_at_call 16;refine (HCK.o _ (by repeat (with_reducible first|assumption|exact HR0.o|apply ZA|apply ZB))).mono ?_;rintro e' V1 ⟨rfl,hbv⟩;have hbz:Bl w V1:=(show Bl w _ from by repeat (with_reducible first|exact HR0.o|apply ZA|apply ZB)).trans (hbv.mono (by first|exact HR0.o.size|(simp;done)|skip))))
  all_goals
   (try go_simp)
   (try go_wp2_with fail)
   go_meet;exact ⟨rfl,by repeat (with_reducible first|assumption|apply ZA|apply ZB)⟩
 ·obtain ⟨rfl,hb2⟩:=hcut
  have HB2:=zh hb2;clear hb2 l0 l1 HCK;go_wp2;go_returns;exact ⟨rfl,HB2.o⟩
theorem ZFy (h:Ar w A F L T c) {t db lb off size:Nat} (hd:DrW w A F H t db lb off size) {P kb:Nat} (hP:P≠0)
 (hck:∀ w1,Bl w w1->Calls prog 16 #[.pointer (some ⟨db,0,none⟩),.int .u64 P,.int .u8 12] w1 fun e' w'=>e'=.returned (.int .i64 13)/\Bl w1 w'):
 Calls prog 22 #[.iface 37 (.pointer (some ⟨db,0,none⟩)),.int .u64 P,.pointer (some ⟨kb,0,none⟩)] w fun e' w'=>e'=.returned (.tuple #[.pointer none,.int .i64 13])/\Bl w w':=by
 obtain ⟨w1,hw1⟩:=xE (w.alloc (.cells #[.int .u64 P,.pointer (some ⟨kb,0,none⟩)] 135));have hb1:Bl w w1:=by rw [hw1];exact ZA bR
 have hli:LiB w1 w.heap.size P kb:=by rw [hw1];exact ZC _ _
 have HCH:=zh (ZCb (h.below hb1) (hd.below hb1) hli (fun w2 hb2=>hck w2 (hb1.trans (hb2.mono hb1.size))));have HNI:=zh (fun w1=>show Calls prog 15 #[.int .u64 P] w1 (fun e' w'=>e'=.returned (.bool false)/\w1=w') from by
  have:=Zd (w:=w1) (p:=P);rw [ZLh hP] at this;exact this)
 have HB1:=zh hb1;have HW1:=zh hw1;clear h hd hP hck hb1 hli hw1;go_in;go_wp2_with fail;refine (HNI.o _).mono ?_;rintro e' w' ⟨rfl,rfl⟩;go_wp2_with fail;rw [<-HW1.o];refine HCH.o.mono ?_;rintro e' w2 ⟨rfl,hb2⟩;have HE:=zh (show Bl w w2 from HB1.o.trans (hb2.mono HB1.o.size));clear hb2;go_wp2;go_returns;exact ⟨rfl,HE.o⟩
theorem ZD8 (h:WC w A F T c x H ex B c0 s):
 Calls prog 22 #[.iface 37 (.pointer (some ⟨B.db,0,none⟩)),.int .u64 (pA:Nat),.pointer (some ⟨B.kb,0,none⟩)] w fun e' w'=>e'=.returned (.tuple #[.pointer none,.int .i64 13])/\Bl w w':=
 ZFy h.ar h.dr (by decide) (fun w2 hb2=>J9 (h.below hb2))
theorem ZEZ (h:WC w A F T c x H ex B c0 s)(hi:s.Inv n)(hn:n<=60){P:Nat}(hP:P∈s.fr){v:Value}:
 Calls prog 20 #[.pointer (some ⟨B.lib,0,none⟩),.iface 37 (.pointer (some ⟨B.db,0,none⟩)),.int .u64 P,v] w fun e' w'=>e'=.returned (.int .i64 12)/\Bl w w':=
 ZAL h.hw h.dr (hi.stale_chk hn h.rep.head hP).2.1.ok (fun w1 hb=>Vx (h.below hb) hi hn hP)
theorem ZDX (h:WC w A F T c x H ex B c0 s)(hi:s.Inv n)(hn:n<=60){y:Nat×Nat}(hy:y∈s.its){v:Value}:
 Calls prog 20 #[.pointer (some ⟨B.lib,0,none⟩),.iface 37 (.pointer (some ⟨B.db,0,none⟩)),.int .u64 y.1,v] w fun e' w'=>e'=.returned (.int .i64 6)/\Bl w w':=by
 have hf:y∈full s.en:=hi.ok.per.mem_iff.1 hy;have hl:=LS.mem_en hf;refine Qn h.hw h.dr h.li (h.rep.ndc hi hn) (hi.live_chk hn h.rep.head hl).2.1.ok (fun w1 hb=>YG (h.below hb)) (fun w1 hb=>Yg (h.below hb) hi hn hl (.inl rfl)) ?_;rw [<-h.rep.itm_full] at hf;obtain ⟨z,hz,e⟩:=ZLb.1 hf;exact ⟨z,hz,by rw [<-e]⟩
theorem refuses_any {w0:World}{t u:TypeId}(hg:Ev.GOk w0 t u){a:Option Addr}{len cap:Nat}{rc:Nat->Int×Int×Int}(ha:AArg w0 a len rc)(hl:len<=cap)(hc:cap<=maxLen)(hn:a=none->cap=0)(kd:Int):
 Calls prog 5 #[.slice a len cap,.int .u8 kd] w0 fun e w'=>e=.returned (.bool true)/\Bl w0 w':=by
 have HBG:=zh (Ui hg);have HAW:=zh (fun wx (hb:Bl w0 wx)=>Vy (V9 hg hb));have HFW:=zh (fun (wx:World)=>QB (w:=wx) (a:=a) (n:=len) (c:=cap) (m:=25) hl hc (by omega) (fun e=>by have:=hn e;omega));have HA:=zh ha;clear hg ha hl hc hn;go_in;go_wp2_with fail;refine HBG.o.mono ?_;rintro e w1 ⟨wb,rfl,hst,hb1⟩;have HS1:=zh hst;have HB1:=zh hb1;clear hst hb1 HBG;go_wp2_with fail;refine (HAW.o _ HB1.o).mono ?_;rintro e w2 ⟨rfl,hb2⟩;have HS2:=zh (HS1.o.below hb2);clear hb2 HS1 HB1 HAW;go_wp2_with fail;refine (HFW.o _).mono ?_;rintro e w' ⟨c',rfl,hc1,hc2,hww⟩;subst hww;obtain ⟨M,hM⟩:=xE (min len 25);have HM:=zh (show M<=len/\M<=25 by omega);rw [<-hM];clear hc1 hc2 hM HFW;go_wp2_with fail
 go_loopw [31] (fun i wr=>∃ k:Nat,k<=M/\i=.int .i64 k/\StS w0 wb [] k (runS rc k) wr) (fun i _=>M - (intOf i).toNat)
 case atStart=>exact ⟨0,by omega,rfl,HS2.o⟩
 case round=>
 obtain ⟨k,hk,rfl,hst⟩:=hrel
 by_cases hlt:k < M
 ·have d1:(k:Int) < M:=by omega
  have d45:(k:Int) < 25:=by have:=HM.o;omega
  obtain ⟨b,o,rfl,q0,q1,q2⟩:=(HA.o.below (hst.base)) k (by have:=HM.o;omega);have HS:=zh hst;have HK:=zh hlt;clear hst hk hlt;go_upto_region 7 with fail;obtain ⟨w3,hw3⟩:=xE (wr.alloc (.cells #[.int .i64 (rc k).1,.int .i64 (rc k).2.1,.int .i64 (rc k).2.2] 28));have hb3:Bl wr w3:=by rw [hw3];exact ZA bR
  have hx3:w3.heap[wr.heap.size]?=some (.cells #[.int .i64 (rc k).1,.int .i64 (rc k).2.1,.int .i64 (rc k).2.2] 28 (0,0)):=by rw [hw3];exact ZC _ _
  rw [<-hw3];obtain ⟨a0,a1,a2,_⟩:=ZY hx3;have HD:=zh (ZEn (HS.o.below hb3) (by have:=HK.o;have:=HM.o;omega) (rc k));clear hw3 hb3 hx3 HS q0 q1 q2;go_wp2_with fail;refine HD.o.mono ?_;rintro e w4 ⟨rfl,hs4⟩;have HS4:=zh (show StS w0 wb [] (k+1) (runS rc (k+1)) w4 from hs4);clear hs4 a0 a1 a2 HD;go_wp2_with fail;exact ⟨⟨k+1,by have:=HK.o;omega,rfl,HS4.o⟩,by have:=HK.o;simp [intOf];omega⟩
 ·obtain rfl:k=M:=by omega
  have HBS:=zh hst.base;obtain ⟨A,F,H,B,c,x,ex,fv,iv,hi,hC,hR,e4,e5,rfl,e7,e8,e9,e10⟩:=hst;have hk60:k<=60:=by have:=HM.o;omega
  generalize hs:runS rc k=s at hi hC hR;obtain ⟨V,hV⟩:=xE wr;rw [<-hV] at hC hR HBS ⊢;have hGn:Ev.Gn<=V.heap.size:=by
   have:=hC.xb.size;rw [e8] at this;omega
  have HRN:=zh (fun (wx:World) (v:Value)=>Jn (w:=wx) (lib:=B.lib) (db:=B.db) (v:=v));have HRX:=zh (fun wx (hb:Bl V wx) (y:Nat×Nat) (hy:y∈s.its) (v:Value)=>ZDX (hC.below hb) hi hk60 hy (v:=v));have HRS:=zh (fun wx (hb:Bl V wx) (P:Nat) (hP:P∈s.fr) (v:Value)=>ZEZ (hC.below hb) hi hk60 hP (v:=v));have HLK:=zh (fun wx (hb:Bl V wx)=>show Calls prog 21 #[.pointer (some ⟨B.wb,0,none⟩),.int .i64 0,.int .u64 18014402804449918] wx (fun e w'=>e=.returned (.slice (some ⟨wx.heap.size,0,none⟩) 1 1)/\Bl wx w') from (Us (w:=wx) (wb:=B.wb) (P:=18014402804449918) (i:=0) (v:=18014402804449918) (hR.below hb).three (by omega) (by omega) (by omega)).mono (fun e w' q=>⟨q.1,by rw [q.2];exact ZA bR⟩));have HO1:=zh (fun wx (hb:Bl V wx)=>ZD8 (hC.below hb));have HO2:=zh (fun (wx:World)=>ZFz (w:=wx) (db:=B.db) (kb:=B.kb));have HO3:=zh (fun (wx:World)=>ZCe (w:=wx) (db:=B.db) (P:=18014402804449918) (by omega));have HEP:=zh (fun wx (hb:Bl V wx)=>Yo (hC.po.below hb));have HCN:=zh (fun (wx:World)=>ZAK (w:=wx) (db:=B.db));have HRO:=zh (fun (wx:World) (v:Value)=>ZBj (w:=wx) (db:=B.db) (P:=18014402804449918) (v:=v));have HAN:=zh (fun (wx:World)=>ZFs (w:=wx) (db:=B.db));have HSM:=zh (fun wx (hb:Bl V wx)=>ZC5 (hC.below hb) (hR.below hb) hi hk60);obtain ⟨ia,ic,hia⟩:=ZN hR.ite.1;subst hia;obtain ⟨fa,fc,hfa⟩:=ZN hR.fre.1;subst hfa;have HIT:=zh (fun wx (hb:Bl V wx)=>(hR.below hb).ite.1);have HFT:=zh (fun wx (hb:Bl V wx)=>(hR.below hb).fre.1);have HZ:=zh (fun wx (hb:Bl V wx)=>show wx.cell? ⟨B.wb,0,none⟩=some (.pointer (some ⟨B.pb,0,none⟩))/\wx.cell? ⟨B.wb,1,none⟩=some (.pointer (some ⟨B.db,0,none⟩))/\wx.cell? ⟨B.wb,2,none⟩=some (.pointer (some ⟨B.lib,0,none⟩))/\wx.cell? ⟨B.wb,3,none⟩=some (.int .u64 18014402804449918) from ⟨(hR.below hb).zero,(hR.below hb).one,(hR.below hb).two,(hR.below hb).three⟩);have HZR:=zh (fun wx (hb:Bl V wx)=>show wx.cell? ⟨B.wb,44,none⟩=some (.slice fa s.fr.length fc)/\wx.cell? ⟨B.wb,45,none⟩=some (.slice ia s.its.length ic) from ⟨(hR.below hb).fvc,(hR.below hb).ivc⟩);have HBV:=zh (bZ V);have HL60:=zh (show s.its.length<=60/\s.fr.length<=60 by
   have h1:=hi.ok.per.length_eq;have h3:(full s.en).length<=s.en.length:=ZL0 _ _;have:=hC.rep.n29;have h4:=hi.ok.fl;have h5:=hi.nr;omega)
  obtain ⟨wb,hwb⟩:=xE B.wb;obtain ⟨L,hL⟩:=xE s.its.length;obtain ⟨L2,hL2⟩:=xE s.fr.length;have HL:=zh hL;have HL2:=zh hL2;rw [<-hwb] at HZ HZR HLK HSM ⊢;rw [<-hL,<-hL2] at HZR HL60;rw [<-hL] at HIT;rw [<-hL2] at HFT;clear hi hC hR hk hlt hV hs hGn e4 e5 e7 e8 e9 e10 hk60 HS2 HA HM hwb hL hL2;have HBQ:=zh (bZ V);obtain ⟨z0,z1,z2,z3⟩:=HZ.o _ HBV.o;have hsx:=HZ.o _ HBV.o;go_upto_region 10 with fail
  go_region_held3 (fun wx=>wx.cell? ⟨wb,0,none⟩=some (.pointer (some ⟨B.pb,0,none⟩))/\wx.cell? ⟨wb,1,none⟩=some (.pointer (some ⟨B.db,0,none⟩))/\wx.cell? ⟨wb,2,none⟩=some (.pointer (some ⟨B.lib,0,none⟩))/\wx.cell? ⟨wb,3,none⟩=some (.int .u64 18014402804449918))
   (first|exact hsx|exact HZ.o _ (by repeat (with_reducible first|assumption|exact HBQ.o|apply ZA|apply ZB)))
   (first|(refine ZF rfl func20 rfl rfl rfl (HRN.o _ _) (by simp [Act.eval];first|done|rfl) ?_;rintro e' V3 ⟨rfl,hbv⟩;refine ⟨_,rfl,?_⟩;have hb3:Bl V V3:=(show Bl V _ from by repeat (with_reducible first|exact HBQ.o|apply ZA|apply ZB)).trans (hbv.mono (by have:=HBQ.o.size;simp;try omega));have hsx:=HZ.o _ hb3))
  have HB1:=zh hb3;clear hb3 hbv hsx z0 z1 z2 z3 HBQ;obtain ⟨y44,y45⟩:=HZR.o _ HB1.o;go_wp2_with fail
  go_loopw [56] (fun i wr=>∃ k:Nat,k<=L/\i=.int .i64 k/\Bl V wr) (fun i _=>L - (intOf i).toNat)
  case atStart=>exact ⟨0,by omega,rfl,HB1.o⟩
  case round=>
  obtain ⟨m,hm,rfl,hb⟩:=hrel;have HB2:=zh hb;clear hb y44 y45
  by_cases hlt:m < L
  ·have b1:(m:Int) < L:=by omega
   have b2:(m:Int) < 60:=by have:=HL60.o;omega
   have hnl:m < s.its.length:=by have:=HL.o;omega
   obtain ⟨gI,cI,eI,hsI,_⟩:=Zb (HIT.o _ HB2.o) (by omega);cases eI;obtain ⟨y,hy⟩:=xE (s.its[m]);have hget:s.its[m]?=some y:=by rw [hy];exact ZLg hnl
   have HYM:=zh (show y∈s.its by rw [hy];exact ZLl _);obtain ⟨e0,e1⟩:=VP hget;have t0:=hsI _ _ e0;have t1:=hsI _ _ e1;rw [show 0+2 * m=m * 2 by omega] at t0;rw [show 0+(2 * m+1)=m * 2+1 by omega] at t1;have HRY:=zh (fun wx hb=>HRX.o wx hb y HYM.o);obtain ⟨yp,ye⟩:=y;simp only at t0 t1 HRY;have HLT:=zh hlt;clear hsI e0 e1 hget hy hnl hlt hm;go_upto_region 15 with fail;obtain ⟨w5,hw5⟩:=xE (wr.alloc (.cells #[.int .u64 yp,.int .u64 ye] 54));obtain ⟨IB,hIB⟩:=xE wr.heap.size;have hb5:Bl wr w5:=by rw [hw5];exact ZA bR
   have HI5:=zh (show w5.heap[IB]?=some (.cells #[.int .u64 yp,.int .u64 ye] 54 (0,0)) by rw [hw5,hIB];exact ZC _ _);have HB5:=zh (HB2.o.trans (hb5.mono HB2.o.size));rw [<-hw5,<-hIB];clear hw5 hIB hb5 t0 t1;have HBR:=zh (bZ w5);have HZ5:=zh (fun wx (hb:Bl w5 wx)=>show wx.cell? ⟨wb,0,none⟩=some (.pointer (some ⟨B.pb,0,none⟩))/\wx.cell? ⟨wb,1,none⟩=some (.pointer (some ⟨B.db,0,none⟩))/\wx.cell? ⟨wb,2,none⟩=some (.pointer (some ⟨B.lib,0,none⟩))/\wx.cell? ⟨wb,3,none⟩=some (.int .u64 18014402804449918)/\wx.cell? ⟨IB,0,none⟩=some (.int .u64 yp) from by
    obtain ⟨q0,q1,q2,q3⟩:=HZ.o _ (HB5.o.trans (hb.mono HB5.o.size));exact ⟨q0,q1,q2,q3,Zl hb (Yd HI5.o).1⟩)
   go_region_held3 (fun wx=>wx.cell? ⟨wb,0,none⟩=some (.pointer (some ⟨B.pb,0,none⟩))/\wx.cell? ⟨wb,1,none⟩=some (.pointer (some ⟨B.db,0,none⟩))/\wx.cell? ⟨wb,2,none⟩=some (.pointer (some ⟨B.lib,0,none⟩))/\wx.cell? ⟨wb,3,none⟩=some (.int .u64 18014402804449918)/\wx.cell? ⟨IB,0,none⟩=some (.int .u64 yp))
    (first|exact hs4|exact hs3|exact HZ5.o _ (by repeat (with_reducible first|assumption|exact HBR.o|apply ZA|apply ZB)))
    (first
      |(refine ZF rfl func21 rfl rfl rfl (HLK.o _ (HB5.o.trans ((ZB HBR.o).mono HB5.o.size))) (by simp [Act.eval];first|done|rfl) ?_;rintro e' V3 ⟨rfl,hbv3⟩;refine ⟨_,rfl,?_⟩;have hb3:Bl w5 V3:=(ZB HBR.o).trans (hbv3.mono (by first|exact (ZB HBR.o).size|simp));have hs3:=HZ5.o _ hb3)
      |(refine ZF rfl func20 rfl rfl rfl (HRY.o _ (HB5.o.trans ((hb3).mono HB5.o.size)) _) (by simp [Act.eval];first|done|rfl) ?_;rintro e' V4 ⟨rfl,hbv4⟩;refine ⟨_,rfl,?_⟩;have hb4:Bl w5 V4:=hb3.trans (hbv4.mono (by first|exact hb3.size|simp));have hs4:=HZ5.o _ hb4))
   have HE:=zh (HB5.o.trans (hb4.mono HB5.o.size));clear hbv3 hbv4 hb3 hb4 hs3 hs4;go_wp2_with fail;exact ⟨⟨m+1,by have:=HLT.o;omega,rfl,HE.o⟩,by have:=HLT.o;simp [intOf];omega⟩
  ·obtain rfl:m=L:=by omega
   have d1:¬ ((m:Int) < m):=by omega
   obtain ⟨y44,y45⟩:=HZR.o _ HB2.o;clear hm hlt;go_wp2_with fail;have HBW:=zh HB2.o
   go_loopw [85] (fun i wx=>∃ k:Nat,k<=L2/\i=.int .i64 k/\Bl V wx) (fun i _=>L2 - (intOf i).toNat)
   case atStart=>exact ⟨0,by omega,rfl,HBW.o⟩
   case round=>
   obtain ⟨j,hj,rfl,hb⟩:=hrel;have HB5:=zh hb;obtain ⟨w5,hw5⟩:=xE wr;rw [<-hw5] at HB5 ⊢;clear hb y44 y45 hw5;have HBR:=zh (bZ w5);have HZ5:=zh (fun wx (hb:Bl w5 wx)=>HZ.o _ (HB5.o.trans (hb.mono HB5.o.size)))
   by_cases hlt:j < L2
   ·have b1:(j:Int) < L2:=by omega
    have b2:(j:Int) < 60:=by have:=HL60.o;omega
    have hnl:j < s.fr.length:=by have:=HL2.o;omega
    obtain ⟨gF,cF,eF,hsF,_⟩:=Zb (HFT.o _ HB5.o) (by omega);cases eF;obtain ⟨q,hq⟩:=xE (s.fr[j]);have hget:s.fr[j]?=some q:=by rw [hq];exact ZLg hnl
    have HRQ:=zh (fun wx hb=>HRS.o wx hb q (by rw [hq];exact ZLl _));have t0:=hsF _ _ (ZBo hget);rw [show 0+j=j by omega] at t0;have HLT:=zh hlt;clear hsF hget hq hnl hlt hj;go_upto_region 21 with fail;clear t0
    go_region_held3 (fun wx=>wx.cell? ⟨wb,0,none⟩=some (.pointer (some ⟨B.pb,0,none⟩))/\wx.cell? ⟨wb,1,none⟩=some (.pointer (some ⟨B.db,0,none⟩))/\wx.cell? ⟨wb,2,none⟩=some (.pointer (some ⟨B.lib,0,none⟩))/\wx.cell? ⟨wb,3,none⟩=some (.int .u64 18014402804449918))
     (first|exact hs4|exact hs3|exact HZ5.o _ (by repeat (with_reducible first|assumption|exact HBR.o|apply ZA|apply ZB)))
     (first
       |(refine ZF rfl func21 rfl rfl rfl (HLK.o _ (HB5.o.trans ((ZB HBR.o).mono HB5.o.size))) (by simp [Act.eval];first|done|rfl) ?_;rintro e' V3 ⟨rfl,hbv3⟩;refine ⟨_,rfl,?_⟩;have hb3:Bl w5 V3:=(ZB HBR.o).trans (hbv3.mono (by first|exact (ZB HBR.o).size|simp));have hs3:=HZ5.o _ hb3)
       |(refine ZF rfl func20 rfl rfl rfl (HRQ.o _ (HB5.o.trans ((hb3).mono HB5.o.size)) _) (by simp [Act.eval];first|done|rfl) ?_;rintro e' V4 ⟨rfl,hbv4⟩;refine ⟨_,rfl,?_⟩;have hb4:Bl w5 V4:=hb3.trans (hbv4.mono (by first|exact hb3.size|simp));have hs4:=HZ5.o _ hb4))
    have HE:=zh (HB5.o.trans (hb4.mono HB5.o.size));clear hbv3 hbv4 hb3 hb4 hs3 hs4;go_wp2_with fail;exact ⟨⟨j+1,by have:=HLT.o;omega,rfl,HE.o⟩,by have:=HLT.o;simp [intOf];omega⟩
   ·obtain rfl:j=L2:=by omega
    have d2:¬ ((j:Int) < j):=by omega
    clear hj hlt;go_upto_region 24 with fail
    go_region_held3 (fun wx=>wx.cell? ⟨wb,0,none⟩=some (.pointer (some ⟨B.pb,0,none⟩))/\wx.cell? ⟨wb,1,none⟩=some (.pointer (some ⟨B.db,0,none⟩))/\wx.cell? ⟨wb,2,none⟩=some (.pointer (some ⟨B.lib,0,none⟩))/\wx.cell? ⟨wb,3,none⟩=some (.int .u64 18014402804449918))
     (first|exact hs3|exact HZ5.o _ (by repeat (with_reducible first|assumption|exact HBR.o|apply ZA|apply ZB)))
     (first
       |(refine ZF rfl func23 rfl rfl rfl (HEP.o _ (HB5.o.trans ((ZB HBR.o).mono HB5.o.size))) (by simp [Act.eval];first|done|rfl) ?_;rintro e' V2 ⟨rfl,rfl⟩;refine ⟨_,rfl,?_⟩)
       |(refine ZF rfl func22 rfl rfl rfl (HO1.o _ (HB5.o.trans ((ZB HBR.o).mono HB5.o.size))) (by simp [Act.eval];first|done|rfl) ?_;rintro e' V3 ⟨rfl,hbv3⟩;refine ⟨_,rfl,?_⟩;have hb3:Bl w5 V3:=(ZB HBR.o).trans (hbv3.mono (by first|exact (ZB HBR.o).size|simp));have hs3:=HZ5.o _ hb3))
    have HE:=zh (HB5.o.trans (hb3.mono HB5.o.size));clear hbv3 hb3 hs3;obtain ⟨w6,hw6⟩:=xE V3;rw [<-hw6] at HE ⊢;clear hw6 HZ5 HBR HB5;have HB5:=zh HE.o;have HBR:=zh (bZ w6);have HZ5:=zh (fun wx (hb:Bl w6 wx)=>HZ.o _ (HB5.o.trans (hb.mono HB5.o.size)));clear HE;go_upto_region 25 with fail
    go_region_held3 (fun wx=>wx.cell? ⟨wb,0,none⟩=some (.pointer (some ⟨B.pb,0,none⟩))/\wx.cell? ⟨wb,1,none⟩=some (.pointer (some ⟨B.db,0,none⟩))/\wx.cell? ⟨wb,2,none⟩=some (.pointer (some ⟨B.lib,0,none⟩))/\wx.cell? ⟨wb,3,none⟩=some (.int .u64 18014402804449918))
     (first|exact hs3|exact HZ5.o _ (by repeat (with_reducible first|assumption|exact HBR.o|apply ZA|apply ZB)))
     (first
       |(refine ZF rfl func23 rfl rfl rfl (HEP.o _ (HB5.o.trans ((ZB HBR.o).mono HB5.o.size))) (by simp [Act.eval];first|done|rfl) ?_;rintro e' V2 ⟨rfl,rfl⟩;refine ⟨_,rfl,?_⟩)
       |(refine ZF rfl func22 rfl rfl rfl (HO2.o _) (by simp [Act.eval];first|done|rfl) ?_;rintro e' V2 ⟨rfl,rfl⟩;refine ⟨_,rfl,?_⟩))
    have HE:=zh (ZB HB5.o);obtain ⟨w7,hw7⟩:=xE w6.drew;rw [<-hw7] at HE ⊢;clear hw7 HZ5 HBR HB5;have HB5:=zh HE.o;have HBR:=zh (bZ w7);have HZ5:=zh (fun wx (hb:Bl w7 wx)=>HZ.o _ (HB5.o.trans (hb.mono HB5.o.size)));clear HE;go_upto_region 26 with fail
    go_region_held3 (fun wx=>wx.cell? ⟨wb,0,none⟩=some (.pointer (some ⟨B.pb,0,none⟩))/\wx.cell? ⟨wb,1,none⟩=some (.pointer (some ⟨B.db,0,none⟩))/\wx.cell? ⟨wb,2,none⟩=some (.pointer (some ⟨B.lib,0,none⟩))/\wx.cell? ⟨wb,3,none⟩=some (.int .u64 18014402804449918))
     (first|exact hs3|exact HZ5.o _ (by repeat (with_reducible first|assumption|exact HBR.o|apply ZA|apply ZB)))
     (first
       |(refine ZF rfl func22 rfl rfl rfl (HO3.o _) (by simp [Act.eval];first|done|rfl) ?_;rintro e' V2 ⟨rfl,rfl⟩;refine ⟨_,rfl,?_⟩))
    have HE:=zh (ZB HB5.o);obtain ⟨w8,hw8⟩:=xE w7.drew;rw [<-hw8] at HE ⊢;clear hw8 HZ5 HBR HB5;have HB5:=zh HE.o;have HBR:=zh (bZ w8);have HZ5:=zh (fun wx (hb:Bl w8 wx)=>HZ.o _ (HB5.o.trans (hb.mono HB5.o.size)));clear HE;obtain ⟨z0,z1,z2,z3⟩:=HZ5.o _ HBR.o;go_wp2_with fail;refine (HCN.o _).mono ?_;rintro e w9 ⟨rfl,hb9⟩;have HE:=zh (HB5.o.trans (hb9.mono HB5.o.size));clear hb9 z0 z1 z2 z3;obtain ⟨w10,hw10⟩:=xE w9;rw [<-hw10] at HE ⊢;clear hw10 HZ5 HBR HB5;have HB5:=zh HE.o;have HBR:=zh (bZ w10);have HZ5:=zh (fun wx (hb:Bl w10 wx)=>HZ.o _ (HB5.o.trans (hb.mono HB5.o.size)));clear HE;go_upto_region 29 with fail
    go_region_held3 (fun wx=>wx.cell? ⟨wb,0,none⟩=some (.pointer (some ⟨B.pb,0,none⟩))/\wx.cell? ⟨wb,1,none⟩=some (.pointer (some ⟨B.db,0,none⟩))/\wx.cell? ⟨wb,2,none⟩=some (.pointer (some ⟨B.lib,0,none⟩))/\wx.cell? ⟨wb,3,none⟩=some (.int .u64 18014402804449918))
     (first|exact hs4|exact hs3|exact HZ5.o _ (by repeat (with_reducible first|assumption|exact HBR.o|apply ZA|apply ZB)))
     (first
       |(go_at_call 20;refine (HRO.o _ _).mono ?_;rintro e' V3 ⟨rfl,hbv3⟩;have hb3:Bl w10 V3:=(ZB HBR.o).trans (hbv3.mono (by first|exact (ZB HBR.o).size|simp));have hs3:=HZ5.o _ hb3)
       |(go_at_call 25;refine (HAN.o _).mono ?_;rintro e' V2 ⟨rfl,rfl⟩)
       |(go_at_call 12;refine (HSM.o _ (HB5.o.trans ((hb3).mono HB5.o.size))).mono ?_;rintro e' V4 ⟨rfl,hbv4⟩;have hb4:Bl w10 V4:=hb3.trans (hbv4.mono (by first|exact hb3.size|simp));have hs4:=HZ5.o _ hb4))
    have HE:=zh (HBS.o.trans ((HB5.o.trans (hb4.mono HB5.o.size)).mono HBS.o.size));clear hbv3 hbv4 hb3 hb4 hs3 hs4;go_wp2;go_returns;exact ⟨rfl,HE.o⟩
end
end Go.Proofs.YtbpeehmepehkdaaGreatDoor.Dv
