/- Part 46. -/
import Derived.Test.YteomliechfdhhaaGreatDoorY24
set_option maxHeartbeats 8000000
set_option maxRecDepth 20000
set_option linter.all false
namespace Go.Proofs.YteomliechfdhhaaGreatDoor.Dv
open Tryz
section
open Go.RowKit Go.Proofs.YteomliechfdhhaaGreatDoor.Size
variable {w w':World}{A:DAd}{F F':Nat->Option ZK}{L:Nat}{T c c':Nat->Nat}{x x':Nat}{H:HAd}{lk:Bool}{p p':Nat->Plc}{ex:Nat}{res held:Nat->Option Nat}
def EnB (w:World)(ob kb t:Nat)(en:Bool)(ep:Nat):Prop:=w.heap[ob]?=some (.cells #[.pointer (some ⟨kb,0,none⟩),.int .i64 t,.bool en,.int .u64 ep,.int .i64 (0:Nat)] 103 (0,0))
theorem ZBo (h:Ar w A F L T c){kb now:Nat}{an:Nat->Nat}(hk:CkB w A kb now an){t:Nat}(ht:t < 8)(h0:an t=0):
 Calls prog 8 #[.pointer (some ⟨kb,0,none⟩),.int .i64 t] w fun e w'=>∃ ob,e=.returned (.tuple #[.pointer (some ⟨ob,0,none⟩),.int .i64 0])/\EnB w' ob kb t false 0/\w.heap.size<=ob/\Bl w w':=by
 have HT:=zh (fun w1 hb=>Vc h ht w1 hb);have HE:=zh (fun w1 hb=>Zq h ht w1 hb);have HR:=zh (Below.refl w.heap.size w);obtain ⟨c0,c1,c2⟩:=hk.three;have c3:=hk.at ht;rw [h0] at c3;have d1:decide ((t:Int) < 0)=false:=by simp
 have d2:decide (8<=(t:Int))=false:=by simp;omega
 have d3:(t:Int) < 8:=by omega
 clear h hk h0 ht;go_in;go_wp2_with fail;refine (HT.o _ HR.o).mono ?_;rintro e w' ⟨rfl,rfl⟩;go_wp2_with fail;refine (HE.o _ HR.o).mono ?_;rintro e w' ⟨rfl,rfl⟩;go_wp2;go_returns;exact ⟨_,rfl,ZB _ _,nR,ZA bR⟩
theorem ZHn (h:HW w A F L T c x H lk p ex res held){kb now:Nat}{an:Nat->Nat}(hk:CkB w A kb now an)(hn:1<=now/\now<=2147483647)(hc:c 560=7309464666214760448+now)(hL:4480 < 64 * L){t ob:Nat}(ht:t < 8)(ho:EnB w ob kb t false 0)(hf:Frn F H ob)(h0:an t=0):
 Calls prog 9 #[.pointer (some ⟨ob,0,none⟩)] w fun e w'=>e=.returned (.bool true)/\EnB w' ob kb t true now/\CkB w' A kb now (upd an t now)/\Only (fun k=>k=ob\/k=kb) w w':=by
 have hne:ob≠kb:=fun e=>by subst e;unfold CkB at hk;unfold EnB at ho;rw [hk] at ho;cases ho
 obtain ⟨w1,hw1⟩:=xE (w.setCell ⟨ob,2,none⟩ (.bool true));have ho1:Only (fun k=>k=ob) w w1:=by rw [hw1];exact (Only.refl (fun k=>k=ob) w).set (b:=ob) (i:=2) rfl _
 have hE1:EnB w1 ob kb t true 0:=by rw [hw1];exact (ZH ho).trans rfl
 have hk1:CkB w1 A kb now an:=(ho1.block _ (heap_lt hk) (fun e=>hne e.symm)).trans hk;have hw:HW w1 A F L T c x H lk p ex res held:=h.only ho1 (fun k _ e=>by rw [e];exact hf);have HT:=zh (Vc hw.ar ht w1.drew (ZD bR));have HP:=zh (QD (w:=w1.drew) (hw.ar.below (ZD bR)) (hk1.below (ZD bR)) hn hc hL ht);obtain ⟨c0,c1,c2,_⟩:=VH ho;obtain ⟨d0,d1,d2,d3,d4,_⟩:=VH hE1;have k0:=hk1.three.1;have f2:=ZG (i:=2) ho;have b1:(t:Int) < 8:=by omega
 have b2:decide ((t:Int) < 0)=false:=by simp
 have b3:decide (8<=(t:Int))=false:=by simp;omega
 have HE1:=zh hE1;have HO1:=zh ho1;have HNE:=zh hne;have HKL:=zh hk1;have HT8:=zh ht;have H0:=zh h0;clear h hk hn hc hL ht ho hf h0 hw hk1 hE1 ho1 hne;go_in;go_upto_region 4 with fail;rw [<-hw1];clear hw1 c0 c1 c2 f2;have HR1:=zh (Below.refl w1.heap.size w1)
 go_region_held3 (fun wx=>(wx.cell? ⟨ob,0,none⟩=some (.pointer (some ⟨kb,0,none⟩))/\wx.cell? ⟨ob,1,none⟩=some (.int .i64 t))/\wx.cell? ⟨kb,0,none⟩=some (.pointer (some ⟨A.d,0,none⟩)))
  (first|assumption|exact ⟨⟨d0,d1⟩,k0⟩)
  (first
    |(refine ZJ rfl func32 rfl rfl rfl HP.o (by first|(simp [Act.eval];done)|(simp [Act.eval];rfl)) ?_;rintro e' V2 ⟨rfl,rfl⟩;refine ⟨_,rfl,?_⟩)
    |(refine ZJ rfl func30 rfl rfl rfl HT.o (by first|(simp [Act.eval];done)|(simp [Act.eval];rfl)) ?_;rintro e' V2 ⟨rfl,rfl⟩;refine ⟨_,rfl,?_⟩))
 have HOa:=zh (show Only (fun k=>k=ob\/k=kb) w w1.drew from (HO1.o.mono (fun k e=>.inl e)).drew);have HE2:=zh (show EnB w1.drew ob kb t true 0 from HE1.o);have HK2:=zh (show CkB w1.drew A kb now an from HKL.o);obtain ⟨w2,hw2⟩:=xE w1.drew;rw [<-hw2] at HE2 HK2 HOa ⊢;clear hw2 HT HP HR1 HKL HE1 HO1 d0 d1 d2 d3 d4 k0;obtain ⟨d0,d1,d2,d3,d4,_⟩:=VH HE2.o;have k3:=HK2.o.at HT8.o;rw [H0.o] at k3;go_upto_region 8 with fail
 go_region_held3 (fun wx=>(wx.cell? ⟨ob,0,none⟩=some (.pointer (some ⟨kb,0,none⟩))/\wx.cell? ⟨ob,1,none⟩=some (.int .i64 t))/\wx.cell? ⟨kb,3+t,none⟩=some (.int .u64 (0:Nat)))
  (first|assumption|exact ⟨⟨d0,d1⟩,k3⟩)
  (fail)
 have HOb:=zh HOa.o.drew;have HE3:=zh (show EnB w2.drew ob kb t true 0 from HE2.o);have HK3:=zh (show CkB w2.drew A kb now an from HK2.o);obtain ⟨w3,hw3⟩:=xE w2.drew;rw [<-hw3] at HE3 HK3 HOb ⊢;clear hw3 HOa HE2 HK2 d0 d1 d2 d3 d4 k3;obtain ⟨d0,d1,d2,d3,d4,_⟩:=VH HE3.o;have fk:=HK3.o.free (3+t);have HE4:=zh (show EnB (w3.setCell ⟨kb,3+t,none⟩ (.int .u64 now)).drew ob kb t true 0 from (ZF HNE.o).trans HE3.o);have HK4:=zh (show CkB (w3.setCell ⟨kb,3+t,none⟩ (.int .u64 now)).drew A kb now (upd an t now) from HK3.o.put HT8.o now);have HOc:=zh (HOb.o.set (b:=kb) (i:=3+t) (.inr rfl) (.int .u64 now)).drew;have k3:=HK3.o.at HT8.o;have HD4:=zh (show (w3.setCell ⟨kb,3+t,none⟩ (.int .u64 now)).drew.cell? ⟨ob,0,none⟩=some (.pointer (some ⟨kb,0,none⟩))/\(w3.setCell ⟨kb,3+t,none⟩ (.int .u64 now)).drew.cell? ⟨ob,1,none⟩=some (.int .i64 t) from ⟨(VH HE4.o).1,(VH HE4.o).2.1⟩);go_upto_region 9 with fail
 go_region_held3 (fun wx=>wx.cell? ⟨ob,0,none⟩=some (.pointer (some ⟨kb,0,none⟩))/\wx.cell? ⟨ob,1,none⟩=some (.int .i64 t))
  (first|exact ⟨d0,d1⟩|exact HD4.o)
  (fail)
 obtain ⟨w4,hw4⟩:=xE ((w3.setCell ⟨kb,3+t,none⟩ (.int .u64 now)).drew);rw [<-hw4] at HE4 HK4 HOc ⊢;clear hw4 HOb HE3 HK3 HD4 d0 d1 d2 d3 d4 k3 fk;obtain ⟨d0,d1,d2,d3,d4,_⟩:=VH HE4.o;have k3:=HK4.o.at HT8.o;rw [ZS] at k3;have f3:=ZG (i:=3) HE4.o;have HE5:=zh (show EnB (w4.setCell ⟨ob,3,none⟩ (.int .u64 now)).drew ob kb t true now from (ZH HE4.o).trans rfl);have HK5:=zh (show CkB (w4.setCell ⟨ob,3,none⟩ (.int .u64 now)).drew A kb now (upd an t now) from (ZF (fun e=>HNE.o e.symm)).trans HK4.o);have HOd:=zh (HOc.o.set (b:=ob) (i:=3) (.inl rfl) (.int .u64 now)).drew;have HD5:=zh (show ((w4.setCell ⟨ob,3,none⟩ (.int .u64 now)).drew.cell? ⟨ob,0,none⟩=some (.pointer (some ⟨kb,0,none⟩))/\(w4.setCell ⟨ob,3,none⟩ (.int .u64 now)).drew.cell? ⟨ob,1,none⟩=some (.int .i64 t))/\(w4.setCell ⟨ob,3,none⟩ (.int .u64 now)).drew.cell? ⟨kb,3+t,none⟩=some (.int .u64 now) from ⟨⟨(VH HE5.o).1,(VH HE5.o).2.1⟩,by have:=HK5.o.at HT8.o;rw [ZS] at this;exact this⟩);go_upto_region 10 with fail
 go_region_held3 (fun wx=>(wx.cell? ⟨ob,0,none⟩=some (.pointer (some ⟨kb,0,none⟩))/\wx.cell? ⟨ob,1,none⟩=some (.int .i64 t))/\wx.cell? ⟨kb,3+t,none⟩=some (.int .u64 now))
  (first|exact ⟨⟨d0,d1⟩,k3⟩|exact HD5.o)
  (fail)
 clear d0 d1 d2 d3 d4 k3 f3 HD5;go_wp2;go_returns;exact ⟨rfl,HE5.o,HK5.o,HOd.o⟩
theorem ZGD {ob kb t ep:Nat}(ho:EnB w ob kb t true ep):
 Calls prog 10 #[.pointer (some ⟨ob,0,none⟩)] w fun e w'=>e=.returned (.tuple #[.int .u64 ep,.int .i64 0])/\Bl w w':=by
 obtain ⟨c0,c1,c2,c3,c4,_⟩:=VH ho;clear ho;go_in;go_wp2_with fail
 go_region_held3 (fun wx=>wx.cell? ⟨ob,3,none⟩=some (.int .u64 ep)/\wx.cell? ⟨ob,4,none⟩=some (.int .i64 (0:Nat)))
  (first|assumption|exact ⟨c3,c4⟩)
  (fail)
 go_wp2;go_returns;exact ⟨rfl,ZD bR⟩
end
end Go.Proofs.YteomliechfdhhaaGreatDoor.Dv
