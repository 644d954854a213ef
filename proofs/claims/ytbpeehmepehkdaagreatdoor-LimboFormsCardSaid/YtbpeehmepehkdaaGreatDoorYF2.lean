/- Part 55. -/
import Derived.Test.YtbpeehmepehkdaaGreatDoorY48
set_option maxHeartbeats 8000000
set_option maxRecDepth 20000
set_option linter.all false
namespace Go.Proofs.YtbpeehmepehkdaaGreatDoor.Dv
open Tryz
section
open Go.RowKit Go.Proofs.YtbpeehmepehkdaaGreatDoor.Size
variable {w w':World}
def JD (en:List (Nat×Nat))(i:Nat):Nat:=(full (en.take i)).length
theorem ZFR (en:List (Nat×Nat))(i:Nat):JD en (i+1)=JD en i+(if (en.getD i (0,0)).1=0 then 0 else 1):=by
 unfold JD full;rw [List.take_add_one,ZL5,ZLc]
 congr 1
 rw [ZLw];cases h:en[i]? with
 |none=>rfl
 |some y=>
  obtain ⟨a,b⟩:=y
  by_cases h0:a=0
  ·subst h0;rfl
  ·have:(a != 0)=true:=by simpa using h0
   simp [this,h0]
theorem ZG6 {en:List (Nat×Nat)}(h:en.length<=29):JD en 29=(full en).length:=by unfold JD;rw [ZL1 h]
theorem ZIc (en:List (Nat×Nat))(i:Nat):JD en i<=i:=by
 unfold JD full;have h1:=ZL0 (fun x:Nat×Nat=>x.1 != 0) (en.take i);have h2:=List.length_take_le i en;omega
def okN (its:List (Nat×Nat))(q e m:Nat):Bool:=(its.take m).any fun y=>y.1 == q && y.2 == e
theorem ZHe {its:List (Nat×Nat)}{q e m:Nat}{y:Nat×Nat}(h:its[m]?=some y):okN its q e (m+1)=(okN its q e m || (y.1 == q && y.2 == e)):=by
 unfold okN;rw [List.take_add_one,h,List.any_append];simp
theorem ZI4 {its:List (Nat×Nat)}{q e:Nat}(h:(q,e)∈its):okN its q e its.length=true:=by
 unfold okN;rw [List.take_length];exact List.any_eq_true.2 ⟨_,h,by simp⟩
theorem forms_any {w0:World}{t u:TypeId}(hg:Ev.GOk w0 t u){a:Option Addr}{len cap:Nat}{rc:Nat->Int×Int×Int}(ha:AArg w0 a len rc)(hl:len<=cap)(hc:cap<=maxLen)(hn:a=none->cap=0):
 Calls prog 4 #[.slice a len cap] w0 fun e w'=>e=.returned (.bool true)/\Bl w0 w':=by
 have HBG:=zh (Ui hg);have HAW:=zh (fun (wx:World) (hb:Bl w0 wx)=>Vy (V9 hg hb));have HFW:=zh (fun (wx:World)=>QB (w:=wx) (a:=a) (n:=len) (c:=cap) (m:=45) hl hc (by omega) (fun e=>by have:=hn e;omega));have HA:=zh ha;clear hg ha hl hc hn;go_in;go_wp2_with fail;refine HBG.o.mono ?_;rintro e w1 ⟨wb,rfl,hst,hb1⟩;have HS1:=zh hst;have HB1:=zh hb1;clear hst hb1 HBG;go_wp2_with fail;refine (HAW.o _ HB1.o).mono ?_;rintro e w2 ⟨rfl,hb2⟩;have HS2:=zh (HS1.o.below hb2);clear hb2 HS1 HB1 HAW;go_wp2_with fail;refine (HFW.o _).mono ?_;rintro e w' ⟨c',rfl,hc1,hc2,hww⟩;subst hww;obtain ⟨M,hM⟩:=xE (min len 45);have HM:=zh (show M<=len/\M<=45 by omega);rw [<-hM];clear hc1 hc2 hM HFW;go_wp2_with fail
 go_loopw [28] (fun i wr=>∃ k:Nat,k<=M/\i=.int .i64 k/\StS w0 wb [] k (runS rc k) wr) (fun i _=>M - (intOf i).toNat)
 case atStart=>exact ⟨0,by omega,rfl,HS2.o⟩
 case round=>
 obtain ⟨k,hk,rfl,hst⟩:=hrel
 by_cases hlt:k < M
 ·have d1:(k:Int) < M:=by omega
  have d45:(k:Int) < 45:=by have:=HM.o;omega
  obtain ⟨b,o,rfl,q0,q1,q2⟩:=(HA.o.below (hst.base)) k (by have:=HM.o;omega);have HS:=zh hst;have HK:=zh hlt;clear hst hk hlt;go_upto_region 7 with fail;obtain ⟨w3,hw3⟩:=xE (wr.alloc (.cells #[.int .i64 (rc k).1,.int .i64 (rc k).2.1,.int .i64 (rc k).2.2] 28));have hb3:Bl wr w3:=by rw [hw3];exact ZA bR
  have hx3:w3.heap[wr.heap.size]?=some (.cells #[.int .i64 (rc k).1,.int .i64 (rc k).2.1,.int .i64 (rc k).2.2] 28 (0,0)):=by rw [hw3];exact ZC _ _
  rw [<-hw3];obtain ⟨a0,a1,a2,_⟩:=ZY hx3;have HD:=zh (ZEn (HS.o.below hb3) (by have:=HK.o;have:=HM.o;omega) (rc k));clear hw3 hb3 hx3 HS q0 q1 q2;go_wp2_with fail;refine HD.o.mono ?_;rintro e w4 ⟨rfl,hs4⟩;have HS4:=zh (show StS w0 wb [] (k+1) (runS rc (k+1)) w4 from hs4);clear hs4 a0 a1 a2 HD;go_wp2_with fail;exact ⟨⟨k+1,by have:=HK.o;omega,rfl,HS4.o⟩,by have:=HK.o;simp [intOf];omega⟩
 ·obtain rfl:k=M:=by omega
  have HBS:=zh hst.base;obtain ⟨A,F,H,B,c,x,ex,fv,iv,hi,hC,hR,e4,e5,rfl,e7,e8,e9,e10⟩:=hst;have hk60:k<=60:=by have:=HM.o;omega
  generalize hs:runS rc k=s at hi hC hR;obtain ⟨V,hV⟩:=xE wr;rw [<-hV] at hC hR HBS ⊢;have HGL:=zh (ZAj hC);have HRT:=zh (fun (wx:World) (hb:Bl V wx)=>Ux (hC.po.below hb));have HCK:=zh (fun (wx:World) (hb:Bl V wx)=>YG (hC.below hb));have HKD:=zh (fun (wx:World)=>show Calls prog 17 #[.int .u64 (3377704015495745:Nat)] wx (fun e w'=>e=.returned (.int .u8 12)/\wx=w') from by
   have:=Xz (w:=wx) (p:=3377704015495745) (by omega);rw [XV.2.2] at this;exact this)
  have HLD:=zh (fun (wx:World) (hb:Bl V wx) (j:Nat) (hj:j < 60)=>show Calls prog 18 #[.pointer (some ⟨B.db,0,none⟩),.int .u64 ((ZP pL+8 * j:Nat):Int)] wx (fun e w'=>e=.returned (.int .u64 (c (577+j):Nat))/\wx=w') from by
   have:=JH (hC.below hb).ar (hC.below hb).dr (o:=ZP pL+8 * j) (by rw [show ZP pL=4616 from XV.2.1];omega) (by rw [show ZP pL=4616 from XV.2.1];omega);rw [show (ZP pL+8 * j) / 8=577+j by rw [show ZP pL=4616 from XV.2.1];omega] at this;exact this)
  have HAT:=zh (fun (wx:World) (j:Nat) (hj:j < 60)=>show Calls prog 19 #[.int .u64 3377704015495745,.int .i64 j] wx (fun e w'=>e=.returned (.int .u64 (ZP pL+8 * j:Nat))/\wx=w') from XE (w:=wx) (p:=pL) (k:=j) (by decide) (by decide) hj);have HN1:=zh (fun (wx:World)=>show Calls prog 15 #[.int .u64 3377704015495745] wx (fun e w'=>e=.returned (.bool false)/\wx=w') from Zd (w:=wx) (p:=3377704015495745));have HN0:=zh (fun (wx:World)=>show Calls prog 15 #[.int .u64 (0:Nat)] wx (fun e w'=>e=.returned (.bool true)/\wx=w') from Zd (w:=wx) (p:=0));obtain ⟨ia,ic,hia⟩:=ZN hR.ite.1;subst hia;have HIT:=zh (fun (wx:World) (hb:Bl V wx)=>(hR.below hb).ite.1);have HZ:=zh (fun (wx:World) (hb:Bl V wx)=>show wx.cell? ⟨B.wb,0,none⟩=some (.pointer (some ⟨B.pb,0,none⟩))/\wx.cell? ⟨B.wb,1,none⟩=some (.pointer (some ⟨B.db,0,none⟩))/\wx.cell? ⟨B.wb,45,none⟩=some (.slice ia s.its.length ic) from ⟨(hR.below hb).zero,(hR.below hb).one,(hR.below hb).ivc⟩);have HN29:=zh hC.rep.n29;have HPER:=zh hi.ok.per;have HFM:=zh hi.ok.fm;have HNUM:=zh hC.rep.num;have HPTR:=zh hC.rep.ptr;have HEPO:=zh hC.rep.epo;have HNXT:=zh hC.rep.nxt;have HBV:=zh (Below.refl V.heap.size V);have HL60:=zh (show s.its.length<=29 by
   have h1:=hi.ok.per.length_eq;have h3:(full s.en).length<=s.en.length:=ZL0 _ _;have:=hC.rep.n29;omega)
  obtain ⟨z0,z1,z45⟩:=HZ.o _ HBV.o;obtain ⟨wb,hwb⟩:=xE B.wb;obtain ⟨L,hL⟩:=xE s.its.length;have HL:=zh hL;rw [<-hwb] at z0 z1 z45 HZ ⊢;rw [<-hL] at z45 HZ HIT HL60;clear hi hC hR hk hlt hV hs e4 e5 e7 e8 e9 e10 hk60 HS2 HA HM hwb hL;go_wp2_with fail;refine (HRT.o _ HBV.o).mono ?_;rintro e w' ⟨rfl,rfl⟩;go_wp2_with fail;refine (HGL.o _ HBV.o).mono ?_;rintro e w5 ⟨rfl,hb5⟩;have HB5:=zh hb5;clear hb5 HRT HGL z0 z1 z45;go_wp2_with fail
  go_loopw [6,8,9] (fun p f nn wr=>Bl V wr/\((p=.int .u64 3377704015495745/\f=.int .i64 (0:Nat)/\nn=.int .i64 0)\/(p=.int .u64 (0:Nat)/\f=.int .i64 L/\nn=.int .i64 1))) (fun _ _ nn _=>2 - (intOf nn).toNat)
  case atStart=>exact ⟨HB5.o,.inl ⟨rfl,rfl,rfl⟩⟩
  case round=>
  obtain ⟨hb,hq⟩:=hrel;have HB6:=zh hb;clear hb;rcases hq with ⟨rfl,rfl,rfl⟩|⟨rfl,rfl,rfl⟩
  ·go_wp2_with fail
   refine (HN1.o _).mono ?_;rintro e w' ⟨rfl,rfl⟩;obtain ⟨z0,z1,z45⟩:=HZ.o _ HB6.o;go_wp2_with fail;refine (HCK.o _ HB6.o).mono ?_;rintro e w7 ⟨rfl,hb7⟩;have HB7:=zh (HB6.o.trans (hb7.mono HB6.o.size));clear hb7 z0 z1 z45 HB6;obtain ⟨z0,z1,z45⟩:=HZ.o _ HB7.o;go_wp2_with fail;refine (HKD.o _).mono ?_;rintro e w' ⟨rfl,rfl⟩;go_wp2_with fail;have HA1:=zh (fun wx=>HAT.o wx 1 (by omega));have HL1:=zh (fun wx hb=>HLD.o wx hb 1 (by omega));have hnum:c (577+1)=s.en.length:=HNUM.o;rw [hnum] at HL1;obtain ⟨O,hO⟩:∃ O:Nat,O=ZP pL+8 * 1:=⟨_,rfl⟩
   rw [<-hO] at HA1 HL1;obtain ⟨N,hN⟩:=xE s.en.length;rw [<-hN] at HL1;have HN:=zh hN;have d29:(N:Int)<=29:=by have:=HN29.o;omega
   clear hO hnum hN
   go_region_held3 (fun wx=>wx.cell? ⟨wb,1,none⟩=some (.pointer (some ⟨B.db,0,none⟩)))
    (first|assumption|exact (HZ.o _ (by repeat (with_reducible first|exact HB7.o|apply ZB))).2.1)
    (first
      |(refine ZF rfl func19 rfl rfl rfl (HA1.o _) (by first|(simp [Act.eval];done)|(simp [Act.eval];rfl)) ?_;rintro e' V2 ⟨rfl,rfl⟩;refine ⟨_,rfl,?_⟩)
      |(refine ZF rfl func18 rfl rfl rfl (HL1.o _ (ZB HB7.o)) (by first|(simp [Act.eval];done)|(simp [Act.eval];rfl)) ?_;rintro e' V2 ⟨rfl,rfl⟩;refine ⟨_,rfl,?_⟩))
   have HB8:=zh (ZB HB7.o);clear z0 z1 z45 HA1 HL1 HB7;go_wp2_with fail
   go_loopw [8,11,78] (fun f sm ix wq=>∃ m:Nat,m<=29/\ix=.int .i64 m/\f=.int .i64 (JD s.en m)/\sm=.bool (decide (JD s.en m≠0))/\Bl V wq) (fun _ _ ix _=>29 - (intOf ix).toNat)
   case atStart=>exact ⟨0,by omega,rfl,rfl,rfl,HB8.o⟩
   case round=>
   obtain ⟨m,hm,rfl,rfl,rfl,hb⟩:=hrel;have HB9:=zh hb;clear hb HB8
   by_cases hlt:m < 29
   ·have b29:(m:Int) < 29:=by omega
    have HM:=zh hlt;have hcs:=ZFR s.en m;have HLE:=zh (ZIc s.en m);obtain ⟨q,hq⟩:=xE ((s.en.getD m (0,0)).1);have HA2:=zh (fun wx=>show Calls prog 19 #[.int .u64 3377704015495745,.int .i64 (2+2 * (m:Int))] wx (fun e w'=>e=.returned (.int .u64 (ZP pL+8 * (2+2 * m):Nat))/\wx=w') from by
     have:=HAT.o wx (2+2 * m) (by omega);rw [show ((2+2 * m:Nat):Int)=2+2 * (m:Int) by omega] at this;exact this)
    have HL2:=zh (fun wx hb=>HLD.o wx hb (2+2 * m) (by omega));have hptr:c (577+(2+2 * m))=q:=by rw [show 577+(2+2 * m)=579+2 * m by omega,HPTR.o m hlt,hq]
    rw [hptr] at HL2;obtain ⟨O,hO⟩:∃ O:Nat,O=ZP pL+8 * (2+2 * m):=⟨_,rfl⟩
    rw [<-hO] at HA2 HL2;rw [<-hq] at hcs;have HQ:=zh hq;obtain ⟨K,hK⟩:=xE (JD s.en m);rw [<-hK] at hcs HLE ⊢;have HK:=zh hcs;have k29:(K:Int)<=29:=by have:=HLE.o;omega
    obtain ⟨z0,z1,z45⟩:=HZ.o _ HB9.o;clear hO hptr hcs hq hK hlt hm;have hw1:IntKind.i64.wrap (2 * (m:Int))=2 * (m:Int):=IntWalk.i64_in _ (by omega);have hw2:IntKind.i64.wrap (2+2 * (m:Int))=2+2 * (m:Int):=IntWalk.i64_in _ (by omega)
    by_cases h0:q=0
    ·subst h0
     have HK2:=zh (show JD s.en (m+1)=K by have:=HK.o;simpa using this);clear HK;go_wp2_with fail
     go_region_held3 (fun wx=>wx.cell? ⟨wb,1,none⟩=some (.pointer (some ⟨B.db,0,none⟩)))
      (first|assumption|exact (HZ.o _ (by repeat (with_reducible first|exact HB9.o|apply ZB))).2.1)
      (first
        |(refine ZF rfl func19 rfl rfl rfl (HA2.o _) (by first|(simp [Act.eval,hw1,hw2];done)|(simp [Act.eval,hw1,hw2];rfl)) ?_;rintro e' V2 ⟨rfl,rfl⟩;refine ⟨_,rfl,?_⟩)
        |(refine ZF rfl func18 rfl rfl rfl (HL2.o _ (ZB HB9.o)) (by first|(simp [Act.eval,hw1,hw2];done)|(simp [Act.eval,hw1,hw2];rfl)) ?_;rintro e' V2 ⟨rfl,rfl⟩;refine ⟨_,rfl,?_⟩))
     have HB10:=zh (ZB HB9.o);clear z0 z1 z45 HA2 HL2;go_wp2_with fail;exact ⟨⟨m+1,by have:=HM.o;omega,rfl,by rw [HK2.o],by rw [HK2.o],HB10.o⟩,by have:=HM.o;simp [intOf];omega⟩
    ·have hmN:m < s.en.length:=by
      rcases Nat.lt_or_ge m s.en.length with h|h
      ·exact h
      ·exfalso
       apply h0;rw [HQ.o,ZLw,List.getElem?_eq_none h];rfl
     have HK2:=zh (show JD s.en (m+1)=K+1 by have:=HK.o;rw [ZLU h0] at this;exact this);obtain ⟨ep,hep⟩:=xE ((s.en.getD m (0,0)).2);have hin:(q,ep)∈s.its:=by
      refine HPER.o.mem_iff.2 (ZLv.2 ⟨?_,by simpa using h0⟩);rw [HQ.o,hep,ZLw,ZLg hmN];exact ZLl _
     have HIN:=zh (ZI4 hin);have HA3:=zh (fun wx=>show Calls prog 19 #[.int .u64 3377704015495745,.int .i64 (3+2 * (m:Int))] wx (fun e w'=>e=.returned (.int .u64 (ZP pL+8 * (3+2 * m):Nat))/\wx=w') from by
      have:=HAT.o wx (3+2 * m) (by have:=HM.o;omega);rw [show ((3+2 * m:Nat):Int)=3+2 * (m:Int) by omega] at this;exact this)
     have HL3:=zh (fun wx hb=>HLD.o wx hb (3+2 * m) (by have:=HM.o;omega));have hepo:c (577+(3+2 * m))=ep:=by rw [show 577+(3+2 * m)=580+2 * m by omega,HEPO.o m hmN,hep]
     rw [hepo] at HL3;obtain ⟨O3,hO3⟩:∃ O3:Nat,O3=ZP pL+8 * (3+2 * m):=⟨_,rfl⟩
     rw [<-hO3] at HA3 HL3;have hw3:IntKind.i64.wrap (3+2 * (m:Int))=3+2 * (m:Int):=IntWalk.i64_in _ (by omega);have q0:¬ ((q:Int)=0):=by omega
     have HMN:=zh hmN;clear HK hin hepo hO3 hep h0 hmN;go_wp2_with fail
     go_region_held3 (fun wx=>wx.cell? ⟨wb,1,none⟩=some (.pointer (some ⟨B.db,0,none⟩)))
      (first|assumption|exact (HZ.o _ (by repeat (with_reducible first|exact HB9.o|apply ZB))).2.1)
      (first
        |(refine ZF rfl func19 rfl rfl rfl (HA2.o _) (by first|(simp [Act.eval,hw1,hw2];done)|(simp [Act.eval,hw1,hw2];rfl)) ?_;rintro e' V2 ⟨rfl,rfl⟩;refine ⟨_,rfl,?_⟩)
        |(refine ZF rfl func18 rfl rfl rfl (HL2.o _ (ZB HB9.o)) (by first|(simp [Act.eval];done)|(simp [Act.eval];rfl)) ?_;rintro e' V2 ⟨rfl,rfl⟩;refine ⟨_,rfl,?_⟩))
     have HB10:=zh (ZB HB9.o);clear z0 z1 z45 HA2 HL2 HB9;obtain ⟨w10,hw10⟩:=xE wr.drew;rw [<-hw10] at HB10 ⊢;clear hw10;obtain ⟨z0,z1,z45⟩:=HZ.o _ HB10.o;go_wp2_with fail
     go_region_held3 (fun wx=>wx.cell? ⟨wb,1,none⟩=some (.pointer (some ⟨B.db,0,none⟩)))
      (first|assumption|exact (HZ.o _ (by repeat (with_reducible first|exact HB10.o|apply ZB))).2.1)
      (first
        |(refine ZF rfl func19 rfl rfl rfl (HA3.o _) (by first|(simp [Act.eval,hw1,hw3];done)|(simp [Act.eval,hw1,hw3];rfl)) ?_;rintro e' V2 ⟨rfl,rfl⟩;refine ⟨_,rfl,?_⟩)
        |(refine ZF rfl func18 rfl rfl rfl (HL3.o _ (ZB HB10.o)) (by first|(simp [Act.eval];done)|(simp [Act.eval];rfl)) ?_;rintro e' V2 ⟨rfl,rfl⟩;refine ⟨_,rfl,?_⟩))
     have HB11:=zh (ZB HB10.o);clear z0 z1 z45 HA3 HL3 HB10;obtain ⟨w11,hw11⟩:=xE w10.drew;rw [<-hw11] at HB11 ⊢;clear hw11;obtain ⟨z0,z1,z45⟩:=HZ.o _ HB11.o;go_wp2_with fail
     go_loopw [15,108] (fun ok jx wq=>∃ y:Nat,y<=L/\jx=.int .i64 y/\ok=.bool (okN s.its q ep y)/\Bl V wq) (fun _ jx _=>L - (intOf jx).toNat)
     case atStart=>exact ⟨0,by omega,rfl,rfl,HB11.o⟩
     case round=>
     obtain ⟨y,hy,rfl,rfl,hb⟩:=hrel;have HB12:=zh hb;clear hb z0 z1 z45 HB11
     by_cases hyl:y < L
     ·have bl:(y:Int) < L:=by omega
      have by29:(y:Int) < 29:=by have:=HL60.o;omega
      have hnl:y < s.its.length:=by have:=HL.o;omega
      obtain ⟨gI,cI,eI,hsI,_⟩:=Zb (HIT.o _ HB12.o) (by omega);cases eI;obtain ⟨v,hv⟩:=xE (s.its[y]);have hget:s.its[y]?=some v:=by rw [hv];exact ZLg hnl
      obtain ⟨e0,e1⟩:=VP hget;have t0:=hsI _ _ e0;have t1:=hsI _ _ e1;rw [show 0+2 * y=y * 2 by omega] at t0;rw [show 0+(2 * y+1)=y * 2+1 by omega] at t1;have HOK:=zh (ZHe (q:=q) (e:=ep) hget);obtain ⟨vp,ve⟩:=v;simp only at t0 t1;have HYL:=zh hyl;clear hsI e0 e1 hget hv hnl hyl hy;cases hk0:okN s.its q ep y
      ·by_cases hq1:vp=q
       ·subst hq1
        by_cases hq2:ve=ep
        ·subst hq2
         go_wp2_with fail;exact ⟨⟨y+1,by have:=HYL.o;omega,rfl,by rw [HOK.o];simp,ZA HB12.o⟩,by have:=HYL.o;simp [intOf];omega⟩
        ·have n2:¬ ((ve:Int)=ep):=by omega
         have h2:(ve == ep)=false:=by simpa using hq2
         have g2:((ve:Int) == (ep:Int))=false:=by simpa using n2
         have k2:decide ((ve:Int)=(ep:Int))=false:=ZLh n2;go_wp2_with fail;exact ⟨⟨y+1,by have:=HYL.o;omega,rfl,by rw [HOK.o,hk0];simp [h2],ZA HB12.o⟩,by have:=HYL.o;simp [intOf];omega⟩
       ·have n1:¬ ((vp:Int)=q):=by omega
        have h1:(vp == q)=false:=by simpa using hq1
        have g1:((vp:Int) == (q:Int))=false:=by simpa using n1
        have k1:decide ((vp:Int)=(q:Int))=false:=ZLh n1;go_wp2_with fail;exact ⟨⟨y+1,by have:=HYL.o;omega,rfl,by rw [HOK.o,hk0];simp [h1],ZA HB12.o⟩,by have:=HYL.o;simp [intOf];omega⟩
      ·go_wp2_with fail
       exact ⟨⟨y+1,by have:=HYL.o;omega,rfl,by rw [HOK.o,hk0];simp,ZA HB12.o⟩,by have:=HYL.o;simp [intOf];omega⟩
     ·obtain rfl:y=L:=by omega
      have hok:okN s.its q ep y=true:=by have:=HIN.o;rw [<-HL.o] at this;exact this
      rw [hok];have hmN2:(m:Int) < N:=by have:=HMN.o;have:=HN.o;omega
      have d2:¬ ((y:Int) < y):=by omega
      have hcv:IntKind.u64.wrap (m:Int)=m:=by
       show (m:Int) % 18446744073709551616=m;omega
      clear hok hyl hy;go_wp2_with fail;exact ⟨⟨m+1,by have:=HM.o;omega,rfl,by rw [HK2.o];rfl,by rw [HK2.o];simp,HB12.o⟩,by have:=HM.o;simp [intOf];omega⟩
   ·obtain rfl:m=29:=by omega
    have hall:JD s.en 29=L:=by rw [ZG6 HN29.o,<-HPER.o.length_eq,HL.o]
    rw [hall];have HA0:=zh (fun wx=>show Calls prog 19 #[.int .u64 3377704015495745,.int .i64 0] wx (fun e w'=>e=.returned (.int .u64 (ZP pL+8 * 0:Nat))/\wx=w') from HAT.o wx 0 (by omega));have HL0:=zh (fun wx hb=>HLD.o wx hb 0 (by omega));have hnx:c (577+0)=0:=HNXT.o;rw [hnx] at HL0;obtain ⟨O,hO⟩:∃ O:Nat,O=ZP pL+8 * 0:=⟨_,rfl⟩
    rw [<-hO] at HA0 HL0;obtain ⟨z0,z1,z45⟩:=HZ.o _ HB9.o;have hN0:L=0->N=0:=fun e=>by
     rcases HFM.o with h|h
     ·rw [HN.o,h];rfl
     ·exfalso
      apply h;refine ZLr ?_;rw [<-HPER.o.length_eq,<-HL.o];exact e
    clear hO hnx hall hlt hm
    by_cases h0:L=0
    ·have hn0:=hN0 h0
     subst h0;subst hn0;clear hN0 d29;go_upto_region 41 with fail
     go_region_held3 (fun wx=>wx.cell? ⟨wb,1,none⟩=some (.pointer (some ⟨B.db,0,none⟩)))
      (first|assumption|exact (HZ.o _ (by repeat (with_reducible first|exact HB9.o|apply ZB))).2.1)
      (first
        |(refine ZF rfl func19 rfl rfl rfl (HA0.o _) (by first|(simp [Act.eval];done)|(simp [Act.eval];rfl)) ?_;rintro e' V2 ⟨rfl,rfl⟩;refine ⟨_,rfl,?_⟩)
        |(refine ZF rfl func18 rfl rfl rfl (HL0.o _ (ZB HB9.o)) (by first|(simp [Act.eval];done)|(simp [Act.eval];rfl)) ?_;rintro e' V2 ⟨rfl,rfl⟩;refine ⟨_,rfl,?_⟩))
     have HB10:=zh (ZB HB9.o);clear z0 z1 z45;go_wp2_with fail;exact ⟨⟨HB10.o,.inr ⟨rfl,rfl,rfl⟩⟩,by simp [intOf]⟩
    ·have e1:decide (L≠0)=true:=by simpa using h0
     rw [e1];clear hN0 e1 h0;go_upto_region 41 with fail
     go_region_held3 (fun wx=>wx.cell? ⟨wb,1,none⟩=some (.pointer (some ⟨B.db,0,none⟩)))
      (first|assumption|exact (HZ.o _ (by repeat (with_reducible first|exact HB9.o|apply ZB))).2.1)
      (first
        |(refine ZF rfl func19 rfl rfl rfl (HA0.o _) (by first|(simp [Act.eval];done)|(simp [Act.eval];rfl)) ?_;rintro e' V2 ⟨rfl,rfl⟩;refine ⟨_,rfl,?_⟩)
        |(refine ZF rfl func18 rfl rfl rfl (HL0.o _ (ZB HB9.o)) (by first|(simp [Act.eval];done)|(simp [Act.eval];rfl)) ?_;rintro e' V2 ⟨rfl,rfl⟩;refine ⟨_,rfl,?_⟩))
     have HB10:=zh (ZB HB9.o);clear z0 z1 z45;go_wp2_with fail;exact ⟨⟨HB10.o,.inr ⟨rfl,rfl,rfl⟩⟩,by simp [intOf]⟩
  ·go_wp2_with fail
   refine (HN0.o _).mono ?_;rintro e w' ⟨rfl,rfl⟩;obtain ⟨z0,z1,z45⟩:=HZ.o _ HB6.o;have HE:=zh (HBS.o.trans (HB6.o.mono HBS.o.size));go_wp2;go_returns;refine ⟨?_,HE.o⟩;simp
end
end Go.Proofs.YtbpeehmepehkdaaGreatDoor.Dv
