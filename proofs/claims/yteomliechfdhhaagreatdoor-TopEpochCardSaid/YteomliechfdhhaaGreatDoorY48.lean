/- Part 48. -/
import Derived.Test.YteomliechfdhhaaGreatDoorY47
import Derived.Test.YteomliechfdhhaaGreatDoorY45
import Derived.Deep.CutBlock
set_option maxHeartbeats 8000000
set_option maxRecDepth 20000
set_option linter.all false
namespace Go.Proofs.YteomliechfdhhaaGreatDoor.Dv
open Tryz
section
open Go.RowKit Go.Proofs.YteomliechfdhhaaGreatDoor.Size
variable {w w':World}{A:DAd}{F F':Nat->Option ZK}{T c c' c0:Nat->Nat}{x x':Nat}{H:HAd}{ex n:Nat}{s s':LS}{B:WAd}{rb:Nat}{rd:Nat->RdS}{hv:Nat->Value}{r:Nat->Option Nat}{k:Nat}
theorem ZJ6 (V:World):(Instr.makeSlice 40 (.int .i64 3) (.int .i64 3)).run prog V=.ok (.slice (some ⟨V.heap.size,0,none⟩) 3 3) (V.alloc (.cells #[.pointer none,.bool false,.slice none 0 0,.pointer none,.bool false,.slice none 0 0,.pointer none,.bool false,.slice none 0 0] 51)):=by kernel_rfl
def ZKL:Nat->RdS:=fun _=>⟨none,false,[]⟩
def ZKb:Nat->Value:=fun _=>.slice none 0 0
theorem ZKO:TI s00 ZKL (fun _=>none) 0 where
 inv:=ZGc
 kept:=⟨fun P e h=>by cases h⟩
 ann:=fun t _=>⟨fun h=>(by cases h),fun h=>absurd rfl h⟩
 held:=fun t _ P h=>by cases h
 few:=fun t _ h=>by cases h
 opr:=fun t _ h=>absurd rfl h
 len:=fun t _=>nR
theorem ZKD (hC:WC w A F T0 cw0 910 H 4 B cw0 s00)(hR:WZ w F H B):
 Pst A H B w.heap.size 0 (w.alloc (.cells #[.pointer none,.bool false,.slice none 0 0,.pointer none,.bool false,.slice none 0 0,.pointer none,.bool false,.slice none 0 0] 51)):=by
 have hb:=ZA (o:=.cells #[.pointer none,.bool false,.slice none 0 0,.pointer none,.bool false,.slice none 0 0,.pointer none,.bool false,.slice none 0 0] 51) (Below.refl w.heap.size w);refine .inl ⟨s00,ZKL,_,ZKb,ZKO,F,cw0,910,4,hC.below hb,hR.below hb,⟨ZB _ _,hC.hw.newf nR,hC.x0,fun t _=>⟨ZLD _ _ _ _,fun k hk=>by cases hk⟩,fun t u _ _ _ k hk=>(by cases hk),fun t _ ob h=>by cases h⟩,nR,nR⟩
theorem ChS.below (h:ChS H B rb rd hv w)(hb:Bl w w'):ChS H B rb rd hv w':=by
 obtain ⟨⟨F,h1,h2⟩,h3,h4⟩:=h;exact ⟨⟨F,h1.below hb,h2.below hb⟩,h3,fun t ht P hP wx hx=>h4 t ht P hP wx (hb.trans (hx.mono hb.size))⟩
theorem AArg.below2 {a:Option Addr}{len:Nat}{rc:Nat->Int×Int×Int}(h:AArg w a len rc)(hb:Bl w w'):AArg w' a len rc:=fun i hi=>by
 obtain ⟨b,o,h0,h1,h2,h3⟩:=h i hi;have hbl:=hb.block b (ZK2 _ _ h1);exact ⟨b,o,h0,(ZK8 hbl).trans h1,(ZK8 hbl).trans h2,(ZK8 hbl).trans h3⟩
theorem epoch_any {w0:World}{t u:TypeId}(hg:Ev.GOk w0 t u){a:Option Addr}{len cap:Nat}{rc:Nat->Int×Int×Int}(ha:AArg w0 a len rc)(hl:len<=cap)(hc:cap<=maxLen)(hn:a=none->cap=0):
 Calls prog 3 #[.slice a len cap] w0 fun e w'=>e=.returned (.bool true)/\Bl w0 w':=by
 have HBG:=zh (ZEf hg (xs:=[]) (fun p hp=>by cases hp));have HA:=zh ha;have HL:=zh (And.intro hl (And.intro hc hn));clear hg ha hl hc hn;go_in;go_wp2_with fail;refine HBG.o.mono ?_;rintro e w1 ⟨A,F,H,B,h1,h2,h3,rfl,h4,h5,h6,h7⟩;have HX:=zh (And.intro h1 (And.intro h2 h3));have HC:=zh h4;have HZ:=zh (show WZ w1 F H B from h5);have z0:=(show WZ w1 F H B from h5).zero;have HEP:=zh (JF h4.po);have HRT:=zh (fun (wx:World) (hb:Bl w1 wx)=>QY (h4.po.below hb));have HGA:=zh (ZDU h4);clear h1 h2 h3 h4 h5 h6 h7 HBG;go_wp2_with fail;refine HEP.o.mono ?_;rintro e w' ⟨rfl,rfl⟩;go_upto_region 6 with (rw [ZJ6])
 obtain ⟨rb,hrb⟩:=xE w1.heap.size;have hps:=ZKD HC.o HZ.o;have hb2:=ZA (o:=.cells #[.pointer none,.bool false,.slice none 0 0,.pointer none,.bool false,.slice none 0 0,.pointer none,.bool false,.slice none 0 0] 51) (Below.refl w1.heap.size w1);obtain ⟨w2,hw2⟩:=xE (w1.alloc (.cells #[.pointer none,.bool false,.slice none 0 0,.pointer none,.bool false,.slice none 0 0,.pointer none,.bool false,.slice none 0 0] 51));rw [<-hw2,<-hrb] at hps;rw [<-hw2] at hb2 ⊢;rw [<-hrb];have HPS:=zh hps;have HB2:=zh hb2;have z0:w2.cell? ⟨B.wb,0,none⟩=some (.pointer (some ⟨B.pb,0,none⟩)):=(HZ.o.below hb2).zero;clear hps hb2 hw2 hrb;go_wp2_with fail;refine (HRT.o _ HB2.o).mono ?_;rintro e w' ⟨rfl,rfl⟩;go_wp2_with fail;refine (HGA.o _ HB2.o).mono ?_;rintro e w3 ⟨rfl,hb3⟩;have HPS3:=zh (HPS.o.below hb3);clear hb3 HPS HB2 HRT HGA HEP z0 HC HZ;go_wp2_with fail
 go_loopw [8] (fun i wr=>∃ k:Nat,k<=60/\k<=len/\i=.int .i64 k/\Pst A H B rb k wr) (fun i _=>60 - (intOf i).toNat)
 case atStart=>exact ⟨0,by omega,by omega,rfl,HPS3.o⟩
 case round=>
 obtain ⟨k,hk,hkl,rfl,hst⟩:=hrel;have hbase:Bl w0 wr:=by
  have:=hst.base;rw [HX.o.2.1,HX.o.2.2] at this;exact this
 have HBS:=zh hbase
 by_cases hlt:k < len
 ·have d1:(k:Int) < len:=by omega
  by_cases h60:k < 60
  ·have d60:(k:Int) < 60:=by omega
   obtain ⟨s,rd,r,hv,hti,hte⟩:PsS A H B rb k wr:=hst.resolve_right (fun q=>by have:=q.1;omega);obtain ⟨b,o,rfl,q0,q1,q2⟩:=(AArg.below2 HA.o hbase) k hlt;have HTI:=zh hti;have HTE:=zh hte;have HK:=zh (And.intro hlt h60);clear hst hti hte hk hkl hlt h60 hbase;go_upto_region 13 with fail;obtain ⟨kd,hkd⟩:=xE ((rc k).1);obtain ⟨sl,hsl⟩:=xE ((rc k).2.1);obtain ⟨td,htd⟩:=xE ((rc k).2.2);rw [<-hkd,<-hsl,<-htd];obtain ⟨w4,hw4⟩:=xE (wr.alloc (.cells #[.int .i64 kd,.int .i64 sl,.int .i64 td] 47));obtain ⟨mb,hmb⟩:=xE wr.heap.size;have hb4:Bl wr w4:=by rw [hw4];exact ZA bR
   have hm4:w4.heap[mb]?=some (.cells #[.int .i64 kd,.int .i64 sl,.int .i64 td] 47 (0,0)):=by rw [hw4,hmb];exact ZB _ _
   rw [<-hw4,<-hmb];have HM4:=zh hm4;have HT4:=zh (HTE.o.below hb4);obtain ⟨a0,a1,a2,_⟩:=Zb hm4;clear hw4 hmb hkd hsl htd q0 q1 q2 hb4 hm4 HTE;obtain ⟨r1,e1,ra1,rb1,e2,e3,hth⟩:=XI td 3 (by omega);obtain ⟨r2,g1,ra2,rb2,g2,g3,hqq⟩:=XI kd 8 (by omega);obtain ⟨th,hthe⟩:=xE (JC td 3);obtain ⟨q,hqe⟩:=xE (JC kd 8);replace e1:td.tmod 3=r1:=e1;replace ra1:-3 < r1:=ra1;replace rb1:r1 < 3:=rb1;replace e2:(r1+3).tmod 3=(th:Nat):=by rw [hthe];exact e2
   replace e3:(r1+3) % 3=(th:Nat):=by rw [hthe];exact e3
   replace g1:kd.tmod 8=r2:=g1;replace ra2:-8 < r2:=ra2;replace rb2:r2 < 8:=rb2;replace g2:(r2+8).tmod 8=(q:Nat):=by rw [hqe];exact g2
   replace g3:(r2+8) % 8=(q:Nat):=by rw [hqe];exact g3
   replace hth:th < 3:=by rw [hthe];exact hth
   replace hqq:q < 8:=by rw [hqe];exact hqq
   have d3:(th:Int) < 3:=by omega
   have HTH:=zh hth;have HQ:=zh hqq;clear hthe hqe hth hqq
   go_upto_block 2 with fail
   clear e1 e2 e3 g1 g2 g3 ra1 rb1 ra2 rb2
   go_cut [8] (fun i wx=>i=.int .i64 (k:Nat)/\Pst A H B rb (k+1) wx)
   case first=>
    have hxs:=HX.o.1;obtain ⟨F,c,x,ex,hW,hZ,hR,hx,he⟩:=HT4.o;have hnow:1<=s.now/\s.now<=500:=by have:=HTI.o.inv.now;have:=HTI.o.inv.ok.now;have:=HK.o;omega
    have hk59:k<=59:=by have:=HK.o;omega
    have HW:=zh hW;have HZ:=zh hZ;have HR:=zh hR;have HXE:=zh (And.intro hx he);have HNW:=zh hnow;have H59:=zh hk59;have HXS:=zh hxs;have HBR:=zh (Below.refl w4.heap.size w4);have HCS:=zh (fun (wx:World) (hb:Bl w4 wx)=>show wx.cell? ⟨rb,th * 3,none⟩=some (opV (rd th).op)/\wx.cell? ⟨rb,th * 3+1,none⟩=some (.bool (rd th).inn)/\wx.cell? ⟨rb,th * 3+2,none⟩=some (hv th) from by
     have:=(HR.o.below hb).cells HTH.o;rw [show 3 * th=th * 3 by omega] at this;exact this)
    have HFR:=zh (fun (wx:World) (hr:wx.heap[rb]?=some (.cells (VI rd hv) 51 (0,0))) (j:Nat)=>show wx.frozen? ⟨rb,j,none⟩=false from ZG hr);have HZS:=zh (fun (wx:World) (hb:Bl w4 wx)=>(HZ.o.below hb).two3);have HMS:=zh (fun (wx:World) (hb:Bl w4 wx)=>show wx.cell? ⟨mb,1,none⟩=some (.int .i64 sl) from (ZC ((hb.block _ (heap_lt HM4.o)).trans HM4.o)).trans rfl);have hw1:IntKind.i64.wrap (1+(th:Int))=1+(th:Int):=IntWalk.i64_in _ (by omega);obtain ⟨c0,c1,c2⟩:=HCS.o w4 HBR.o;clear hxs hW hZ hR hx he hnow hk59;rcases (show (q=0\/q=1)\/q=2\/q=3\/q=4\/q=5\/(q=6\/q=7) by have:=HQ.o;omega) with hq|rfl|rfl|rfl|rfl|hq
    ·
     as_aux_lemma=>
      have HDW:=zh (ZI9 HW.o HZ.o HTI.o.inv H59.o (by have:=HXE.o;have:=H59.o;omega) (by have:=HXE.o;have:=H59.o;omega) hq (b:=sl));have HI:=zh (show JC sl 40 < 40 from by obtain ⟨_,_,_,_,_,_,h⟩:=XI sl 40 (by omega);exact h);have HE:=zh (fun (w':World) (hd:DwP A T0 H B cw0 x ex s q (JC sl 40) F w4 w')=>ZG9 HTI.o H59.o hq HI.o ⟨F,c,x,ex,HW.o,HZ.o,HR.o,HXE.o.1,HXE.o.2,hd⟩);clear c0 c1 c2;rcases hq with rfl|rfl
      all_goals
       go_wp2_with fail;refine HDW.o.mono ?_;rintro e w5 ⟨rfl,hd⟩;have HE2:=zh (HE.o _ hd);clear hd;go_wp2_with fail;go_meet;exact ⟨rfl,HE2.o⟩
    ·
     as_aux_lemma=>
      have HCO:=zh (ZD4 (HW.o.below (ZD HBR.o)) HTI.o.inv H59.o (by have:=HXE.o;have:=H59.o;omega));have HE:=zh (fun (w':World) hd=>ZJV (w':=w') HTI.o (HT4.o.below (ZD HBR.o)) H59.o ⟨F,c,x,ex,HW.o.below (ZD HBR.o),HZ.o.below (ZD HBR.o),HR.o.below (ZD HBR.o),HXE.o.1,HXE.o.2,hd⟩);clear c0 c1 c2;go_upto_region 45 with fail
      go_region_held3 (fun wx=>wx.cell? ⟨B.wb,1,none⟩=some (.pointer (some ⟨B.db,0,none⟩))/\wx.cell? ⟨B.wb,2,none⟩=some (.pointer (some ⟨B.lib,0,none⟩)))
       (first|exact hsx|exact HZS.o _ (by repeat (with_reducible first|assumption|exact HBR.o|apply ZA|apply ZD)))
       (first|(refine ZJ rfl func16 rfl rfl rfl HCO.o (by first|(simp [Act.eval];done)|(simp [Act.eval];rfl)) ?_;rintro e' V3 ⟨rfl,hd⟩;refine ⟨_,rfl,?_⟩;have hz3:∃ F',WZ V3 F' H B:=hd.elim (fun q=>⟨_,(HZ.o.below (ZD HBR.o)).below q.2⟩) (fun q=>q.2.elim fun F' q=>q.elim fun c' q=>⟨F',(HZ.o.below (ZD HBR.o)).moved q.2⟩);have hsx:=hz3.elim fun F' q=>q.two3))
      have HE2:=zh (HE.o _ hd);clear hd hz3 hsx;go_wp2_with fail;go_meet;exact ⟨rfl,HE2.o⟩
    ·
     as_aux_lemma=>
      by_cases hin:(rd th).inn=true
      ·rw [hin] at c1
       have HE:=zh (Vm HTI.o HT4.o HBR.o);clear hin c0 c2;go_wp2_with fail;go_meet;exact ⟨rfl,HE.o⟩
      ·have hin:(rd th).inn=false:=by simpa using hin
       rw [hin] at c1;have hann:s.ann (1+th)=0:=by
        cases e:s.ann (1+th) with
        |zero=>rfl
        |succ m=>exact absurd ((HTI.o.ann th HTH.o).2 (by rw [e];omega)) (by rw [hin];simp)
       cases hop:(rd th).op with
       |none=>
        rw [hop] at c0;replace c0:w4.cell? ⟨rb,th * 3,none⟩=some (.pointer none):=c0;have HEN:=zh (show Calls prog 8 #[.pointer (some ⟨B.kb,0,none⟩),.int .i64 (1+(th:Int))] w4 (fun e w'=>∃ ob,e=.returned (.tuple #[.pointer (some ⟨ob,0,none⟩),.int .i64 0])/\EnB w' ob B.kb (1+th) false 0/\w4.heap.size<=ob/\Bl w4 w') from by
         have:=ZBo HW.o.ar HW.o.ck (t:=1+th) (by omega) hann;rw [show ((1+th:Nat):Int)=1+(th:Int) by omega] at this;exact this)
        have HIN:=zh hin;clear hin hann hop c2;go_wp2_with fail;refine HEN.o.mono ?_;rintro e w5 ⟨ob,rfl,heb,hnb,hb5⟩;have c0:w5.cell? ⟨rb,th * 3,none⟩=_:=(ZK8 (hb5.block _ (heap_lt HR.o.row))).trans c0;have f0:=HFR.o w5 ((hb5.block _ (heap_lt HR.o.row)).trans HR.o.row) (th * 3);have HE:=zh (ZG7 HTI.o HT4.o HXS.o HTH.o (o:=th * 3) (by omega) HIN.o hb5 heb hnb);clear heb hnb hb5 c1 HEN;go_wp2_with fail;go_meet;exact ⟨rfl,HE.o⟩
       |some ob=>
        rw [hop] at c0;replace c0:w4.cell? ⟨rb,th * 3,none⟩=some (.pointer (some ⟨ob,0,none⟩)):=c0;obtain ⟨heb,hef,hex⟩:=HR.o.op th HTH.o ob hop;have HST:=zh (ZHn HW.o.hw HW.o.ck ⟨HNW.o.1,by have:=HNW.o.2;omega⟩ HW.o.rep.clk (by omega) (t:=1+th) (by omega) heb hef hann);have HOP:=zh hop;have HN1:=zh (show rb≠ob from Ya heb HR.o.row (by decide));have HN2:=zh (show rb≠B.kb from Ya HW.o.ck HR.o.row (by decide));clear hin hann hop c2 heb hef hex;go_wp2_with fail;refine HST.o.mono ?_;rintro e w5 ⟨rfl,hE5,hK5,hO5⟩;have hr5:=(hO5.block _ (heap_lt HR.o.row) (fun q=>q.elim HN1.o HN2.o)).trans HR.o.row;have HR5:=zh hr5;have c0:w5.cell? ⟨rb,th * 3,none⟩=_:=(ZK8 (hO5.block _ (heap_lt HR.o.row) (fun q=>q.elim HN1.o HN2.o))).trans c0;have HEo:=zh (ZGD hE5);have HP5:=zh (And.intro hK5 hO5);clear hr5 hE5 hK5 hO5 c1 HST;go_wp2_with fail;refine HEo.o.mono ?_;rintro e w6 ⟨rfl,hb6⟩;have hr6:=(hb6.block _ (heap_lt HR5.o)).trans HR5.o;have c0:w6.cell? ⟨rb,th * 3,none⟩=_:=(ZK8 (hb6.block _ (heap_lt HR5.o))).trans c0;have c1:w6.cell? ⟨rb,th * 3+1,none⟩=some (.bool (rd th).inn):=by
         have:=(ZAZ (rd:=rd) (hv:=hv) HTH.o).2.1;rw [show 3 * th+1=th * 3+1 by omega] at this;exact (ZC hr6).trans this
        have f0:=HFR.o w6 hr6 (th * 3);have f1:=HFR.o w6 hr6 (th * 3+1);have HE:=zh (ZG8 HTI.o HT4.o H59.o HXS.o HTH.o (o1:=th * 3+1) (o2:=th * 3) (by omega) (by omega) HOP.o HP5.o.2 HP5.o.1 hb6);clear hr6 hb6 HEo;go_wp2_with fail;go_meet;exact ⟨rfl,HE.o⟩
    ·
     as_aux_lemma=>
      by_cases hin:(rd th).inn=true
      ·rw [hin] at c1
       have hann:¬ s.ann (1+th)=0:=(HTI.o.ann th HTH.o).1 hin;have HEX:=zh (show Calls prog 11 #[.pointer (some ⟨B.kb,0,none⟩),.int .i64 (1+(th:Int))] w4 (fun e w'=>e=.returned (.int .i64 0)/\CkB w' A B.kb s.now (upd s.ann (1+th) 0)/\Only (fun k=>k=B.kb) w4 w') from by
        have:=ZHl HW.o.ar HW.o.ck ⟨HNW.o.1,by have:=HNW.o.2;omega⟩ HW.o.rep.clk (by omega) (t:=1+th) (by omega);simp only [ZKu hann] at this;rw [show ((1+th:Nat):Int)=1+(th:Int) by omega] at this;exact this)
       have HIN:=zh hin;have HN2:=zh (show rb≠B.kb from Ya HW.o.ck HR.o.row (by decide));clear hin hann c0 c2;go_wp2_with fail;refine HEX.o.mono ?_;rintro e w5 ⟨rfl,hK5,hO5⟩;have hr5:=(hO5.block _ (heap_lt HR.o.row) HN2.o).trans HR.o.row;have HT5:=zh (show w5.there rb (th * 3) 3 from fun j hj=>by
        refine ⟨?_,ZG hr5⟩;rw [ZC hr5];have:=HTH.o;rcases (show th=0\/th=1\/th=2 by omega) with rfl|rfl|rfl <;> rcases (show j=0\/j=1\/j=2 by omega) with rfl|rfl|rfl <;> rfl)
       have HE:=zh (ZIO HTI.o HT4.o H59.o HXS.o HTH.o HIN.o hO5 hK5 (w2:=w5.setCells rb (th * 3) [.pointer none,.bool false,.slice none 0 0]) (Only.setCells (F:=fun k=>k=rb) (b:=rb) rfl _ (Only.refl _ _)) (by
        rw [show th * 3=3 * th by omega];rw [show w5.setCells rb (3 * th) [.pointer none,.bool false,.slice none 0 0]=((w5.setCell ⟨rb,3 * th,none⟩ (.pointer none)).setCell ⟨rb,3 * th+1,none⟩ (.bool false)).setCell ⟨rb,3 * th+2,none⟩ (.slice none 0 0) from rfl];rw [ZH (ZH (ZH hr5))];have:=HTH.o;rcases (show th=0\/th=1\/th=2 by omega) with rfl|rfl|rfl <;> rfl))
       clear hr5 hK5 hO5 c1 HEX;go_wp2_with (refine Y9 rfl 51 _ _ (by rfl) rb (th * 3) #[.pointer none,.bool false,.slice none 0 0] (by rfl) (by rfl) HT5.o (by kernel_rfl) (by kernel_rfl) ?_);go_meet;exact ⟨rfl,HE.o⟩
      ·have hin:(rd th).inn=false:=by simpa using hin
       rw [hin] at c1;have HE:=zh (Vm HTI.o HT4.o HBR.o);clear hin c0 c2;go_wp2_with fail;go_meet;exact ⟨rfl,HE.o⟩
    ·
     as_aux_lemma=>
      have HAD:=zh (ZDE (x':=x+100) HW.o.hw HW.o.ck HW.o.fk HNW.o HW.o.rep.clk (by omega) (t:=0) (by omega) (by omega) (by have:=HXE.o;have:=H59.o;omega));clear c0 c1 c2;go_wp2_with fail;refine HAD.o.mono ?_;rintro e w5 (⟨hz,rfl,hbg⟩|⟨hz,rfl,hww⟩)
      ·have HE:=zh (ZJU HTI.o HT4.o H59.o hz ⟨F,c,x,ex,HW.o,HZ.o,HR.o,HXE.o.1,HXE.o.2,hbg⟩)
       clear hz hbg HAD;go_wp2_with fail;go_meet;exact ⟨rfl,HE.o⟩
      ·subst hww
       have HE:=zh (Vm HTI.o HT4.o HBR.o);clear hz HAD;go_wp2_with fail;go_meet;exact ⟨rfl,HE.o⟩
    ·
     as_aux_lemma=>
      obtain ⟨r3,j1,ra3,rb3,j2,j3,hi40⟩:=XI sl 40 (by omega);obtain ⟨i,hie⟩:=xE (JC sl 40);replace j1:sl.tmod 40=r3:=j1;replace ra3:-40 < r3:=ra3;replace rb3:r3 < 40:=rb3;replace j2:(r3+40).tmod 40=(i:Nat):=by rw [hie];exact j2
      replace j3:(r3+40) % 40=(i:Nat):=by rw [hie];exact j3
      replace hi40:i < 40:=by rw [hie];exact hi40
      clear hie;have b40:(i:Int) < 40:=by omega
      have k1:IntKind.i64.wrap r3=r3:=IntWalk.i64_in _ (by omega);have k2:IntKind.i64.wrap (r3+40)=r3+40:=IntWalk.i64_in _ (by omega);have k3:IntKind.i64.wrap (i:Int)=i:=IntWalk.i64_in _ (by omega);obtain ⟨O,hO⟩:∃ O:Nat,O=ZM pA+8 * i:=⟨_,rfl⟩
      obtain ⟨p,hp⟩:=xE (s.lp i);have HAT:=zh (fun (wx:World)=>show Calls prog 13 #[.int .u64 pA,.int .i64 i] wx (fun e w'=>e=.returned (.int .u64 (O:Nat))/\wx=w') from by rw [hO];exact YK (w:=wx) (p:=pA) (k:=i) (by decide) (by decide) (by omega));have HLD:=zh (JV HW.o hi40);rw [<-hO,<-hp] at HLD;have HNI:=zh (fun (w1:World)=>show Calls prog 14 #[.int .u64 (p:Nat)] w1 (fun e w'=>e=.returned (.bool (decide (p=0)))/\w1=w') from Z6 (w:=w1) (p:=p));have HI:=zh hi40;have HP:=zh hp;clear hO hp hi40 c0 c1 c2;rcases hq with rfl|rfl
      all_goals
       go_upto_region 37 with fail
       go_region_held3 (fun wx=>wx.cell? ⟨B.wb,1,none⟩=some (.pointer (some ⟨B.db,0,none⟩))/\wx.cell? ⟨mb,1,none⟩=some (.int .i64 sl))
        (first|exact ⟨(HZS.o _ (by repeat (with_reducible first|exact HBR.o|apply ZD))).1,HMS.o _ (by repeat (with_reducible first|exact HBR.o|apply ZD))⟩)
        (first
          |(refine ZJ rfl func13 rfl rfl rfl (HAT.o _) (by first|(simp [Act.eval,j1,k1,k2,j2,k3];done)|(simp [Act.eval,j1,k1,k2,j2,k3];rfl)) ?_;rintro e' V2 ⟨rfl,rfl⟩;refine ⟨_,rfl,?_⟩)
          |(refine ZJ rfl func12 rfl rfl rfl (HLD.o _ (ZD HBR.o)) (by first|(simp [Act.eval];done)|(simp [Act.eval];rfl)) ?_;rintro e' V2 ⟨rfl,rfl⟩;refine ⟨_,rfl,?_⟩))
       have HB5:=zh (ZD HBR.o);obtain ⟨w5,hw5⟩:=xE w4.drew;rw [<-hw5] at HB5 ⊢;clear hw5;obtain ⟨c0,c1,c2⟩:=HCS.o w5 HB5.o
       by_cases hin:(rd th).inn=true
       ·rw [hin] at c1
        by_cases h0:p=0
        ·rw [show decide (p=0)=true by simp [h0]] at HNI
         have HE:=zh (Vm HTI.o HT4.o HB5.o);clear hin h0 c0 c2;go_wp2_with fail;refine (HNI.o _).mono ?_;rintro e' w' ⟨rfl,rfl⟩;go_wp2_with fail;go_meet;exact ⟨rfl,HE.o⟩
        ·rw [show decide (p=0)=false by simp [h0]] at HNI
         have hR5:=HR.o.below HB5.o;obtain ⟨va,vc,hva⟩:=ZR (hR5.held th HTH.o).1;obtain ⟨L,hL⟩:=xE ((rd th).held.length);rw [<-hL] at hva;rw [hva] at c2;have HOW:=zh (show w5.ownsRow 0 30 1 (.slice va L vc) L ((rd th).held.map fun (p:Nat)=>.int .u64 p) from by
          have:=(hR5.held th HTH.o).1;rw [<-hL,hva] at this;exact this)
         have HL60:=zh (show L<=60 by rw [hL];have:=HTI.o.len th HTH.o;have:=H59.o;omega);have HIN:=zh hin;have HP0:=zh (show s.lp i≠0 by rw [<-HP.o];exact h0);have HVA:=zh hva;have HLL:=zh hL;have HR5:=zh hR5;clear hin h0 hva hL hR5 c0;go_wp2_with fail;refine (HNI.o _).mono ?_;rintro e' w' ⟨rfl,rfl⟩;go_wp2_with (at_builtin;refine ZT ZJ1 rfl _ _ rfl HOW.o rfl rfl ?c1 rfl ?c2 ?c3 ?c4 ?c5 ?_)
         case c1=>rfl
         case c2=>rfl
         case c3=>have:=HL60.o;unfold maxLen;omega
         case c4=>have:=HL60.o;omega
         case c5=>exact Nat.zero_le _
         intro g4 cap4 w6 hop4 hgr4 hg4;rw [<-HVA.o] at hgr4 hg4;have hbk:=hgr4.block _ (heap_lt HR5.o.row) (fun q=>Zc (HR5.o.held th HTH.o).1 HR5.o.row (by decide) q.symm);have c2:w6.cell? ⟨rb,th * 3+2,none⟩=_:=(ZK8 hbk).trans c2;have f2:=HFR.o w6 (hbk.trans HR5.o.row) (th * 3+2);have HE:=zh (ZIP HTI.o HT4.o HXS.o HTH.o (o:=th * 3+2) (by omega) HI.o HIN.o HP0.o HB5.o HLL.o (by rw [<-HP.o];exact hop4) hgr4 hg4);clear hbk hop4 hgr4 hg4;go_wp2_with fail;go_meet;exact ⟨rfl,HE.o⟩
       ·have hin:(rd th).inn=false:=by simpa using hin
        rw [hin] at c1;have HE:=zh (Vm HTI.o HT4.o HB5.o);clear hin c0 c2;go_wp2_with fail;go_meet;exact ⟨rfl,HE.o⟩
   case rest=>
    as_aux_lemma=>
     obtain ⟨rfl,hp⟩:=hcut;obtain ⟨rd',hv',hch⟩:=hp.chs (by have:=HK.o;omega);have HP5:=zh hp;have HCH:=zh hch;have HBW:=zh (Below.refl wc.heap.size wc);clear hp hch;go_wp2_with fail
     go_loopw [206] (fun j wr=>∃ m:Nat,m<=3/\j=.int .i64 m/\Bl wc wr) (fun j _=>3 - (intOf j).toNat)
     case atStart=>exact ⟨0,by omega,rfl,HBW.o⟩
     case round=>
     obtain ⟨m,hm,rfl,hb⟩:=hrel;obtain ⟨w6,hw6⟩:=xE wr;rw [<-hw6] at hb ⊢;clear hw6;have HB6:=zh hb
     by_cases h3:m < 3
     ·have d4:(m:Int) < 3:=by omega
      have HM3:=zh h3;obtain ⟨⟨F6,hr6,hz6⟩,hlen,_⟩:=HCH.o.below hb;obtain ⟨c0,c1,c2⟩:=hr6.cells h3;obtain ⟨va,vc,hva⟩:=ZR (hr6.held m h3).1;obtain ⟨L,hL⟩:=xE ((rd' m).held.length);rw [<-hL] at hva;rw [hva] at c2;have HVA:=zh hva;have HLE:=zh hL;have HL60:=zh (show L<=60 by rw [hL];exact hlen m h3);rw [show 3 * m=m * 3 by omega] at c0 c1 c2;obtain ⟨pv,hpv⟩:∃ pv,opV (rd' m).op=.pointer pv:=by
       cases (rd' m).op with
       |none=>exact ⟨_,rfl⟩
       |some _=>exact ⟨_,rfl⟩
      rw [hpv] at c0;clear hpv;clear hr6 hz6 hlen hva hL hb h3 hm;go_upto_region 51 with fail;obtain ⟨w7,hw7⟩:=xE (w6.alloc (.cells #[.pointer pv,.bool (rd' m).inn,.slice va L vc] 51));obtain ⟨bb,hbb⟩:=xE w6.heap.size;have hb7:Bl w6 w7:=by rw [hw7];exact ZA bR
      have hx7:w7.heap[bb]?=some (.cells #[.pointer pv,.bool (rd' m).inn,.slice va L vc] 51 (0,0)):=by rw [hw7,hbb];exact ZB _ _
      rw [<-hw7,<-hbb];obtain ⟨x0,x1,x2,_⟩:=Zb hx7;have HB7:=zh (HB6.o.trans (hb7.mono HB6.o.size));clear hw7 hbb hb7 hx7 c0 c1 c2;go_wp2_with fail
      go_loopw [213] (fun i wq=>∃ q:Nat,q<=L/\i=.int .i64 q/\Bl wc wq) (fun i _=>L - (intOf i).toNat)
      case atStart=>exact ⟨0,by omega,rfl,HB7.o⟩
      case round=>
      obtain ⟨q,hq,rfl,hb8⟩:=hrel;obtain ⟨w8,hw8⟩:=xE wr;rw [<-hw8] at hb8 ⊢;clear hw8 x0 x1 x2;have HB8:=zh hb8
      by_cases hql:q < L
      ·have dq:(q:Int) < L:=by omega
       obtain ⟨⟨F8,hr8,hz8⟩,_,hck8⟩:=HCH.o.below hb8;have hown:=(hr8.held m HM3.o).1;rw [HVA.o,<-HLE.o] at hown;obtain ⟨g,cp,eg,hs8,_⟩:=Zi hown (by omega);obtain ⟨P,hP⟩:=xE ((rd' m).held[q]'(by have:=HLE.o;omega));have hget:(rd' m).held[q]?=some P:=by rw [hP];exact ZK9 _
       have hmem:P∈(rd' m).held:=by rw [hP];exact ZLF _
       have tP:=hs8 q (.int .u64 P) (by rw [List.getElem?_map,hget];rfl);rw [ZLI] at tP;simp only [Value.slice.injEq] at eg;obtain ⟨rfl,_,rfl⟩:=eg;have z1:=hz8.two3.1;have HCK:=zh (hck8 m HM3.o P hmem w8 bR);have HQ8:=zh hql;have q60:(q:Int) < 60:=by have:=HL60.o;omega
       clear hr8 hz8 hck8 hown hs8 hP hget hmem hb8 hql hq;go_wp2_with fail;refine HCK.o.mono ?_;rintro e w9 ⟨rfl,hb9⟩;have HB9:=zh (HB8.o.trans (hb9.mono HB8.o.size));clear hb9 tP z1 HCK;go_wp2_with fail;exact ⟨⟨q+1,by have:=HQ8.o;omega,rfl,HB9.o⟩,by have:=HQ8.o;simp [intOf];omega⟩
      ·have dq:¬ (q:Int) < L:=by omega
       clear hb8 hql hq;go_wp2_with fail;exact ⟨⟨m+1,by have:=HM3.o;omega,rfl,HB8.o⟩,by have:=HM3.o;simp [intOf];omega⟩
     ·have d4:¬ (m:Int) < 3:=by omega
      clear hb h3 hm;go_wp2_with fail;exact ⟨⟨k+1,by have:=HK.o;omega,by have:=HK.o;omega,rfl,HP5.o.below HB6.o⟩,by have:=HK.o;simp [intOf];omega⟩
  ·have d60:¬ (k:Int) < 60:=by omega
   clear hst hk hkl hlt h60 hbase;go_wp2;go_returns;exact ⟨rfl,HBS.o⟩
 ·have d1:¬ (k:Int) < len:=by omega
  clear hst hk hkl hlt hbase;go_wp2;go_returns;exact ⟨rfl,HBS.o⟩
end
end Go.Proofs.YteomliechfdhhaaGreatDoor.Dv
