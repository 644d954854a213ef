/- Part 41. -/
import Derived.Test.YtbpeehmepehkdaaGreatDoorV40
import Derived.Test.YtbpeehmepehkdaaGreatDoorY8
import Derived.Test.YtbpeehmepehkdaaGreatDoorY34
set_option maxHeartbeats 8000000
set_option maxRecDepth 20000
set_option linter.all false
namespace Go.Proofs.YtbpeehmepehkdaaGreatDoor.Dv
open Tryz
section
open Go.RowKit Go.Proofs.YtbpeehmepehkdaaGreatDoor.Size
variable {w w':World}{A:DAd}{F F':Nat->Option ZM}{T c c' c0:Nat->Nat}{x x':Nat}{H:HAd}{ex n:Nat}{s:LS}{B:WAd}{fv iv:Value}
theorem ZAt {i P:Nat}(hi:i < 40)(hP:P < 18446744073709551616):((YV i P).map (·.1)).Nodup/\∀ p∈YV i P,p.1 % 8=0/\2304<=p.1/\p.1 < 6592/\p.2 < 18446744073709551616:=by
 unfold YV;refine ⟨by simp,fun p hp=>?_⟩;simp only [ZLt] at hp;subst hp;exact ⟨by simp only;omega,by simp only;omega,by simp only;omega,hP⟩
theorem ZAf {α:Type}(a:Nat)(v:α):Xl (YN (fun _=>none) a v) a=fun _=>none:=by
 rw [ZAe];funext y;unfold Xl;by_cases e:y=a <;> simp [e]
theorem UV (s:LS)(i:Nat):(s.mk0 i).lp=upd s.lp i s.np/\(s.mk0 i).now=s.now/\(s.mk0 i).ann=s.ann/\(s.mk0 i).fr=s.fr/\(s.mk0 i).its=s.its:=by
 obtain ⟨e1,e2,e3,e4,e5,e6,_⟩:=QV s;exact ⟨by show upd s.clm.lp i s.np=_;rw [e1],e5,e6,e4,e3⟩
theorem ZEb {wx:World} (h:WC w A F T c x H ex B c0 s) (hi:s.Inv n) (hn:n<=50) (hx:x<=900000) (hex:ex<=900000) {i:Nat} (hi40:i < 40) (hr:ZGp A F T x H ex c0 s w w') (hb:Bl w' wx)
 {v:Value} (hv:Wrs wx v [(8 * (638+i),s.np)]) {tb tc:Nat} (ht:wx.cell? ⟨tb,0,none⟩=some (.int .u64 (s.np:Nat))) (htb:w'.heap.size<=tb):
 Calls prog 38 #[.pointer (some ⟨B.db,0,none⟩),v,.slice (some ⟨tb,0,none⟩) 1 tc,.slice none 0 0] wx fun e w2=>e=.returned (.int .i64 0)/\∃ F2 c2,WC w2 A F2 T c2 (x+800) H (ex+2) B c0 (s.mk0 i)/\HMv F F2 H w w2:=by
 obtain ⟨F1,c1,x1,hx1,hw,hm,hrep⟩:=hr;obtain ⟨hc,h1,h2⟩:=hi.clm;have hK:=hrep.head;obtain ⟨f1,f2,f3,f4⟩:=hc.fj (by omega) h1;obtain ⟨_,hin,hof,hkd⟩:=ZJe hi (by omega) hK;have hhn:=h.hn;have hl0:=h.l0.1;have e103:H.l0+32 * 1=103:=by omega
 have hR:=hrep.rep 1 (by omega);rw [XF] at hR;have hcan:s.clm.k.Can [(s.clm.fj,65)] []:=ZDJ (by rw [Xd h1];exact f1) f4;have hal:(YV i s.np++ZR T 103 s.clm.k [(s.clm.fj,65)] []).length=3:=by rw [ZLc,XC];rfl
 have hP64:s.np < 18446744073709551616:=by have:=hin.ok.lt;omega
 have hcm:=ZB3 (T:=T) hK h1 hcan (hc.gens (by omega)) h.hw.sealed_lt (ZAt hi40 hP64).1 (ZAt hi40 hP64).2;have hplc:∀ m,m < H.n->(Xo (plc s.clm.k) 1 ⟨103,0,0,true⟩ m).line=H.l0+32 * m:=fun m hm=>by
  rw [hhn] at hm;rw [hl0];rcases (show m=0\/m=1 by omega) with rfl|rfl <;> rfl
 have key:=JI (x':=x+800) (hw.below hb) ((h.dr.moved hm).below hb) (by omega) (by omega) hrep.log (m:=1) (by omega) (by omega) (by rw [e103];exact hR) (by omega) (b:=s.clm.fj) (kd:=65) (P:=s.np) (by rw [Xd h1];exact f1) (by rw [e103,hof,ZE0 h1]) hkd (by omega) hin.ok.ne hin.ok.lt (by simp [YN]) hcan
  (tc:=tc) ht ⟨hw.new htb,(hw.newf htb).o⟩ hplc (by show (0:Int)<=0;omega) (by rw [e103];exact hin.lo) (by rw [e103];exact hin.hi) (g:=0) (by rw [e103];simp [YN]) (by omega) (by omega) (lw:=YV i s.np) hv (by simp [YV]) (by rw [e103,hal];omega) (by rw [e103,hal];omega) (by rw [e103];exact hcm) (by rw [e103,hal];omega) (by omega)
 rw [e103] at key;refine key.mono ?_;rintro e w2 ⟨he,F2,hw2,hm2⟩;have hfin:=hrep.make h1 hi40 (P:=s.np) (v:=cmV T (YV i s.np++ZR T 103 s.clm.k [(s.clm.fj,65)] [])) f1 f4;refine ⟨he,F2,wrs c1 (cmL 640 (cmV T (YV i s.np++ZR T 103 s.clm.k [(s.clm.fj,65)] [])) (YV i s.np++ZR T 103 s.clm.k [(s.clm.fj,65)] [])).flatten,h.moved (s':=s.mk0 i) (x':=x+800) (ex':=ex+2) ?_ ((hm.trans (HMv.of_below hb)).trans hm2) hfin ⟨(UV s i).2.1,(UV s i).2.2.1⟩,(hm.trans (HMv.of_below hb)).trans hm2⟩;have e1:Qz (Xo (plc s.clm.k) 1 ⟨103,0,0,true⟩) 1 0=plc (s.mk0 i).k:=by
  funext j
  unfold Qz;rw [ZLX rfl]
  by_cases e:j=1
  ·subst e
   show (⟨103,0,0,false⟩:Plc)=⟨103,s.clm.k.cl,s.clm.k.ow,false⟩;rw [h1,h2]
  ·rw [Qu _ _ e,Qu _ _ e]
   unfold plc;rw [ZLU e,ZLU e]
 have e2:J3 (YN (fun _=>none) 103 (1:Nat)) 103 0=fun _=>none:=by unfold J3;rw [ZLX rfl];exact ZAf _ _
 rw [e1,e2,ZAf] at hw2;exact hw2
theorem ZJu (h:WC w A F T c x H ex B c0 s)(hr:WR w F H B s fv iv){a b d:Int}(hk:ZX a 7=0)(h0:s.lp (ZX b 40)≠0):
 Calls prog 11 #[.pointer (some ⟨B.wb,0,none⟩),.agg #[.int .i64 a,.int .i64 b,.int .i64 d]] w fun e w'=>e=.returned (.bool true)/\DoP A T H B c0 x ex s w':=by
 have HM1:=zmo (a:=b) (n:=40) (by omega);have HM2:=zmo (a:=d) (n:=8) (by omega);have HM3:=zmo (a:=a) (n:=7) (by omega);rw [hk] at HM3;have hi40:ZX b 40 < 40:=Z4 (by omega) rfl;obtain ⟨i,hie⟩:=xE (ZX b 40);obtain ⟨t,hte⟩:=xE (ZX d 8);rw [<-hie] at HM1 hi40 h0;rw [<-hte] at HM2;obtain ⟨p,hp⟩:=xE (s.lp i);have HNI:=zh (fun w1=>show Calls prog 15 #[.int .u64 p] w1 (fun e w'=>e=.returned (.bool false)/\w1=w') from by
  have:=Zd (w:=w1) (p:=p);rw [show decide (p=0)=false by simp [hp,h0]] at this;exact this)
 have HH:=zh h;have HR:=zh hr;have b40:(i:Int) < 40:=by omega
 have HI:=zh hi40;have HP:=zh hp;clear hk h hr h0 hie hte hi40 hp;go_in;go_upto_region 1 with fail;obtain ⟨w0,hw0⟩:=xE (w.alloc (.cells #[.int .i64 a,.int .i64 b,.int .i64 d] 28));have hb0:Bl w w0:=by rw [hw0];exact ZA bR
 have hx0:w0.heap[w.heap.size]?=some (.cells #[.int .i64 a,.int .i64 b,.int .i64 d] 28 (0,0)):=by rw [hw0];exact ZC _ _
 rw [<-hw0];obtain ⟨a0,a1,a2,_⟩:=ZY hx0;clear hw0;have HR0:=zh (bZ w0)
 go_region_held3 (fun wx=>wx.cell? ⟨w.heap.size,1,none⟩=some (.int .i64 b)/\wx.cell? ⟨w.heap.size,2,none⟩=some (.int .i64 d))
  (first|assumption|exact ⟨a1,a2⟩)
  (first
    |(refine ZF rfl func26 rfl rfl rfl (HM1.o _) (by simp [Act.eval];first|done|rfl) ?_;rintro e' V2 ⟨rfl,rfl⟩;refine ⟨_,rfl,?_⟩)
    |(refine ZF rfl func26 rfl rfl rfl (HM2.o _) (by simp [Act.eval];first|done|rfl) ?_;rintro e' V2 ⟨rfl,rfl⟩;refine ⟨_,rfl,?_⟩))
 have hb1:Bl w w0.drew:=ZB hb0;have hx1:w0.drew.heap[w.heap.size]?=_:=hx0;obtain ⟨w1,hw1⟩:=xE w0.drew;rw [<-hw1] at hb1 hx1 ⊢;clear hw1 a0 a1 a2 hx0 hb0;obtain ⟨a0,a1,a2,_⟩:=ZY hx1;go_wp2_with fail;refine (HM3.o _).mono ?_;rintro e w' ⟨rfl,rfl⟩;have HB1:=zh hb1;have z4:=(HR.o.below hb1).lp (i:=i) HI.o;rw [<-HP.o] at z4;clear hb1 hx1 a0 a1 a2;have HE:=zh (DoP.of (x:=x) (ex:=ex) (HH.o.below HB1.o) (HR.o.below HB1.o));go_wp2_with fail;refine (HNI.o _).mono ?_;rintro e' w' ⟨rfl,rfl⟩;go_wp2;go_returns;exact ⟨rfl,HE.o⟩
theorem ZIe (h:WC w A F T c x H ex B c0 s)(hr:WR w F H B s fv iv)(hi:s.Inv n)(hn:n<=50)(hx:x<=900000)(hex:ex<=900000){a b d:Int}(hk:ZX a 7=0)(h0:s.lp (ZX b 40)=0):
 Calls prog 11 #[.pointer (some ⟨B.wb,0,none⟩),.agg #[.int .i64 a,.int .i64 b,.int .i64 d]] w fun e w'=>e=.returned (.bool true)/\DoP A T H B c0 x ex (s.mk0 (ZX b 40)) w':=by
 have HM1:=zmo (a:=b) (n:=40) (by omega);have HM2:=zmo (a:=d) (n:=8) (by omega);have HM3:=zmo (a:=a) (n:=7) (by omega);rw [hk] at HM3;have hi40:ZX b 40 < 40:=Z4 (by omega) rfl;obtain ⟨i,hie⟩:=xE (ZX b 40);obtain ⟨t,hte⟩:=xE (ZX d 8);rw [<-hie] at HM1 hi40 h0 ⊢;rw [<-hte] at HM2;have HNI:=zh (fun w1=>show Calls prog 15 #[.int .u64 (0:Nat)] w1 (fun e w'=>e=.returned (.bool true)/\w1=w') from by
  have:=Zd (w:=w1) (p:=0);simpa using this)
 obtain ⟨p,hp⟩:=xE s.np;have HAL:=zh (fun wx (hb:Bl w wx)=>show Calls prog 36 #[.pointer (some ⟨B.db,0,none⟩),.int .i64 3,.int .u8 65] wx (fun e w'=>e=.returned (.tuple #[.int .u64 p,.int .i64 0])/\ZGp A F T x H ex c0 s wx w') from by
  rw [hp];exact ZIP (h.below hb) hi hn hx hex)
 obtain ⟨O,hO⟩:∃ O:Nat,O=ZP pA+8 * i:=⟨_,rfl⟩
 have hO2:O=8 * (638+i):=by rw [hO,show ZP pA=5104 from Jp.2.1];omega
 have HLK:=zh (fun (wx:World) (F2:Nat->Option ZM) (hb:WR wx F2 H B s fv iv)=>Us (v:=p) hb.three (by decide) (by decide) (show i < 60 by omega));rw [<-hO] at HLK
 have HPB:=zh (fun (w1 w2 wx:World) (hb:Bl w w1) (hq:ZGp A F T x H ex c0 s w1 w2) (hb2:Bl w2 wx) (vb tb:Nat) (hv:Seen wx vb 0 [.int .u64 (O:Nat),.int .u64 (p:Nat)]) (ht:wx.cell? ⟨tb,0,none⟩=some (.int .u64 (p:Nat))) (htb:w2.heap.size<=tb)=>
  ZEb (h.below hb) hi hn hx hex hi40 hq hb2 (v:=.slice (some ⟨vb,0,none⟩) 1 1) (.inr ⟨_,_,_,rfl,by rw [<-hO2,<-hp];exact hv⟩) (tc:=1) (by rw [<-hp];exact ht) htb)
 have HH:=zh h;have HR:=zh hr;have b40:(i:Int) < 40:=by omega
 have HI:=zh hi40;have HP:=zh hp;have HL0:=zh h0;clear hk h hr h0 hie hte hi40 hp hO hO2 hi hex hx;go_in;go_upto_region 1 with fail;obtain ⟨w0,hw0⟩:=xE (w.alloc (.cells #[.int .i64 a,.int .i64 b,.int .i64 d] 28));have hb0:Bl w w0:=by rw [hw0];exact ZA bR
 have hx0:w0.heap[w.heap.size]?=some (.cells #[.int .i64 a,.int .i64 b,.int .i64 d] 28 (0,0)):=by rw [hw0];exact ZC _ _
 rw [<-hw0];obtain ⟨a0,a1,a2,_⟩:=ZY hx0;clear hw0;have HR0:=zh (bZ w0)
 go_region_held3 (fun wx=>wx.cell? ⟨w.heap.size,1,none⟩=some (.int .i64 b)/\wx.cell? ⟨w.heap.size,2,none⟩=some (.int .i64 d))
  (first|assumption|exact ⟨a1,a2⟩)
  (first
    |(refine ZF rfl func26 rfl rfl rfl (HM1.o _) (by simp [Act.eval];first|done|rfl) ?_;rintro e' V2 ⟨rfl,rfl⟩;refine ⟨_,rfl,?_⟩)
    |(refine ZF rfl func26 rfl rfl rfl (HM2.o _) (by simp [Act.eval];first|done|rfl) ?_;rintro e' V2 ⟨rfl,rfl⟩;refine ⟨_,rfl,?_⟩))
 have hb1:Bl w w0.drew:=ZB hb0;have hx1:w0.drew.heap[w.heap.size]?=_:=hx0;obtain ⟨w1,hw1⟩:=xE w0.drew;rw [<-hw1] at hb1 hx1 ⊢;clear hw1 a0 a1 a2 hx0 hb0;obtain ⟨a0,a1,a2,_⟩:=ZY hx1;go_wp2_with fail;refine (HM3.o _).mono ?_;rintro e w' ⟨rfl,rfl⟩;have HB1:=zh hb1;have z4:=(HR.o.below hb1).lp (i:=i) HI.o;rw [HL0.o] at z4;have z1:=(HR.o.below hb1).one;clear hb1 hx1 a0 a1 a2;go_wp2_with fail;refine (HNI.o _).mono ?_;rintro e' w' ⟨rfl,rfl⟩;go_wp2_with fail;refine (HAL.o _ HB1.o).mono ?_;rintro e' w2 ⟨rfl,hrp⟩;have HRP:=zh hrp;obtain ⟨F2,c2,x2,hx2,hw2,hm2,hrep2⟩:=hrp;have HR2:=zh ((HR.o.below HB1.o).moved hm2);have z1:=HR2.o.one;have HBR:=zh (bZ w2);have HZ:=zh (fun wx (hb:Bl w2 wx)=>(HR2.o.below hb).one);clear hx2 hw2 hm2 hrep2 z4;go_upto_region 14 with fail
 go_region_held3 (fun wx=>wx.cell? ⟨B.wb,1,none⟩=some (.pointer (some ⟨B.db,0,none⟩)))
  (first|exact hsx|exact HZ.o _ (by repeat (with_reducible first|assumption|exact HBR.o|apply ZA|apply ZB)))
  (first
    |(refine ZF rfl func21 rfl rfl rfl (HLK.o _ F2 (HR2.o.below (by repeat (with_reducible first|exact HBR.o|apply ZA|apply ZB)))) (by simp [Act.eval];first|done|rfl) ?_;rintro e' V2 ⟨rfl,rfl⟩;refine ⟨_,rfl,?_⟩)
    |(refine ZF rfl func38 rfl rfl rfl (HPB.o _ _ _ HB1.o HRP.o (by repeat (with_reducible first|exact HBR.o|apply ZA|apply ZB)) _ _ (by first|exact Yp _ _ _ _|exact (Yp w2 _ _ _).below (ZB (ZA bR)) nR|exact (Yp (w2.alloc (.cells #[.int .u64 (p:Nat)] 32)) _ _ _).below (ZB bR) nR) (by first|exact Yn rfl|exact Zl (ZA bR) (Yn rfl)|exact Zl (ZB (ZA bR)) (Yn (w:=w2) rfl)) (by simp)) (by simp [Act.eval];first|done|rfl) ?_;rintro e' V3 ⟨rfl,F3,c3,hW3,hm3⟩;refine ⟨_,rfl,?_⟩;have hR3:=(HR.o.below HB1.o).moved hm3;have hsx:=hR3.one))
 all_goals
  have HW3:=zh hW3;have HR3:=zh hR3;have z4:=HR3.o.cells (i:=4+i) (by have:=HI.o;omega);have f:=HR3.o.free;clear hW3 hm3 hR3 hsx
  have HE:=zh (show DoP A T H B c0 x ex (s.mk0 i) (V3.setCell ⟨B.wb,4+i,none⟩ (.int .u64 (p:Nat))) from
   ⟨F3,c3,x+800,ex+2,fv,iv,by omega,by omega,HW3.o.setw HR3.o.row HR3.o.fw _,HR3.o.link HI.o p (by rw [HP.o];exact (UV s i).1) ⟨(UV s i).2.1,(UV s i).2.2.1,(UV s i).2.2.2.1,(UV s i).2.2.2.2⟩⟩)
  go_wp2;go_returns;exact ⟨rfl,HE.o⟩
theorem J5 {P:Program} {ops:Array Oper} {o:Oper} {a:Act} {K:Act->World->Prop} {Q:Exit->Act->World->Prop} {B:Prop} {W:World} {t e:TypeId} {size bytes:Nat} (E:El P t e size bytes) (hgd:o.guard=none) (s x:Operand)
 (ho:o.op=.call {callee:=.builtin .append,args:=#[s,x],argTypes:=#[t,t]}) {base:Nat} {v:Value} {n:Nat} {xs:List Value} (cs:Array Value) (hown:W.ownsRow base e size v n xs)
 {N:Nat} (hs:a.eval s=v) (hx:a.eval x=.slice (some ⟨N,0,none⟩) 1 1) (hcs:cs.size=size) (hc:∀ j u,cs.toList[j]?=some u->W.cell? ⟨N,j,none⟩=some u) (h1:∀ u∈cs.toList,u.oneCell'=true) (h63:n+1<=maxLen) (hbytes:(n+1) * bytes<=140737488355328) (hbase:base<=W.heap.size)
 (h:∀ g cap w',w'.ownsRow base e size (.slice (some ⟨g,0,none⟩) (n+1) cap) (n+1) (xs++cs.toList)->W.grownBy w' v.ownBlock->(v.ownBlock=some g\/W.heap.size<=g)->K (a.put o.dst (.slice (some ⟨g,0,none⟩) (n+1) cap)) w'):
 if Region.wanted o (yielded ops a.tmps)=true then Oper.wp P o a W K Q else B:=by
 have hw:Region.wanted o (yielded ops a.tmps)=true:=by simp [Region.wanted,hgd]
 rw [ZLX hw];obtain ⟨g,cap,w',hrun,how,hgr,hg⟩:=Zo (w:=W) E hown ⟨N,0,none⟩ 1 1 cs.toList (by simpa using hcs) (fun j u hj=>by
  rw [Addr.add_lit,ZLu];exact hc j u hj) h1 (by omega) h63 hbytes hbase
 have hK:=h g cap w' how hgr hg;have hr:=hrun o.type;unfold Oper.wp;simp [execOp,ho,resolve,invoke,builtin,hs,hx,hr,Result.andThen];exact hK
theorem UW {row:Option Nat}(hg:w.grownBy w' row):Only (fun k=>row=some k) w w':=⟨hg.os,hg.tape,hg.output,hg.size,fun i hi hn=>hg.block i hi (fun e=>hn e.symm)⟩
theorem WC.grown {v:Value}{m:Nat}{xs:List Value}(h:WC w A F T c x H ex B c0 s)(ho:OwF w F H 32 1 v m xs)(hg:w.grownBy w' v.ownBlock):WC w' A F T c x H ex B c0 s:=by
 have hy:=UW hg;have hb:∀ {b:Nat} {a:Array Value} {e:TypeId},w.heap[b]?=some (.cells a e (0,0))->32≠e->w'.heap[b]?=w.heap[b]?:=fun {b a e} hb he=>hy.block b (heap_lt hb) (Zt ho.1 hb he)
 exact {h with hw:=h.hw.only hy (fun k _ hk=>(ho.2 k hk).1),dr:=⟨(hb h.dr.dr (by decide)).trans h.dr.dr,(hb h.dr.lg (by decide)).trans h.dr.lg,h.dr.t,h.dr.fd,h.dr.fl⟩,ck:=(hb h.ck (by decide)).trans h.ck,li:=(hb h.li (by decide)).trans h.li,po:=(hb h.po (by decide)).trans h.po,rt:=(hb h.rt (by decide)).trans h.rt,xb:=Zz h.xb hy h.x0 (fun k _ q=>(ho.2 k q).2),xt:=h.xt.only hy (fun p hp q=>by
  rcases ho.1.2 with ⟨rfl,_⟩|⟨g,cap,cur,rfl,_,hbl,_⟩
  ·simp [Value.ownBlock] at q
  ·have hg2:=(ho.2 g rfl).2
   cases q;exact h.xt.ne hp hbl hg2 (by decide) rfl)}
theorem ZCr {v u:Value}{m q z B1 B2:Nat}{e e':TypeId}{xs ys:List Value}(ho:w.ownsRow B1 e 1 v m xs)(hu:w.ownsRow B2 e' z u q ys)(he:e≠e')(hg:w.grownBy w' v.ownBlock):w'.ownsRow B2 e' z u q ys:=by
 refine XH hu (UW hg) (fun k hk=>?_);rcases hu.2 with ⟨rfl,_⟩|⟨g,cap,cur,rfl,_,hb,_⟩
 ·simp [Value.ownBlock] at hk
 ·cases hk
  exact Zt ho hb he
theorem WR.push {L:Nat}(h:WR w F H B s fv iv)(hL:L=s.fr.length)(hg:w.grownBy w' fv.ownBlock){g cap p:Nat}(how:w'.ownsRow 0 32 1 (.slice (some ⟨g,0,none⟩) (L+1) cap) (L+1) (ptl s.fr++[.int .u64 p]))(hgF:Frn F H g/\H.x0<=g){s':LS}(hs:s'.lp=s.lp/\s'.now=s.now/\s'.ann=s.ann/\s'.its=s.its/\s'.fr=s.fr++[p]):
 WR (w'.setCell ⟨B.wb,44,none⟩ (.slice (some ⟨g,0,none⟩) (L+1) cap)) F H B s' (.slice (some ⟨g,0,none⟩) (L+1) cap) iv:=by
 subst hL;obtain ⟨e1,e2,e3,e4,e5⟩:=hs;obtain ⟨cw,hcw,_⟩:=h.row;have hrow:Row w' B.wb 46 55 (wwC B s fv iv):=h.row.of_block ((UW hg).block _ h.row.lt (Zt h.fre.1 hcw (by decide)));have hwC:∀ y,wwC B s' (.slice (some ⟨g,0,none⟩) (s.fr.length+1) cap) iv y=if y=44 then .slice (some ⟨g,0,none⟩) (s.fr.length+1) cap else wwC B s fv iv y:=fun y=>by
  rw [<-ZKV (fv:=fv)];unfold wwC;rw [e1,e2,e3]
 have hown:OwF w' F H 32 1 (.slice (some ⟨g,0,none⟩) (s.fr.length+1) cap) (s.fr.length+1) (ptl (s.fr++[p])):=⟨by rw [Qw];exact how,fun k hk=>by cases hk;exact hgF⟩
 have hit:OwF w' F H 54 2 iv s.its.length (rcl s.its):=⟨ZCr h.fre.1 h.ite.1 (by decide) hg,h.ite.2⟩
 exact {row:=(hrow.set 44 _).congr fun y _=>hwC y,fre:=by rw [e5,ZLc];exact hown.setw hrow (by decide) _,ite:=by rw [e4];exact hit.setw hrow (by decide) _,fw:=h.fw}
theorem WR.same (h:WR w F H B s fv iv){s':LS}(hs:s'.lp=s.lp/\s'.now=s.now/\s'.ann=s.ann/\s'.its=s.its/\s'.fr=s.fr):WR w F H B s' fv iv:=by
 obtain ⟨e1,e2,e3,e4,e5⟩:=hs;exact ⟨h.row.congr fun y _=>by unfold wwC;rw [e1,e2,e3],by rw [e5];exact h.fre,by rw [e4];exact h.ite,h.fw⟩
theorem ZHh {wb i B1:Nat}{e:TypeId}{z n m:Nat}{v:Value}{xs:List Value}{f:Nat->Value}(h:w.ownsRow B1 e z v n xs)(hr:Row w wb 46 m f)(he:e≠46)(u:Value):(w.setCell ⟨wb,i,none⟩ u).ownsRow B1 e z v n xs:=
 XH h ((Only.refl (fun k=>k=wb) w).set (F:=fun k=>k=wb) rfl u) (fun k hk q=>by
  have q:k=wb:=q;rw [q] at hk;obtain ⟨c,hc,_⟩:=hr;exact Zt h hc he hk)
def ColS (A:DAd)(T:Nat->Nat)(H:HAd)(B:WAd)(c0:Nat->Nat)(x ex:Nat)(s s1:LS)(flt:List (Nat×Nat))(fs:Value)(k:Nat)(wr:World):Prop:=
 ∃ F' c' x' fv' iv',x'<=x+400/\WC wr A F' T c' x' H ex B c0 s1/\WR wr F' H B {s with its:=s.its.filter (fun y=>!s.sf y),fr:=s.fr++(flt.take k).map (·.1)} fv' iv'/\wr.ownsRow 0 54 2 fs flt.length (rcl flt)
theorem ColS.below {s1:LS}{flt:List (Nat×Nat)}{fs:Value}{k:Nat}(h:ColS A T H B c0 x ex s s1 flt fs k w)(hb:Bl w w'):ColS A T H B c0 x ex s s1 flt fs k w':=by
 obtain ⟨F',c',x',fv',iv',h1,h2,h3,h4⟩:=h;exact ⟨F',c',x',fv',iv',h1,h2.below hb,h3.below hb,ZO h4 hb⟩
theorem ZId {s1:LS} {sv gv:Value} {M N:Nat} {xs ys:List Value} (hC:WC w A F T c x H ex B c0 s) (hR:WR w F H B s fv iv) (h1:OwF w F H 54 2 sv M xs) (h2:OwF w F H 54 2 gv N ys) (hs1:s1=if s.frees=[] then s else s.collect)
 (hq:s.frees=[]/\Bl w w'\/s.frees≠[]/\∃ F' c',WC w' A F' T c' (x+400) H ex B c0 s.collect/\HMv F F' H w w'):∃ F' c' x',x'<=x+400/\WC w' A F' T c' x' H ex B c0 s1/\WR w' F' H B s fv iv/\OwF w' F' H 54 2 sv M xs/\OwF w' F' H 54 2 gv N ys:=by
 rcases hq with ⟨h0,hb⟩|⟨h0,F2,c2,hw,hm⟩
 ·rw [ZLX h0] at hs1;subst hs1
  exact ⟨F,c,x,by omega,hC.below hb,hR.below hb,h1.below hb,h2.below hb⟩
 ·rw [ZLU h0] at hs1;subst hs1
  exact ⟨F2,c2,x+400,by omega,hw,hR.moved hm,h1.moved hm,h2.moved hm⟩
theorem do2 (h:WC w A F T c x H ex B c0 s)(hr:WR w F H B s fv iv)(hi:s.Inv n)(hn:n<=50)(hx:x<=900000){a b d:Int}(hk:ZX a 7=2):
 Calls prog 11 #[.pointer (some ⟨B.wb,0,none⟩),.agg #[.int .i64 a,.int .i64 b,.int .i64 d]] w fun e w'=>e=.returned (.bool true)/\DoP A T H B c0 x ex (s.stp 2 (ZX b 40) (ZX d 8)) w':=by
 have HM1:=zmo (a:=b) (n:=40) (by omega);have HM2:=zmo (a:=d) (n:=8) (by omega);have HM3:=zmo (a:=a) (n:=7) (by omega);rw [hk] at HM3;have est:s.stp 2 (ZX b 40) (ZX d 8)=if s.frees=[] then s else s.collect:=rfl
 rw [est];obtain ⟨i,hie⟩:=xE (ZX b 40);obtain ⟨t,hte⟩:=xE (ZX d 8);rw [<-hie] at HM1;rw [<-hte] at HM2;have hlen:s.its.length<=60:=by
  have h1:=hi.ok.per.length_eq;have h2:=hi.en;have h3:(full s.en).length<=s.en.length:=ZL0 _ _;omega
 have hfrl:s.fr.length<=60:=by have:=hi.ok.fl;have:=hi.nr;omega
 have hfe:=hi.ok.frees_len;obtain ⟨s1,hs1⟩:=xE (if s.frees=[] then s else s.collect);rw [<-hs1];obtain ⟨flt,hflt⟩:=xE (s.its.filter s.sf);obtain ⟨N,hN⟩:=xE flt.length;have HNL:=zh (show N<=60 by rw [hN,hflt];exact ZLi (ZL0 _ _) hlen);have HNE:=zh hN;rw [<-hflt,<-hN] at hfe;have HCO:=zh (fun (wx:World) (hq:Rit wx iv s.its)=>ZBq (w:=wx) hq (by omega) (now:=s.now) (an:=s.ann));have HWC:=zh (fun wx (hb:Bl w wx)=>ZEa (h.below hb) hi hn hx);have HEND:=zh (show s1.lp=s.lp/\s1.now=s.now/\s1.ann=s.ann/\s1.its=s.its.filter (fun y=>!s.sf y)/\s1.fr=s.fr++flt.map (·.1) from by
  rw [hs1,hflt]
  by_cases e:s.frees=[]
  ·rw [ZLX e]
   obtain ⟨h1,h2⟩:=hi.ok.frees_nil e;exact ⟨rfl,rfl,rfl,h2.symm,by rw [h1];simp⟩
  ·rw [ZLU e]
   exact ⟨rfl,rfl,rfl,rfl,rfl⟩)
 obtain ⟨ia,ic,hia⟩:=ZN hr.ite.1;subst hia;have HH:=zh h;have HR:=zh hr;have HFR:=zh hfrl;have HS1:=zh hs1;have HFLT:=zh hflt;unfold ck9 at HCO;rw [<-hfe] at HWC;clear hi hn hk est hie hte h hr hlen hfrl hfe hs1 hflt hN hx;go_in;go_upto_region 1 with fail;obtain ⟨w0,hw0⟩:=xE (w.alloc (.cells #[.int .i64 a,.int .i64 b,.int .i64 d] 28));have hb0:Bl w w0:=by rw [hw0];exact ZA bR
 have hx0:w0.heap[w.heap.size]?=some (.cells #[.int .i64 a,.int .i64 b,.int .i64 d] 28 (0,0)):=by rw [hw0];exact ZC _ _
 rw [<-hw0];obtain ⟨a0,a1,a2,_⟩:=ZY hx0;clear hw0;have HR0:=zh (bZ w0)
 go_region_held3 (fun wx=>wx.cell? ⟨w.heap.size,1,none⟩=some (.int .i64 b)/\wx.cell? ⟨w.heap.size,2,none⟩=some (.int .i64 d))
  (first|assumption|exact ⟨a1,a2⟩)
  (first
    |(refine ZF rfl func26 rfl rfl rfl (HM1.o _) (by simp [Act.eval];first|done|rfl) ?_;rintro e' V2 ⟨rfl,rfl⟩;refine ⟨_,rfl,?_⟩)
    |(refine ZF rfl func26 rfl rfl rfl (HM2.o _) (by simp [Act.eval];first|done|rfl) ?_;rintro e' V2 ⟨rfl,rfl⟩;refine ⟨_,rfl,?_⟩))
 have hb1:Bl w w0.drew:=ZB hb0;have hx1:w0.drew.heap[w.heap.size]?=_:=hx0;obtain ⟨w1,hw1⟩:=xE w0.drew;rw [<-hw1] at hb1 hx1 ⊢;clear hw1 a0 a1 a2 hx0 hb0;obtain ⟨a0,a1,a2,_⟩:=ZY hx1;go_wp2_with fail;refine (HM3.o _).mono ?_;rintro e w' ⟨rfl,rfl⟩;have HB1:=zh hb1;have HR1:=zh (HR.o.below hb1);have HC1:=zh (HH.o.below hb1);have z45:=HR1.o.ivc;have z46:=HR1.o.nowc;obtain ⟨z47,z48,z49,z50,z51,z52,z53,z54⟩:=HR1.o.annc;have HBR:=zh (bZ w1);have HZ:=zh (fun wx (hb:Bl w1 wx)=>show wx.cell? ⟨B.wb,45,none⟩=some (.slice ia s.its.length ic)/\wx.cell? ⟨B.wb,46,none⟩=some (.int .u64 (s.now:Nat))/\wx.cell? ⟨B.wb,47,none⟩=some (.int .u64 (s.ann 0:Nat))/\wx.cell? ⟨B.wb,48,none⟩=some (.int .u64 (s.ann 1:Nat))/\wx.cell? ⟨B.wb,49,none⟩=some (.int .u64 (s.ann 2:Nat))/\wx.cell? ⟨B.wb,50,none⟩=some (.int .u64 (s.ann 3:Nat))/\wx.cell? ⟨B.wb,51,none⟩=some (.int .u64 (s.ann 4:Nat))/\wx.cell? ⟨B.wb,52,none⟩=some (.int .u64 (s.ann 5:Nat))/\wx.cell? ⟨B.wb,53,none⟩=some (.int .u64 (s.ann 6:Nat))/\wx.cell? ⟨B.wb,54,none⟩=some (.int .u64 (s.ann 7:Nat)) from ⟨(HR1.o.below hb).ivc,(HR1.o.below hb).nowc,(HR1.o.below hb).annc⟩);clear hb1 hx1 a0 a1 a2;go_upto_region 28 with fail
 go_region_held3 (fun wx=>wx.cell? ⟨B.wb,45,none⟩=some (.slice ia s.its.length ic)/\wx.cell? ⟨B.wb,46,none⟩=some (.int .u64 (s.now:Nat))/\wx.cell? ⟨B.wb,47,none⟩=some (.int .u64 (s.ann 0:Nat))/\wx.cell? ⟨B.wb,48,none⟩=some (.int .u64 (s.ann 1:Nat))/\wx.cell? ⟨B.wb,49,none⟩=some (.int .u64 (s.ann 2:Nat))/\wx.cell? ⟨B.wb,50,none⟩=some (.int .u64 (s.ann 3:Nat))/\wx.cell? ⟨B.wb,51,none⟩=some (.int .u64 (s.ann 4:Nat))/\wx.cell? ⟨B.wb,52,none⟩=some (.int .u64 (s.ann 5:Nat))/\wx.cell? ⟨B.wb,53,none⟩=some (.int .u64 (s.ann 6:Nat))/\wx.cell? ⟨B.wb,54,none⟩=some (.int .u64 (s.ann 7:Nat)))
  (first|exact hsx|exact HZ.o _ (by repeat (with_reducible first|assumption|exact HBR.o|apply ZA|apply ZB)))
  (first|(refine ZF rfl func40 rfl rfl rfl (HCO.o _ (RitW.rit (HR1.o.below (ZB HBR.o)).ite.1)) (by simp [Act.eval];first|done|rfl) ?_;rintro e' V2 ⟨sv,fs,rfl,ho1,ho2,hbv⟩;obtain ⟨sa,sc,hsv⟩:=ZN ho1;obtain ⟨ga,gc,hgv⟩:=ZN ho2;subst hsv;subst hgv;refine ⟨_,rfl,?_⟩;have hb2:Bl w1 V2:=(show Bl w1 _ from ZB HBR.o).trans (hbv.mono (by simp));have hsx:=HZ.o _ hb2))
 have e1:(List.filter (fun y=>Zg s.now s.ann y.snd) s.its).length=N:=by rw [HNE.o,HFLT.o];rfl
 have e2:List.filter (fun y=>Zg s.now s.ann y.snd) s.its=flt:=by rw [HFLT.o];rfl
 have HP1:=zh (HC1.o.own (Zp ho1 (by simp)));have HP2:=zh (show OwF V2 F H 54 2 (.slice ga N gc) N (rcl flt) from by
  have:=HC1.o.own (Zp ho2 (by simp));rw [e1,e2] at this;exact this)
 rw [e1];obtain ⟨M,hM⟩:=xE ((List.filter (fun y=>!Zg s.now s.ann y.snd) s.its).length);rw [<-hM] at HP1 ⊢;have HMM:=zh hM;have HC2:=zh (HC1.o.below hb2);have HR2:=zh (HR1.o.below hb2);have HB2:=zh (HB1.o.trans (hb2.mono HB1.o.size));have HBV:=zh (bZ V2);have HZ2:=zh (fun wx (hb:Bl V2 wx)=>show wx.cell? ⟨B.wb,1,none⟩=some (.pointer (some ⟨B.db,0,none⟩))/\wx.cell? ⟨B.wb,2,none⟩=some (.pointer (some ⟨B.lib,0,none⟩)) from ⟨(HR2.o.below hb).one,(HR2.o.below hb).two⟩);clear ho1 ho2 hb2 hbv hsx e1 e2 hM z45 z46 z47 z48 z49 z50 z51 z52 z53 z54;go_upto_region 29 with fail
 go_region_held3 (fun wx=>wx.cell? ⟨B.wb,1,none⟩=some (.pointer (some ⟨B.db,0,none⟩))/\wx.cell? ⟨B.wb,2,none⟩=some (.pointer (some ⟨B.lib,0,none⟩)))
  (first|exact hsx|exact HZ2.o _ (by repeat (with_reducible first|assumption|exact HBV.o|apply ZA|apply ZB)))
  (first|(refine ZF rfl func24 rfl rfl rfl (HWC.o _ (ZB HB2.o)) (by simp [Act.eval];first|done|rfl) ?_;rintro e' V3 ⟨rfl,hq⟩;refine ⟨_,rfl,?_⟩;obtain ⟨F3,c3,x3,hx3,hW3,hR3,hP3,hQ3⟩:=ZId (HC2.o.below (ZB HBV.o)) (HR2.o.below (ZB HBV.o)) (HP1.o.below (ZB HBV.o)) (HP2.o.below (ZB HBV.o)) HS1.o hq;have hsx:=And.intro hR3.one hR3.two))
 have z45:=hR3.ivc;have f:=hR3.free;have HW3:=zh hW3;have HR3:=zh hR3;have HP3:=zh hP3;have HQ3:=zh hQ3;have HX3:=zh hx3;clear hW3 hR3 hP3 hQ3 hq hsx hx3;go_upto_region 33 with fail
 have HST:=zh (show ColS A T H B c0 x ex s s1 flt (.slice ga N gc) 0 (V3.setCell ⟨B.wb,45,none⟩ (.slice sa M sc)) from
  ⟨F3,c3,x3,fv,.slice sa M sc,HX3.o,HW3.o.setw HR3.o.row HR3.o.fw _,HR3.o.put 45 _ rfl (fun y hy=>by
    show wwC B s fv _ y=_;exact ZIO) (by simpa using HR3.o.fre) (by
    show OwF V3 F3 H _ 2 _ (s.its.filter fun y=>!s.sf y).length (rcl (s.its.filter fun y=>!s.sf y));have:=HP3.o;rw [HMM.o] at this ⊢;exact this),by
    have:=(HQ3.o.setw HR3.o.row (by decide) (i:=45) (.slice sa M sc)).1;rw [HNE.o] at this ⊢;exact this⟩)
 obtain ⟨w4,hw4⟩:=xE (V3.setCell ⟨B.wb,45,none⟩ (.slice sa M sc));rw [<-hw4] at HST ⊢;clear hw4 z45 f;go_wp2_with fail
 go_loopw [215] (fun i wr=>∃ k:Nat,k<=N/\i=.int .i64 k/\ColS A T H B c0 x ex s s1 flt (.slice ga N gc) k wr) (fun i _=>N - (intOf i).toNat)
 case atStart=>exact ⟨0,by omega,rfl,HST.o⟩
 case round=>
 obtain ⟨k,hk,rfl,hf⟩:=hrel
 by_cases hlt:k < N
 ·have b1:(k:Int) < N:=by omega
  have hnl:k < flt.length:=by have:=HNE.o;omega
  obtain ⟨F5,c5,x5,fv5,iv5,hx5,hW5,hR5,hO5⟩:=hf;have hO5':=hO5;obtain ⟨gI,cI,eI,hsI,_⟩:=Zb hO5' (by omega);cases eI;obtain ⟨y,hy⟩:=xE (flt[k]);have hget:flt[k]?=some y:=by rw [hy];exact ZLg hnl
  obtain ⟨e0,e1⟩:=VP hget;have t0:=hsI _ _ e0;have t1:=hsI _ _ e1;have HTF:=zh (show (flt.take (k+1)).map (·.1)=(flt.take k).map (·.1)++[y.1] by rw [ZLk hnl,<-hy];simp);have HL5:=zh (show (s.fr++(flt.take k).map (·.1)).length<=200 by have:=HFR.o;have:=HNL.o;simp;omega);obtain ⟨yp,ye⟩:=y;simp only at t0 t1 HTF;rw [show 0+2 * k=k * 2 by omega] at t0;rw [show 0+(2 * k+1)=k * 2+1 by omega] at t1;have HW5:=zh hW5;have HR5:=zh hR5;have HO5:=zh hO5;have HX5:=zh hx5;have HNK:=zh hlt;clear hsI e0 e1 hget hy hnl hW5 hR5 hO5 hO5' hx5 hlt hk;go_upto_region 36 with fail;obtain ⟨w5,hw5⟩:=xE (wr.alloc (.cells #[.int .u64 yp,.int .u64 ye] 54));obtain ⟨IB,hIB⟩:=xE wr.heap.size;have hb5:Bl wr w5:=by rw [hw5];exact ZA bR
  have HI5:=zh (show w5.heap[IB]?=some (.cells #[.int .u64 yp,.int .u64 ye] 54 (0,0)) by rw [hw5,hIB];exact ZC _ _);have HW6:=zh (HW5.o.below hb5);have HR6:=zh (HR5.o.below hb5);have HO6:=zh (ZO HO5.o hb5);rw [<-hw5,<-hIB];clear hw5 hIB hb5 t0 t1;obtain ⟨fva,fvc,hfv⟩:=ZN HR6.o.fre.1;subst hfv;obtain ⟨L,hL⟩:=xE ((s.fr++(flt.take k).map (·.1)).length);have HLL:=zh hL;have HR7:=zh (show WR w5 F5 H B {s with its:=s.its.filter (fun y=>!s.sf y),fr:=s.fr++(flt.take k).map (·.1)} (.slice fva L fvc) iv5 from by rw [hL];exact HR6.o);have HL7:=zh (show L<=200 by rw [hL];exact HL5.o);have HO7:=zh (show w5.ownsRow 0 32 1 (.slice fva L fvc) L (ptl (s.fr++(flt.take k).map (·.1))) from by
   have:=HR7.o.fre.1;rw [hL] at this ⊢;exact this)
  clear hL HR6 HL5;have HS0:=zh (show ∀ wx,Bl w5 wx->wx.cell? ⟨B.wb,44,none⟩=some (.slice fva L fvc)/\wx.heap[IB]?=some (.cells #[.int .u64 yp,.int .u64 ye] 54 (0,0)) from fun wx hb=>⟨(HR7.o.below hb).fvc,(hb.block _ (heap_lt HI5.o)).trans HI5.o⟩);have HSa:=zh (HS0.o _ (ZB bR));have HSb:=zh (fun ob=>HS0.o _ (ZA (o:=ob) (ZB bR)));refine Zy 11 (fun wx=>wx.cell? ⟨B.wb,44,none⟩=some (.slice fva L fvc)/\wx.heap[IB]?=some (.cells #[.int .u64 yp,.int .u64 ye] 54 (0,0))) (by kernel_rfl) ?_;refine tK (i:=0) (z:=11) (v:=.pointer (some ⟨B.wb,0,none⟩)) rfl HSa.o (Or.inl ⟨by rfl,fun w' hc=>?_⟩) ?_
  ·go_simp
  (try simp only [Act.put,ZLT,ZLV,ZLW])
  refine tK (i:=1) (z:=11) (v:=.pointer (some ⟨B.wb,0,none⟩)) rfl HSa.o (Or.inl ⟨by rfl,fun w' hc=>?_⟩) ?_
  ·go_simp
  (try simp only [Act.put,ZLT,ZLV,ZLW])
  refine tK (i:=2) (z:=11) (v:=.pointer (some ⟨B.wb,0,none⟩)) rfl HSa.o (Or.inl ⟨by rfl,fun w' hc=>?_⟩) ?_
  ·go_simp
  (try simp only [Act.put,ZLT,ZLV,ZLW])
  refine tK (i:=3) (z:=11) (v:=.pointer (some ⟨B.wb,44,none⟩)) rfl HSa.o (Or.inl ⟨by rfl,fun w' hc=>?_⟩) ?_
  ·go_simp
  (try simp only [Act.put,ZLT,ZLV,ZLW])
  refine tK (i:=4) (z:=11) (v:=.slice fva L fvc) rfl HSa.o (Or.inl ⟨by rfl,fun w' hc=>?_⟩) ?_
  ·have z:=hc.1;go_simp
  (try simp only [Act.put,ZLT,ZLV,ZLW])
  refine tK (i:=5) (z:=11) (v:=.pointer (some ⟨IB,0,none⟩)) rfl HSa.o (Or.inl ⟨by rfl,fun w' hc=>?_⟩) ?_
  ·go_simp
  (try simp only [Act.put,ZLT,ZLV,ZLW])
  refine tK (i:=6) (z:=11) (v:=.int .u64 yp) rfl HSa.o (Or.inl ⟨by rfl,fun w' hc=>?_⟩) ?_
  ·obtain ⟨q0,q1,_⟩:=Yd hc.2;go_simp
  (try simp only [Act.put,ZLT,ZLV,ZLW])
  refine YA (j:=7) (z:=11) (by kernel_rfl) rfl (fun K hK=>?_);go_simp;refine hK _ _ (HSb.o _) ?_;clear hK K
  (try simp only [Act.put,ZLT,ZLV,ZLW])
  refine YA (j:=8) (z:=11) (by kernel_rfl) rfl (fun K hK=>?_);refine J5 ZJx rfl _ _ rfl #[.int .u64 yp] (ZO HO7.o (ZA (ZB bR))) rfl rfl rfl (fun j u hj=>Yn hj) (by intro u hu;simp at hu;subst hu;rfl) (by have:=HL7.o;unfold maxLen;omega) (by have:=HL7.o;omega) (Nat.zero_le _) ?_;intro g8 cap8 w8 how hgr hg8;have hr7:=HR7.o.below (show Bl w5 (w5.drew.alloc (.cells #[.int .u64 yp] 32)) from ZA (ZB bR));have hw7:=HW6.o.below (show Bl w5 (w5.drew.alloc (.cells #[.int .u64 yp] 32)) from ZA (ZB bR));have ho7:=ZO HO6.o (show Bl w5 (w5.drew.alloc (.cells #[.int .u64 yp] 32)) from ZA (ZB bR));have hw8:=hw7.grown hr7.fre hgr;have hb8:w8.heap[B.wb]?=_:=hgr.block _ hr7.row.lt (fun q=>by obtain ⟨cw,hcw,_⟩:=hr7.row;exact Zt hr7.fre.1 hcw (by decide) q.symm);have hrow8:=hr7.row.of_block hb8;have hc8:=(ZLo hb8).trans hr7.fvc;have hi7:=((show Bl w5 (w5.drew.alloc (.cells #[.int .u64 yp] 32)) from ZA (ZB bR)).block _ (heap_lt HI5.o)).trans HI5.o;have hi8:=(hgr.block _ (heap_lt hi7) (fun q=>Zt hr7.fre.1 hi7 (by decide) q.symm)).trans hi7;have hgF:Frn F5 H g8/\H.x0<=g8:=hg8.elim (fun q=>hr7.fre.2 g8 q) (fun q=>⟨hw7.hw.newf q,ZLi hw7.x0 q⟩)
  have HG:=zh (show ColS A T H B c0 x ex s s1 flt (.slice (some ⟨gI,0,none⟩) flt.length gc) (k+1) (w8.setCell ⟨B.wb,44,none⟩ (.slice (some ⟨g8,0,none⟩) (L+1) cap8)) from
   ⟨F5,c5,x5,_,iv5,HX5.o,hw8.setw hrow8 hr7.fw _,hr7.push HLL.o hgr how hgF ⟨rfl,rfl,rfl,rfl,by
     show s.fr++(flt.take (k+1)).map (·.1)=(s.fr++(flt.take k).map (·.1))++[yp];rw [HTF.o,List.append_assoc]⟩,ZHh (ZCr hr7.fre.1 ho7 (by decide) hgr) hrow8 (by decide) _⟩)
  have z8:=hc8;have f8:=hrow8.free;refine hK _ _ ⟨hc8,hi8⟩ ?_;clear hK K
  (try simp only [Act.put,ZLT,ZLV,ZLW])
  refine YA (j:=9) (z:=11) (by kernel_rfl) rfl (fun K hK=>?_);go_simp;refine hK _ _ ⟨hc8,hi8⟩ ?_;clear hK K
  (try simp only [Act.put,ZLT,ZLV,ZLW])
  refine YA (j:=10) (z:=11) (by kernel_rfl) rfl (fun K hK=>?_);go_simp;refine hK _ _ ⟨hc8,hi8⟩ ?_;clear hK K
  (try simp only [Act.put,ZLT,ZLV,ZLW])
  refine Vm (z:=11) (by kernel_rfl) rfl (by kernel_rfl) (by kernel_rfl) (fun K hK=>?_);go_simp;refine hK _ _ ?_;clear hK K how hgr hg8 hr7 hw7 ho7 hw8 hb8 hrow8 hc8 hi7 hi8 hgF z8 f8;have b2:(k:Int) < 60:=by have:=HNK.o;have:=HNL.o;omega
  go_wp2_with fail;exact ⟨⟨k+1,by have:=HNK.o;omega,rfl,HG.o⟩,by have:=HNK.o;simp [intOf];omega⟩
 ·obtain rfl:k=N:=by omega
  have d1:¬ ((k:Int) < k):=by omega
  have HE:=zh (show DoP A T H B c0 x ex s1 wr from by
   obtain ⟨F5,c5,x5,fv5,iv5,hx5,hW5,hR5,_⟩:=hf;rw [ZL1 (by rw [HNE.o];exact nR)] at hR5;exact ⟨F5,c5,x5,ex,fv5,iv5,by omega,by omega,hW5,hR5.same HEND.o⟩)
  clear hf hk hlt;go_wp2;go_returns;exact ⟨rfl,HE.o⟩
theorem do4 (h:WC w A F T c x H ex B c0 s)(hr:WR w F H B s fv iv)(hi:s.Inv n)(hn:n<=60){a b d:Int}(hk:ZX a 7=4):
 Calls prog 11 #[.pointer (some ⟨B.wb,0,none⟩),.agg #[.int .i64 a,.int .i64 b,.int .i64 d]] w fun e w'=>e=.returned (.bool true)/\DoP A T H B c0 x ex (s.stp 4 (ZX b 40) (ZX d 8)) w':=by
 have HM1:=zmo (a:=b) (n:=40) (by omega);have HM2:=zmo (a:=d) (n:=8) (by omega);have HM3:=zmo (a:=a) (n:=7) (by omega);rw [hk] at HM3;have ht:ZX d 8 < 8:=Z4 (by omega) rfl;have est:s.stp 4 (ZX b 40) (ZX d 8)={s with now:=s.now,ann:=if s.ann (ZX d 8)=0 then s.ann else upd s.ann (ZX d 8) 0}:=rfl;rw [est];obtain ⟨i,hie⟩:=xE (ZX b 40);obtain ⟨t,hte⟩:=xE (ZX d 8);rw [<-hie] at HM1;rw [<-hte] at HM2 ht ⊢;have hnow:1<=s.now/\s.now<=2147483647:=by have:=hi.now;have:=hi.ok.now;omega
 have HEP:=zh (fun wx (hb:Bl w wx)=>Yo (h.po.below hb));have HEN:=zh (fun wx (hb:Bl w wx)=>ZIZ (h.ar.below hb) (h.ck.below hb) hnow h.rep.clk (by omega) ht);have HRE:=zh (fun (wx:World)=>ZGH (w:=wx) (now:=s.now) (t:=t) (an:=s.ann) ht);have HREP:=zh (show ({s with now:=s.now,ann:=if s.ann t=0 then s.ann else upd s.ann t 0}:LS).Rep T c c0 from {h.rep with});have HH:=zh h;have HR:=zh hr;clear hi hn hk est hie hte h hr hnow ht;go_in;go_upto_region 1 with fail;obtain ⟨w0,hw0⟩:=xE (w.alloc (.cells #[.int .i64 a,.int .i64 b,.int .i64 d] 28));have hb0:Bl w w0:=by rw [hw0];exact ZA bR
 have hx0:w0.heap[w.heap.size]?=some (.cells #[.int .i64 a,.int .i64 b,.int .i64 d] 28 (0,0)):=by rw [hw0];exact ZC _ _
 rw [<-hw0];obtain ⟨a0,a1,a2,_⟩:=ZY hx0;clear hw0;have HR0:=zh (bZ w0)
 go_region_held3 (fun wx=>wx.cell? ⟨w.heap.size,1,none⟩=some (.int .i64 b)/\wx.cell? ⟨w.heap.size,2,none⟩=some (.int .i64 d))
  (first|assumption|exact ⟨a1,a2⟩)
  (first
    |(refine ZF rfl func26 rfl rfl rfl (HM1.o _) (by simp [Act.eval];first|done|rfl) ?_;rintro e' V2 ⟨rfl,rfl⟩;refine ⟨_,rfl,?_⟩)
    |(refine ZF rfl func26 rfl rfl rfl (HM2.o _) (by simp [Act.eval];first|done|rfl) ?_;rintro e' V2 ⟨rfl,rfl⟩;refine ⟨_,rfl,?_⟩))
 have hb1:Bl w w0.drew:=ZB hb0;have hx1:w0.drew.heap[w.heap.size]?=_:=hx0;obtain ⟨w1,hw1⟩:=xE w0.drew;rw [<-hw1] at hb1 hx1 ⊢;clear hw1 a0 a1 a2 hx0 hb0;obtain ⟨a0,a1,a2,_⟩:=ZY hx1;go_wp2_with fail;refine (HM3.o _).mono ?_;rintro e w' ⟨rfl,rfl⟩;have HB1:=zh hb1;have z0:=(HR.o.below hb1).zero;clear hb1 hx1 a0 a1 a2;go_wp2_with fail;refine (HEP.o _ HB1.o).mono ?_;rintro e w' ⟨rfl,rfl⟩;go_wp2_with fail;refine (HEN.o _ HB1.o).mono ?_;rintro e w2 ⟨rfl,hck,ho⟩
 have HW2:=zh (show WC w2 A F T c x H ex B c0 {s with now:=s.now,ann:=if s.ann t=0 then s.ann else upd s.ann t 0}/\WR w2 F H B s fv iv from
  ⟨(HH.o.below HB1.o).clock ho hck ⟨rfl,rfl,rfl⟩ HREP.o,(HR.o.below HB1.o).clock (HH.o.below HB1.o).ck ho⟩)
 have HA:=zh HW2.o.2;clear hck ho z0;have z0:=HA.o.zero;have z46:=HA.o.nowc;obtain ⟨z47,z48,z49,z50,z51,z52,z53,z54⟩:=HA.o.annc;unfold ck9 at HRE
 by_cases hz:s.ann t=0
 ·simp only [ZLX hz] at *
  go_wp2_with fail;refine (HRE.o _).mono ?_;rintro e w3 ⟨rfl,hb3⟩;have HW3:=zh (show WC w3 A F T c x H ex B c0 {s with now:=s.now,ann:=s.ann}/\WR w3 F H B s fv iv from ⟨HW2.o.1.below hb3,HW2.o.2.below hb3⟩);clear hb3 z0 z46 z47 z48 z49 z50 z51 z52 z53 z54;go_upto_region 51 with fail;obtain ⟨w4,hw4⟩:=xE (w3.alloc (.cells #[.int .u64 s.now,.int .u64 (s.ann 0:Nat),.int .u64 (s.ann 1:Nat),.int .u64 (s.ann 2:Nat),.int .u64 (s.ann 3:Nat),.int .u64 (s.ann 4:Nat),.int .u64 (s.ann 5:Nat),.int .u64 (s.ann 6:Nat),.int .u64 (s.ann 7:Nat)] 44));have hb4:Bl w3 w4:=by rw [hw4];exact ZA bR
  have hx4:w4.heap[w3.heap.size]?=some (.cells #[.int .u64 s.now,.int .u64 (s.ann 0:Nat),.int .u64 (s.ann 1:Nat),.int .u64 (s.ann 2:Nat),.int .u64 (s.ann 3:Nat),.int .u64 (s.ann 4:Nat),.int .u64 (s.ann 5:Nat),.int .u64 (s.ann 6:Nat),.int .u64 (s.ann 7:Nat)] 44 (0,0)):=by rw [hw4];exact ZC _ _
  have HW4:=zh (show WC w4 A F T c x H ex B c0 {s with now:=s.now,ann:=s.ann}/\WR w4 F H B s fv iv from ⟨HW3.o.1.below hb4,HW3.o.2.below hb4⟩);rw [<-hw4];clear hw4 hb4;have f:=HW4.o.2.free;have z46:=HW4.o.2.nowc;obtain ⟨z47,z48,z49,z50,z51,z52,z53,z54⟩:=HW4.o.2.annc;obtain ⟨⟨x0,x1,x2,x3,x4,x5,x6,x7,x8⟩,_⟩:=ZCq hx4;go_upto_region 52 with fail;have hst:=X5 (B:=B) HW4.o.1 HW4.o.2 s.now s.ann;have HE:=zh (DoP.of (x:=x) (ex:=ex) hst.1 hst.2);clear hst z46 z47 z48 z49 z50 z51 z52 z53 z54 x0 x1 x2 x3 x4 x5 x6 x7 x8 f;go_wp2;go_returns;exact ⟨rfl,HE.o⟩
 ·simp only [ZLU hz] at *
  go_wp2_with fail;refine (HRE.o _).mono ?_;rintro e w3 ⟨rfl,hb3⟩;have HW3:=zh (show WC w3 A F T c x H ex B c0 {s with now:=s.now,ann:=(upd s.ann t 0)}/\WR w3 F H B s fv iv from ⟨HW2.o.1.below hb3,HW2.o.2.below hb3⟩);clear hb3 z0 z46 z47 z48 z49 z50 z51 z52 z53 z54;obtain ⟨AN,hAN⟩:=xE ((upd s.ann t 0));rw [<-hAN] at HW3 ⊢;simp only [<-hAN];have HAN:=zh hAN;clear hAN;go_upto_region 51 with fail;obtain ⟨w4,hw4⟩:=xE (w3.alloc (.cells #[.int .u64 s.now,.int .u64 (AN 0:Nat),.int .u64 (AN 1:Nat),.int .u64 (AN 2:Nat),.int .u64 (AN 3:Nat),.int .u64 (AN 4:Nat),.int .u64 (AN 5:Nat),.int .u64 (AN 6:Nat),.int .u64 (AN 7:Nat)] 44));have hb4:Bl w3 w4:=by rw [hw4];exact ZA bR
  have hx4:w4.heap[w3.heap.size]?=some (.cells #[.int .u64 s.now,.int .u64 (AN 0:Nat),.int .u64 (AN 1:Nat),.int .u64 (AN 2:Nat),.int .u64 (AN 3:Nat),.int .u64 (AN 4:Nat),.int .u64 (AN 5:Nat),.int .u64 (AN 6:Nat),.int .u64 (AN 7:Nat)] 44 (0,0)):=by rw [hw4];exact ZC _ _
  have HW4:=zh (show WC w4 A F T c x H ex B c0 {s with now:=s.now,ann:=AN}/\WR w4 F H B s fv iv from ⟨HW3.o.1.below hb4,HW3.o.2.below hb4⟩);rw [<-hw4];clear hw4 hb4;have f:=HW4.o.2.free;have z46:=HW4.o.2.nowc;obtain ⟨z47,z48,z49,z50,z51,z52,z53,z54⟩:=HW4.o.2.annc;obtain ⟨⟨x0,x1,x2,x3,x4,x5,x6,x7,x8⟩,_⟩:=ZCq hx4;go_upto_region 52 with fail;have hst:=X5 (B:=B) HW4.o.1 HW4.o.2 s.now AN;have HE:=zh (DoP.of (x:=x) (ex:=ex) hst.1 hst.2);clear hst z46 z47 z48 z49 z50 z51 z52 z53 z54 x0 x1 x2 x3 x4 x5 x6 x7 x8 f;go_wp2;go_returns;exact ⟨rfl,by rw [<-HAN.o];exact HE.o⟩
theorem WC.mvx (h:WC w A F T c x H ex B c0 s)(hm:HMv F F' H w w'):(∀ k,F' k≠none->H.x0<=k)/\Below H.x0 B.w0 w'/\XsB w' F' H B.xs:=by
 refine ⟨fun k hk=>?_,Zz h.xb hm.only h.x0 (fun k _ q=>q.elim (h.xf k) (h.xo k)),h.xt.moved hm⟩;have h2:=h.x0
 by_cases e:k < w.heap.size
 ·rw [hm.same k e] at hk;exact h.xf k hk
 ·omega
theorem WC.adv {wm:World}{s':LS}{v:Nat}(h:WC w A F T c x H ex B c0 s)(hw:HW wm A F' 160 T c' x' H false (plc s.k) ex (fun _=>none) (fun _=>none))(hm:HMv F F' H w wm)(hk:CkB wm A B.kb s.now s.ann)(hr:s'.Rep T c' c0)(he:s'.k=s.k/\s'.now=v/\s'.ann=s.ann):
 WC (wm.setCell ⟨B.kb,2,none⟩ (.int .u64 v)) A F' T c' x' H ex B c0 s':=by
 obtain ⟨e1,e2,e3⟩:=he;have mx:=h.mvx hm;have ho:Only (fun k=>k=B.kb) wm (wm.setCell ⟨B.kb,2,none⟩ (.int .u64 v)):=(Only.refl (fun k=>k=B.kb) wm).set (F:=fun k=>k=B.kb) rfl _;have hne:∀ {b:Nat} {a:Array Value} {e:TypeId},wm.heap[b]?=some (.cells a e (0,0))->e≠149->(wm.setCell ⟨B.kb,2,none⟩ (.int .u64 v)).heap[b]?=wm.heap[b]?:=fun {b a e} hb he=>ho.block b (heap_lt hb) (fun q=>by
  have q:b=B.kb:=q;rw [q,hk] at hb;cases hb;exact he rfl)
 have fk:=(hm.frn h.fk (heap_lt h.ck)).2;have li:=(hm.frn h.fi (heap_lt h.li)).1.trans h.li;have po:=(hm.frn h.fp (heap_lt h.po)).1.trans h.po;have rt:=(hm.frn h.fr (heap_lt h.rt)).1.trans h.rt;have dr:=h.dr.moved hm;exact {hw:=by rw [e1];exact hw.only ho (fun k _ hk=>hk▸fk),l0:=h.l0,dr:=⟨(hne dr.dr (by decide)).trans dr.dr,(hne dr.lg (by decide)).trans dr.lg,dr.t,dr.fd,dr.fl⟩,ck:=by rw [e2,e3];exact hk.now v,fk:=fk,li:=(hne li (by decide)).trans li,fi:=(hm.frn h.fi (heap_lt h.li)).2,po:=(hne po (by decide)).trans po,fp:=(hm.frn h.fp (heap_lt h.po)).2,rt:=(hne rt (by decide)).trans rt,fr:=(hm.frn h.fr (heap_lt h.rt)).2,rep:=hr,xk:=h.xk,xo:=h.xo,xf:=mx.1,xb:=Zz mx.2.1 ho (ZLi h.x0 hm.only.size) (fun k _ q=>by have q:k=B.kb:=q;rw [q];exact h.xk.1),xt:=mx.2.2.only ho (fun p hp=>mx.2.2.ne hp hk h.xk.1 (by decide))}
theorem do5 (h:WC w A F T c x H ex B c0 s)(hr:WR w F H B s fv iv)(hi:s.Inv n)(hn:n<=60)(hx:x<=900000){a b d:Int}(hk:ZX a 7=5):
 Calls prog 11 #[.pointer (some ⟨B.wb,0,none⟩),.agg #[.int .i64 a,.int .i64 b,.int .i64 d]] w fun e w'=>e=.returned (.bool true)/\DoP A T H B c0 x ex (s.stp 5 (ZX b 40) (ZX d 8)) w':=by
 have HM1:=zmo (a:=b) (n:=40) (by omega);have HM2:=zmo (a:=d) (n:=8) (by omega);have HM3:=zmo (a:=a) (n:=7) (by omega);rw [hk] at HM3;have ht:ZX d 8 < 8:=Z4 (by omega) rfl;have est:s.stp 5 (ZX b 40) (ZX d 8)=if Yy s.now s.ann then s.advance else s:=rfl
 rw [est];obtain ⟨i,hie⟩:=xE (ZX b 40);obtain ⟨t,hte⟩:=xE (ZX d 8);rw [<-hie] at HM1;rw [<-hte] at HM2 ht;have hnow:1<=s.now/\s.now<=500:=by have:=hi.now;have:=hi.ok.now;omega
 have HEP:=zh (fun wx (hb:Bl w wx)=>Yo (h.po.below hb));have HEN:=zh (fun wx (hb:Bl w wx)=>ZDi (x':=x+100) (h.hw.below hb) (h.ck.below hb) h.fk hnow h.rep.clk (by omega) ht (by omega) (by omega));have HRE:=zh (fun (wx:World)=>ZHz (w:=wx) (now:=s.now) (t:=t) (an:=s.ann) ht (by omega));have HREP:=zh (h.rep.advance);have HH:=zh h;have HR:=zh hr;clear hi hn hk est hie hte h hr hnow ht;go_in;go_upto_region 1 with fail;obtain ⟨w0,hw0⟩:=xE (w.alloc (.cells #[.int .i64 a,.int .i64 b,.int .i64 d] 28));have hb0:Bl w w0:=by rw [hw0];exact ZA bR
 have hx0:w0.heap[w.heap.size]?=some (.cells #[.int .i64 a,.int .i64 b,.int .i64 d] 28 (0,0)):=by rw [hw0];exact ZC _ _
 rw [<-hw0];obtain ⟨a0,a1,a2,_⟩:=ZY hx0;clear hw0;have HR0:=zh (bZ w0)
 go_region_held3 (fun wx=>wx.cell? ⟨w.heap.size,1,none⟩=some (.int .i64 b)/\wx.cell? ⟨w.heap.size,2,none⟩=some (.int .i64 d))
  (first|assumption|exact ⟨a1,a2⟩)
  (first
    |(refine ZF rfl func26 rfl rfl rfl (HM1.o _) (by simp [Act.eval];first|done|rfl) ?_;rintro e' V2 ⟨rfl,rfl⟩;refine ⟨_,rfl,?_⟩)
    |(refine ZF rfl func26 rfl rfl rfl (HM2.o _) (by simp [Act.eval];first|done|rfl) ?_;rintro e' V2 ⟨rfl,rfl⟩;refine ⟨_,rfl,?_⟩))
 have hb1:Bl w w0.drew:=ZB hb0;have hx1:w0.drew.heap[w.heap.size]?=_:=hx0;obtain ⟨w1,hw1⟩:=xE w0.drew;rw [<-hw1] at hb1 hx1 ⊢;clear hw1 a0 a1 a2 hx0 hb0;obtain ⟨a0,a1,a2,_⟩:=ZY hx1;go_wp2_with fail;refine (HM3.o _).mono ?_;rintro e w' ⟨rfl,rfl⟩;have HB1:=zh hb1;have z0:=(HR.o.below hb1).zero;clear hb1 hx1 a0 a1 a2;go_wp2_with fail;refine (HEP.o _ HB1.o).mono ?_;rintro e w' ⟨rfl,rfl⟩;go_wp2_with fail;unfold ck9 at HRE;refine (HEN.o _ HB1.o).mono ?_;rintro e w2 (⟨hz,rfl,F2,wm,hwm,hmm,hkm,rfl⟩|⟨hz,rfl,hww⟩)
 ·simp only [ZLX hz] at *
  have HW2:=zh (show WC (wm.setCell ⟨B.kb,2,none⟩ (.int .u64 (s.now+1:Nat))) A F2 T (wrs c [(4480,7309464666214760448+(s.now+1))]) (x+100) H ex B c0 s.advance/\WR (wm.setCell ⟨B.kb,2,none⟩ (.int .u64 (s.now+1:Nat))) F2 H B s fv iv from
   ⟨(HH.o.below HB1.o).adv hwm hmm hkm HREP.o ⟨rfl,rfl,rfl⟩,((HR.o.below HB1.o).moved hmm).clock hkm ((Only.refl (fun k=>k=B.kb) wm).set (F:=fun k=>k=B.kb) rfl _)⟩)
  obtain ⟨w2,hw2⟩:=xE (wm.setCell ⟨B.kb,2,none⟩ (.int .u64 (s.now+1:Nat)));rw [<-hw2] at HW2 ⊢;have HA:=zh HW2.o.2;clear hwm hmm hkm hw2 z0;have z0:=HA.o.zero;have z46:=HA.o.nowc;obtain ⟨z47,z48,z49,z50,z51,z52,z53,z54⟩:=HA.o.annc;obtain ⟨NW,hNW⟩:=xE (s.now+1);have HNW:=zh hNW;rw [<-hNW] at HRE ⊢;clear hNW;go_wp2_with fail;refine (HRE.o _).mono ?_;rintro e w3 ⟨rfl,hb3⟩;have HW3:=zh (show WC w3 A F2 T (wrs c [(4480,7309464666214760448+(s.now+1))]) (x+100) H ex B c0 s.advance/\WR w3 F2 H B s fv iv from ⟨HW2.o.1.below hb3,HW2.o.2.below hb3⟩);clear hb3 z0 z46 z47 z48 z49 z50 z51 z52 z53 z54;go_upto_region 58 with fail;obtain ⟨w4,hw4⟩:=xE (w3.alloc (.cells #[.int .u64 NW,.int .u64 (s.ann 0:Nat),.int .u64 (s.ann 1:Nat),.int .u64 (s.ann 2:Nat),.int .u64 (s.ann 3:Nat),.int .u64 (s.ann 4:Nat),.int .u64 (s.ann 5:Nat),.int .u64 (s.ann 6:Nat),.int .u64 (s.ann 7:Nat)] 44));have hb4:Bl w3 w4:=by rw [hw4];exact ZA bR
  have hx4:w4.heap[w3.heap.size]?=some (.cells #[.int .u64 NW,.int .u64 (s.ann 0:Nat),.int .u64 (s.ann 1:Nat),.int .u64 (s.ann 2:Nat),.int .u64 (s.ann 3:Nat),.int .u64 (s.ann 4:Nat),.int .u64 (s.ann 5:Nat),.int .u64 (s.ann 6:Nat),.int .u64 (s.ann 7:Nat)] 44 (0,0)):=by rw [hw4];exact ZC _ _
  have HW4:=zh (show WC w4 A F2 T (wrs c [(4480,7309464666214760448+(s.now+1))]) (x+100) H ex B c0 s.advance/\WR w4 F2 H B s fv iv from ⟨HW3.o.1.below hb4,HW3.o.2.below hb4⟩);rw [<-hw4];clear hw4 hb4;have f:=HW4.o.2.free;have z46:=HW4.o.2.nowc;obtain ⟨z47,z48,z49,z50,z51,z52,z53,z54⟩:=HW4.o.2.annc;obtain ⟨⟨x0,x1,x2,x3,x4,x5,x6,x7,x8⟩,_⟩:=ZCq hx4;go_upto_region 59 with fail;have hst:=X5 (B:=B) HW4.o.1 HW4.o.2 NW s.ann;have HE:=zh (show DoP A T H B c0 x ex s.advance (ZKO w4 B.wb NW s.ann) from ⟨F2,_,_,ex,fv,iv,by omega,by omega,hst.1,by have:=hst.2;rw [HNW.o] at this ⊢;exact this⟩);clear hst z46 z47 z48 z49 z50 z51 z52 z53 z54 x0 x1 x2 x3 x4 x5 x6 x7 x8 f;go_wp2;go_returns;exact ⟨rfl,HE.o⟩
 ·subst hww
  simp only [ZLU hz] at *;have HW2:=zh (show WC w1 A F T c x H ex B c0 s/\WR w1 F H B s fv iv from ⟨HH.o.below HB1.o,HR.o.below HB1.o⟩);have HA:=zh HW2.o.2;clear z0;have z0:=HA.o.zero;have z46:=HA.o.nowc;obtain ⟨z47,z48,z49,z50,z51,z52,z53,z54⟩:=HA.o.annc;go_wp2_with fail;refine (HRE.o _).mono ?_;rintro e w3 ⟨rfl,hb3⟩;have HW3:=zh (show WC w3 A F T c x H ex B c0 s/\WR w3 F H B s fv iv from ⟨HW2.o.1.below hb3,HW2.o.2.below hb3⟩);clear hb3 z0 z46 z47 z48 z49 z50 z51 z52 z53 z54;go_upto_region 58 with fail;obtain ⟨w4,hw4⟩:=xE (w3.alloc (.cells #[.int .u64 s.now,.int .u64 (s.ann 0:Nat),.int .u64 (s.ann 1:Nat),.int .u64 (s.ann 2:Nat),.int .u64 (s.ann 3:Nat),.int .u64 (s.ann 4:Nat),.int .u64 (s.ann 5:Nat),.int .u64 (s.ann 6:Nat),.int .u64 (s.ann 7:Nat)] 44));have hb4:Bl w3 w4:=by rw [hw4];exact ZA bR
  have hx4:w4.heap[w3.heap.size]?=some (.cells #[.int .u64 s.now,.int .u64 (s.ann 0:Nat),.int .u64 (s.ann 1:Nat),.int .u64 (s.ann 2:Nat),.int .u64 (s.ann 3:Nat),.int .u64 (s.ann 4:Nat),.int .u64 (s.ann 5:Nat),.int .u64 (s.ann 6:Nat),.int .u64 (s.ann 7:Nat)] 44 (0,0)):=by rw [hw4];exact ZC _ _
  have HW4:=zh (show WC w4 A F T c x H ex B c0 s/\WR w4 F H B s fv iv from ⟨HW3.o.1.below hb4,HW3.o.2.below hb4⟩);rw [<-hw4];clear hw4 hb4;have f:=HW4.o.2.free;have z46:=HW4.o.2.nowc;obtain ⟨z47,z48,z49,z50,z51,z52,z53,z54⟩:=HW4.o.2.annc;obtain ⟨⟨x0,x1,x2,x3,x4,x5,x6,x7,x8⟩,_⟩:=ZCq hx4;go_upto_region 59 with fail;have hst:=X5 (B:=B) HW4.o.1 HW4.o.2 s.now s.ann;have HE:=zh (DoP.of (x:=x) (ex:=ex) hst.1 hst.2);clear hst z46 z47 z48 z49 z50 z51 z52 z53 z54 x0 x1 x2 x3 x4 x5 x6 x7 x8 f;go_wp2;go_returns;exact ⟨rfl,HE.o⟩
theorem ZHA (h:WC w A F T c x H ex B c0 s)(hr:WR w F H B s fv iv)(hi:s.Inv n)(hn:n<=50)(hx:x<=900000)(hex:ex<=900000){a b d:Int}(hk:ZX a 7≠6):
 Calls prog 11 #[.pointer (some ⟨B.wb,0,none⟩),.agg #[.int .i64 a,.int .i64 b,.int .i64 d]] w fun e w'=>e=.returned (.bool true)/\DoP A T H B c0 x ex (s.stp (ZX a 7) (ZX b 40) (ZX d 8)) w':=by
 have h7:ZX a 7 < 7:=Z4 (by omega) rfl;rcases (show ZX a 7=0\/ZX a 7=1\/ZX a 7=2\/ZX a 7=3\/ZX a 7=4\/ZX a 7=5 by omega) with e|e|e|e|e|e
 ·rw [e]
  by_cases h0:s.lp (ZX b 40)=0
  ·rw [show s.stp 0 (ZX b 40) (ZX d 8)=s.mk0 (ZX b 40) by unfold LS.stp;rw [ZLX rfl,ZLX h0]]
   exact ZIe h hr hi hn hx hex e h0
  ·rw [show s.stp 0 (ZX b 40) (ZX d 8)=s by unfold LS.stp;rw [ZLX rfl,ZLU h0]]
   exact ZJu h hr e h0
 ·rw [e]
  by_cases h0:s.lp (ZX b 40)=0
  ·rw [show s.stp 1 (ZX b 40) (ZX d 8)=s by unfold LS.stp;rw [ZLU (by omega),ZLX rfl,ZLX h0]]
   exact ZIf h hr e h0
  ·rw [show s.stp 1 (ZX b 40) (ZX d 8)=s.retire (ZX b 40) by unfold LS.stp;rw [ZLU (by omega),ZLX rfl,ZLU h0]]
   exact ZIg h hr hi hn hx e h0
 ·rw [e];exact do2 h hr hi hn hx e
 ·rw [e];exact do3 h hr hi (by omega) e
 ·rw [e];exact do4 h hr hi (by omega) e
 ·rw [e];exact do5 h hr hi (by omega) hx e
end
section
open Go.RowKit Go.Proofs.YtbpeehmepehkdaaGreatDoor.Size
open Go.Sort hiding Below
variable {w w':World}{A:DAd}{F:Nat->Option ZM}{L:Nat}{T c c':Nat->Nat}{x x':Nat}{H:HAd}
theorem Qi (l:List (Nat×Nat×Nat)):(icl l).length=l.length * 3:=by
 induction l with
 |nil=>rfl
 |cons y l ih=>
  have e:icl (y:: l)=[.int .i64 y.1,.int .u64 y.2.1,.int .u64 y.2.2]++icl l:=rfl;rw [e,ZLc,ih];simp;omega
theorem ZAh (d:Array (Nat×Nat×Nat))(h:∀ y∈d.toList,y.2.1 < 18446744073709551616):(flatK encI 3 d).toList=icl d.toList:=by
 apply List.ext_getElem?;intro t
 by_cases ht:t < d.size * 3
 ·have hi:t / 3 < d.size:=by omega
  obtain ⟨y,hy⟩:=xE (d[t / 3]);have hg:d.toList[t / 3]?=some y:=by rw [hy];simp [hi]
  have hm:=h y (List.mem_of_getElem? hg);obtain ⟨e0,e1,e2⟩:=VG hg;have hb:d[t / 3]! =y:=by rw [getElem!_pos d _ hi,hy]
  have hl:(flatK encI 3 d).toList[t]?=some ((encI y)[t % 3]!):=by
   have h1:=get_flatK encI 3 d t ht;rw [hb] at h1;rw [ZLx,<-h1,ZL8 (by simpa using ht),getElem!_pos _ _ (by simpa using ht)]
  have hx:encI y=[.int .i64 y.1,.int .u64 y.2.1,.int .u64 y.2.2]:=by unfold encI;rw [Nat.mod_eq_of_lt hm]
  rw [hl,hx];rcases (show t % 3=0\/t % 3=1\/t % 3=2 by omega) with h0|h0|h0
  ·have et:t=3 * (t / 3):=by omega
   rw [h0];rw [et,e0];rfl
  ·have et:t=3 * (t / 3)+1:=by omega
   rw [h0];rw [et,e1];rfl
  ·have et:t=3 * (t / 3)+2:=by omega
   rw [h0];rw [et,e2];rfl
 ·rw [List.getElem?_eq_none (by simp;omega),List.getElem?_eq_none (by rw [Qi];simp;omega)]
theorem J1 {w:World}{base g cap n K:Nat}{e:TypeId}{os:Array Obj}{cur xs:Array Value}(hsz:xs.size=K * 3)(hbase:base<=g)(hb:w.heap[g]?=some (.cells cur e (0,0)))(h1:K<=cap)(h2:cap<=maxLen)(h3:cur.size=cap * 3):
 (grow (putRow id (Sort.ahead w n) g 0 xs) os).ownsRow base e 3 (.slice (some ⟨g,0,none⟩) K cap) K xs.toList:=by
 have hh:(grow (putRow id (Sort.ahead w n) g 0 xs) os).heap[g]?=some (.cells (putCells id 0 xs cur) e (0,0)):=by
  have hg:g < w.heap.size:=(ZL4.1 hb).1;rw [heap_grow_old _ _ (by simpa using hg)];simp [putRow,mapBlock,Sort.ahead,Array.getElem?_modify,hb,onCells]
 refine ⟨by simp [hsz],.inr ⟨g,cap,_,rfl,hbase,hh,h1,h2,by simp [putCells,h3],?_⟩⟩;apply List.ext_getElem?;intro j
 by_cases hj:j < K * 3
 ·rw [List.getElem?_take_of_lt hj,ZLx,ZLx]
  have hc:j < cur.size:=by rw [h3];exact ZLq hj (Nat.mul_le_mul_right 3 h1)
  have hx:j < xs.size:=by omega
  simp [putCells,hx,hc]
 ·rw [List.getElem?_take_eq_none (by omega),List.getElem?_eq_none (by simp;omega)]
theorem J0 {w:World}{g n:Nat}{os:Array Obj}(xs:Array Value):w.grownBy (grow (putRow id (Sort.ahead w n) g 0 xs) os) (some g):=by
 refine ⟨rfl,rfl,rfl,by simp,fun k hk hne=>?_⟩;rw [heap_grow_old _ _ (by simpa using hk)];have:g≠k:=fun e=>hne (by rw [e])
 simp [putRow,mapBlock,Sort.ahead,Array.getElem?_modify,this]
theorem ZG7 {a b:Nat}:cpN a b < 0↔a < b:=by unfold cpN;split <;> (try split) <;> omega
theorem ZCD {a b:Nat}:cpN a b=0↔a=b:=by unfold cpN;split <;> (try split) <;> omega
theorem Vd {x y:Nat×Nat×Nat}:ltOf cfI x y=true↔x.2.2 < y.2.2\/x.2.2=y.2.2/\ZP (x.2.1 % 18446744073709551616) < ZP (y.2.1 % 18446744073709551616):=by
 unfold ltOf;rw [decide_eq_true_iff];unfold cfI;split
 ·rename_i h;rw [ZG7];have:=ZCD.1 h;omega
 ·rename_i h;rw [ZG7];have:¬ x.2.2=y.2.2:=fun q=>h (ZCD.2 q);omega
theorem ZIY:SWO (ltOf cfI):=by
 refine ⟨fun x=>?_,fun x y z h1 h2=>?_,fun x y z h1 h2=>?_⟩
 ·have:¬ ltOf cfI x x=true:=fun q=>by have:=Vd.1 q;omega
  simpa using this
 ·have a1:=Vd.1 h1;have a2:=Vd.1 h2
  exact Vd.2 (by omega)
 ·have a1:¬ _:=fun q=>by rw [Vd.2 q] at h1;cases h1
  have a2:¬ _:=fun q=>by rw [Vd.2 q] at h2;cases h2
  have:¬ ltOf cfI x z=true:=fun q=>by have:=Vd.1 q;omega
  simpa using this
theorem ZD3 {l:List (Nat×Nat×Nat)}(h64:∀ y∈l,y.2.1 < 18446744073709551616)(hs:l.Pairwise fun x y=>ltOf cfI y x=false)(hnd:(l.map fun y=>y.2.1 % 4294967296).Nodup):Its (l.map fun y=>(y.2.1,y.2.2)):=by
 unfold Its;rw [List.pairwise_map];have hnd2:=List.pairwise_map.1 (List.nodup_iff_pairwise_ne.1 hnd);refine (ZL7).2 fun i j hi hj hij=>?_
 have a1:=ZL7.1 hs i j hi hj hij;have a2:=ZL7.1 hnd2 i j hi hj hij;have m1:=h64 _ (ZLl hi);have m2:=h64 _ (ZLl hj);obtain ⟨X,hX⟩:=xE (l[i]);obtain ⟨Y,hY⟩:=xE (l[j]);rw [<-hX,<-hY] at a1 a2;rw [<-hX] at m1;rw [<-hY] at m2;rw [<-hX,<-hY];have a3:¬ (Y.2.2 < X.2.2\/Y.2.2=X.2.2/\ZP (Y.2.1 % 18446744073709551616) < ZP (X.2.1 % 18446744073709551616)):=fun q=>by rw [Vd.2 q] at a1;cases a1
 rw [Nat.mod_eq_of_lt m1,Nat.mod_eq_of_lt m2] at a3;unfold ZP at a3;unfold Yx;simp only [decide_eq_true_iff];omega
theorem ZEt {q e:Nat->Nat}:∀ {n:Nat} {y:Nat×Nat×Nat},y∈itm q e n->y.1 < n/\y.2.1=q y.1/\y.2.2=e y.1/\y.2.1≠0
 |0,y,h=>by cases h
 |n+1,y,h=>by
  unfold itm at h;rcases ZLZ.1 h with h|h
  ·obtain ⟨h1,h2⟩:=ZEt h
   exact ⟨Nat.lt_succ_of_lt h1,h2⟩
  ·split at h
   ·cases h
   ·have:y=(n,q n,e n):=by simpa using h
    subst this;exact ⟨Nat.lt_succ_self n,rfl,rfl,‹_›⟩
theorem ZIm (l:List (Nat×Nat×Nat)):∀ u∈icl l,u.oneCell'=true:=by
 intro u hu;unfold icl at hu;rw [List.mem_flatMap] at hu;obtain ⟨y,_,hu⟩:=hu;simp at hu;rcases hu with rfl|rfl|rfl <;> rfl
theorem ZIW {iv:Value}{IL:List (Nat×Nat×Nat)}{base:Nat}(hv:Itm w iv IL)(hK:IL.length<=29)(hbase:base<=w.heap.size):
 ∃ v w',(∀ ty,(Builtin.append_ #[127,127] ty #[.slice none 0 0,iv]).run prog w=.ok v w')/\w'.ownsRow base 132 3 v IL.length (icl IL)/\w.grownBy w' none:=by
 obtain ⟨a,cap,rfl,hg⟩:=hv
 by_cases h0:IL.length=0
 ·have e:IL=[]:=ZLr h0
  subst e;refine ⟨.slice none 0 0,w,fun ty=>?_,ZLn _ _ _ _,World.grownBy.refl _ _⟩;have hu:=underlying127;obtain ⟨i,z,hi,hz,hsz,hby,hzs⟩:=elItm.ex;cases a <;> simp [Builtin.append_,run_underlying hu,sizeOf,typeInfo,hi,Builtin.lenOf,Builtin.firstCells,loadCells,loadCellsFrom,storeCells]
 ·obtain ⟨g,rfl,hs⟩:=hg (by omega)
  obtain ⟨g2,c2,w8,hrun,how,hgr,_⟩:=Zo elItm (ZLn w base 132 3) ⟨g,0,none⟩ IL.length cap (icl IL) (Qi IL) (fun j u hj=>by rw [Addr.add_lit];exact hs j u hj) (ZIm IL) (by omega) (by unfold maxLen;omega) (by omega) hbase;refine ⟨_,w8,hrun,by simpa using how,hgr⟩
theorem ZGU {base:Nat}{v:Value}{l:List (Nat×Nat×Nat)}(h:w.ownsRow base 132 3 v l.length (icl l))(h64:∀ y∈l,y.2.1 < 18446744073709551616)(hlen:l.length<=1000):
 Calls prog 65 #[v,.func (.func 66) #[] #[]] w fun e w'=>e=.returned (.tuple #[])/\∃ l',l'.Perm l/\l'.Pairwise (fun x y=>ltOf cfI y x=false)/\w'.ownsRow base 132 3 v l'.length (icl l')/\w.grownBy w' v.ownBlock:=by
 obtain ⟨hlen2,hv⟩:=h;rcases hv with ⟨rfl,h0⟩|⟨g,cap,cur,rfl,hg,hb,h1,h2,h3,h4⟩
 ·have hn:l=[]:=ZLr h0
  subst hn;refine (AnyF.slices_SortFunc_none sortf none 0 (.func (.func 66) #[] #[]) w).mono ?_;rintro e w' ⟨rfl,rfl⟩;exact ⟨rfl,[],.nil,.nil,ZLn _ _ _ _,World.grownBy.refl _ _⟩
 ·have eg:∀ args w,(callFunc 66 args).run prog w=.ok (.enter 66 args) w:=enters_of func66 (by kernel_rfl) rfl
  have hH:HoldsK encI 3 w g 0 l.toArray:=by
   intro j hj;have hj':j < l.length * 3:=by simpa using hj
   have e1:=ZAh l.toArray (by simpa using h64);refine ⟨?_,by simp [World.frozen?,hb]⟩;have e2:cur.toList[j]?=(flatK encI 3 l.toArray).toList[j]?:=by
    rw [e1,<-h4,List.getElem?_take_of_lt hj']
   rw [ZLu,ZD hb,<-ZLx,e2,ZLx,ZL8 hj,getElem!_pos (flatK encI 3 l.toArray) j hj];rfl
  have hs:=AnyQ.slices_SortFunc sortf 3 isAgg132 sizeOf132 encI (fun _=>rfl) (fun x v hv=>by simp [encI] at hv;rcases hv with rfl|rfl|rfl <;> rfl) cfI ZIY 66 #[] g 0 cap l.toArray w eg (fun m os dk _ x y=>ZDa x y) hH (heap_lt hb) (by simp;omega)
  change Calls prog 65 _ _ _ at hs
  rw [List.size_toArray] at hs;refine hs.mono ?_;rintro e w' ⟨rfl,d',n,os,hp,hso,rfl⟩;have hsz:d'.size=l.length:=by have:=hp.1;simpa using this
  have hperm:d'.toList.Perm l:=by
   have:=hp.2.2;have e9:List.take l.length d'.toList=d'.toList:=ZL1 (by simp [hsz]);simpa [hsz,e9] using this
  refine ⟨rfl,d'.toList,hperm,?_,?_,?_⟩
  ·refine ZL7.2 fun i j hi hj hij=>?_
   have hi':i < d'.size:=by simpa using hi
   have hj':j < d'.size:=by simpa using hj
   have:=hso i j (Nat.zero_le _) hij (by omega);rw [getElem!_pos d' _ hj',getElem!_pos d' _ hi'] at this;simpa using this
  ·have e1:=ZAh d' (fun y hy=>h64 y (hperm.mem_iff.1 hy))
   rw [<-e1];have e2:d'.toList.length=l.length:=by simpa using hsz
   rw [e2];exact J1 (by simp [hsz]) hg hb h1 h2 h3
  ·exact J0 _
theorem ZCZ (h:Ar w A F L T c) {t db lb off size:Nat} (hd:DrW w A F H t db lb off size) {lib P kb cnt:Nat} {q e:Nat->Nat} (hl:LiB w lib P kb) (hn:NdC c L P 0 cnt q e)
 (hck:∀ w1,Bl w w1->Calls prog 16 #[.pointer (some ⟨db,0,none⟩),.int .u64 P,.int .u8 12] w1 fun e' w'=>e'=.returned (.int .i64 0)/\Bl w1 w')
 {S:List (Nat×Nat)} (hS:Its S) (hp:S.Perm ((itm q e 29).map fun y=>(y.2.1,y.2.2))) (hnd:(S.map fun x=>x.1 % 4294967296).Nodup):
 Calls prog 25 #[.pointer (some ⟨lib,0,none⟩),.iface 37 (.pointer (some ⟨db,0,none⟩))] w fun e' w'=>∃ v,e'=.returned v/\w'.ownsRow w.heap.size 32 1 v S.length (ptl (S.map (·.1)))/\Bl w w':=by
 have HCH:=zh (Xc h hd hl hn hck);have HN29:=zh (VI q e 29);have h64:∀ y∈itm q e 29,y.2.1 < 18446744073709551616:=by
  intro y hy;obtain ⟨h1,h2⟩:=ZEt hy;have h3:=(hn.good y.1 h1 (by rw [<-h2.1];exact h2.2.2)).2.1.lt;rw [h2.1];omega
 have HF:=zh (show ∀ l':List (Nat×Nat×Nat),l'.Perm (itm q e 29)->l'.Pairwise (fun x y=>ltOf cfI y x=false)->l'.map (fun y=>(y.2.1,y.2.2))=S from fun l' h1 h2=>by
  have hm:(l'.map fun y=>(y.2.1,y.2.2)).Perm S:=(h1.map _).trans hp.symm;have hx:(l'.map fun y=>y.2.1 % 4294967296).Nodup:=by
   have h3:=(hm.map fun x:Nat×Nat=>x.1 % 4294967296)
   rw [List.map_map] at h3;exact h3.nodup_iff.2 hnd
  exact (ZD3 (fun y hy=>h64 y (h1.mem_iff.1 hy)) h2 hx).unique hS hm)
 have HSO:=zh (fun (w1:World) (v:Value) (hv:w1.ownsRow w.heap.size 132 3 v (itm q e 29).length (icl (itm q e 29)))=>ZGU hv h64 (by have:=VI q e 29;omega));have HSL:=zh (show S.length=(itm q e 29).length by have:=hp.length_eq;simpa using this);clear h hd hl hn hck hS hp hnd h64;go_in;go_wp2_with fail;refine HCH.o.mono ?_;rintro e' w3 ⟨nv,rfl,g,cap,iv,rfl,hs,hiv,hb3,hg⟩;have HB3:=zh hb3;have HND:=zh (fun wx (hb:Bl w3 wx)=>hs.below hb nR);have HIT:=zh (fun wx (hb:Bl w3 wx)=>hiv.itm.below hb);have hisl:∃ a cap,iv=.slice a (itm q e 29).length cap:=ZN hiv;obtain ⟨ia,ic,rfl⟩:=hisl;obtain ⟨IL,hIL⟩:=xE (itm q e 29);rw [<-hIL] at HIT HN29 HND HF HSO HSL;clear hb3 hg hs hiv hIL HCH;obtain ⟨K,hK⟩:=xE IL.length;have HK:=zh hK;rw [<-hK] at HND HIT HSO HSL;clear hK;go_wp2_with fail
 go_loopw [29,7] (fun i v wr=>(i=.int .i64 0/\v=.slice none 0 0/\wr=w3)\/(i=.int .i64 1/\Bl w3 wr/\wr.ownsRow w.heap.size 132 3 v K (icl IL))) (fun i _ _=>1 - (intOf i).toNat)
 case atStart=>exact .inl ⟨rfl,rfl,rfl⟩
 case round=>
 rcases hrel with ⟨rfl,rfl,hww⟩|⟨rfl,hb,ho⟩
 ·subst hww
  have hs4:=HND.o _ bR;have n0:=hs4 0 _ rfl;have n1:=hs4 1 _ rfl;have n2:=hs4 2 _ rfl;have n3:=hs4 3 _ rfl;have hb5:Bl wr (wr.alloc (.cells #[.int .u64 P,.int .u64 0,.int .i64 cnt,.slice ia K ic] 129)):=ZA bR;obtain ⟨v6,w6,hrun,ho6,hg6⟩:=ZIW (base:=w.heap.size) (HIT.o _ hb5) HN29.o (by have:=HB3.o.size;simp;omega);rw [<-HK.o] at ho6;have HG6:=zh (show Bl wr w6/\w6.ownsRow w.heap.size 132 3 v6 K (icl IL) from ⟨ZL hb5 hg6 (by simp) (fun k hk=>by cases hk),ho6⟩);clear hs4 ho6 hg6 hb5;go_wp2_with (at_builtin;refine Zf rfl _ _ _ rfl _ _ _ _ rfl rfl hrun ?_);go_wp2_with fail;exact ⟨.inr ⟨rfl,HG6.o⟩,by simp [intOf]⟩
 ·obtain ⟨xa,xc,rfl⟩:=ZN ho
  have HB:=zh (HB3.o.trans (hb.mono HB3.o.size));have HSR:=zh (HSO.o _ _ ho);clear hb ho HSO;go_wp2_with fail;refine HSR.o.mono ?_;rintro e' w7 ⟨rfl,l',hp',hpw,ho7,hg7⟩;have hl':l'.length=K:=by rw [HK.o];exact hp'.length_eq
  have HS7:=zh (HF.o l' hp' hpw);have HPL:=zh (show S.map (·.1)=l'.map (·.2.1) by rw [<-HS7.o,List.map_map];rfl);rw [hl'] at ho7;have HL':=zh hl';have HO7:=zh ho7;have HB7:=zh (show Bl w w7 from ZL HB.o hg7 HB.o.size (fun k hk=>by
   rcases ho7.2 with ⟨e1,_⟩|⟨g9,c9,cu9,e1,hg9,_⟩
   ·rw [e1] at hk;cases hk
   ·rw [e1] at hk;cases hk;exact hg9))
  have HK29:=zh (show K<=29 by rw [HK.o];exact HN29.o);clear hp' hpw ho7 hg7 hl' HF HSR HIT HND HB;go_wp2_with fail
  go_loopw [42,10] (fun j av wr=>∃ n:Nat,n<=K/\j=.int .i64 n/\Bl w7 wr/\wr.ownsRow w7.heap.size 32 1 av n (ptl ((l'.map (·.2.1)).take n))) (fun j _ _=>K - (intOf j).toNat)
  case atStart=>exact ⟨0,by omega,rfl,bR,ZLn _ _ _ _⟩
  case round=>
  obtain ⟨n,hn,rfl,hb,ho⟩:=hrel;obtain ⟨fa,fc,rfl⟩:=ZN ho
  by_cases hlt:n < K
  ·have b1:(n:Int) < K:=by omega
   have hnl:n < l'.length:=by have:=HL'.o;omega
   have b2:(n:Int) < 29:=by have:=HK29.o;omega
   obtain ⟨gI,cI,eI,hsI,_⟩:=Zb (ZO HO7.o hb) (by omega);cases eI;obtain ⟨y,hy⟩:=xE (l'[n]);have hget:l'[n]?=some y:=by rw [hy];exact ZLg hnl
   obtain ⟨e0,e1,e2⟩:=VG hget;have t0:=hsI _ _ e0;have t1:=hsI _ _ e1;have t2:=hsI _ _ e2;have HTF:=zh (show ptl ((l'.map (·.2.1)).take (n+1))=ptl ((l'.map (·.2.1)).take n)++[.int .u64 (y.2.1:Nat)] by rw [ZLk (by simpa using hnl),List.getElem_map,<-hy];exact Qw _ _);obtain ⟨yi,yq,ye⟩:=y;simp only at t0 t1 t2 HTF;rw [show 0+3 * n=n * 3 by omega] at t0;rw [show 0+(3 * n+1)=n * 3+1 by omega] at t1;rw [show 0+(3 * n+2)=n * 3+2 by omega] at t2;have HB:=zh hb;have HO:=zh ho;have HNK:=zh (show n < K/\n < 29 from ⟨hlt,by omega⟩);clear hsI e0 e1 e2 hget hy hnl hb ho hn hlt;go_wp2_with (at_builtin;refine ZS ZJx rfl _ _ rfl (World.ownsRow.alloc HO.o _) rfl rfl ?c1 rfl ?c2 ?c3 ?c4 ?c5 ?_)
   case c1=>simp
   case c2=>rfl
   case c3=>have:=HNK.o;unfold maxLen;omega
   case c4=>have:=HNK.o;omega
   case c5=>have:=HB.o.size;simp;omega
   intro g9 cap9 w9 hop hgr hg9;have HG:=zh (show Bl w7 w9/\w9.ownsRow w7.heap.size 32 1 (.slice (some ⟨g9,0,none⟩) (n+1) cap9) (n+1) (ptl ((l'.map (·.2.1)).take (n+1))) from by
    refine ⟨ZL (ZA HB.o) hgr (by have:=HB.o.size;simp;omega) (fun k hk=>(HO.o.lt k hk).1),?_⟩;rw [HTF.o];exact hop)
   clear hop hgr hg9 t0 t1 t2 HO HB;go_wp2_with fail;exact ⟨⟨n+1,by have:=HNK.o;omega,rfl,HG.o⟩,by have:=HNK.o;simp [intOf];omega⟩
  ·obtain rfl:n=K:=by omega
   have d1:¬ (n:Int) < n:=by omega
   have et:(l'.map (·.2.1)).take n=l'.map (·.2.1):=ZL1 (by rw [ZLj,HL'.o];exact nR);rw [et] at ho;have HE:=zh (show wr.ownsRow w.heap.size 32 1 (.slice fa n fc) S.length (ptl (S.map (·.1)))/\Bl w wr from by
    rw [HPL.o,HSL.o];exact ⟨Zp ho HB7.o.size,HB7.o.trans (hb.mono HB7.o.size)⟩)
   clear ho hb et;go_wp2;go_returns;exact ⟨_,rfl,HE.o⟩
variable {F':Nat->Option ZM}{c0:Nat->Nat}{ex n:Nat}{s:LS}{B:WAd}{fv iv:Value}
theorem ZFl (w:World):(isAgg 32).run prog w=.ok false w:=by kernel_rfl
theorem ZIC (w:World):(sizeOf 32).run prog w=.ok 1 w:=by kernel_rfl
theorem ZKq {cs:Array Value}{m:Nat}{v:Value}(hm:m < 40)(hg:cs[m]?=some v)(w:World):(Instr.index 39 (.agg cs) (.int .i64 (m:Int))).run prog w=.ok v w:=by
 unfold Instr.index;have hm':(0:Int)<=m/\(m:Int) < (40:Nat):=by omega
 simp only [Sem.run_bind,asIntOf,Sem.run_pure,Result.andThen_ok,run_underlying underlying39];rw [ZLX hm'];simp only [Sem.run_bind,ZIC,Result.andThen_ok,part,ZFl,Int.toNat_natCast,Nat.mul_one,hg];rfl
theorem ZBo {l:List Nat}{k p:Nat}(h:l[k]?=some p):(ptl l)[k]?=some (.int .u64 (p:Int)):=by unfold ptl;rw [List.getElem?_map,h];rfl
theorem ZC5 (h:WC w A F T c x H ex B c0 s)(hr:WR w F H B s fv iv)(hi:s.Inv n)(hn:n<=60):
 Calls prog 12 #[.pointer (some ⟨B.wb,0,none⟩)] w fun e w'=>e=.returned (.bool true)/\Bl w w':=by
 have hlen:s.its.length<=60:=by
  have h1:=hi.ok.per.length_eq;have h2:=hi.en;have h3:(full s.en).length<=s.en.length:=ZL0 _ _;omega
 have hfrl:s.fr.length<=60:=by have:=hi.ok.fl;have:=hi.nr;omega
 have HAL:=zh (fun wx (hb:Bl w wx)=>ZCZ (h.below hb).ar (h.below hb).dr (h.below hb).li (h.rep.ndc hi hn) (fun w1 hb1=>YG ((h.below hb).below hb1)) hi.ok.its (hi.its_perm h.rep) hi.its_nd);have HCI:=zh (fun wx (hb:Bl w wx) (y:Nat×Nat) (hy:y∈s.its)=>Yg (h.below hb) hi hn (P:=y.1) (kd:=0) (LS.mem_en (hi.ok.per.mem_iff.1 hy)) (.inl rfl));have HCS:=zh (fun wx (hb:Bl w wx) (P:Nat) (hP:P∈s.fr)=>Vx (h.below hb) hi hn hP);have HCL:=zh (fun wx (hb:Bl w wx) (i:Nat) (hi40:i < 40) (h0:s.lp i≠0)=>Yg (h.below hb) hi hn (P:=s.lp i) (kd:=65) (LS.mem_lp hi40 h0) (.inr rfl));have HLD:=zh (fun wx (hb:Bl w wx) (i:Nat) (hi40:i < 40)=>show Calls prog 18 #[.pointer (some ⟨B.db,0,none⟩),.int .u64 ((ZP pA+8 * i:Nat):Int)] wx (fun e w'=>e=.returned (.int .u64 (s.lp i))/\wx=w') from by
  have:=JH (h.below hb).ar (h.below hb).dr (o:=ZP pA+8 * i) (by rw [show ZP pA=5104 from Jp.2.1];omega) (by rw [show ZP pA=5104 from Jp.2.1];omega);rw [show (ZP pA+8 * i) / 8=638+i by rw [show ZP pA=5104 from Jp.2.1];omega,h.rep.lnk i hi40] at this;exact this)
 have HAT:=zh (fun (wx:World) (i:Nat) (hi40:i < 40)=>show Calls prog 19 #[.int .u64 18014402804449918,.int .i64 i] wx (fun e w'=>e=.returned (.int .u64 (ZP pA+8 * i:Nat))/\wx=w') from XE (w:=wx) (p:=pA) (k:=i) (by decide) (by decide) (by omega));have HNI:=zh (fun (wx:World) (p:Nat)=>Zd (w:=wx) (p:=p));have HR:=zh hr;obtain ⟨ia,ic,hia⟩:=ZN hr.ite.1;subst hia;obtain ⟨fa,fc,hfa⟩:=ZN hr.fre.1;subst hfa;have HBW:=zh (bZ w);obtain ⟨L,hL⟩:=xE s.its.length;obtain ⟨M,hM⟩:=xE s.fr.length;rw [<-hL,<-hM] at HR;rw [<-hL] at HAL hlen;rw [<-hM] at hfrl;have HL:=zh hL;have HM:=zh hM;have HL60:=zh hlen;have HM60:=zh hfrl;have z1:=HR.o.one;have z2:=HR.o.two;have HZ:=zh (fun wx (hb:Bl w wx)=>show wx.cell? ⟨B.wb,1,none⟩=some (.pointer (some ⟨B.db,0,none⟩))/\wx.cell? ⟨B.wb,2,none⟩=some (.pointer (some ⟨B.lib,0,none⟩)) from ⟨(HR.o.below hb).one,(HR.o.below hb).two⟩);clear h hr hi hn hlen hfrl hL hM;go_in;go_upto_region 1 with fail
 go_region_held3 (fun wx=>wx.cell? ⟨B.wb,1,none⟩=some (.pointer (some ⟨B.db,0,none⟩))/\wx.cell? ⟨B.wb,2,none⟩=some (.pointer (some ⟨B.lib,0,none⟩)))
  (first|exact hsx|exact HZ.o _ (by repeat (with_reducible first|assumption|exact HBW.o|apply ZA|apply ZB)))
  (first|(refine ZF rfl func25 rfl rfl rfl (HAL.o _ (ZB HBW.o)) (by simp [Act.eval];first|done|rfl) ?_;rintro e' V2 ⟨gv,rfl,hown,hbv⟩;obtain ⟨ga,gc,hgv⟩:=ZN hown;subst hgv;refine ⟨_,rfl,?_⟩;have hb2:Bl w V2:=(show Bl w _ from ZB HBW.o).trans (hbv.mono (by simp));have hsx:=HZ.o _ hb2))
 have HB2:=zh hb2;have HOW:=zh (Zp hown (Nat.zero_le _));have z45:=(HR.o.below hb2).ivc;clear hb2 hown hbv hsx z1 z2;go_wp2_with fail
 go_loopw [33] (fun i wr=>∃ k:Nat,k<=L/\i=.int .i64 k/\Bl V2 wr) (fun i _=>L - (intOf i).toNat)
 case atStart=>exact ⟨0,by omega,rfl,bR⟩
 case round=>
 obtain ⟨k,hk,rfl,hb⟩:=hrel
 by_cases hlt:k < L
 ·have b1:(k:Int) < L:=by omega
  have b2:(k:Int) < 60:=by have:=HL60.o;omega
  have hbw:=HB2.o.trans (hb.mono HB2.o.size);have hnl:k < s.its.length:=by have:=HL.o;omega
  obtain ⟨gI,cI,eI,hsI,_⟩:=Zb (HR.o.below hbw).ite.1 (by omega);cases eI;obtain ⟨gG,cG,eG,hsG,_⟩:=Zb (ZO HOW.o hb) (by omega);cases eG;obtain ⟨y,hy⟩:=xE (s.its[k]);have hget:s.its[k]?=some y:=by rw [hy];exact ZLg hnl
  have HYM:=zh (show y∈s.its by rw [hy];exact ZLl _);obtain ⟨e0,e1⟩:=VP hget;have e2:=ZBo (l:=s.its.map (·.1)) (k:=k) (p:=y.1) (by rw [List.getElem?_map,hget];rfl);have t0:=hsI _ _ e0;have t1:=hsI _ _ e1;have t2:=hsG _ _ e2;rw [show 0+2 * k=k * 2 by omega] at t0;rw [show 0+(2 * k+1)=k * 2+1 by omega] at t1;rw [show 0+k=k by omega] at t2;have HB:=zh hb;have HBW2:=zh hbw;have HLT:=zh hlt;have HT2:=zh t2;have HCI2:=zh (fun wx hb=>HCI.o wx hb y HYM.o);obtain ⟨yp,ye⟩:=y;simp only at t0 t1 t2 HT2 HCI2;clear hsI hsG e0 e1 e2 hget hy hnl hb hbw hlt hk;go_upto_region 7 with fail;obtain ⟨w5,hw5⟩:=xE (wr.alloc (.cells #[.int .u64 yp,.int .u64 ye] 54));obtain ⟨IB,hIB⟩:=xE wr.heap.size;have hb5:Bl wr w5:=by rw [hw5];exact ZA bR
  have HI5:=zh (show w5.heap[IB]?=some (.cells #[.int .u64 yp,.int .u64 ye] 54 (0,0)) by rw [hw5,hIB];exact ZC _ _);have HB5:=zh (HB.o.trans (hb5.mono HB.o.size));have HBW5:=zh (HBW2.o.trans (hb5.mono HBW2.o.size));have HG5:=zh (Zl hb5 HT2.o);have HBR:=zh (bZ w5);rw [<-hw5,<-hIB];clear hw5 hIB hb5 t0 t1 t2;have HZ5:=zh (fun wx (hb:Bl w5 wx)=>show wx.cell? ⟨gG,k,none⟩=some (.int .u64 yp)/\wx.cell? ⟨IB,0,none⟩=some (.int .u64 yp)/\wx.cell? ⟨B.wb,1,none⟩=some (.pointer (some ⟨B.db,0,none⟩)) from ⟨Zl hb HG5.o,Zl hb (Yd HI5.o).1,(HR.o.below (HBW5.o.trans (hb.mono HBW5.o.size))).one⟩)
  go_region_held3 (fun wx=>wx.cell? ⟨gG,k,none⟩=some (.int .u64 yp)/\wx.cell? ⟨IB,0,none⟩=some (.int .u64 yp)/\wx.cell? ⟨B.wb,1,none⟩=some (.pointer (some ⟨B.db,0,none⟩)))
   (first|exact hsx|exact HZ5.o _ (by repeat (with_reducible first|assumption|exact HBR.o|apply ZA|apply ZB)))
   (first|(go_at_call 16;refine (HCI2.o _ (ZB HBW5.o)).mono ?_;rintro e' V6 ⟨rfl,hb6⟩;have hb7:Bl w5 V6:=(show Bl w5 _ from ZB HBR.o).trans (hb6.mono (by simp));have hsx:=HZ5.o _ hb7))
  have HE:=zh (HB5.o.trans (hb7.mono HB5.o.size));clear hb6 hb7 hsx;go_wp2_with fail;exact ⟨⟨k+1,by have:=HLT.o;omega,rfl,HE.o⟩,by have:=HLT.o;simp [intOf];omega⟩
 ·obtain rfl:k=L:=by omega
  have d1:¬ ((k:Int) < k):=by omega
  have HBA:=zh (HB2.o.trans (hb.mono HB2.o.size));have z44:=(HR.o.below HBA.o).fvc;clear hb hk hlt z45;go_wp2_with fail;have HW4:=zh (bZ wr)
  go_loopw [63] (fun i wx=>∃ m:Nat,m<=M/\i=.int .i64 m/\Bl wr wx) (fun i _=>M - (intOf i).toNat)
  case atStart=>exact ⟨0,by omega,rfl,HW4.o⟩
  case round=>
  obtain ⟨m,hm,rfl,hb⟩:=hrel
  by_cases hlt:m < M
  ·have b1:(m:Int) < M:=by omega
   have b2:(m:Int) < 60:=by have:=HM60.o;omega
   have hbw:=HBA.o.trans (hb.mono HBA.o.size);have hnl:m < s.fr.length:=by have:=HM.o;omega
   obtain ⟨gF,cF,eF,hsF,_⟩:=Zb (HR.o.below hbw).fre.1 (by omega);cases eF;obtain ⟨q,hq⟩:=xE (s.fr[m]);have hget:s.fr[m]?=some q:=by rw [hq];exact ZLg hnl
   have HCQ:=zh (fun wx hb=>HCS.o wx hb q (by rw [hq];exact ZLl _));have t0:=hsF _ _ (ZBo hget);rw [show 0+m=m by omega] at t0;have z1:=(HR.o.below hbw).one;have HBW2:=zh hbw;have HLT:=zh hlt;have HB:=zh hb;clear hsF hget hq hnl hb hbw hlt hm z44;go_wp2_with fail;refine (HCQ.o _ HBW2.o).mono ?_;rintro e' w6 ⟨rfl,hb6⟩;have HE:=zh (HB.o.trans (hb6.mono HB.o.size));clear hb6 z1 t0;go_wp2_with fail;exact ⟨⟨m+1,by have:=HLT.o;omega,rfl,HE.o⟩,by have:=HLT.o;simp [intOf];omega⟩
  ·obtain rfl:m=M:=by omega
   have d1:¬ ((m:Int) < m):=by omega
   have HBB:=zh (HBA.o.trans (hb.mono HBA.o.size));clear hb hm hlt z44;obtain ⟨CS,hcs,hcg⟩:∃ CS:Array Value,CS.size=40/\∀ j,j < 40->CS[j]?=some (.int .u64 (s.lp j:Nat)):=⟨Array.ofFn (n:=40) fun i=>.int .u64 (s.lp i:Nat),by simp,fun j hj=>by simp [hj]⟩
   have HCG:=zh hcg;have HCZ:=zh hcs;have HCC:=zh (show ∀ j v,CS.toList[j]?=some v->wr.cell? ⟨B.wb,4+j,none⟩=some v from fun j v hj=>by
    have hj40:j < 40:=by
     rw [<-hcs];have:=(List.getElem?_eq_some_iff.1 hj).1;simpa using this
    have e:=hcg j hj40;rw [ZLx] at hj;rw [e] at hj;cases hj;exact (HR.o.below HBB.o).lp hj40)
   clear hcs hcg;go_wp2_with (refine Vw rfl 39 _ rfl B.wb 4 rfl CS _ HCC.o underlying39 rfl (by rw [HCZ.o];kernel_rfl) ?_);obtain ⟨w7,hw7⟩:=xE wr;subst hw7
   go_loopw [79] (fun i wx=>∃ j:Nat,j<=40/\i=.int .i64 j/\Bl w7 wx) (fun i _=>40 - (intOf i).toNat)
   case atStart=>exact ⟨0,by omega,rfl,bR⟩
   case round=>
   obtain ⟨j,hj,rfl,hb⟩:=hrel
   by_cases hlt:j < 40
   ·have b1:(j:Int) < 40:=by omega
    have hbw:=HBB.o.trans (hb.mono HBB.o.size);obtain ⟨p,hp⟩:=xE (s.lp j);have hix:=fun wx=>ZKq (w:=wx) hlt (HCG.o j hlt)
    rw [<-hp] at hix;have HL2:=zh (fun wx hb=>HLD.o wx hb j hlt);have HA2:=zh (fun wx=>HAT.o wx j hlt);have HC2:=zh (fun wx hb h0=>HCL.o wx hb j hlt h0);obtain ⟨O,hO⟩:∃ O:Nat,O=ZP pA+8 * j:=⟨_,rfl⟩
    rw [<-hO] at HL2 HA2;rw [<-hp] at HL2 HC2;have HBW2:=zh hbw;have HLT:=zh hlt;have HB:=zh hb;clear hO hp hb hbw hlt hj;go_upto_region 19 with fail;have HZ3:=zh (fun wx (hb:Bl w wx)=>show wx.cell? ⟨B.wb,1,none⟩=some (.pointer (some ⟨B.db,0,none⟩))/\wx.cell? ⟨B.wb,3,none⟩=some (.int .u64 18014402804449918) from ⟨(HR.o.below hb).one,(HR.o.below hb).three⟩)
    by_cases hp0:p=0
    ·subst hp0
     have HN2:=zh (fun w1=>show Calls prog 15 #[.int .u64 (0:Nat)] w1 (fun e w'=>e=.returned (.bool true)/\w1=w') from by
      have:=Zd (w:=w1) (p:=0);simpa using this)
     have z1:=(HR.o.below HBW2.o).one;have z3:=(HZ3.o _ HBW2.o).2
     go_quiet (first
      |(go_at_call 19;exact ZZ (HA2.o _))
      |(go_at_call 18;exact ZZ (HL2.o _ (ZU HBW2.o)))
      |(go_at_call 15;exact ZZ (HN2.o _)))
     go_wp2_with fail;exact ⟨⟨j+1,by have:=HLT.o;omega,rfl,ZU HB.o⟩,by have:=HLT.o;simp [intOf];omega⟩
    ·have HN2:=zh (fun w1=>show Calls prog 15 #[.int .u64 p] w1 (fun e w'=>e=.returned (.bool false)/\w1=w') from by
      have:=Zd (w:=w1) (p:=p);rw [show decide (p=0)=false by simp [hp0]] at this;exact this)
     have HP0:=zh hp0;clear hp0
     go_region_held3 (fun wx=>wx.cell? ⟨B.wb,1,none⟩=some (.pointer (some ⟨B.db,0,none⟩))/\wx.cell? ⟨B.wb,3,none⟩=some (.int .u64 18014402804449918))
      (first|exact hsx|exact HZ3.o _ (by repeat (with_reducible first|assumption|exact HBW2.o|apply ZA|apply ZB)))
     (first
       |(go_at_call 19;refine (HA2.o _).mono ?_;rintro e' V2 ⟨rfl,rfl⟩)
       |(go_at_call 18;refine (HL2.o _ (by repeat (with_reducible first|assumption|exact HBW2.o|apply ZA|apply ZB))).mono ?_;rintro e' V2 ⟨rfl,rfl⟩)
       |(go_at_call 15;refine (HN2.o _).mono ?_;rintro e' V2 ⟨rfl,rfl⟩)
       |(go_at_call 16;refine (HC2.o _ (by repeat (with_reducible first|assumption|exact HBW2.o|apply ZA|apply ZB)) HP0.o).mono ?_;rintro e' V6 ⟨rfl,hb6⟩;have hb7:Bl w V6:=(show Bl w _ from (by repeat (with_reducible first|assumption|exact HBW2.o|apply ZA|apply ZB))).trans (hb6.mono HBW2.o.size);have hsx:=HZ3.o _ hb7;have hb8:Bl w7 V6:=(show Bl w7 _ from by repeat (with_reducible first|exact HB.o|apply ZB)).trans (hb6.mono HB.o.size)))
     have HE:=zh hb8;clear hb6 hb7 hb8 hsx;go_wp2_with fail;exact ⟨⟨j+1,by have:=HLT.o;omega,rfl,HE.o⟩,by have:=HLT.o;simp [intOf];omega⟩
   ·obtain rfl:j=40:=by omega
    have HE:=zh (HBB.o.trans (hb.mono HBB.o.size));clear hb hj hlt;go_wp2;go_returns;exact ⟨rfl,HE.o⟩
theorem WC.redir {db lg:Nat}(h:WC w A F T c x H ex B c0 s)(hd:DrW w A F H 0 db lg 640 1664):WC w A F T c x H ex {B with db:=db,lg:=lg} c0 s:={h with dr:=hd}
theorem WC.relist {lib:Nat}(h:WC w A F T c x H ex B c0 s)(hl:LiB w lib pL B.kb)(hf:Frn F H lib):WC w A F T c x H ex {B with lib:=lib} c0 s:={h with li:=hl,fi:=hf}
def GetR (w:World)(rb:Nat)(name:ByteArray)(P:Nat):Prop:=∀ wx,Bl w wx->Calls prog 14 #[.pointer (some ⟨rb,0,none⟩),.string name] wx fun e w'=>e=.returned (.tuple #[.int .u64 P,.int .i64 0])/\Bl wx w'
theorem ZFA (h:WC w A F T c x H ex B c0 s)(hi:s.Inv n)(hn:n<=60)(hg1:GetR w B.rb {data:=#[108,105,109,98,111]} pL)(hg2:GetR w B.rb {data:=#[97,110,99,104,111,114]} pA):
 Calls prog 47 #[.pointer (some ⟨B.pb,0,none⟩)] w fun e w'=>∃ lib db,e=.returned (.tuple #[.pointer (some ⟨lib,0,none⟩),.pointer (some ⟨db,0,none⟩),.int .u64 pA,.bool true])/\w.heap.size<=lib/\LiB w' lib pL B.kb/\Bl w w':=by
 have HPD:=zh (ZAx h.po h.ar (t:=0) (by omega));have HRT:=zh (fun wx (hb:Bl w wx)=>Ux (h.po.below hb));have HEP:=zh (fun wx (hb:Bl w wx)=>Yo (h.po.below hb));have HG1:=zh hg1;have HG2:=zh hg2;have HH:=zh h;have HOP:=zh (fun (wx:World) (db lg:Nat) (hw:WC wx A F T c x H ex {B with db:=db,lg:=lg} c0 s)=>ZAr hw.ar hw.dr (kb:=B.kb) (hw.rep.ndc hi hn) (fun w1 hb=>YG (hw.below hb)));clear hg1 hg2 h hi hn;go_in;go_wp2_with fail;refine HPD.o.mono ?_;rintro e w1 ⟨db,lb,rfl,hlog,hdb,hblk⟩;have HB1:=zh hlog.1;have HW1:=zh (show WC w1 A F T c x H ex {B with db:=db,lg:=lb} c0 s from (HH.o.below hlog.1).redir ⟨hblk,hlog.2.2,by omega,⟨(HH.o.hw.newf hdb).f,(HH.o.hw.newf hdb).o⟩,⟨(HH.o.hw.newf hlog.2.1).f,(HH.o.hw.newf hlog.2.1).o⟩⟩);clear hlog hdb hblk;go_wp2_with fail;refine (HRT.o _ HB1.o).mono ?_;rintro e w' ⟨rfl,rfl⟩;go_wp2_with fail;refine (HG1.o _ HB1.o).mono ?_;rintro e w2 ⟨rfl,hb2⟩;have HB2:=zh (HB1.o.trans (hb2.mono HB1.o.size));have HW2:=zh (HW1.o.below hb2);clear hb2;go_wp2_with fail;refine (HRT.o _ HB2.o).mono ?_;rintro e w' ⟨rfl,rfl⟩;go_wp2_with fail;refine (HG2.o _ HB2.o).mono ?_;rintro e w3 ⟨rfl,hb3⟩;have HB3:=zh (HB2.o.trans (hb3.mono HB2.o.size));have HW3:=zh (HW2.o.below hb3);clear hb3;go_wp2_with fail;refine (HEP.o _ HB3.o).mono ?_;rintro e w' ⟨rfl,rfl⟩;go_wp2_with fail;refine (HOP.o _ _ _ HW3.o).mono ?_;rintro e w4 ⟨rfl,hl,hb4⟩;have HE:=zh (show w.heap.size<=w3.heap.size/\LiB w4 w3.heap.size pL B.kb/\Bl w w4 from ⟨HB3.o.size,hl,HB3.o.trans (hb4.mono HB3.o.size)⟩);clear hl hb4;go_wp2;go_returns;exact ⟨_,_,rfl,HE.o⟩
theorem GetR.below {rb P:Nat}{nm:ByteArray}(h:GetR w rb nm P)(hb:Bl w w'):GetR w' rb nm P:=fun wx hx=>h wx (hb.trans (hx.mono hb.size))
theorem ZGB {pb hb rb kb mb:Nat}(h:PoB w A pb hb rb kb mb):Calls prog 48 #[.pointer (some ⟨pb,0,none⟩)] w fun e w'=>e=.returned (.pointer (some ⟨A.d,0,none⟩))/\w=w':=by
 obtain ⟨c0,c1,c2,c3⟩:=h.parts;clear h;go_in;go_wp2;go_returns;exact ⟨rfl,rfl⟩
theorem ZJW {l y:Nat}:wwC {B with lib:=l} s fv iv y=if y=2 then .pointer (some ⟨l,0,none⟩) else wwC B s fv iv y:=by
 by_cases e:y=2
 ·subst e;rfl
 ·rw [ZLU e];unfold wwC
  split;rfl;split;rfl;rfl
theorem do6 (h:WC w A F T c x H ex B c0 s)(hr:WR w F H B s fv iv)(hi:s.Inv n)(hn:n<=50)(hg1:GetR w B.rb {data:=#[108,105,109,98,111]} pL)(hg2:GetR w B.rb {data:=#[97,110,99,104,111,114]} pA){a b d:Int}(hk:ZX a 7=6):
 Calls prog 11 #[.pointer (some ⟨B.wb,0,none⟩),.agg #[.int .i64 a,.int .i64 b,.int .i64 d]] w fun e w'=>e=.returned (.bool true)/\∃ lib',DoP A T H {B with lib:=lib'} c0 x ex s w':=by
 have HM1:=zmo (a:=b) (n:=40) (by omega);have HM2:=zmo (a:=d) (n:=8) (by omega);have HM3:=zmo (a:=a) (n:=7) (by omega);rw [hk] at HM3;obtain ⟨i,hie⟩:=xE (ZX b 40);obtain ⟨t,hte⟩:=xE (ZX d 8);rw [<-hie] at HM1;rw [<-hte] at HM2;have HAG:=zh (fun wx (hb:Bl w wx)=>ZFA (h.below hb) hi (by omega) (hg1.below hb) (hg2.below hb));have HPD:=zh (fun wx (hb:Bl w wx)=>ZGB (h.po.below hb));have HOF:=zh (fun wx (hb:Bl w wx)=>ZJf h.ar wx hb);have HH:=zh h;have HR:=zh hr;clear hi hn hk hie hte h hr hg1 hg2;go_in;go_upto_region 1 with fail;obtain ⟨w0,hw0⟩:=xE (w.alloc (.cells #[.int .i64 a,.int .i64 b,.int .i64 d] 28));have hb0:Bl w w0:=by rw [hw0];exact ZA bR
 have hx0:w0.heap[w.heap.size]?=some (.cells #[.int .i64 a,.int .i64 b,.int .i64 d] 28 (0,0)):=by rw [hw0];exact ZC _ _
 rw [<-hw0];obtain ⟨a0,a1,a2,_⟩:=ZY hx0;clear hw0;have HR0:=zh (bZ w0)
 go_region_held3 (fun wx=>wx.cell? ⟨w.heap.size,1,none⟩=some (.int .i64 b)/\wx.cell? ⟨w.heap.size,2,none⟩=some (.int .i64 d))
  (first|assumption|exact ⟨a1,a2⟩)
  (first
    |(refine ZF rfl func26 rfl rfl rfl (HM1.o _) (by simp [Act.eval];first|done|rfl) ?_;rintro e' V2 ⟨rfl,rfl⟩;refine ⟨_,rfl,?_⟩)
    |(refine ZF rfl func26 rfl rfl rfl (HM2.o _) (by simp [Act.eval];first|done|rfl) ?_;rintro e' V2 ⟨rfl,rfl⟩;refine ⟨_,rfl,?_⟩))
 have hb1:Bl w w0.drew:=ZB hb0;have hx1:w0.drew.heap[w.heap.size]?=_:=hx0;obtain ⟨w1,hw1⟩:=xE w0.drew;rw [<-hw1] at hb1 hx1 ⊢;clear hw1 a0 a1 a2 hx0 hb0;obtain ⟨a0,a1,a2,_⟩:=ZY hx1;go_wp2_with fail;refine (HM3.o _).mono ?_;rintro e w' ⟨rfl,rfl⟩;have HB1:=zh hb1;have z0:=(HR.o.below hb1).zero;clear hb1 hx1 a0 a1 a2;go_wp2_with fail;refine (HAG.o _ HB1.o).mono ?_;rintro e w2 ⟨lib,db2,rfl,hlib,hli,hb2⟩;have HB2:=zh (HB1.o.trans (hb2.mono HB1.o.size));have HC2:=zh ((HH.o.below HB2.o).relist hli (HH.o.hw.newf (ZLi HB1.o.size hlib)));have HR2:=zh (HR.o.below HB2.o);clear hlib hli hb2 z0;have z0:=HR2.o.zero;have z2:=HR2.o.two;have f:=HR2.o.free;go_wp2_with fail;refine (HPD.o _ HB2.o).mono ?_;rintro e w' ⟨rfl,rfl⟩;go_wp2_with fail;refine (HOF.o _ HB2.o).mono ?_;rintro e w' ⟨rfl,rfl⟩
 have HE:=zh (show DoP A T H {B with lib:=lib} c0 x ex s (w2.setCell ⟨B.wb,2,none⟩ (.pointer (some ⟨lib,0,none⟩))) from
  ⟨F,c,x,ex,fv,iv,by omega,by omega,HC2.o.setw HR2.o.row HR2.o.fw _,HR2.o.put 2 _ rfl (fun y hy=>ZJW) HR2.o.fre HR2.o.ite⟩)
 go_wp2;go_returns;exact ⟨rfl,lib,HE.o⟩
theorem ZJv (h:WC w A F T c x H ex B c0 s)(hr:WR w F H B s fv iv)(hi:s.Inv n)(hn:n<=50)(hx:x<=900000)(hex:ex<=900000)(hg1:GetR w B.rb {data:=#[108,105,109,98,111]} pL)(hg2:GetR w B.rb {data:=#[97,110,99,104,111,114]} pA){a b d:Int}:
 Calls prog 11 #[.pointer (some ⟨B.wb,0,none⟩),.agg #[.int .i64 a,.int .i64 b,.int .i64 d]] w fun e w'=>e=.returned (.bool true)/\∃ lib',DoP A T H {B with lib:=lib'} c0 x ex (s.stp (ZX a 7) (ZX b 40) (ZX d 8)) w':=by
 by_cases hk:ZX a 7=6
 ·rw [hk,show s.stp 6 (ZX b 40) (ZX d 8)=s by unfold LS.stp;rw [ZLU (by omega),ZLU (by omega),ZLU (by omega),ZLU (by omega),ZLU (by omega),ZLU (by omega)]]
  exact do6 h hr hi hn hg1 hg2 hk
 ·exact (ZHA h hr hi hn hx hex hk).mono fun e w' hq=>⟨hq.1,B.lib,hq.2⟩
theorem Jr {P:Program} {fn:Func} {o p q:Tmp} {ty:TypeId} (h:fn.results=#[.tmp o,.cell p ty,.tmp q]) (tmps:Array Value) (w:World) (g:Nat) (t:TypeId) (cs:Array Value) (fr:Nat×Nat) (d:TypeDesc)
 (hp:tmps.getD p undef=.pointer (some ⟨g,0,none⟩)) (hg:w.heap[g]?=some (.cells cs t fr))
 (hu:P.underlying ty=some d)(hd:(match d with|.struct _|.array _ _=>true|_=>false)=true)(hi:(P.info? ty).map (·.size)=some cs.size):
 (results fn tmps).run P w=.ok (.tuple #[tmps.getD o undef,.agg cs,tmps.getD q undef]) w:=by
 have hp':tmps[p]?.getD undef=.pointer (some ⟨g,0,none⟩):=by simpa using hp
 simp [results,h,hp',asAddr,run_loadVar_row w g t ty cs fr d hg hu hd hi]
theorem ZEI (h:Ar w A F L T c) (hL:80<=8 * L) {rb:Nat} (hr:RtB w A rb) {nm:ByteArray} {k:Nat} (hk:k=0\/k=1)
 (hfd:∀ CS:Array Value,CS.size=64->(∀ y,y < 64->CS[y]?=some (.int .u64 (c (16+y):Nat)))->∀ wx,Bl w wx->Calls prog 93 #[.agg CS,.string nm] wx fun e w'=>e=.returned (.int .i64 k)/\Bl wx w'):
 Calls prog 50 #[.pointer (some ⟨rb,0,none⟩),.string nm] w fun e w'=>e=.returned (.tuple #[.int .i64 k,.agg #[.int .u64 (c (16+4 * k):Nat),.int .u64 (c (16+4 * k+1):Nat),.int .u64 (c (16+4 * k+2):Nat),.int .u64 (c (16+4 * k+3):Nat)],.int .i64 0])/\Bl w w':=by
 have HNO:=zh (fun wx (hb:Bl w wx)=>ZAz (hr.below hb));have HLD:=zh (fun wx (hb:Bl w wx)=>JW (h.below hb) hL (hr.below hb));have HFD:=zh hfd;have HK:=zh hk;have HB0:=zh (bZ w);clear h hL hr hfd hk;go_in;go_wp2_with fail;obtain ⟨w1,hw1⟩:=xE (w.alloc (.cells #[.int .u64 0,.int .u64 0,.int .u64 0,.int .u64 0] 113));have HB1:=zh (show Bl w w1 by rw [hw1];exact ZA HB0.o);have HX1:=zh (show w1.heap[w.heap.size]?=some (.cells #[.int .u64 0,.int .u64 0,.int .u64 0,.int .u64 0] 113 (0,0)) by rw [hw1];exact ZC _ _);rw [<-hw1];clear hw1;obtain ⟨rb1,hrb1⟩:=xE w.heap.size;have HRB:=zh hrb1;refine (HNO.o _ HB1.o).mono ?_;rintro e w' ⟨rfl,rfl⟩;go_wp2_with fail;refine (HLD.o _ HB1.o).mono ?_;rintro e w2 ⟨CS,rfl,hcs,hcg,hb2⟩;have HB2:=zh (HB1.o.trans (hb2.mono HB1.o.size));have HX2:=zh ((hb2.block _ (heap_lt HX1.o)).trans HX1.o);have HCZ:=zh hcs;have HCG:=zh hcg;clear hb2 hcs hcg;have hall:CS.all (·.oneCell')=true:=by
  refine Array.all_eq_true_iff_forall_mem.2 fun v hv=>?_
  obtain ⟨j,hj,e⟩:=Array.getElem_of_mem hv;have hj64:j < 64:=by rw [HCZ.o] at hj;exact hj
  have:=HCG.o j hj64;rw [ZL8 hj,e] at this;cases this;rfl
 have HALL:=zh hall;clear hall;go_upto_region 6 with (refine wpList_store_row rfl 184 (.tmp 7) (.tmp 16) rfl w2.heap.size CS rfl rfl 184 _ (ZC _ _) (by rw [HCZ.o];kernel_rfl) (by rw [HCZ.o];rfl) HALL.o ?_)
 generalize hold:(Obj.cells _ 184 (0,0))=OB;obtain ⟨w3,hw3⟩:=xE ((w2.alloc OB).setRow w2.heap.size CS);have HX3:=zh (show w3.heap[w2.heap.size]?=some (.cells CS 184 (0,0)) by rw [hw3,<-hold];exact setRow_heap _ _ _ _ _ _ (ZC _ _));have HB3:=zh (show Bl w2 w3 by rw [hw3];exact Yi (ZA bR) nR CS);rw [<-hw3];clear hw3 hold OB HALL;obtain ⟨g,hg⟩:=xE w2.heap.size;have HG:=zh hg;rw [<-hg] at HX3 ⊢;clear hg;have HB4:=zh (HB2.o.trans (HB3.o.mono HB2.o.size));have HX4:=zh ((HB3.o.block _ (heap_lt HX2.o)).trans HX2.o);go_wp2_with (refine wpList_load_row rfl 184 (.tmp 7) rfl g rfl 184 CS (0,0) _ HX3.o underlying184 rfl (by rw [HCZ.o];kernel_rfl) ?_);refine (HFD.o CS HCZ.o HCG.o _ HB4.o).mono ?_;rintro e w5 ⟨rfl,hb5⟩;have HB5:=zh (HB4.o.trans (hb5.mono HB4.o.size));have hx5:=(hb5.block _ (heap_lt HX4.o)).trans HX4.o;have hc5:=(hb5.block _ (heap_lt HX3.o)).trans HX3.o;have z:∀ j,j < 64->w5.cell? ⟨g,j,none⟩=some (.int .u64 (c (16+j):Nat)):=fun j hj=>(ZD hc5).trans (HCG.o j hj)
 have f:∀ i,w5.frozen? ⟨w.heap.size,i,none⟩=false:=fun i=>ZH hx5
 obtain ⟨r0,r1,r2,r3,_⟩:=Ya hx5;clear hb5 hc5 HX1 HX2 HX3 HX4 HB1 HB2 HB3 HB4 HCZ HCG HFD HLD HNO;rcases HK.o with hk|hk
 ·subst hk
  have z0:=z 0 (by omega);have z1:=z 1 (by omega);have z2:=z 2 (by omega);have z3:=z 3 (by omega);clear z;go_wp2_with fail;have f0:=f 0;have f1:=f 1;have f2:=f 2;have f3:=f 3
  go_region
  obtain ⟨w6,hw6⟩:=xE (((((w5.setCell ⟨w.heap.size,0,none⟩ (.int .u64 (c 16:Nat))).setCell ⟨w.heap.size,1,none⟩ (.int .u64 (c 17:Nat))).setCell ⟨w.heap.size,2,none⟩ (.int .u64 (c 18:Nat))).setCell ⟨w.heap.size,3,none⟩ (.int .u64 (c 19:Nat))).drew);have HX6:=zh (show w6.heap[w.heap.size]?=some (.cells #[.int .u64 (c 16:Nat),.int .u64 (c 17:Nat),.int .u64 (c 18:Nat),.int .u64 (c 19:Nat)] 113 (0,0)) by
   rw [hw6];exact ZI (ZI (ZI (ZI hx5))))
  have HB6:=zh (show Bl w w6 by
   rw [hw6];exact ZB (ZE (ZE (ZE (ZE HB5.o nR) nR) nR) nR))
  rw [<-hw6];clear hw6 z0 z1 z2 z3 f0 f1 f2 f3 f r0 r1 r2 r3 hx5;go_wp2_with fail;refine bodyPost_ret (Jr rfl _ _ w.heap.size 113 _ (0,0) _ rfl HX6.o underlying113 rfl (by kernel_rfl)) rfl ?_;exact ⟨rfl,HB6.o⟩
 ·subst hk
  have z0:=z 4 (by omega);have z1:=z 5 (by omega);have z2:=z 6 (by omega);have z3:=z 7 (by omega);clear z;go_wp2_with fail;have f0:=f 0;have f1:=f 1;have f2:=f 2;have f3:=f 3
  go_region
  obtain ⟨w6,hw6⟩:=xE (((((w5.setCell ⟨w.heap.size,0,none⟩ (.int .u64 (c 20:Nat))).setCell ⟨w.heap.size,1,none⟩ (.int .u64 (c 21:Nat))).setCell ⟨w.heap.size,2,none⟩ (.int .u64 (c 22:Nat))).setCell ⟨w.heap.size,3,none⟩ (.int .u64 (c 23:Nat))).drew);have HX6:=zh (show w6.heap[w.heap.size]?=some (.cells #[.int .u64 (c 20:Nat),.int .u64 (c 21:Nat),.int .u64 (c 22:Nat),.int .u64 (c 23:Nat)] 113 (0,0)) by
   rw [hw6];exact ZI (ZI (ZI (ZI hx5))))
  have HB6:=zh (show Bl w w6 by
   rw [hw6];exact ZB (ZE (ZE (ZE (ZE HB5.o nR) nR) nR) nR))
  rw [<-hw6];clear hw6 z0 z1 z2 z3 f0 f1 f2 f3 f r0 r1 r2 r3 hx5;go_wp2_with fail;refine bodyPost_ret (Jr rfl _ _ w.heap.size 113 _ (0,0) _ rfl HX6.o underlying113 rfl (by kernel_rfl)) rfl ?_;exact ⟨rfl,HB6.o⟩
theorem ZC2 (h:Ar w A F L T c) (hL:80<=8 * L) {rb:Nat} (hr:RtB w A rb) {nm:ByteArray} {k:Nat} (hk:k=0\/k=1)
 (hfd:∀ CS:Array Value,CS.size=64->(∀ y,y < 64->CS[y]?=some (.int .u64 (c (16+y):Nat)))->∀ wx,Bl w wx->Calls prog 93 #[.agg CS,.string nm] wx fun e w'=>e=.returned (.int .i64 k)/\Bl wx w'):
 Calls prog 14 #[.pointer (some ⟨rb,0,none⟩),.string nm] w fun e w'=>e=.returned (.tuple #[.int .u64 (c (16+4 * k+2):Nat),.int .i64 0])/\Bl w w':=by
 have HEN:=zh (ZEI h hL hr hk hfd);clear h hL hr hk hfd;go_in;go_wp2_with fail;refine HEN.o.mono ?_;rintro e w1 ⟨rfl,hb1⟩;have HB1:=zh hb1;clear hb1;go_wp2;go_returns;exact ⟨rfl,by repeat (with_reducible first|exact HB1.o|apply ZA|refine ZE ?_ HB1.o.size)⟩
def JA (n:Nat)(f:Nat->Bool):Bool:=@Nat.rec (fun _=>Bool) true (fun k ih=>match f k with
 |true=>ih
 |false=>false) n
theorem Z6 {f:Nat->Bool}:∀ {n:Nat},JA n f=true->∀ i,i < n->f i=true
 |0,_,i,hi=>by omega
 |n+1,h,i,hi=>by
  have h:(match f n with
   |true=>JA n f
   |false=>false)=true:=h
  split at h
  ·by_cases e:i=n
   ·rw [e];assumption
   ·exact Z6 h i (by omega)
  ·cases h
def cz (_:Nat):Nat:=0
def cF (T:Nat->Nat):Nat->Nat:=wrs (wrs (wrs cz (ZFj 2)) (ZKJ T)) (ZDu T).flatten
def cO (T:Nat->Nat):Nat->Nat:=wrs (cF T) [(4480,7309464666214760450)]
def kM:Chk:=Chk.made 4 0 1
def cC (T:Nat->Nat):Nat->Nat:=wrs (wrs (cO T) (YP T 71 kM)) (Yh (ZP pL) 60)
def cA (T:Nat->Nat):Nat->Nat:=wrs (cC T) (Yh (ZP pA) 60)
def l1 (T:Nat->Nat):List (Nat×Nat):=JG T 0 478392707436 pL++ZR T 71 kM [(0,12)] []
def cP (T:Nat->Nat):Nat->Nat:=wrs (cA T) (cmL 640 (cmV T (l1 T)) (l1 T)).flatten
def kN:Chk:=kM.after [(0,12)] []
def l2 (T:Nat->Nat):List (Nat×Nat):=JG T 1 125822818283105 pA++ZR T 71 kN [(1,64)] []
def cB (T:Nat->Nat):Nat->Nat:=wrs (cP T) (cmL 640 (cmV T (l2 T)) (l2 T)).flatten
def cw0:Nat->Nat:=cB T0
theorem ZK6:[cF T0 0,cF T0 1,cF T0 2,cF T0 3,cF T0 4,cF T0 5,cF T0 6,cF T0 7]=ZDH T0:=by kernel_rfl
theorem ZK5:[cF T0 8,cF T0 9,cF T0 10,cF T0 11,cF T0 12,cF T0 13,cF T0 14,cF T0 15]=[0,0,0,0,0,0,0,0]:=by kernel_rfl
theorem ZCx:cF T0 80=0/\cF T0 288=0/\cF T0 496=1836515329/\cF T0 528=1836515329/\cF T0 560=7309464666214760449:=⟨by kernel_rfl,by kernel_rfl,by kernel_rfl,by kernel_rfl,by kernel_rfl⟩
theorem ZK3:JA 7 (fun k=>Nat.beq (cF T0 (561+k)) 0)=true:=by kernel_rfl
theorem ZK2:JA 64 (fun y=>Nat.beq (cO T0 (16+y)) 0)=true:=by kernel_rfl
theorem ZHx:cO T0 80=0/\cA T0 80=0/\cP T0 80=0:=⟨by kernel_rfl,by kernel_rfl,by kernel_rfl⟩
theorem ZKG:cO T0 568=Zc T0 kF.info:=by kernel_rfl
theorem ZK4:cO T0 824=Zc T0 kF.info:=by kernel_rfl
theorem ZIw:kF.Head:=⟨by decide,.inl (by decide)⟩
theorem ZEJ {c:Nat->Nat}{B:Nat}(h:c B=Zc T0 kF.info):CRep T0 c B kF where
 head:=ZIw
 w0:=h
 bits:=fun h=>absurd h (by decide)
 rest:=fun h=>absurd h (by decide)
 good:=fun h=>absurd h (by decide)
 blk:=fun h=>absurd h (by decide)
def s00:LS:=⟨kF,fun _=>0,[],[],[],2,fun _=>0,0,0⟩
theorem ZLR:cw0 568=Zc T0 k0.info:=by kernel_rfl
theorem ZLS:cw0 824=Zc T0 kF.info:=by kernel_rfl
theorem ZKQ:cw0 569=Zi k0.used (perN k0):=by kernel_rfl
theorem ZKR:JA 8 (fun a=>match Nat.ble 2 a with
 |true=>Nat.beq (cw0 (568+a)) 0
 |false=>true)=true:=by kernel_rfl
theorem ZK9:JA 4 (fun i=>Nat.beq (cw0 (568+hdN k0 i)) (Zc T0 (k0.blk i).info))=true:=by kernel_rfl
theorem ZLB:JA 29 (fun i=>Nat.beq (cw0 (579+2 * i)) 0)=true:=by kernel_rfl
theorem ZLA:JA 40 (fun i=>Nat.beq (cw0 (638+i)) 0)=true:=by kernel_rfl
theorem ZIv:k0.Head:=⟨by decide,.inr (by decide)⟩
theorem ZIu:∀ i,i < 4->(k0.blk i).Good:=fun i hi=>by
 rcases (show i=0\/i=1\/i=2\/i=3 by omega) with rfl|rfl|rfl|rfl
 ·exact ⟨by decide,.inr (.inl (by decide))⟩
 ·exact ⟨by decide,.inr (.inl (by decide))⟩
 ·exact ⟨by decide,.inl (by decide)⟩
 ·exact ⟨by decide,.inl (by decide)⟩
theorem ZH3:CRep T0 cw0 568 k0 where
 head:=ZIv
 w0:=ZLR
 bits:=fun _=>ZKQ
 rest:=fun _ a h2 h8=>by
  have h:=Z6 ZKR a h8;rw [Nat.ble_eq_true_of_le h2] at h;exact ZL2 h
 good:=fun _ i hi=>ZIu i (by rw [QH] at hi;exact hi)
 blk:=fun _ i hi=>ZL2 (Z6 ZK9 i (by rw [QH] at hi;exact hi))
theorem rep_00:s00.Rep T0 cw0 cw0 where
 rep:=fun k hk=>by
  rcases (show k=0\/k=1 by omega) with rfl|rfl
  ·exact ZH3
  ·exact ZEJ ZLS
 log:=by kernel_rfl
 nxt:=by kernel_rfl
 num:=by kernel_rfl
 ptr:=fun i hi=>ZL2 (Z6 ZLB i hi)
 epo:=fun i hi=>absurd hi (Nat.not_lt_zero _)
 lnk:=fun i hi=>ZL2 (Z6 ZLA i hi)
 clk:=by kernel_rfl
 rts:=fun _ _ _=>rfl
 n29:=by decide
theorem ZDz:s00.Inv 0 where
 ok:={
  cl:=.inl ⟨rfl,rfl⟩
  blk:=fun j _=>.inl rfl
  gen:=fun j=>⟨nR,nR⟩
  liv:=fun P hP=>by
   have h:s00.live=[]:=by kernel_rfl
   rw [h] at hP;cases hP
  nd:=by
   have h:s00.live=[]:=by kernel_rfl
   rw [h];exact List.nodup_nil
  use:=fun j _ h=>by
   have h:(176:Nat)=177:=h;omega
  its:=List.Pairwise.nil
  per:=.refl _
  ep:=fun x hx=>by cases hx
  fm:=.inl rfl
  fr:=fun P hP=>by cases hP
  now:=nR
  ann:=fun t=>Nat.zero_le _
  cnt:=by kernel_rfl
  len:=nR
  fl:=nR}
 k1:=fun _=>rfl
 cnt:=nR
 now:=nR
def ZCJ (m:Nat):Nat×Nat:=if m=0 then (478392707436,0) else (125822818283105,0)
theorem ZKu:nmS 478392707436 0={data:=#[108,105,109,98,111]}:=by kernel_rfl
theorem ZLL:nmS 125822818283105 0={data:=#[97,110,99,104,111,114]}:=by kernel_rfl
theorem ZFX {n:Nat}(h:Ar w A F 160 T c)(h0:∀ m,m < 16->n<=m->c (16+(4 * m+3))=0)(h1:∀ m,m < n->c (16+4 * m)=(ZCJ m).1/\c (16+(4 * m+1))=(ZCJ m).2/\c (16+(4 * m+3))≠0):NmT (fun y=>c (16+y)) fun m=>if m < n then some (nmS (ZCJ m).1 (ZCJ m).2) else none:=
 NmT.of (f:=fun y=>c (16+y)) (fun y=>h.word_lt _) h0 h1
theorem ZJt:cw0 16=478392707436/\cw0 17=0/\cw0 18=pL/\Nat.beq (cw0 19) 0=false/\cw0 20=125822818283105/\cw0 21=0/\cw0 22=pA/\Nat.beq (cw0 23) 0=false:=⟨by kernel_rfl,by kernel_rfl,by kernel_rfl,by kernel_rfl,by kernel_rfl,by kernel_rfl,by kernel_rfl,by kernel_rfl⟩
theorem ZLF:JA 16 (fun m=>match Nat.ble 2 m with
 |true=>Nat.beq (cw0 (16+(4 * m+3))) 0
 |false=>true)=true:=by kernel_rfl
theorem ZDQ (h:WC w A F T c x H ex B cw0 s):NmT (fun y=>c (16+y)) fun m=>if m < 2 then some (nmS (ZCJ m).1 (ZCJ m).2) else none:=by
 obtain ⟨d0,d1,d2,d3,d4,d5,d6,d7⟩:=ZJt;refine ZFX h.ar (fun m hm h2=>?_) (fun m hm=>?_)
 ·have hq:=Z6 ZLF m hm
  rw [Nat.ble_eq_true_of_le h2] at hq;rw [h.rep.rts _ (by omega) (by omega)];exact ZL2 hq
 ·rw [h.rep.rts _ (by omega) (by omega),h.rep.rts _ (by omega) (by omega),h.rep.rts _ (by omega) (by omega)]
  rcases (show m=0\/m=1 by omega) with rfl|rfl
  ·exact ⟨d0,d1,fun e=>by rw [show 16+(4 * 0+3)=19 from rfl] at e;rw [e] at d3;cases d3⟩
  ·exact ⟨d4,d5,fun e=>by rw [show 16+(4 * 1+3)=23 from rfl] at e;rw [e] at d7;cases d7⟩
theorem sLA:(({data:=#[108,105,109,98,111]}:ByteArray).toList == ({data:=#[97,110,99,104,111,114]}:ByteArray).toList)=false:=by kernel_rfl
theorem ZAj (h:WC w A F T c x H ex B cw0 s):GetR w B.rb {data:=#[108,105,109,98,111]} pL:=fun wx hb=>by
 have:=ZC2 (nm:={data:=#[108,105,109,98,111]}) (h.below hb).ar (by omega) (h.below hb).rt (k:=0) (.inl rfl) (fun CS hz hc w1 hb1=>JV (w:=w1) hz hc (ZDQ h) (.inr ⟨0,by omega,rfl,by rw [ZLX (by omega)];exact congrArg some ZKu,fun m hm=>by omega⟩));rw [show c (16+4 * 0+2)=pL from (h.rep.rts 18 (by omega) (by omega)).trans ZJt.2.2.1] at this;exact this
theorem ZDw (h:WC w A F T c x H ex B cw0 s):GetR w B.rb {data:=#[97,110,99,104,111,114]} pA:=fun wx hb=>by
 have:=ZC2 (nm:={data:=#[97,110,99,104,111,114]}) (h.below hb).ar (by omega) (h.below hb).rt (k:=1) (.inr rfl) (fun CS hz hc w1 hb1=>JV (w:=w1) hz hc (ZDQ h) (.inr ⟨1,by omega,rfl,by rw [ZLX (by omega)];exact congrArg some ZLL,fun m hm=>by
  obtain rfl:m=0:=by omega
  intro t ht;dsimp only at ht;rw [ZLX (by omega)] at ht;cases ht;rw [show nmS (ZCJ 0).1 (ZCJ 0).2=_ from ZKu];exact sLA⟩))
 rw [show c (16+4 * 1+2)=pA from (h.rep.rts 22 (by omega) (by omega)).trans ZJt.2.2.2.2.2.2.1] at this;exact this
theorem ZIp:(prog.info? 233).map (fun i=>(i.zero,i.size,i.bytes))=some (some (.agg #[.int .i64 0,.int .i64 0,.int .i64 0,.bool false]),4,32):=by kernel_rfl
theorem ZKo:El prog 229 233 4 32:=El.of underlying229 ZIp rfl (by omega)
def pF:Nat->Plc:=fun j=>if j=0 then ⟨71,-1,-1,false⟩ else plc kF j
def plL (n:Nat):List Value:=(List.range n).flatMap fun m=>[.int .i64 ((71+32 * m:Nat):Int),.int .i64 (-1),.int .i64 (-1),.bool false]
theorem ZHp (n:Nat):plL (n+1)=plL n++[.int .i64 ((71+32 * n:Nat):Int),.int .i64 (-1),.int .i64 (-1),.bool false]:=by unfold plL;rw [ZLy,List.flatMap_append];rfl
def ZJL (A:DAd)(v:Value):Obj:=.cells #[.iface 116 (.pointer (some ⟨A.t 0,0,none⟩)),v] 231 (0,0)
def AoR (W:World)(A:DAd)(sb:Nat)(i:Value)(wr:World):Prop:=
 ∃ m v,m<=2/\i=.int .i64 (m:Nat)/\wr.heap[sb]?=some (ZJL A v)/\wr.ownsRow W.heap.size 233 4 v m (plL m)/\Bl W wr
theorem ZFC (h:Ar w A F 160 T c)(h0:CRep T c 568 kF)(h1:CRep T c 824 kF):
 Calls prog 211 #[.iface 116 (.pointer (some ⟨A.t 0,0,none⟩)),.int .i64 71,.int .i64 64] w fun e w'=>∃ sb pb cap,e=.returned (.tuple #[.pointer (some ⟨sb,0,none⟩),.int .i64 0])/\SetW w' sb pb 0 A 2 cap pF/\Bl w w'/\w.heap.size<=sb/\w.heap.size<=pb:=by
 have HV:=zh (QN h);have HE:=zh (fun w1 (hb:Bl w w1)=>Zs h (i:=0) (by omega) w1 hb);have HLK:=zh (fun (m:Nat) (hm:m < 2) (wx:World) (hb:Bl w wx)=>show Calls prog 166 #[.iface 116 (.pointer (some ⟨A.t 0,0,none⟩)),.int .i64 ((71+32 * m:Nat):Int)] wx (fun e w'=>e=.returned (.tuple #[.agg #[.int .i64 (-1),.int .i64 (-1),.int .u16 1],.int .i64 0])/\Bl wx w') from by
  have:=Qm (h.below hb) (i:=0) (by omega) (line:=71+32 * m) (by omega) (k:=kF) (by
   rcases (show m=0\/m=1 by omega) with rfl|rfl
   ·exact h0
   ·exact h1)
  exact this)
 have HR:=zh (bZ w);have hne:=YT;clear h h0 h1;go_in;go_wp2_with fail;refine HV.o.mono ?_;rintro e w' ⟨rfl,rfl⟩;go_wp2_with fail;refine (HE.o w HR.o).mono ?_;rintro e w' ⟨rfl,rfl⟩;go_upto_region 7 with fail;obtain ⟨w2,hw2⟩:=xE (w.alloc (ZJL A (.slice none 0 0)));obtain ⟨sb,hsb⟩:=xE w.heap.size;have HST:=zh (show AoR w A sb (.int .i64 (0:Nat)) w2 from ⟨0,.slice none 0 0,by omega,rfl,by rw [hw2,hsb];exact ZC _ _,ZLn _ _ _ _,by rw [hw2];exact ZA HR.o⟩);have HSB:=zh (show w.heap.size<=sb by rw [hsb];exact nR);unfold ZJL at hw2;rw [<-hw2,<-hsb];clear hw2 hsb;go_wp2_with fail
 go_loopw [29] (fun i wr=>AoR w A sb i wr) (fun i _=>2 - (intOf i).toNat)
 case atStart=>exact HST.o
 case round=>
 obtain ⟨m,v,hm,rfl,hset,hown,hb⟩:=hrel
 by_cases hlt:m < 2
 ·have d0:(m:Int) < 2:=by omega
  have HL:=zh (HLK.o m hlt);have HW:=zh hb;have HSE:=zh hset;have HO:=zh hown;have HM:=zh hlt;clear hset hown hb hm hlt;rw [show (((71+32 * m:Nat):Int))=71+(m:Int) * 32 by omega] at HL;go_wp2_with fail;refine (HL.o _ HW.o).mono ?_;rintro e w3 ⟨rfl,hb3⟩;have HB3:=zh (HW.o.trans (hb3.mono HW.o.size));have HS3:=zh ((hb3.block _ (heap_lt HSE.o)).trans HSE.o);have HO3:=zh (ZO HO.o hb3);clear hb3;go_upto_region 14 with fail;unfold ZJL at HS3;obtain ⟨w4,hw4⟩:=xE (w3.alloc (.cells #[.int .i64 (-1),.int .i64 (-1),.int .u16 1] 209));obtain ⟨hd,hhb⟩:=xE w3.heap.size;have h34:Bl w3 w4:=by rw [hw4];exact ZA bR
  have HB4:=zh (HB3.o.trans (h34.mono HB3.o.size));have HS4:=zh ((h34.block _ (heap_lt HS3.o)).trans HS3.o);have HO4:=zh (ZO HO3.o h34);have HH4:=zh (show w4.heap[hd]?=some (.cells #[.int .i64 (-1),.int .i64 (-1),.int .u16 1] 209 (0,0)) by rw [hw4,hhb];exact ZC _ _);rw [<-hw4,<-hhb];clear hw4 hhb h34;obtain ⟨ln,hln⟩:∃ ln:Int,ln=71+(m:Int) * 32:=⟨_,rfl⟩
  have HLN:=zh (show (.int .i64 ln:Value)=.int .i64 ((71+32 * m:Nat):Int) by rw [hln];congr 1;omega);rw [<-hln];clear hln;obtain ⟨w5,hw5⟩:=xE w4.drew;have HB5:=zh (show Bl w w5 by rw [hw5];exact ZB HB4.o);have HS5:=zh (show w5.heap[sb]?=some (.cells #[.iface 116 (.pointer (some ⟨A.t 0,0,none⟩)),v] 231 (0,0)) by rw [hw5];exact HS4.o);have HH5:=zh (show w5.heap[hd]?=some (.cells #[.int .i64 (-1),.int .i64 (-1),.int .u16 1] 209 (0,0)) by rw [hw5];exact HH4.o);have HO5:=zh (show w5.ownsRow w.heap.size 233 4 v m (plL m) by rw [hw5];exact ZO HO4.o (ZB bR));have HS0:=zh (show Bl w w5/\w5.heap[sb]?=some (.cells #[.iface 116 (.pointer (some ⟨A.t 0,0,none⟩)),v] 231 (0,0))/\w5.heap[hd]?=some (.cells #[.int .i64 (-1),.int .i64 (-1),.int .u16 1] 209 (0,0)) from ⟨HB5.o,HS5.o,HH5.o⟩);have HS1:=zh (fun o=>show Bl w (w5.alloc o)/\(w5.alloc o).heap[sb]?=some (.cells #[.iface 116 (.pointer (some ⟨A.t 0,0,none⟩)),v] 231 (0,0))/\(w5.alloc o).heap[hd]?=some (.cells #[.int .i64 (-1),.int .i64 (-1),.int .u16 1] 209 (0,0)) from ⟨ZA HB5.o,(ZK (heap_lt HS5.o)).trans HS5.o,(ZK (heap_lt HH5.o)).trans HH5.o⟩);refine Zy 15 (fun wx=>Bl w wx/\wx.heap[sb]?=some (.cells #[.iface 116 (.pointer (some ⟨A.t 0,0,none⟩)),v] 231 (0,0))/\wx.heap[hd]?=some (.cells #[.int .i64 (-1),.int .i64 (-1),.int .u16 1] 209 (0,0))) (by kernel_rfl) ?_;rw [<-hw5];clear hw5;refine Y0 (i:=0) (z:=15) (v:=.pointer (some ⟨sb,0,none⟩)) rfl (by kernel_rfl) (fun _ _ _ h=>h) HS0.o rfl (fun w' hc=>by go_simp) ?_
  (try simp only [Act.put,ZLe,ZLY,ZLa,ZLT,ZLV,ZLW])
  refine Y0 (i:=1) (z:=15) (v:=.pointer (some ⟨sb,0,none⟩)) rfl (by kernel_rfl) (fun _ _ _ h=>h) HS0.o rfl (fun w' hc=>by go_simp) ?_
  (try simp only [Act.put,ZLe,ZLY,ZLa,ZLT,ZLV,ZLW])
  refine Y0 (i:=2) (z:=15) (v:=.pointer (some ⟨sb,0,none⟩)) rfl (by kernel_rfl) (fun _ _ _ h=>h) HS0.o rfl (fun w' hc=>by go_simp) ?_
  (try simp only [Act.put,ZLe,ZLY,ZLa,ZLT,ZLV,ZLW])
  refine Y0 (i:=3) (z:=15) (v:=.pointer (some ⟨sb,1,none⟩)) rfl (by kernel_rfl) (fun _ _ _ h=>h) HS0.o rfl (fun w' hc=>by go_simp) ?_
  (try simp only [Act.put,ZLe,ZLY,ZLa,ZLT,ZLV,ZLW])
  refine Y0 (i:=4) (z:=15) (v:=v) rfl (by kernel_rfl) (fun _ _ _ h=>h) HS0.o rfl (fun w' hc=>by have z:=(Yd hc.2.1).2.1;go_simp) ?_
  (try simp only [Act.put,ZLe,ZLY,ZLa,ZLT,ZLV,ZLW])
  refine Y0 (i:=5) (z:=15) (v:=.int .i64 ln) rfl (by kernel_rfl) (fun _ _ _ h=>h) HS0.o rfl (fun w' hc=>by go_simp) ?_
  (try simp only [Act.put,ZLe,ZLY,ZLa,ZLT,ZLV,ZLW])
  refine Y0 (i:=6) (z:=15) (v:=.pointer (some ⟨hd,0,none⟩)) rfl (by kernel_rfl) (fun _ _ _ h=>h) HS0.o rfl (fun w' hc=>by go_simp) ?_
  (try simp only [Act.put,ZLe,ZLY,ZLa,ZLT,ZLV,ZLW])
  refine Y0 (i:=7) (z:=15) (v:=.int .i64 (-1)) rfl (by kernel_rfl) (fun _ _ _ h=>h) HS0.o rfl (fun w' hc=>by have z:=(ZY hc.2.2).1;go_simp) ?_
  (try simp only [Act.put,ZLe,ZLY,ZLa,ZLT,ZLV,ZLW])
  refine Y0 (i:=8) (z:=15) (v:=.pointer (some ⟨hd,1,none⟩)) rfl (by kernel_rfl) (fun _ _ _ h=>h) HS0.o rfl (fun w' hc=>by go_simp) ?_
  (try simp only [Act.put,ZLe,ZLY,ZLa,ZLT,ZLV,ZLW])
  refine Y0 (i:=9) (z:=15) (v:=.int .i64 (-1)) rfl (by kernel_rfl) (fun _ _ _ h=>h) HS0.o rfl (fun w' hc=>by have z:=(ZY hc.2.2).2.1;go_simp) ?_
  (try simp only [Act.put,ZLe,ZLY,ZLa,ZLT,ZLV,ZLW])
  refine Y0 (i:=10) (z:=15) (v:=.agg #[.int .i64 ln,.int .i64 (-1),.int .i64 (-1),.bool false]) rfl (by kernel_rfl) (fun _ _ _ h=>h) HS0.o rfl (fun w' hc=>by go_simp) ?_
  (try simp only [Act.put,ZLe,ZLY,ZLa,ZLT,ZLV,ZLW])
  refine YA (j:=11) (z:=15) (by kernel_rfl) rfl (fun K hK=>?_);go_simp;refine hK _ _ (HS1.o _) ?_;clear hK K
  (try simp only [Act.put,ZLe,ZLY,ZLa,ZLT,ZLV,ZLW])
  refine YA (j:=12) (z:=15) (by kernel_rfl) rfl (fun K hK=>?_);refine XT ZKo rfl _ _ rfl (cs:=#[.int .i64 ln,.int .i64 (-1),.int .i64 (-1),.bool false]) HO5.o rfl rfl rfl rfl (by intro u hu;simp at hu;rcases hu with rfl|rfl|rfl|rfl <;> rfl) (by unfold maxLen;have:=HM.o;omega) (by have:=HM.o;omega) HB5.o.size (fun g cap w7 how hgr=>?_);have hx7:Bl w w7:=ZL HB5.o hgr HB5.o.size (fun k hk=>(HO5.o.lt k hk).1);have hs7:w7.heap[sb]?=some (.cells #[.iface 116 (.pointer (some ⟨A.t 0,0,none⟩)),v] 231 (0,0)):=(hgr.block sb (heap_lt HS5.o) (fun e=>Zt HO5.o HS5.o (by decide) e.symm)).trans HS5.o;have hh7:w7.heap[hd]?=some (.cells #[.int .i64 (-1),.int .i64 (-1),.int .u16 1] 209 (0,0)):=(hgr.block hd (heap_lt HH5.o) (fun e=>Zt HO5.o HH5.o (by decide) e.symm)).trans HH5.o;have n7:=(Yd hs7).2.2.2;have m7:=(Yd hs7).2.1;refine hK _ _ ⟨hx7,hs7,hh7⟩ ?_;clear hK K
  (try simp only [Act.put,ZLe,ZLY,ZLa,ZLT,ZLV,ZLW])
  refine YA (j:=13) (z:=15) (by kernel_rfl) rfl (fun K hK=>?_);go_simp;refine hK _ _ ⟨hx7,hs7,hh7⟩ ?_;clear hK K
  (try simp only [Act.put,ZLe,ZLY,ZLa,ZLT,ZLV,ZLW])
  refine YA (j:=14) (z:=15) (by kernel_rfl) rfl (fun K hK=>?_);go_simp;refine hK _ _ ⟨hx7,hs7,hh7⟩ ?_;clear hK K
  (try simp only [Act.put,ZLe,ZLY,ZLa,ZLT,ZLV,ZLW])
  refine Vm (z:=15) (by kernel_rfl) rfl (by kernel_rfl) (by kernel_rfl) (fun K hK=>?_);go_simp;refine hK _ _ ?_;clear hK K
  have HF:=zh (show AoR w A sb (.int .i64 ((m+1:Nat):Int)) (w7.setCell ⟨sb,1,none⟩ (.slice (some ⟨g,0,none⟩) (m+1) cap)) from ⟨m+1,_,by have:=HM.o;omega,rfl,(ZI hs7).trans rfl,by
   rw [ZHp];exact XH (HLN.o▸how) ((Only.refl (fun k=>k=sb) w7).set (F:=fun k=>k=sb) rfl _) (fun k hk q=>Zt how hs7 (by decide) (q▸hk)),ZE hx7 HSB.o⟩)
  clear how hgr hx7 hs7 hh7 n7 m7;have hM:=HM.o;go_wp2_with fail;exact ⟨by simpa using HF.o,by simp [intOf];omega⟩
 ·obtain rfl:m=2:=by omega
  have HE2:=zh (show ∃ pb cap,SetW wr sb pb 0 A 2 cap pF/\Bl w wr/\w.heap.size<=sb/\w.heap.size<=pb from by
   rcases hown.2 with ⟨_,e⟩|⟨g,cap,cur,rfl,hg,hbk,hn,hc,hz,ht⟩
   ·omega
   ·refine ⟨g,cap,⟨hset,⟨cur,hbk,by omega,fun y hy=>?_⟩,by omega⟩,hb,HSB.o,hg⟩
    have e:cur[y]?=(plL 2)[y]?:=by
     rw [<-ht,List.getElem?_take_of_lt (by omega),ZLx]
    rw [e];rcases (show y=0\/y=1\/y=2\/y=3\/y=4\/y=5\/y=6\/y=7 by omega) with rfl|rfl|rfl|rfl|rfl|rfl|rfl|rfl <;> rfl)
  clear hset hown hb hm hlt;go_wp2;go_returns;obtain ⟨pb,cap,h1⟩:=HE2.o;exact ⟨sb,pb,cap,rfl,h1⟩
theorem ZES {sb pb cap:Nat}(h:SetW w sb pb 0 A 2 cap pF){m:Nat}(hm:m < 2):
 Calls prog 212 #[.pointer (some ⟨sb,0,none⟩),.int .i64 ((71+32 * m:Nat):Int)] w fun e w'=>e=.returned (.int .i64 (-1))/\w=w':=by
 have hl:∀ k,k < 2->(pF k).line=71+32 * k/\(pF k).ow=-1:=fun k hk=>by
  rcases (show k=0\/k=1 by omega) with rfl|rfl <;> exact ⟨rfl,rfl⟩
 have HFI:=zh (show Calls prog 219 #[.pointer (some ⟨sb,0,none⟩),.int .i64 ((71+32 * m:Nat):Int)] w (fun e w'=>e=.returned (.pointer (some ⟨pb,m * 4,none⟩))/\w=w') from by
  have:=ZA3 h hm (fun k hk=>by rw [(hl k (by omega)).1,(hl m hm).1];omega);rw [(hl m hm).1] at this;exact this)
 have c2:=(h.at hm).2.2.1;rw [(hl m hm).2] at c2;clear h hl hm;go_in;go_wp2_with fail;refine HFI.o.mono ?_;rintro e w' ⟨rfl,rfl⟩;go_wp2;go_returns;exact ⟨rfl,rfl⟩
def lnL (n:Nat):List Nat:=(List.range n).map fun m=>71+32 * m
theorem ZHV (n:Nat):lnL (n+1)=lnL n++[71+32 * n]:=by unfold lnL;rw [ZLy,ZLs];rfl
theorem QE (n:Nat):(lnL n).length=n:=by simp [lnL]
def LnR (W:World)(v i:Value)(wr:World):Prop:=
 ∃ m:Nat,m<=2/\i=.int .i64 (m:Nat)/\wr.ownsRow W.heap.size 3 1 v m ((lnL m).map fun (n:Nat)=>Value.int .i64 (n:Int))/\Bl W wr
theorem ZER {sb pb cap:Nat}(h:SetW w sb pb 0 A 2 cap pF):
 Calls prog 69 #[.pointer (some ⟨sb,0,none⟩)] w fun e w'=>∃ v,e=.returned v/\Nats w' v (lnL 2)/\Bl w w':=by
 have hl:∀ k,k < 2->(pF k).line=71+32 * k:=fun k hk=>by
  rcases (show k=0\/k=1 by omega) with rfl|rfl <;> rfl
 have HS:=zh (fun wx (hb:Bl w wx) (m:Nat) (hm:m < 2)=>show wx.cell? ⟨pb,m * 4,none⟩=some (.int .i64 ((71+32 * m:Nat):Int))/\∃ a b z,wx.cell? ⟨pb,m * 4+1,none⟩=some (.int .i64 a)/\wx.cell? ⟨pb,m * 4+2,none⟩=some (.int .i64 b)/\wx.cell? ⟨pb,m * 4+3,none⟩=some (.bool z) from by
  have ha:=(h.below hb).at hm;rw [hl m hm] at ha;exact ⟨ha.1,_,_,_,ha.2.1,ha.2.2.1,ha.2.2.2⟩)
 obtain ⟨c0,c1⟩:=h.cells;clear h hl;go_in;go_wp2_with fail
 go_loopw [3,13] (fun v i wr=>LnR w v i wr) (fun _ i _=>2 - (intOf i).toNat)
 case atStart=>exact ⟨0,by omega,rfl,ZLn _ _ _ _,bR⟩
 case round=>
  obtain ⟨m,hm,rfl,hown,hbel⟩:=hrel;have HB:=zh hbel;have HO:=zh hown;obtain ⟨ra,rc,hv⟩:=ZN hown;subst hv;clear hbel hown c0 c1
  by_cases hlt:m < 2
  ·have d0:(m:Int) < 2:=by omega
   obtain ⟨a0,va,vb,vz,a1,a2,a3⟩:=HS.o _ HB.o m hlt;have HM:=zh hlt;obtain ⟨ln,hln⟩:∃ ln:Int,ln=((71+32 * m:Nat):Int):=⟨_,rfl⟩
   rw [<-hln] at a0;have HLN:=zh hln;clear hm hlt hln;go_wp2_with (at_builtin;refine ZS ZBV rfl _ _ rfl (HO.o.alloc _) rfl rfl ?c1 rfl ?c2 ?c3 ?c4 ?c5 ?_)
   case c1=>simp
   case c2=>first|rfl|simp [Value.oneCell']
   case c3=>unfold maxLen;have:=HM.o;omega
   case c4=>have:=HM.o;omega
   case c5=>have:=HB.o.size;simp;omega
   intro g4 cap4 w5 hop5 hgr5 hg5
   have G:=zh (show LnR w (.slice (some ⟨g4,0,none⟩) (m+1) cap4) (.int .i64 ((m+1:Nat):Int)) w5 from ⟨m+1,by have:=HM.o;omega,rfl,by
    rw [ZHV,ZLs,List.map_cons,List.map_nil,<-HLN.o];exact hop5,ZL (Zr HB.o HB.o.size) hgr5 (by have:=HB.o.size;simp;omega) (fun b hb=>(HO.o.lt b hb).1)⟩)
   clear hop5 hgr5 hg5 a0 a1 a2 a3;have hM:=HM.o;go_wp2_with fail;go_roundw
   case rel=>simpa using G.o
   case measure=>simp [intOf];omega
  ·obtain rfl:m=2:=by omega
   clear hm hlt;go_wp2;go_returns;exact ⟨_,rfl,Qp HO.o,HB.o⟩
theorem ZFh (h:Aq w A F 160 T c x)(h0:CRep T c 568 kF)(h1:CRep T c 824 kF)(x0:Nat):
 Calls prog 139 #[.iface 116 (.pointer (some ⟨A.t 0,0,none⟩)),.int .i64 71,.int .i64 64] w fun e w'=>∃ H:HAd,e=.returned (.tuple #[.pointer (some ⟨H.hb,0,none⟩),.int .i64 0])/\(H.l0=71/\H.ls=64/\H.t=0/\H.x0=x0)/\HW w' A F 160 T c x H false pF 0 (fun _=>none) (fun _=>none)/\Bl w w'/\w.heap.size<=H.hb/\w.heap.size<=H.sb/\∀ k,H.own k->w.heap.size<=k:=by
 have HAO:=zh (ZFC h.ar h0 h1);have HLN:=zh (fun (wx:World) (sb pb cap:Nat) (hs:SetW wx sb pb 0 A 2 cap pF)=>ZER hs);have HOW:=zh (fun (wx:World) (sb pb cap:Nat) (hs:SetW wx sb pb 0 A 2 cap pF) (m:Nat) (hm:m < 2)=>ZES hs hm);have H0:=zh h;have hmm:=@run_makeMap prog;clear h h0 h1;go_in;go_wp2_with fail;refine HAO.o.mono ?_;rintro e w1 ⟨sb,pb,cap,rfl,hset,hb1,hsb,hpb⟩;have HS1:=zh hset;have HB1:=zh hb1;have HSZ:=zh (show w.heap.size<=sb/\w.heap.size<=pb from ⟨hsb,hpb⟩);clear hset hb1 hsb hpb HAO;go_wp2_with fail;refine (HLN.o _ _ _ _ HS1.o).mono ?_;rintro e w2 ⟨v,rfl,hnats,hb2⟩;have HB2:=zh (HB1.o.trans (hb2.mono HB1.o.size));have HS2:=zh (HS1.o.below hb2);have HNT:=zh hnats;obtain ⟨va,vc,hv⟩:=hnats.len;rw [QE] at hv;subst hv;clear hnats hb2 HLN;go_wp2_with fail
 go_loopw [28] (fun i wr=>∃ m:Nat,m<=2/\i=.int .i64 (m:Nat)/\wr=w2) (fun i _=>2 - (intOf i).toNat)
 case atStart=>exact ⟨0,by omega,rfl,rfl⟩
 case round=>
  obtain ⟨m,hm,rfl,hwr⟩:=hrel;subst hwr
  by_cases hlt:m < 2
  ·have d0:(m:Int) < 2:=by omega
   obtain ⟨b2,o2,r2,g2,k2⟩:=HNT.o.at (n:=m) (by rw [QE];exact hlt)
   rw [QE] at g2;cases g2;have hg:(lnL 2)[m]'(by rw [QE];exact hlt)=71+32 * m:=by unfold lnL;simp
   rw [hg] at k2;have HO:=zh (HOW.o _ _ _ _ HS2.o m hlt);obtain ⟨ln,hln⟩:∃ ln:Int,ln=((71+32 * m:Nat):Int):=⟨_,rfl⟩
   rw [<-hln] at k2 HO;have HM:=zh hlt;clear hm hlt hg hln;go_wp2_with fail;refine HO.o.mono ?_;rintro e w' ⟨rfl,rfl⟩;have hM:=HM.o;go_wp2_with fail;go_roundw
   case rel=>exact ⟨m+1,by omega,by first|trivial|(go_num;done)|simp,by first|trivial|rfl⟩
   case measure=>simp [intOf];omega
  ·obtain rfl:m=2:=by omega
   clear hm hlt;obtain ⟨w3,hw3⟩:=xE (wr.alloc (.map #[] 0));have hr3:QJ w3 wr.heap.size 0 (fun _=>none):=by rw [hw3];exact UMap.made _ _ _ _ _
   have h23:Bl wr w3:=by rw [hw3];exact ZA bR
   have e3:w3.heap.size=wr.heap.size+1:=by rw [hw3];simp
   obtain ⟨w4,hw4⟩:=xE (w3.alloc (.map #[] 0));have hv4:ZB1 w4 w3.heap.size 0 (fun _=>none):=by rw [hw4];exact UMap.made _ _ _ _ _
   have h34:Bl w3 w4:=by rw [hw4];exact ZA bR
   have e4:w4.heap.size=wr.heap.size+2:=by rw [hw4];simp [e3]
   obtain ⟨O,hO⟩:∃ O:Obj,O=.cells #[.iface 116 (.pointer (some ⟨A.t 0,0,none⟩)),.int .i64 71,.int .i64 64,.pointer (some ⟨sb,0,none⟩),.map (some wr.heap.size),.map (some w3.heap.size),.map none,.bool false] 158:=⟨_,rfl⟩
   obtain ⟨w5,hw5⟩:=xE (w4.alloc O);have h45:Bl w4 w5:=by rw [hw5];exact ZA bR
   have h24:=h23.trans (h34.mono h23.size);have h25:=h24.trans (h45.mono h24.size);have hB:=HB2.o.trans (h25.mono HB2.o.size);have z1:=HB2.o.size;have z2:=HSZ.o;have hlt:=heap_lt HS2.o.set;have hlt2:=HS2.o.row.lt;have nw:∀ k,w.heap.size<=k->F k=none:=fun k hk=>H0.o.new hk
   have hn1:=H0.o.nib.lt;have hn2:=H0.o.tab.lt;have HE:=zh (show ∃ H:HAd,Ending.returned (.tuple #[.pointer (some ⟨w4.heap.size,0,none⟩),.int .i64 0])=.returned (.tuple #[.pointer (some ⟨H.hb,0,none⟩),.int .i64 0])/\(H.l0=71/\H.ls=64/\H.t=0/\H.x0=x0)/\HW w5 A F 160 T c x H false pF 0 (fun _=>none) (fun _=>none)/\Bl w w5/\w.heap.size<=H.hb/\w.heap.size<=H.sb/\∀ k,H.own k->w.heap.size<=k from by
    refine ⟨⟨w4.heap.size,sb,pb,wr.heap.size,w3.heap.size,0,71,64,cap,x0⟩,rfl,⟨rfl,rfl,rfl,rfl⟩,⟨H0.o.below hB,⟨by rw [hw5,hO];exact ZC _ _,by show (0:Nat) < 8;omega,by show 71+64<=4096;omega⟩,by have hs9:=HS2.o.below h25;first|(show SetW w5 sb pb 0 A (64 / 32) cap pF;exact hs9)|(simp only [HAd.n];exact hs9),(hr3.kept (h34.block _ hr3.lt)).kept (h45.block _ (by omega)),hv4.kept (h45.block _ hv4.lt),nw _ (by show w.heap.size<=w4.heap.size;omega),nw _ z2.1,?_,by show wr.heap.size≠w3.heap.size;omega,by show w4.heap.size≠pb;omega,?_⟩,hB,by show w.heap.size<=w4.heap.size;omega,z2.1,?_⟩
    ·intro k hk
     refine nw _ ?_;rcases hk with e|e|e
     ·have e:k=pb:=e;rw [e];exact z2.2
     ·have e:k=wr.heap.size:=e;rw [e];exact z1
     ·have e:k=w3.heap.size:=e;omega
    ·intro k hk
     rcases hk with e|e|e
     ·have e:k=pb:=e;exact ⟨by omega,by omega⟩
     ·have e:k=wr.heap.size:=e;exact ⟨by omega,by omega⟩
     ·have e:k=w3.heap.size:=e;exact ⟨by omega,by omega⟩
    ·intro k hk
     rcases hk with e|e|e
     ·have e:k=pb:=e;rw [e];exact z2.2
     ·have e:k=wr.heap.size:=e;rw [e];exact z1
     ·have e:k=w3.heap.size:=e;omega)
   rw [hO] at hw5;rw [hw5,e4,hw4,e3,hw3] at HE;clear hr3 h23 e3 hv4 h34 e4 hO hw5 h45 h24 h25 hB z1 z2 hlt hlt2 nw hn1 hn2 hw3 hw4;go_wp2;go_returns;exact HE.o
theorem Aq.only {b:Nat}(h:Aq w A F L T c x)(ho:Only (fun k=>k=b) w w')(hF:F b=none)(hn:b≠1/\b≠0):Aq w' A F L T c x:=by
 obtain ⟨s,h1,_⟩:=h.dev;refine h.agree (fun k hk=>?_) ho.size;rcases hk with hk|rfl|rfl
 ·exact ho.block k (h1.lt k hk) (fun e=>hk (by rw [e];exact hF))
 ·exact ho.block _ h.nib.lt (fun e=>hn.1 e.symm)
 ·exact ho.block _ h.tab.lt (fun e=>hn.2 e.symm)
theorem Moved.setn {b i:Nat}{v:Value}{w0:World}(h:Moved F F' w0 w)(hb:w0.heap.size<=b):Moved F F' w0 (w.setCell ⟨b,i,none⟩ v):=
 ⟨⟨h.only.os,h.only.tape,h.only.output,by simpa [World.setCell] using h.only.size,fun k hk hn=>(ZG (by omega)).trans (h.only.block k hk hn)⟩,h.same⟩
theorem Moved.belowN {w0:World}(h:Moved F F' w0 w)(hb:Bl w w'):Moved F F' w0 w':=h.trans ⟨Only.of_below hb,fun _ _=>rfl⟩
theorem ZBW {H:HAd}{b n m:Nat}(h:Aq w A F L T c x)(hF:F' b=none)(h1:b < n)(hn:n<=H.hb/\n<=H.sb/\∀ k,H.own k->n<=k)(h2:w.heap.size<=b):Frn F' H b:=
 ⟨hF,fun q=>by have:=hn.2.2 _ q;omega,⟨by have:=hn.1;omega,by have:=hn.2.1;omega⟩,⟨by have:=h.nib.lt;omega,by have:=h.tab.lt;omega⟩⟩
theorem ZCz {P:Program} {fn:Func} {r p q:Tmp} {ty:TypeId} (h:fn.results=#[.tmp r,.cell p ty,.tmp q]) (tmps:Array Value) (w:World) (g:Nat) (t:TypeId) (cs:Array Value) (fr:Nat×Nat) (d:TypeDesc)
 (hp:tmps.getD p undef=.pointer (some ⟨g,0,none⟩)) (hg:w.heap[g]?=some (.cells cs t fr))
 (hu:P.underlying ty=some d)(hd:(match d with|.struct _|.array _ _=>true|_=>false)=true)(hi:(P.info? ty).map (·.size)=some cs.size):
 (results fn tmps).run P w=.ok (.tuple #[tmps.getD r undef,.agg cs,tmps.getD q undef]) w:=by
 have hp':tmps[p]?.getD undef=.pointer (some ⟨g,0,none⟩):=by simpa using hp
 simp [results,h,hp',asAddr,run_loadVar_row w g t ty cs fr d hg hu hd hi]
structure PoS (w0:World)(A:DAd)(pb b6 b9 b3:Nat)(h r k m:Value)(w:World):Prop where
 po:PoY w A pb h r k m
 h6:w.heap[b6]?=some (.cells #[.int .i64 1,.int .i64 160,.int .i64 26,.int .i64 26,.int .i64 8,.int .i64 0,.int .i64 0,.int .u64 1] 106 (0,0))
 h9:w.heap[b9]?=some (.cells zrC 173 (0,0))
 h3:w.heap[b3]?=some (.cells zrC 173 (0,0))
 nw:w0.heap.size<=pb/\w0.heap.size<=b6/\w0.heap.size<=b9/\w0.heap.size<=b3
 ne:pb≠b6/\pb≠b9/\pb≠b3
variable {w0:World}{pb b6 b9 b3:Nat}{h r k m:Value}
theorem PoS.below (hs:PoS w0 A pb b6 b9 b3 h r k m w)(hb:Bl w w'):PoS w0 A pb b6 b9 b3 h r k m w':=
 ⟨hs.po.below hb,(hb.block _ (heap_lt hs.h6)).trans hs.h6,(hb.block _ (heap_lt hs.h9)).trans hs.h9,(hb.block _ (heap_lt hs.h3)).trans hs.h3,hs.nw,hs.ne⟩
theorem PoS.moved (hs:PoS w0 A pb b6 b9 b3 h r k m w)(hm:Moved F F' w w')(hf:∀ b,w0.heap.size<=b->b < w.heap.size->F b=none):PoS w0 A pb b6 b9 b3 h r k m w':=by
 obtain ⟨n1,n2,n3,n4⟩:=hs.nw;exact ⟨YL hm (hf _ n1 (heap_lt hs.po)) hs.po,YL hm (hf _ n2 (heap_lt hs.h6)) hs.h6,YL hm (hf _ n3 (heap_lt hs.h9)) hs.h9,YL hm (hf _ n4 (heap_lt hs.h3)) hs.h3,hs.nw,hs.ne⟩
theorem PoS.set (hs:PoS w0 A pb b6 b9 b3 h r k m w){i:Nat}{v h' r' k' m':Value}(hp:(poX A h r k m).setIfInBounds i v=poX A h' r' k' m'):PoS w0 A pb b6 b9 b3 h' r' k' m' (w.setCell ⟨pb,i,none⟩ v):=by
 refine ⟨(ZI hs.po).trans (by rw [hp]),(ZG (Ne.symm hs.ne.1)).trans hs.h6,(ZG (Ne.symm hs.ne.2.1)).trans hs.h9,(ZG (Ne.symm hs.ne.2.2)).trans hs.h3,hs.nw,hs.ne⟩
theorem ZGC (h:Aq w A F 160 T0 (cF T0) x)(hx:x+10<=1000000)(x0:Nat):
 Calls prog 82 #[.pointer (some ⟨A.d,0,none⟩)] w fun e w'=>∃ F' H pb rb kb mb,e=.returned (.tuple #[.pointer (some ⟨pb,0,none⟩),.agg zrC,.int .i64 0])/\(H.l0=71/\H.ls=64/\H.t=0/\H.x0=x0)/\HW w' A F' 160 T0 (cO T0) (x+10) H false pF 0 (fun _=>none) (fun _=>none)/\PoB w' A pb H.hb rb kb mb/\CkB w' A kb 2 an0/\RtB w' A rb/\Frn F' H pb/\Frn F' H kb/\Frn F' H rb/\Moved F F' w w'/\(w.heap.size<=pb/\w.heap.size<=kb/\w.heap.size<=rb/\w.heap.size<=H.hb/\∀ k,H.own k->w.heap.size<=k):=by
 have HTH:=zh (JJ h.ar (i:=0) (by omega));have HSO:=zh (fun wx (hb:Bl w wx)=>ZGS (h.ar.below hb) ZK6 ZK5);have H0:=zh h;have HX:=zh hx;have HRG:=zh (fun (wx:World) (r a b:Nat) (hr:r < 9) (ha:sup0.at r=a) (hb:sup0.sizes.getD r 0=b)=>ZE3 (w:=wx) hr ha hb);unfold sup0 Sup.val at HSO;clear h hx;go_in;go_wp2_with fail;obtain ⟨w1,hw1⟩:=xE (w.alloc (.cells #[.int .i64 0,.int .i64 0,.int .i64 0] 173));obtain ⟨b3,hb3⟩:=xE w.heap.size;have H31:=zh (show w1.heap[b3]?=some (.cells zrC 173 (0,0)) by rw [hw1,hb3];exact ZC _ _);have HB1:=zh (show Bl w w1 by rw [hw1];exact ZA bR);have HN3:=zh (show w.heap.size<=b3 by omega);rw [<-hw1,<-hb3];clear hw1 hb3;refine (HTH.o w1 HB1.o).mono ?_;rintro e w' ⟨rfl,rfl⟩;go_wp2_with fail;refine (HSO.o w1 HB1.o).mono ?_;rintro e w2 ⟨rfl,hb2⟩;have HB2:=zh (HB1.o.trans (hb2.mono HB1.o.size));have H32:=zh ((hb2.block _ (heap_lt H31.o)).trans H31.o);clear hb2 HSO HTH;go_upto_region 7 with fail;obtain ⟨w3,hw3⟩:=xE (w2.alloc (.cells #[.int .i64 1,.int .i64 160,.int .i64 26,.int .i64 26,.int .i64 8,.int .i64 0,.int .i64 0,.int .u64 1] 106));obtain ⟨b6,hb6⟩:=xE w2.heap.size;have HG6:=zh (show w3.heap[b6]?=some (.cells #[.int .i64 1,.int .i64 160,.int .i64 26,.int .i64 26,.int .i64 8,.int .i64 0,.int .i64 0,.int .u64 1] 106 (0,0)) by rw [hw3,hb6];exact ZC _ _);have h23:Bl w2 w3:=by rw [hw3];exact ZA bR
 have HB3:=zh (HB2.o.trans (h23.mono HB2.o.size));have H33:=zh ((h23.block _ (heap_lt H32.o)).trans H32.o);have HN6:=zh (show w.heap.size<=b6 by have:=HB2.o.size;omega);rw [<-hw3,<-hb6];clear hw3 hb6 h23 H31 H32 HB1 HB2;obtain ⟨s0,_⟩:=Z5 HG6.o;go_upto_region 9 with fail;clear s0;go_upto_region 10 with (refine wpList_load_row rfl 106 (.tmp 6) rfl b6 rfl 106 #[.int .i64 1,.int .i64 160,.int .i64 26,.int .i64 26,.int .i64 8,.int .i64 0,.int .i64 0,.int .u64 1] (0,0) _ HG6.o underlying106 rfl (by kernel_rfl) ?_)
 obtain ⟨w4,hw4⟩:=xE (w3.alloc (.cells (poX A (.pointer none) (.pointer none) (.pointer none) (.pointer none)) 111));obtain ⟨pb,hpb⟩:=xE w3.heap.size;have HP4:=zh (show PoY w4 A pb (.pointer none) (.pointer none) (.pointer none) (.pointer none) by rw [hw4,hpb];exact ZC _ _);have h34:Bl w3 w4:=by rw [hw4];exact ZA bR
 have HB4:=zh (HB3.o.trans (h34.mono HB3.o.size));have H34:=zh ((h34.block _ (heap_lt H33.o)).trans H33.o);have H64:=zh ((h34.block _ (heap_lt HG6.o)).trans HG6.o);have HNP:=zh (show w.heap.size<=pb by have:=HB3.o.size;omega);have HNE:=zh (show pb≠b6/\pb≠b3 from ⟨by have:=heap_lt HG6.o;omega,by have:=heap_lt H33.o;omega⟩);unfold poX at hw4;rw [<-hw4,<-hpb];clear hw4 hpb h34 HG6 H33 HB3;go_wp2_with fail;refine (ZBn (H0.o.below HB4.o).ar ZCx.2.2.1 ZCx.2.2.2.1 ZCx.1 ZCx.2.1 (H0.o.new HNP.o) ⟨by have:=H0.o.nib.lt;have:=HNP.o;omega,by have:=H0.o.tab.lt;have:=HNP.o;omega⟩ HP4.o).mono ?_;rintro e w5 ⟨rfl,mb,z,hm5,hp5,ho5⟩;have H35:=zh ((ho5.block _ (heap_lt H34.o) (fun e=>HNE.o.2 e.symm)).trans H34.o);have H65:=zh ((ho5.block _ (heap_lt H64.o) (fun e=>HNE.o.1 e.symm)).trans H64.o);have HM5:=zh (show Only (fun k=>k=pb) w w5 from (Only.of_below HB4.o).trans ho5 (fun _ _ q=>q));have HA5:=zh ((H0.o.below HB4.o).only ho5 (H0.o.new HNP.o) ⟨by have:=H0.o.nib.lt;have:=HNP.o;omega,by have:=H0.o.tab.lt;have:=HNP.o;omega⟩);have HP5:=zh hp5;clear hm5 hp5 ho5 H34 H64 HB4 HP4;unfold zrC;go_upto_region 13 with fail;obtain ⟨w6,hw6⟩:=xE (w5.alloc (.cells #[.int .i64 0,.int .i64 0,.int .i64 0] 173));obtain ⟨b9,hb9⟩:=xE w5.heap.size;have h56:Bl w5 w6:=by rw [hw6];exact ZA bR
 have HS6:=zh (show PoS w A pb b6 b9 b3 (.pointer none) (.pointer none) (.pointer none) (.pointer (some ⟨mb,0,none⟩)) w6 from ⟨HP5.o.below h56,(h56.block _ (heap_lt H65.o)).trans H65.o,by rw [hw6,hb9];exact ZC _ _,(h56.block _ (heap_lt H35.o)).trans H35.o,⟨HNP.o,HN6.o,by have:=HM5.o.size;omega,HN3.o⟩,⟨HNE.o.1,by have:=heap_lt HP5.o;omega,HNE.o.2⟩⟩);have HA6:=zh (HA5.o.below h56);have ho6:=HM5.o.trans (Only.of_below (F:=fun _=>False) h56) (fun _ _ q=>q.elim);have HM6:=zh (show Moved F F w w6 from ⟨⟨ho6.os,ho6.tape,ho6.output,ho6.size,fun k hk hn=>ho6.block k hk (by have:=HNP.o;omega)⟩,fun _ _=>rfl⟩);clear ho6;rw [<-hw6,<-hb9];clear hw6 hb9 h56 HP5 H65 H35 HA5 HM5;have HRG5:=zh (HRG.o w6 5 70 1 (by omega) rfl rfl);unfold sup0 Sup.val at HRG5;have HG6:=zh HS6.o.h6;go_wp2_with (refine wpList_load_row rfl 106 (.tmp 6) rfl b6 rfl 106 #[.int .i64 1,.int .i64 160,.int .i64 26,.int .i64 26,.int .i64 8,.int .i64 0,.int .i64 0,.int .u64 1] (0,0) _ HG6.o underlying106 rfl (by kernel_rfl) ?_);refine HRG5.o.mono ?_;rintro e w7 ⟨rfl,hb7⟩;have HS7:=zh (HS6.o.below hb7);have HA7:=zh (HA6.o.below hb7);have HM7:=zh (HM6.o.belowN hb7);clear hb7 HS6 HA6 HM6 HRG5 HG6;go_wp2_with fail;refine (ZFb HA7.o HX.o ZCx.2.2.2.2 (fun k hk=>ZL2 (Z6 ZK3 k hk))).mono ?_;rintro e w8 ⟨rfl,F',ha8,hm8,hk8,hf8⟩;obtain ⟨kb,hkb⟩:=xE w7.heap.size;rw [<-hkb] at hk8 hf8 ⊢;have hlt:=heap_lt HS7.o.po;have HKN:=zh (show w.heap.size<=kb/\kb≠pb from ⟨by have:=HM7.o.only.size;omega,by omega⟩);have HS8:=zh (HS7.o.moved hm8 (fun b hb _=>H0.o.new hb));have HFP:=zh (show F' pb=none/\F' kb=none/\F' b3=none from ⟨(hm8.same pb hlt).trans (H0.o.new HNP.o),hf8,(hm8.same b3 (heap_lt HS7.o.h3)).trans (H0.o.new HN3.o)⟩);have HA8:=zh (show Aq w8 A F' 160 T0 (cO T0) (x+10) from ha8);have HM8:=zh (HM7.o.trans hm8);have HK8:=zh hk8;have HK7:=zh (show kb < w8.heap.size from heap_lt hk8);clear ha8 hm8 hk8 hf8 hkb hlt HS7 HA7 HM7;have p11:w8.cell? ⟨pb,11,none⟩=some (.pointer none):=(ZD HS8.o.po).trans rfl;have f11:=ZH (i:=11) HS8.o.po;go_upto_region 17 with fail;have HS9:=zh (HS8.o.set (i:=11) (v:=.pointer (some ⟨kb,0,none⟩)) (k':=.pointer (some ⟨kb,0,none⟩)) rfl);have HA9:=zh (HA8.o.only ((Only.refl (fun k=>k=pb) w8).set (F:=fun k=>k=pb) (b:=pb) (i:=11) rfl (.pointer (some ⟨kb,0,none⟩))) HFP.o.1 ⟨by have:=H0.o.nib.lt;have:=HNP.o;omega,by have:=H0.o.tab.lt;have:=HNP.o;omega⟩);have HM9:=zh (HM8.o.setn (b:=pb) (i:=11) (v:=.pointer (some ⟨kb,0,none⟩)) HNP.o);have HK9:=zh (show CkB (w8.setCell ⟨pb,11,none⟩ (.pointer (some ⟨kb,0,none⟩))) A kb 2 an0 from (ZG HKN.o.2).trans HK8.o);obtain ⟨w9,hw9⟩:=xE (w8.setCell ⟨pb,11,none⟩ (.pointer (some ⟨kb,0,none⟩)));rw [<-hw9] at HS9 HA9 HM9 HK9 ⊢;clear hw9 HS8 HA8 HM8 HK8 p11 f11;have HRG5:=zh (HRG.o w9 8 71 64 (by omega) rfl rfl);unfold sup0 Sup.val at HRG5;have HG6:=zh HS9.o.h6;go_wp2_with (refine wpList_load_row rfl 106 (.tmp 6) rfl b6 rfl 106 #[.int .i64 1,.int .i64 160,.int .i64 26,.int .i64 26,.int .i64 8,.int .i64 0,.int .i64 0,.int .u64 1] (0,0) _ HG6.o underlying106 rfl (by kernel_rfl) ?_);refine HRG5.o.mono ?_;rintro e w10 ⟨rfl,hb10⟩;have HS10:=zh (HS9.o.below hb10);have HA10:=zh (HA9.o.below hb10);have HM10:=zh (HM9.o.belowN hb10);have HK10:=zh (HK9.o.below hb10);clear hb10 HS9 HA9 HM9 HK9 HRG5 HG6;go_wp2_with fail;refine (ZFh HA10.o (ZEJ ZKG) (ZEJ ZK4) x0).mono ?_;rintro e w11 ⟨H,rfl,hH,hw11,hb11,hn1,hn2,hn3⟩;have HH:=zh hH;have HW11:=zh hw11;have HS11:=zh (HS10.o.below hb11);have HM11:=zh (HM10.o.belowN hb11);have HK11:=zh (HK10.o.below hb11);have HFR:=zh (show Frn F' H pb/\Frn F' H kb/\Frn F' H b3 from ⟨ZBW (m:=0) H0.o HFP.o.1 (heap_lt HS10.o.po) ⟨hn1,hn2,hn3⟩ HNP.o,ZBW (m:=0) H0.o HFP.o.2.1 (heap_lt HK10.o) ⟨hn1,hn2,hn3⟩ HKN.o.1,ZBW (m:=0) H0.o HFP.o.2.2 (heap_lt HS10.o.h3) ⟨hn1,hn2,hn3⟩ HN3.o⟩);have HHN:=zh (show w.heap.size<=H.hb/\∀ k,H.own k->w.heap.size<=k from by
  have:=HM10.o.only.size;exact ⟨by omega,fun k q=>by have:=hn3 k q;omega⟩)
 clear hH hw11 hb11 hn1 hn2 hn3 HS10 HA10 HM10 HK10;obtain ⟨hbp,hhbp⟩:=xE H.hb;have HHB:=zh hhbp;rw [<-hhbp];clear hhbp;have p9:w11.cell? ⟨pb,9,none⟩=some (.pointer none):=(ZD HS11.o.po).trans rfl;have f9:=ZH (i:=9) HS11.o.po;go_upto_region 21 with fail;have HS12:=zh (HS11.o.set (i:=9) (v:=.pointer (some ⟨hbp,0,none⟩)) (h':=.pointer (some ⟨hbp,0,none⟩)) rfl);have HW12:=zh (HW11.o.only ((Only.refl (fun k=>k=pb) w11).set (F:=fun k=>k=pb) (b:=pb) (i:=9) rfl (.pointer (some ⟨hbp,0,none⟩))) (fun k _ e=>by rw [e];exact HFR.o.1));have HM12:=zh (HM11.o.setn (b:=pb) (i:=9) (v:=.pointer (some ⟨hbp,0,none⟩)) HNP.o);have HK12:=zh (show CkB (w11.setCell ⟨pb,9,none⟩ (.pointer (some ⟨hbp,0,none⟩))) A kb 2 an0 from (ZG HKN.o.2).trans HK11.o);obtain ⟨w12,hw12⟩:=xE (w11.setCell ⟨pb,9,none⟩ (.pointer (some ⟨hbp,0,none⟩)));rw [<-hw12] at HS12 HW12 HM12 HK12 ⊢;clear hw12 HS11 HW11 HM11 HK11 p9 f9;have HRG5:=zh (HRG.o w12 1 2 8 (by omega) rfl rfl);unfold sup0 Sup.val at HRG5;have HG6:=zh HS12.o.h6;go_wp2_with (refine wpList_load_row rfl 106 (.tmp 6) rfl b6 rfl 106 #[.int .i64 1,.int .i64 160,.int .i64 26,.int .i64 26,.int .i64 8,.int .i64 0,.int .i64 0,.int .u64 1] (0,0) _ HG6.o underlying106 rfl (by kernel_rfl) ?_);refine HRG5.o.mono ?_;rintro e w13 ⟨rfl,hb13⟩;have HS13:=zh (HS12.o.below hb13);have HW13:=zh (HW12.o.below hb13);have HM13:=zh (HM12.o.belowN hb13);have HK13:=zh (HK12.o.below hb13);clear hb13 HS12 HW12 HM12 HK12 HRG5 HG6;go_wp2_with fail;refine (ZEM HW13.o.ar (fun y hy=>ZL2 (Z6 ZK2 y hy))).mono ?_;rintro e w14 ⟨rb,rfl,hrt,hb14,hrn⟩;have HS14:=zh (HS13.o.below hb14);have HW14:=zh (HW13.o.below hb14);have HM14:=zh (HM13.o.belowN hb14);have HK14:=zh (HK13.o.below hb14);have HRT:=zh hrt;have HRN:=zh (show Frn F' H rb/\rb≠pb/\rb≠b3/\w.heap.size<=rb from ⟨HW13.o.newf hrn,by have:=heap_lt HS13.o.po;omega,by have:=heap_lt HS13.o.h3;omega,by have:=HM13.o.only.size;omega⟩);have HKB:=zh (show kb≠b3 from fun e=>by have h1:=HK13.o;rw [e] at h1;have h2:=HS13.o.h3;unfold CkB at h1;rw [h1] at h2;cases h2);clear hrt hb14 hrn HS13 HW13 HM13 HK13;have p10:w14.cell? ⟨pb,10,none⟩=some (.pointer none):=(ZD HS14.o.po).trans rfl;have f10:=ZH (i:=10) HS14.o.po;go_upto_region 25 with fail;have HS15:=zh (HS14.o.set (i:=10) (v:=.pointer (some ⟨rb,0,none⟩)) (r':=.pointer (some ⟨rb,0,none⟩)) rfl);have HW15:=zh (HW14.o.only ((Only.refl (fun k=>k=pb) w14).set (F:=fun k=>k=pb) (b:=pb) (i:=10) rfl (.pointer (some ⟨rb,0,none⟩))) (fun k _ e=>by rw [e];exact HFR.o.1));have HM15:=zh (HM14.o.setn (b:=pb) (i:=10) (v:=.pointer (some ⟨rb,0,none⟩)) HNP.o);have HK15:=zh (show CkB (w14.setCell ⟨pb,10,none⟩ (.pointer (some ⟨rb,0,none⟩))) A kb 2 an0 from (ZG HKN.o.2).trans HK14.o);have HR15:=zh (show RtB (w14.setCell ⟨pb,10,none⟩ (.pointer (some ⟨rb,0,none⟩))) A rb from (ZG HRN.o.2.1).trans HRT.o);obtain ⟨w15,hw15⟩:=xE (w14.setCell ⟨pb,10,none⟩ (.pointer (some ⟨rb,0,none⟩)));rw [<-hw15] at HS15 HW15 HM15 HK15 HR15 ⊢;clear hw15 HS14 HW14 HM14 HK14 HRT p10 f10;have HG9:=zh HS15.o.h9;have HG3:=zh HS15.o.h3;unfold zrC at HG9 HG3;obtain ⟨w16,hw16⟩:=xE w15.drew;have HS0:=zh (show w16.heap[b9]?=some (.cells #[.int .i64 0,.int .i64 0,.int .i64 0] 173 (0,0)) by rw [hw16];exact HG9.o);have HT0:=zh (show w16.heap[b3]?=some (.cells #[.int .i64 0,.int .i64 0,.int .i64 0] 173 (0,0)) by rw [hw16];exact HG3.o);have h1516:Bl w15 w16:=by rw [hw16];exact ZB bR
 have HE:=zh (show HW w16 A F' 160 T0 (cO T0) (x+10) H false pF 0 (fun _=>none) (fun _=>none)/\PoY w16 A pb (.pointer (some ⟨hbp,0,none⟩)) (.pointer (some ⟨rb,0,none⟩)) (.pointer (some ⟨kb,0,none⟩)) (.pointer (some ⟨mb,0,none⟩))/\CkB w16 A kb 2 an0/\RtB w16 A rb/\Moved F F' w w16 from ⟨HW15.o.below h1516,HS15.o.po.below h1516,HK15.o.below h1516,(h1516.block _ (heap_lt HR15.o)).trans HR15.o,HM15.o.belowN h1516⟩);clear h1516;refine Zy 4 (fun wx=>wx.heap[b9]?=some (.cells #[.int .i64 0,.int .i64 0,.int .i64 0] 173 (0,0))) (by kernel_rfl) ?_;rw [<-hw16];clear hw16 HS15 HW15 HM15 HK15 HR15 HG9 HG3;refine Y0 (i:=0) (z:=4) (v:=.pointer (some ⟨pb,0,none⟩)) rfl (by kernel_rfl) (fun _ _ _ h=>h) HS0.o rfl (fun w' hc=>by go_simp) ?_
 (try simp only [Act.put,ZLe,ZLY,ZLa,ZLT,ZLV,ZLW])
 refine Y0 (i:=1) (z:=4) (v:=.agg #[.int .i64 0,.int .i64 0,.int .i64 0]) rfl (by kernel_rfl) (fun _ _ _ h=>h) HS0.o rfl (fun w' hc=>?_) ?_
 ·have hl:=Yu (P:=prog) w' b9 0 173 #[.int .i64 0,.int .i64 0,.int .i64 0] _ (fun j v hv=>by rw [ZLu,ZD hc,<-ZLx];exact hv) underlying173 rfl (by kernel_rfl);simp [execOp,Act.eval,Instr.loadAt,Instr.sureAddr,hl]
 (try simp only [Act.put,ZLe,ZLY,ZLa,ZLT,ZLV,ZLW])
 refine Y0 (i:=2) (z:=4) (v:=.pointer (some ⟨pb,0,none⟩)) rfl (by kernel_rfl) (fun _ _ _ h=>h) HS0.o rfl (fun w' hc=>by go_simp) ?_
 (try simp only [Act.put,ZLe,ZLY,ZLa,ZLT,ZLV,ZLW])
 refine YA (j:=3) (z:=4) (by kernel_rfl) rfl (fun K hK=>?_);refine Xg rfl 173 (.tmp 3) (.tmp 109) rfl b3 #[.int .i64 0,.int .i64 0,.int .i64 0] rfl rfl 173 #[.int .i64 0,.int .i64 0,.int .i64 0] HT0.o (by kernel_rfl) rfl (by simp [Value.oneCell']) ?_;rw [setRow_self _ _ _ _ _ HT0.o];refine hK _ _ HS0.o ?_;clear hK K
 (try simp only [Act.put,ZLe,ZLY,ZLa,ZLT,ZLV,ZLW])
 refine Vm (z:=4) (by kernel_rfl) rfl (by kernel_rfl) (by kernel_rfl) (fun K hK=>?_);go_simp;refine hK _ _ ?_;clear hK K;go_wp2_with fail;refine bodyPost_ret (ZCz rfl _ _ b3 173 #[.int .i64 0,.int .i64 0,.int .i64 0] (0,0) _ rfl HT0.o underlying173 rfl (by kernel_rfl)) rfl ?_;obtain ⟨h1,h2,h3,h4,h5⟩:=HE.o;rw [HHB.o] at h2
 first
  |exact ⟨F',H,pb,rb,kb,mb,rfl,HH.o,h1,h2,h3,h4,HFR.o.1,HFR.o.2.1,HRN.o.1,h5,HNP.o,HKN.o.1,HRN.o.2.2.2,HHN.o⟩
  |exact ⟨F',H,pb,rfl,HH.o,h1,rb,kb,⟨mb,h2⟩,h3,h4,HFR.o.1,HFR.o.2.1,HRN.o.1,h5,HNP.o,HKN.o.1,HRN.o.2.2.2,HHN.o⟩
theorem ZCu (h:Aq w A F 160 T0 cz x)(hx:x+200<=1000000)(x0:Nat):
 Calls prog 32 #[.pointer (some ⟨A.d,0,none⟩),ZFJ] w fun e w'=>∃ F' H pb rb kb mb,e=.returned (.tuple #[.pointer (some ⟨pb,0,none⟩),.int .i64 0])/\(H.l0=71/\H.ls=64/\H.t=0/\H.x0=x0)/\HW w' A F' 160 T0 (cO T0) (x+190) H false pF 0 (fun _=>none) (fun _=>none)/\PoB w' A pb H.hb rb kb mb/\CkB w' A kb 2 an0/\RtB w' A rb/\Frn F' H pb/\Frn F' H kb/\Frn F' H rb/\Moved F F' w w'/\(w.heap.size<=pb/\w.heap.size<=kb/\w.heap.size<=rb/\w.heap.size<=H.hb/\∀ k,H.own k->w.heap.size<=k):=by
 have H0:=zh h;have HX:=zh hx;have HCS:=zh (fun (wx:World)=>ZDp (w:=wx));have HV:=zh (fun (wx:World)=>VS (w:=wx) ZBx);unfold ZFJ supz Sup.val at *;clear h hx;go_in;go_upto_region 1 with fail;obtain ⟨w1,hw1⟩:=xE (w.alloc (.cells #[.int .i64 160,.int .i64 26,.int .i64 26,.int .i64 8,.int .i64 0,.int .i64 0] 83));obtain ⟨b3,hb3⟩:=xE w.heap.size;have H31:=zh (show w1.heap[b3]?=some (.cells #[.int .i64 160,.int .i64 26,.int .i64 26,.int .i64 8,.int .i64 0,.int .i64 0] 83 (0,0)) by rw [hw1,hb3];exact ZC _ _);have HB1:=zh (show Bl w w1 by rw [hw1];exact ZA bR);rw [<-hw1,<-hb3];clear hw1 hb3;go_wp2_with (refine wpList_load_row rfl 83 (.tmp 3) rfl b3 rfl 83 #[.int .i64 160,.int .i64 26,.int .i64 26,.int .i64 8,.int .i64 0,.int .i64 0] (0,0) _ H31.o underlying83 rfl (by kernel_rfl) ?_);refine (HCS.o w1).mono ?_;rintro e w2 ⟨rfl,hb2⟩;have HB2:=zh (HB1.o.trans (hb2.mono HB1.o.size));have H32:=zh ((hb2.block _ (heap_lt H31.o)).trans H31.o);clear hb2 HCS H31 HB1;go_upto_region 2 with fail;obtain ⟨w3,hw3⟩:=xE (w2.alloc (.cells #[.int .i64 1,.int .i64 160,.int .i64 26,.int .i64 26,.int .i64 8,.int .i64 0,.int .i64 0,.int .u64 0] 106));obtain ⟨b6,hb6⟩:=xE w2.heap.size;have h23:Bl w2 w3:=by rw [hw3];exact ZA bR
 have HB3:=zh (HB2.o.trans (h23.mono HB2.o.size));have H33:=zh ((h23.block _ (heap_lt H32.o)).trans H32.o);have HS3:=zh (show RS w A F b6 T0 cz x w3 from ⟨F,H0.o.below HB3.o,⟨Only.of_below HB3.o,fun _ _=>rfl⟩,H0.o.new (by have:=HB2.o.size;omega),by rw [hw3,hb6];exact ZC _ _⟩);rw [<-hw3,<-hb6];clear hw3 hb6 h23 H32 HB2;have HKP:=zh (fun wx (hb:Bl w3 wx)=>show wx.cell? ⟨b3,0,none⟩=some (.int .i64 160)/\wx.cell? ⟨b3,1,none⟩=some (.int .i64 26)/\wx.cell? ⟨b3,2,none⟩=some (.int .i64 26)/\wx.cell? ⟨b3,3,none⟩=some (.int .i64 8)/\wx.cell? ⟨b6,0,none⟩=some (.int .i64 1)/\wx.cell? ⟨b6,1,none⟩=some (.int .i64 160)/\wx.cell? ⟨b6,2,none⟩=some (.int .i64 26)/\wx.cell? ⟨b6,3,none⟩=some (.int .i64 26)/\wx.cell? ⟨b6,4,none⟩=some (.int .i64 8)/\wx.cell? ⟨b6,5,none⟩=some (.int .i64 0)/\wx.cell? ⟨b6,6,none⟩=some (.int .i64 0)/\wx.cell? ⟨b6,7,none⟩=some (.int .u64 0) from by
  obtain ⟨a0,a1,a2,a3,a4,a5,a6,a7⟩:=(HS3.o.below hb).cells;have e:=(hb.block _ (heap_lt H33.o)).trans H33.o;exact ⟨(ZD e).trans rfl,(ZD e).trans rfl,(ZD e).trans rfl,(ZD e).trans rfl,a0,a1,a2,a3,a4,a5,a6,a7⟩)
 have HVL:=zh (fun wx (hb:Bl w3 wx)=>VA (HV.o wx) hb);have HDL:=zh (fun wx (hb:Bl w3 wx)=>ZCK (H0.o.below HB3.o).ar wx hb);have HR:=zh (bZ w3);obtain ⟨a0,a1,a2,a3,a4,a5,a6,a7,a8,a9,a10,a11⟩:=HKP.o _ HR.o
 go_region_held3 (fun wx=>wx.cell? ⟨b3,0,none⟩=some (.int .i64 160)/\wx.cell? ⟨b3,1,none⟩=some (.int .i64 26)/\wx.cell? ⟨b3,2,none⟩=some (.int .i64 26)/\wx.cell? ⟨b3,3,none⟩=some (.int .i64 8)/\wx.cell? ⟨b6,0,none⟩=some (.int .i64 1)/\wx.cell? ⟨b6,1,none⟩=some (.int .i64 160)/\wx.cell? ⟨b6,2,none⟩=some (.int .i64 26)/\wx.cell? ⟨b6,3,none⟩=some (.int .i64 26)/\wx.cell? ⟨b6,4,none⟩=some (.int .i64 8)/\wx.cell? ⟨b6,5,none⟩=some (.int .i64 0)/\wx.cell? ⟨b6,6,none⟩=some (.int .i64 0)/\wx.cell? ⟨b6,7,none⟩=some (.int .u64 0))
  (exact HKP.o _ (by repeat (with_reducible first|assumption|exact HR.o|apply ZA|apply ZB)))
  (first
    |(go_at_call 75;refine (HVL.o _ (by repeat (with_reducible first|assumption|exact HR.o|apply ZA|apply ZB))).mono ?_;rintro e V1 ⟨rfl,hb1,hm1,hm2,hm3,HB1⟩)
    |(go_at_call 76;refine (HDL.o _ (by repeat (with_reducible first|assumption|exact HR.o|apply ZA|apply ZB))).mono ?_;rintro e V2 ⟨rfl,rfl⟩))
 have hB:=(ZB HR.o).trans (HB1.o.mono (by simp));have HS4:=zh (HS3.o.below hB);have HA4:=zh (H0.o.below (HB3.o.trans (hB.mono HB3.o.size)));have HTH:=zh (JJ HA4.o.ar (i:=0) (by omega) V1 bR);have HER:=zh (Zs HA4.o.ar (i:=0) (by omega) V1 bR);have HIN:=zh (HS4.o.run (fun F' ha=>ZIs ha (by have:=HX.o;omega) (fun _ _=>rfl)));obtain ⟨d0,d1,d2,d3,_⟩:=HKP.o _ hB;clear hB HB1 hm1 hm2 hm3 a0 a1 a2 a3 a4 a5 a6 a7 a8 a9 a10 a11 HKP HVL HDL HS3 H33 HS4;go_wp2_with fail;refine HTH.o.mono ?_;rintro e w' ⟨rfl,rfl⟩;go_wp2_with fail;refine HER.o.mono ?_;rintro e w' ⟨rfl,rfl⟩;clear d0 d1 d2 d3;go_wp2_with fail;refine HIN.o.mono ?_;rintro e w5 ⟨rfl,hs5⟩;obtain ⟨c0,c1,c2,c3,c4,c5,c6,c7⟩:=hs5.cells;have HRG:=zh (hs5.run (fun F' ha=>ZCy ha (by have:=HX.o;omega)));unfold supz Sup.val at HRG;clear hs5 HIN HTH HER HA4;go_wp2_with fail;refine HRG.o.mono ?_;rintro e w6 ⟨rfl,hs6⟩;clear c0 c1 c2 c3 c4 c5 c6 c7;obtain ⟨c0,c1,c2,c3,c4,c5,c6,c7⟩:=hs6.cells;have HSF:=zh (hs6.run (fun F' ha=>ZDC ha (by have:=HX.o;omega)));unfold supz Sup.val at HSF;clear hs6 HRG;go_wp2_with fail;refine HSF.o.mono ?_;rintro e w7 ⟨rfl,hs7⟩;clear c0 c1 c2 c3 c4 c5 c6 c7;obtain ⟨F1,ha1,hm1,_,_⟩:=hs7;have HM1:=zh hm1;have HPO:=zh (ZGC (show Aq w7 A F1 160 T0 (cF T0) (x+10+130+40) from ha1) (by have:=HX.o;omega) x0);clear ha1 hm1 HSF;go_wp2_with fail;refine HPO.o.mono ?_;rintro e w8 ⟨F2,H,pb,rb,kb,mb,rfl,hH,hw,hp,hk,hr,f1,f2,f3,hm,n1,n2,n3,n4,n5⟩;have hb:Bl w8 (w8.alloc (.cells #[.int .i64 0,.int .i64 0,.int .i64 0] 173)):=ZA bR;have hz:=HM1.o.only.size
 have HE:=zh (show ∃ F' H' rb kb mb,(H'.hb=H.hb/\H'.l0=71/\H'.ls=64/\H'.t=0/\H'.x0=x0)/\HW (w8.alloc (.cells #[.int .i64 0,.int .i64 0,.int .i64 0] 173)) A F' 160 T0 (cO T0) (x+190) H' false pF 0 (fun _=>none) (fun _=>none)/\PoB (w8.alloc (.cells #[.int .i64 0,.int .i64 0,.int .i64 0] 173)) A pb H'.hb rb kb mb/\CkB (w8.alloc (.cells #[.int .i64 0,.int .i64 0,.int .i64 0] 173)) A kb 2 an0/\RtB (w8.alloc (.cells #[.int .i64 0,.int .i64 0,.int .i64 0] 173)) A rb/\Frn F' H' pb/\Frn F' H' kb/\Frn F' H' rb/\Moved F F' w (w8.alloc (.cells #[.int .i64 0,.int .i64 0,.int .i64 0] 173))/\(w.heap.size<=pb/\w.heap.size<=kb/\w.heap.size<=rb/\w.heap.size<=H'.hb/\∀ k,H'.own k->w.heap.size<=k) from
  ⟨F2,H,rb,kb,mb,⟨rfl,hH⟩,hw.below hb,hp.below hb,hk.below hb,(hb.block _ (heap_lt hr)).trans hr,f1,f2,f3,(HM1.o.trans hm).belowN hb,by omega,by omega,by omega,by omega,fun k q=>by have:=n5 k q;omega⟩)
 clear hH hw hp hk hr f1 f2 f3 hm n1 n2 n3 n4 n5 hb hz HPO HM1;unfold zrC;go_wp2;go_returns;obtain ⟨F',H',rb,kb,mb,⟨e,hH⟩,h1,h2,h3,h4,h5,h6,h7,h8,h9⟩:=HE.o
 first
  |exact ⟨F',H',pb,rb,kb,mb,rfl,hH,h1,h2,h3,h4,h5,h6,h7,h8,h9⟩
  |exact ⟨F',H',pb,rfl,hH,h1,rb,kb,⟨mb,h2⟩,h3,h4,h5,h6,h7,h8,h9⟩
variable {res held:Nat->Option Nat}
def pG (b:Bool):Nat->Plc:=fun j=>if j=0 then ⟨71,4,0,b⟩ else plc kF j
theorem ZHi:pG false=plc kF:=by
 funext j
 unfold pG;split
 ·rename_i e;subst e;rfl
 ·rfl
theorem ZED (b b':Bool):Xo (pG b) 0 ⟨71,4,0,b'⟩=pG b':=by
 funext j
 unfold Xo pG
 by_cases e:j=0 <;> simp [e]
theorem ZKD:Xo pF 0 ⟨71,4,0,false⟩=pG false:=by
 funext j
 unfold Xo pF pG
 by_cases e:j=0 <;> simp [e]
def ckW (c:Nat->Nat)(k:Chk):Bool:=Nat.beq (c 568) (Zc T0 k.info) && Nat.beq (c 569) (Zi k.used (perN k)) && JA 8 (fun a=>match Nat.ble 2 a with
 |true=>Nat.beq (c (568+a)) 0
 |false=>true) && JA 4 (fun i=>Nat.beq (c (568+hdN k i)) (Zc T0 (k.blk i).info))
theorem ZBT {c:Nat->Nat}{k:Chk}(h:ckW c k=true)(hd:k.Head)(hp:perN k=4)(hg:∀ i,i < 4->(k.blk i).Good):CRep T0 c 568 k:=by
 unfold ckW at h;simp only [Bool.and_eq_true] at h;obtain ⟨⟨⟨h1,h2⟩,h3⟩,h4⟩:=h;exact ⟨hd,ZL2 h1,fun _=>ZL2 h2,fun _ a h2 h8=>by
  have h:=Z6 h3 a h8;rw [Nat.ble_eq_true_of_le h2] at h;exact ZL2 h,fun _ i hi=>hg i (by rw [hp] at hi;exact hi),fun _ i hi=>ZL2 (Z6 h4 i (by rw [hp] at hi;exact hi))⟩
theorem ZBc:kM.Head:=⟨by decide,.inr (by decide)⟩
theorem ZHR:perN kM=4:=by decide
theorem ZEv:∀ i,i < 4->(kM.blk i).Good:=fun i hi=>by
 rcases (show i=0\/i=1\/i=2\/i=3 by omega) with rfl|rfl|rfl|rfl <;> exact ⟨by decide,.inl (by decide)⟩
theorem ZIy:kN.Head:=⟨by decide,.inr (by decide)⟩
theorem ZJ6:perN kN=4:=by decide
theorem ZIx:∀ i,i < 4->(kN.blk i).Good:=fun i hi=>by
 rcases (show i=0\/i=1\/i=2\/i=3 by omega) with rfl|rfl|rfl|rfl
 ·exact ⟨by decide,.inr (.inl (by decide))⟩
 ·exact ⟨by decide,.inl (by decide)⟩
 ·exact ⟨by decide,.inl (by decide)⟩
 ·exact ⟨by decide,.inl (by decide)⟩
theorem ZH2:CRep T0 (cC T0) 568 kM:=ZBT (by kernel_rfl) ZBc ZHR ZEv
theorem ZKK:CRep T0 (cA T0) 568 kM:=ZBT (by kernel_rfl) ZBc ZHR ZEv
theorem ZKM:CRep T0 (cP T0) 568 kN:=ZBT (by kernel_rfl) ZIy ZJ6 ZIx
theorem ZKL:CRep T0 (wrs (cO T0) (YP T0 71 kM)) 568 kM:=CRep.made (line:=71) ZBc
theorem ZLO:cC T0 824=Zc T0 kF.info:=by kernel_rfl
def ch1 (k:Chk):Nat->Chk:=fun j=>if j=0 then k else kF
theorem ZK1:kM.ptr 71 0 12=pL:=by kernel_rfl
theorem ZK0:kM.ptr 71 1 64=pA:=by kernel_rfl
theorem Qr:ZP pL=4616/\ZP pA=5104:=⟨by decide,by decide⟩
def rs1:Nat->Option Nat:=YN (fun _=>none) 4616 pL
def hv1:Nat->Option Nat:=YN (fun _=>none) 71 1
def rs2:Nat->Option Nat:=YN rs1 5104 pA
def hv2:Nat->Option Nat:=YN hv1 71 2
theorem ZKl {k:Chk}{b:Bool}{p:Nat->Plc}(hl:H.l0=71/\H.ls=64)(h0:CRep T0 c 568 k)(h1:CRep T0 c 824 kF)(hp:∀ j,j < 2->(p j).line=71+32 * j/\(p j).cl=(ch1 k j).cl/\(p j).ow=(ch1 k j).ow):HOK T0 c 160 H p (ch1 k):=by
 have hhn:H.n=2:=by unfold HAd.n;rw [hl.2]
 refine ⟨?_,fun j hj=>?_,fun j hj=>?_,by rw [hl.1,hhn];omega⟩
 ·rw [hl.1,hhn]
  intro j hj;rcases (show j=0\/j=1 by omega) with rfl|rfl
  ·exact h0
  ·exact h1
 ·rw [hhn] at hj;rw [hl.1];exact (hp j hj).1
 ·rw [hhn] at hj;exact (hp j hj).2
theorem ZG0 (h:HW w A F 160 T0 (cO T0) x H false pF ex (fun _=>none) (fun _=>none))(hl:H.l0=71/\H.ls=64)(hx:x<=900000):
 ZEf w A F 160 T0 (cO T0) x H false pF ex (fun _=>none) (fun _=>none) 0 4 12 (wrs (cO T0) (YP T0 71 kM)) (x+200) (pG false) pL 71:=by
 have hhn:H.n=2:=by unfold HAd.n;rw [hl.2]
 have ho:HOK T0 (cO T0) 160 H pF (ch1 kF):=ZKl (b:=false) hl (ZEJ ZKG) (ZEJ ZK4) (fun j hj=>by
  rcases (show j=0\/j=1 by omega) with rfl|rfl <;> exact ⟨rfl,rfl,rfl⟩)
 have hsel:Zx pF ((0:Nat):Int) ((4:Nat):Int) 2=[]:=by decide
 refine .inr ⟨fun w1 hb=>?_,fun w1 hb=>?_,fun F1 w1 hw1=>?_⟩
 ·refine Up (th:=0) (cl:=4) (h.below hb) ho (fun i hi2 _=>?_) 12
  rw [hhn,hsel] at hi2;cases hi2
 ·have:=Qe (h.below hb) (j:=0) (by omega) (fun m hm=>by omega) (by show (-1:Int) < 0;omega) (k:=kF) (by show 71+32<=160;omega) (ZEJ ZKG) (cl:=4) (th:=0) (by omega) (by omega) (by omega)
  refine this.mono ?_;rintro e w' ⟨he,hp⟩;have ep:Xo pF 0 ⟨(pF 0).line,(4:Nat),(0:Nat),(pF 0).held⟩=pG false:=ZKD;rw [ep] at hp;exact ⟨he,hp⟩
 ·have:=Vk hw1.ar hw1.hp hw1.rm (line:=71) (k:=kM) (by omega) ZKL (by decide) (j:=0) (by decide) (by decide) (by decide) (kind:=12) (by omega) rfl
  rw [ZK1] at this;exact this
theorem ZGx (h:HW w A F 160 T0 (cO T0) x H false pF ex (fun _=>none) (fun _=>none))(hl:H.l0=71/\H.ls=64)(hx:x<=900000)(hex:ex<=900000){db lg:Nat}(hd:DrW w A F H 0 db lg 640 1664):
 Calls prog 36 #[.pointer (some ⟨db,0,none⟩),.int .i64 (60:Nat),.int .u8 (12:Nat)] w fun e w'=>e=.returned (.tuple #[.int .u64 pL,.int .i64 0])/\ClP w A F 160 T0 (cC T0) (x+400) H false (pG true) (ex+1) rs1 hv1 w':=by
 have hhn:H.n=2:=by unfold HAd.n;rw [hl.2]
 refine UQ h hd (by omega) (by omega) (fun w1 ⟨F',_,h2⟩=>⟨F',h2⟩) (fun w1 hb=>?_);have key:=VF (h.below hb) (th:=0) (cl:=4) (kind:=12) (n:=60) (words:=60) (by omega) (by omega) (by omega) (by decide) (by omega) (by decide) (ZG0 (h.below hb) hl hx) (by decide) (by decide) (by rw [Qr.1];omega) (by omega) (j:=0) (by omega) (fun m hm=>by omega) (by show (0:Int)<=4;omega) rfl (by omega) (by simp) (by omega);refine key.mono ?_;rintro e w' ⟨he,F',hw,hm⟩;rw [show (⟨(pG false 0).line,(pG false 0).cl,(pG false 0).ow,true⟩:Plc)=⟨71,4,0,true⟩ from rfl,ZED,Qr.1] at hw;exact ⟨he,F',by unfold cC;rw [Qr.1];exact hw,(HMv.of_below hb).trans hm⟩
theorem ZGz (h:HW w A F 160 T0 (cC T0) x H false (pG true) ex rs1 hv1)(hl:H.l0=71/\H.ls=64):ZEf w A F 160 T0 (cC T0) x H false (pG true) ex rs1 hv1 0 4 64 (cC T0) x (pG true) pA 71:=by
 have hhn:H.n=2:=by unfold HAd.n;rw [hl.2]
 have hl0:=hl.1;have ho:HOK T0 (cC T0) 160 H (pG true) (ch1 kM):=ZKl (b:=true) hl ZH2 (ZEJ ZLO) (fun j hj=>by
  rcases (show j=0\/j=1 by omega) with rfl|rfl <;> exact ⟨rfl,rfl,rfl⟩)
 refine .inl ⟨rfl,rfl,rfl,fun w1 hb=>?_⟩;have hsel:Zx (pG true) ((0:Nat):Int) ((4:Nat):Int) H.n=[0]:=by rw [hhn];decide
 have key:=Qh (th:=0) (cl:=4) (h.below hb) ho (m:=0) (by rw [hsel];exact Nat.zero_lt_one) (fun i _ hi2=>by omega) (kind:=64) (P:=pA) (fun w2 hb2=>by
  simp only [hsel,ZLY,hl0];have:=ZBb ((h.below hb).below hb2).ar ((h.below hb).below hb2).hp ((h.below hb).below hb2).rm (line:=71) (k:=kM) (by omega) ZH2 (by decide) (i:=0) (j:=1) (by omega) (by decide) (by decide) (by decide) (by decide) (by decide) (kind:=64) (q:=pL) (by omega) (by decide) (by decide);rw [ZK0] at this;exact this)
 simp only [hsel,ZLY,hl0] at key;exact key
theorem ZGw (h:HW w A F 160 T0 (cC T0) x H false (pG true) ex rs1 hv1)(hl:H.l0=71/\H.ls=64)(hx:x<=900000)(hex:ex<=900000){db lg:Nat}(hd:DrW w A F H 0 db lg 640 1664):
 Calls prog 36 #[.pointer (some ⟨db,0,none⟩),.int .i64 (60:Nat),.int .u8 (64:Nat)] w fun e w'=>e=.returned (.tuple #[.int .u64 pA,.int .i64 0])/\ClP w A F 160 T0 (cA T0) (x+200) H false (pG true) (ex+1) rs2 hv2 w':=by
 have hhn:H.n=2:=by unfold HAd.n;rw [hl.2]
 refine UQ h hd (by omega) (by omega) (fun w1 ⟨F',_,h2⟩=>⟨F',h2⟩) (fun w1 hb=>?_);have key:=VF (h.below hb) (th:=0) (cl:=4) (kind:=64) (n:=60) (words:=60) (by omega) (by omega) (by omega) (by decide) (by omega) (by decide) (ZGz (h.below hb) hl) (by decide) (by decide) (by rw [Qr.2];omega) (by omega) (j:=0) (by omega) (fun m hm=>by omega) (by show (0:Int)<=4;omega) rfl (by omega) (by decide) (by omega);refine key.mono ?_;rintro e w' ⟨he,F',hw,hm⟩;rw [show (⟨(pG true 0).line,(pG true 0).cl,(pG true 0).ow,true⟩:Plc)=⟨71,4,0,true⟩ from rfl,ZED,Qr.2,show (hv1 71).getD 0+1=2 from rfl] at hw;exact ⟨he,F',by unfold cA;rw [Qr.2];exact hw,(HMv.of_below hb).trans hm⟩
theorem ZJ4:kM.Can [(0,12)] []:=⟨by decide,by decide,by decide,by decide,by decide⟩
theorem ZJ5:kN.Can [(1,64)] []:=⟨by decide,by decide,by decide,by decide,by decide⟩
def ZJd (l:List (Nat×Nat)):Bool:=decide ((l.map (·.1)).Nodup) && l.all fun p=>Nat.beq (p.1 % 8) 0 && Nat.blt p.1 10240 && (Nat.blt p.1 640 || Nat.ble 2304 p.1) && Nat.blt p.2 18446744073709551616
theorem ZEl {l:List (Nat×Nat)}(h:ZJd l=true):UP 160 640 1664 l:=by
 unfold ZJd at h;simp only [Bool.and_eq_true,List.all_eq_true,Bool.or_eq_true] at h;refine ⟨of_decide_eq_true h.1,fun p hp=>?_⟩;obtain ⟨⟨⟨h1,h2⟩,h3⟩,h4⟩:=h.2 p hp;exact ⟨ZL2 h1,Nat.le_of_ble_eq_true h2,h3.imp (fun q=>Nat.le_of_ble_eq_true q) (fun q=>Nat.le_of_ble_eq_true q),Nat.le_of_ble_eq_true h4⟩
def rs3:Nat->Option Nat:=Xl rs2 4616
def hv3:Nat->Option Nat:=YN hv2 71 1
theorem rs4:Xl rs3 5104=fun _=>none:=by
 funext n
 unfold rs3 rs2 rs1 Xl YN
 by_cases e1:n=5104 <;> by_cases e2:n=4616 <;> simp [e1,e2]
theorem hv4:Xl hv3 71=fun _=>none:=by
 funext n
 unfold hv3 hv2 hv1 Xl YN
 by_cases e1:n=71 <;> simp [e1]
theorem ZEz:∀ m,m < 2->(pG true m).line=71+32 * m:=fun m hm=>by
 rcases (show m=0\/m=1 by omega) with rfl|rfl <;> rfl
theorem ZD5:(l1 T0).length=6:=by kernel_rfl
theorem ZD6:(l2 T0).length=6:=by kernel_rfl
theorem ZJn (h:HW w A F 160 T0 (cA T0) x H false (pG true) ex rs2 hv2) (hl:H.l0=71/\H.ls=64) (hx:x<=900000) (hex:ex<=900000) {db lg:Nat} (hd:DrW w A F H 0 db lg 640 1664)
 {v:Value} (hv:Wrs w v (JG T0 0 478392707436 pL)) {tb tc:Nat} (ht:w.cell? ⟨tb,0,none⟩=some (.int .u64 (pL:Nat))) (htf:F tb=none/\¬ H.own tb):
 Calls prog 38 #[.pointer (some ⟨db,0,none⟩),v,.slice (some ⟨tb,0,none⟩) 1 tc,.slice none 0 0] w fun e w'=>e=.returned (.int .i64 0)/\ClP w A F 160 T0 (cP T0) (x+60) H false (pG true) (ex+1) rs3 hv3 w':=by
 obtain ⟨Hhb,Hsb,Hpb,Hrb,Hvb,Ht,Hl0,Hls,Hcap,Hx0⟩:=H;obtain ⟨e1,e2⟩:=hl;have e1:Hl0=71:=e1;have e2:Hls=64:=e2;subst e1 e2
 have key:=JI (tc:=tc) h hd (by omega) (by omega) ZHx.2.1 (m:=0) (by show 0 < 64 / 32;decide) (by show 71+32 * 0+32<=160;omega) (k:=kM) ZKK (by decide) (b:=0) (kd:=12) (P:=pL) (by decide) (by show ZP pL=kM.pay 71 0;decide) (by decide) (by decide) (by decide) (by decide) (by decide) ZJ4 ht htf
  (fun m hm=>ZEz m (by have hm:m < 64 / 32:=hm;omega)) (by show (0:Int)<=4;omega) (by show 64 * 71<=ZP pL;decide) (by show ZP pL < 64 * 71+2048;decide) (g:=1) (by show hv2 71=some (1+1);decide) (by omega) (by omega) hv (by decide) (by show (l1 T0).length<=96;rw [ZD5];decide) (by show 64+16 * (l1 T0).length<=1664;rw [ZD5];decide) (show UP 160 640 1664 (l1 T0) from ZEl (by kernel_rfl)) (x':=x+60) (by show x+6 * (l1 T0).length+8<=x+60;rw [ZD5];omega) (by omega)
 exact key
theorem ZJm (h:HW w A F 160 T0 (cP T0) x H false (pG true) ex rs3 hv3) (hl:H.l0=71/\H.ls=64) (hx:x<=900000) (hex:ex<=900000) {db lg:Nat} (hd:DrW w A F H 0 db lg 640 1664)
 {v:Value} (hv:Wrs w v (JG T0 1 125822818283105 pA)) {tb tc:Nat} (ht:w.cell? ⟨tb,0,none⟩=some (.int .u64 (pA:Nat))) (htf:F tb=none/\¬ H.own tb):
 Calls prog 38 #[.pointer (some ⟨db,0,none⟩),v,.slice (some ⟨tb,0,none⟩) 1 tc,.slice none 0 0] w fun e w'=>e=.returned (.int .i64 0)/\ClP w A F 160 T0 cw0 (x+60) H false (plc kF) (ex+1) (fun _=>none) (fun _=>none) w':=by
 obtain ⟨Hhb,Hsb,Hpb,Hrb,Hvb,Ht,Hl0,Hls,Hcap,Hx0⟩:=H;obtain ⟨e1,e2⟩:=hl;have e1:Hl0=71:=e1;have e2:Hls=64:=e2;subst e1 e2
 have key:=JI (tc:=tc) h hd (by omega) (by omega) ZHx.2.2 (m:=0) (by show 0 < 64 / 32;decide) (by show 71+32 * 0+32<=160;omega) (k:=kN) ZKM (by decide) (b:=1) (kd:=64) (P:=pA) (by decide) (by show ZP pA=kN.pay 71 1;decide) (by decide) (by decide) (by decide) (by decide) (by decide) ZJ5 ht htf
  (fun m hm=>ZEz m (by have hm:m < 64 / 32:=hm;omega)) (by show (0:Int)<=4;omega) (by show 64 * 71<=ZP pA;decide) (by show ZP pA < 64 * 71+2048;decide) (g:=0) (by show hv3 71=some (0+1);decide) (by omega) (by omega) hv (by decide) (by show (l2 T0).length<=96;rw [ZD6];decide) (by show 64+16 * (l2 T0).length<=1664;rw [ZD6];decide) (show UP 160 640 1664 (l2 T0) from ZEl (by kernel_rfl)) (x':=x+60) (by show x+6 * (l2 T0).length+8<=x+60;rw [ZD6];omega) (by omega)
 refine key.mono ?_;rintro e w' ⟨he,F',hw,hm⟩;have hp:Qz (pG true) 0 0=plc kF:=by
  unfold Qz;rw [ZLX rfl,show (⟨(pG true 0).line,(pG true 0).cl,(pG true 0).ow,false⟩:Plc)=⟨71,4,0,false⟩ from rfl,ZED,ZHi]
 have hr:Xl rs3 (ZP pA)=fun _=>none:=by rw [Qr.2];exact rs4
 have hv:J3 hv3 71 0=fun _=>none:=by unfold J3;rw [ZLX rfl];exact hv4
 refine ⟨he,F',?_,hm⟩;have hw2:=hw;rw [hp,hr] at hw2;have e:J3 hv3 ((HAd.mk Hhb Hsb Hpb Hrb Hvb Ht 71 64 Hcap Hx0).l0+32 * 0) 0=fun _=>none:=hv
 rw [e] at hw2;exact hw2
end
end Go.Proofs.YtbpeehmepehkdaaGreatDoor.Dv
