/- Part 44. -/
import Derived.Test.YtbpeehmepehkdaaGreatDoorY43
set_option maxHeartbeats 8000000
set_option maxRecDepth 20000
set_option linter.all false
namespace Go.Proofs.YtbpeehmepehkdaaGreatDoor.Dv
open Tryz
section
open Go.RowKit Go.Proofs.YtbpeehmepehkdaaGreatDoor.Size
variable {w w':World}{A:DAd}{F F':Nat->Option ZM}{T c c' c0:Nat->Nat}{x x':Nat}{H:HAd}{ex n:Nat}{s:LS}{B:WAd}{fv iv:Value}
theorem ZAt {i P:Nat}(hi:i < 40)(hP:P < 18446744073709551616):((YV i P).map (·.1)).Nodup/\∀ p∈YV i P,p.1 % 8=0/\2304<=p.1/\p.1 < 6592/\p.2 < 18446744073709551616:=by
 unfold YV;refine ⟨by simp,fun p hp=>?_⟩;simp only [ZLt] at hp;subst hp;exact ⟨by simp only;omega,by simp only;omega,by simp only;omega,hP⟩
theorem ZAf {α:Type}(a:Nat)(v:α):Xl (YN (fun _=>none) a v) a=fun _=>none:=by
 rw [ZAe];funext y;unfold Xl;by_cases e:y=a <;> simp [e]
theorem UV (s:LS)(i:Nat):(s.mk0 i).lp=upd s.lp i s.np/\(s.mk0 i).now=s.now/\(s.mk0 i).ann=s.ann/\(s.mk0 i).fr=s.fr/\(s.mk0 i).its=s.its:=by
 obtain ⟨e1,e2,e3,e4,e5,e6,_⟩:=QV s;exact ⟨by show upd s.clm.lp i s.np=_;rw [e1],e5,e6,e4,e3⟩
theorem ZEb {wx:World} (h:WC w A F T c x H ex B c0 s) (hi:s.Inv n) (hn:n<=50) (hx:x<=900000) (hex:ex<=900000) {i:Nat} (hi40:i < 40) (hr:ZGp A F T x H ex c0 s w w') (hb:Bl w' wx)
 {v:Value} (hv:Wrs wx v [(8 * (638+i),s.np)]) {tb tc:Nat} (ht:wx.cell? ⟨tb,0,none⟩=some (.int .u64 (s.np:Nat))) (htb:w'.heap.size<=tb):
 Calls prog 38 #[.pointer (some ⟨B.db,0,none⟩),v,.slice (some ⟨tb,0,none⟩) 1 tc,.slice none 0 0] wx fun e w2=>e=.returned (.int .i64 0)/\∃ F2 c2,WC w2 A F2 T c2 (x+800) H (ex+2) B c0 (s.mk0 i)/\HMv F F2 H w w2:=by
 obtain ⟨F1,c1,x1,hx1,hw,hm,hrep⟩:=hr;obtain ⟨hc,h1,h2⟩:=hi.clm;have hK:=hrep.head;obtain ⟨f1,f2,f3,f4⟩:=hc.fj (by omega) h1;obtain ⟨_,hin,hof,hkd⟩:=ZJe hi (by omega) hK;have hhn:=h.hn;have hl0:=h.l0.1;have e103:H.l0+32 * 1=103:=by omega
 have hR:=hrep.rep 1 (by omega);rw [XF] at hR;have hcan:s.clm.k.Can [(s.clm.fj,65)] []:=ZDJ (by rw [Xd h1];exact f1) f4;have hal:(YV i s.np++ZR T 103 s.clm.k [(s.clm.fj,65)] []).length=3:=by rw [ZLc,XC];rfl
 have hP64:s.np < 18446744073709551616:=by have:=hin.ok.lt;omega
 have hcm:=ZB3 (T:=T) hK h1 hcan (hc.gens (by omega)) h.hw.sealed_lt (ZAt hi40 hP64).1 (ZAt hi40 hP64).2;have hplc:∀ m,m < H.n->(Xo (plc s.clm.k) 1 ⟨103,0,0,true⟩ m).line=H.l0+32 * m:=fun m hm=>by
  rw [hhn] at hm;rw [hl0];rcases (show m=0\/m=1 by omega) with rfl|rfl <;> rfl
 have key:=JI (x':=x+800) (hw.below hb) ((h.dr.moved hm).below hb) (by omega) (by omega) hrep.log (m:=1) (by omega) (by omega) (by rw [e103];exact hR) (by omega) (b:=s.clm.fj) (kd:=65) (P:=s.np) (by rw [Xd h1];exact f1) (by rw [e103,hof,ZE0 h1]) hkd (by omega) hin.ok.ne hin.ok.lt (by simp [YN]) hcan
  (tc:=tc) ht ⟨hw.new htb,(hw.newf htb).o⟩ hplc (by show (0:Int)<=0;omega) (by rw [e103];exact hin.lo) (by rw [e103];exact hin.hi) (g:=0) (by rw [e103];simp [YN]) (by omega) (by omega) (lw:=YV i s.np) hv (by simp [YV]) (by rw [e103,hal];omega) (by rw [e103,hal];omega) (by rw [e103];exact hcm) (by rw [e103,hal];omega) (by omega)
 rw [e103] at key;refine key.mono ?_;rintro e w2 ⟨he,F2,hw2,hm2⟩;have hfin:=hrep.make h1 hi40 (P:=s.np) (v:=cmV T (YV i s.np++ZR T 103 s.clm.k [(s.clm.fj,65)] [])) f1 f4;refine ⟨he,F2,wrs c1 (cmL 640 (cmV T (YV i s.np++ZR T 103 s.clm.k [(s.clm.fj,65)] [])) (YV i s.np++ZR T 103 s.clm.k [(s.clm.fj,65)] [])).flatten,h.moved (s':=s.mk0 i) (x':=x+800) (ex':=ex+2) ?_ ((hm.trans (HMv.of_below hb)).trans hm2) hfin ⟨(UV s i).2.1,(UV s i).2.2.1⟩,(hm.trans (HMv.of_below hb)).trans hm2⟩;have e1:Qz (Xo (plc s.clm.k) 1 ⟨103,0,0,true⟩) 1 0=plc (s.mk0 i).k:=by
  funext j
  unfold Qz;rw [ZLX rfl]
  by_cases e:j=1
  ·subst e
   show (⟨103,0,0,false⟩:Plc)=⟨103,s.clm.k.cl,s.clm.k.ow,false⟩;rw [h1,h2]
  ·rw [Qu _ _ e,Qu _ _ e]
   unfold plc;rw [ZLU e,ZLU e]
 have e2:J3 (YN (fun _=>none) 103 (1:Nat)) 103 0=fun _=>none:=by unfold J3;rw [ZLX rfl];exact ZAf _ _
 rw [e1,e2,ZAf] at hw2;exact hw2
theorem ZJu (h:WC w A F T c x H ex B c0 s)(hr:WR w F H B s fv iv){a b d:Int}(hk:ZX a 7=0)(h0:s.lp (ZX b 40)≠0):
 Calls prog 11 #[.pointer (some ⟨B.wb,0,none⟩),.agg #[.int .i64 a,.int .i64 b,.int .i64 d]] w fun e w'=>e=.returned (.bool true)/\DoP A T H B c0 x ex s w':=by
 have HM1:=zh (fun (w1:World)=>show Calls _ _ _ w1 _ from (Zh (w:=w1) (a:=b) (n:=40) (by omega)));have HM2:=zh (fun (w1:World)=>show Calls _ _ _ w1 _ from (Zh (w:=w1) (a:=d) (n:=8) (by omega)));have HM3:=zh (fun (w1:World)=>show Calls _ _ _ w1 _ from (Zh (w:=w1) (a:=a) (n:=7) (by omega)));rw [hk] at HM3;have hi40:ZX b 40 < 40:=Z4 (by omega) rfl;obtain ⟨i,hie⟩:=xE (ZX b 40);obtain ⟨t,hte⟩:=xE (ZX d 8);rw [<-hie] at HM1 hi40 h0;rw [<-hte] at HM2;obtain ⟨p,hp⟩:=xE (s.lp i);have HNI:=zh (fun (w1:World)=>show Calls prog 15 #[.int .u64 p] w1 (fun e w'=>e=.returned (.bool false)/\w1=w') from by
  have:=Zd (w:=w1) (p:=p);rw [show decide (p=0)=false by simp [hp,h0]] at this;exact this)
 have HH:=zh h;have HR:=zh hr;have b40:(i:Int) < 40:=by omega
 have HI:=zh hi40;have HP:=zh hp;clear hk h hr h0 hie hte hi40 hp;go_in;go_upto_region 1 with fail;obtain ⟨w0,hw0⟩:=xE (w.alloc (.cells #[.int .i64 a,.int .i64 b,.int .i64 d] 28));have hb0:Bl w w0:=by rw [hw0];exact ZA bR
 have hx0:w0.heap[w.heap.size]?=some (.cells #[.int .i64 a,.int .i64 b,.int .i64 d] 28 (0,0)):=by rw [hw0];exact ZC _ _
 rw [<-hw0];obtain ⟨a0,a1,a2,_⟩:=ZY hx0;clear hw0;have HR0:=zh (Below.refl w0.heap.size w0)
 go_region_held3 (fun wx=>wx.cell? ⟨w.heap.size,1,none⟩=some (.int .i64 b)/\wx.cell? ⟨w.heap.size,2,none⟩=some (.int .i64 d))
  (first|assumption|exact ⟨a1,a2⟩)
  (first
    |(refine ZF rfl func26 rfl rfl rfl (HM1.o _) (by first|(simp [Act.eval];done)|(simp [Act.eval];rfl)) ?_;rintro e' V2 ⟨rfl,rfl⟩;refine ⟨_,rfl,?_⟩)
    |(refine ZF rfl func26 rfl rfl rfl (HM2.o _) (by first|(simp [Act.eval];done)|(simp [Act.eval];rfl)) ?_;rintro e' V2 ⟨rfl,rfl⟩;refine ⟨_,rfl,?_⟩))
 have hb1:Bl w w0.drew:=ZB hb0;have hx1:w0.drew.heap[w.heap.size]?=_:=hx0;obtain ⟨w1,hw1⟩:=xE w0.drew;rw [<-hw1] at hb1 hx1 ⊢;clear hw1 a0 a1 a2 hx0 hb0;obtain ⟨a0,a1,a2,_⟩:=ZY hx1;go_wp2_with fail;refine (HM3.o _).mono ?_;rintro e w' ⟨rfl,rfl⟩;have HB1:=zh hb1;have z4:=(HR.o.below hb1).lp (i:=i) HI.o;rw [<-HP.o] at z4;clear hb1 hx1 a0 a1 a2;have HE:=zh (DoP.of (x:=x) (ex:=ex) (HH.o.below HB1.o) (HR.o.below HB1.o));go_wp2_with fail;refine (HNI.o _).mono ?_;rintro e' w' ⟨rfl,rfl⟩;go_wp2;go_returns;exact ⟨rfl,HE.o⟩
theorem ZIe (h:WC w A F T c x H ex B c0 s)(hr:WR w F H B s fv iv)(hi:s.Inv n)(hn:n<=50)(hx:x<=900000)(hex:ex<=900000){a b d:Int}(hk:ZX a 7=0)(h0:s.lp (ZX b 40)=0):
 Calls prog 11 #[.pointer (some ⟨B.wb,0,none⟩),.agg #[.int .i64 a,.int .i64 b,.int .i64 d]] w fun e w'=>e=.returned (.bool true)/\DoP A T H B c0 x ex (s.mk0 (ZX b 40)) w':=by
 have HM1:=zh (fun (w1:World)=>show Calls _ _ _ w1 _ from (Zh (w:=w1) (a:=b) (n:=40) (by omega)));have HM2:=zh (fun (w1:World)=>show Calls _ _ _ w1 _ from (Zh (w:=w1) (a:=d) (n:=8) (by omega)));have HM3:=zh (fun (w1:World)=>show Calls _ _ _ w1 _ from (Zh (w:=w1) (a:=a) (n:=7) (by omega)));rw [hk] at HM3;have hi40:ZX b 40 < 40:=Z4 (by omega) rfl;obtain ⟨i,hie⟩:=xE (ZX b 40);obtain ⟨t,hte⟩:=xE (ZX d 8);rw [<-hie] at HM1 hi40 h0 ⊢;rw [<-hte] at HM2;have HNI:=zh (fun (w1:World)=>show Calls prog 15 #[.int .u64 (0:Nat)] w1 (fun e w'=>e=.returned (.bool true)/\w1=w') from by
  have:=Zd (w:=w1) (p:=0);simpa using this)
 obtain ⟨p,hp⟩:=xE s.np;have HAL:=zh (fun (wx:World) (hb:Bl w wx)=>show Calls prog 36 #[.pointer (some ⟨B.db,0,none⟩),.int .i64 3,.int .u8 65] wx (fun e w'=>e=.returned (.tuple #[.int .u64 p,.int .i64 0])/\ZGp A F T x H ex c0 s wx w') from by
  rw [hp];exact ZIP (h.below hb) hi hn hx hex)
 obtain ⟨O,hO⟩:∃ O:Nat,O=ZP pA+8 * i:=⟨_,rfl⟩
 have hO2:O=8 * (638+i):=by rw [hO,show ZP pA=5104 from Jp.2.1];omega
 have HLK:=zh (fun (wx:World) (F2:Nat->Option ZM) (hb:WR wx F2 H B s fv iv)=>Us (v:=p) hb.three (by decide) (by decide) (show i < 60 by omega));rw [<-hO] at HLK
 have HPB:=zh (fun (w1 w2 wx:World) (hb:Bl w w1) (hq:ZGp A F T x H ex c0 s w1 w2) (hb2:Bl w2 wx) (vb tb:Nat) (hv:Seen wx vb 0 [.int .u64 (O:Nat),.int .u64 (p:Nat)]) (ht:wx.cell? ⟨tb,0,none⟩=some (.int .u64 (p:Nat))) (htb:w2.heap.size<=tb)=>
  ZEb (h.below hb) hi hn hx hex hi40 hq hb2 (v:=.slice (some ⟨vb,0,none⟩) 1 1) (.inr ⟨_,_,_,rfl,by rw [<-hO2,<-hp];exact hv⟩) (tc:=1) (by rw [<-hp];exact ht) htb)
 have HH:=zh h;have HR:=zh hr;have b40:(i:Int) < 40:=by omega
 have HI:=zh hi40;have HP:=zh hp;have HL0:=zh h0;clear hk h hr h0 hie hte hi40 hp hO hO2 hi hex hx;go_in;go_upto_region 1 with fail;obtain ⟨w0,hw0⟩:=xE (w.alloc (.cells #[.int .i64 a,.int .i64 b,.int .i64 d] 28));have hb0:Bl w w0:=by rw [hw0];exact ZA bR
 have hx0:w0.heap[w.heap.size]?=some (.cells #[.int .i64 a,.int .i64 b,.int .i64 d] 28 (0,0)):=by rw [hw0];exact ZC _ _
 rw [<-hw0];obtain ⟨a0,a1,a2,_⟩:=ZY hx0;clear hw0;have HR0:=zh (Below.refl w0.heap.size w0)
 go_region_held3 (fun wx=>wx.cell? ⟨w.heap.size,1,none⟩=some (.int .i64 b)/\wx.cell? ⟨w.heap.size,2,none⟩=some (.int .i64 d))
  (first|assumption|exact ⟨a1,a2⟩)
  (first
    |(refine ZF rfl func26 rfl rfl rfl (HM1.o _) (by first|(simp [Act.eval];done)|(simp [Act.eval];rfl)) ?_;rintro e' V2 ⟨rfl,rfl⟩;refine ⟨_,rfl,?_⟩)
    |(refine ZF rfl func26 rfl rfl rfl (HM2.o _) (by first|(simp [Act.eval];done)|(simp [Act.eval];rfl)) ?_;rintro e' V2 ⟨rfl,rfl⟩;refine ⟨_,rfl,?_⟩))
 have hb1:Bl w w0.drew:=ZB hb0;have hx1:w0.drew.heap[w.heap.size]?=_:=hx0;obtain ⟨w1,hw1⟩:=xE w0.drew;rw [<-hw1] at hb1 hx1 ⊢;clear hw1 a0 a1 a2 hx0 hb0;obtain ⟨a0,a1,a2,_⟩:=ZY hx1;go_wp2_with fail;refine (HM3.o _).mono ?_;rintro e w' ⟨rfl,rfl⟩;have HB1:=zh hb1;have z4:=(HR.o.below hb1).lp (i:=i) HI.o;rw [HL0.o] at z4;have z1:=(HR.o.below hb1).one;clear hb1 hx1 a0 a1 a2;go_wp2_with fail;refine (HNI.o _).mono ?_;rintro e' w' ⟨rfl,rfl⟩;go_wp2_with fail;refine (HAL.o _ HB1.o).mono ?_;rintro e' w2 ⟨rfl,hrp⟩;have HRP:=zh hrp;obtain ⟨F2,c2,x2,hx2,hw2,hm2,hrep2⟩:=hrp;have HR2:=zh ((HR.o.below HB1.o).moved hm2);have z1:=HR2.o.one;have HBR:=zh (Below.refl w2.heap.size w2);have HZ:=zh (fun (wx:World) (hb:Bl w2 wx)=>(HR2.o.below hb).one);clear hx2 hw2 hm2 hrep2 z4;go_upto_region 14 with fail
 go_region_held3 (fun wx=>wx.cell? ⟨B.wb,1,none⟩=some (.pointer (some ⟨B.db,0,none⟩)))
  (first|exact hsx|exact HZ.o _ (by repeat (with_reducible first|assumption|exact HBR.o|apply ZA|apply ZB)))
  (first
    |(refine ZF rfl func21 rfl rfl rfl (HLK.o _ F2 (HR2.o.below (by repeat (with_reducible first|exact HBR.o|apply ZA|apply ZB)))) (by first|(simp [Act.eval];done)|(simp [Act.eval];rfl)) ?_;rintro e' V2 ⟨rfl,rfl⟩;refine ⟨_,rfl,?_⟩)
    |(refine ZF rfl func38 rfl rfl rfl (HPB.o _ _ _ HB1.o HRP.o (by repeat (with_reducible first|exact HBR.o|apply ZA|apply ZB)) _ _ (by first|exact Yp _ _ _ _|exact (Yp w2 _ _ _).below (ZB (ZA bR)) nR|exact (Yp (w2.alloc (.cells #[.int .u64 (p:Nat)] 32)) _ _ _).below (ZB bR) nR) (by first|exact Yn rfl|exact Zl (ZA bR) (Yn rfl)|exact Zl (ZB (ZA bR)) (Yn (w:=w2) rfl)) (by simp)) (by first|(simp [Act.eval];done)|(simp [Act.eval];rfl)) ?_;rintro e' V3 ⟨rfl,F3,c3,hW3,hm3⟩;refine ⟨_,rfl,?_⟩;have hR3:=(HR.o.below HB1.o).moved hm3;have hsx:=hR3.one))
 all_goals
  have HW3:=zh hW3;have HR3:=zh hR3;have z4:=HR3.o.cells (i:=4+i) (by have:=HI.o;omega);have f:=HR3.o.free;clear hW3 hm3 hR3 hsx
  have HE:=zh (show DoP A T H B c0 x ex (s.mk0 i) (V3.setCell ⟨B.wb,4+i,none⟩ (.int .u64 (p:Nat))) from
   ⟨F3,c3,x+800,ex+2,fv,iv,by omega,by omega,HW3.o.setw HR3.o.row HR3.o.fw _,HR3.o.link HI.o p (by rw [HP.o];exact (UV s i).1) ⟨(UV s i).2.1,(UV s i).2.2.1,(UV s i).2.2.2.1,(UV s i).2.2.2.2⟩⟩)
  go_wp2;go_returns;exact ⟨rfl,HE.o⟩
theorem J5 {P:Program} {ops:Array Oper} {o:Oper} {a:Act} {K:Act->World->Prop} {Q:Exit->Act->World->Prop} {B:Prop} {W:World} {t e:TypeId} {size bytes:Nat} (E:El P t e size bytes) (hgd:o.guard=none) (s x:Operand)
 (ho:o.op=.call {callee:=.builtin .append,args:=#[s,x],argTypes:=#[t,t]}) {base:Nat} {v:Value} {n:Nat} {xs:List Value} (cs:Array Value) (hown:W.ownsRow base e size v n xs)
 {N:Nat} (hs:a.eval s=v) (hx:a.eval x=.slice (some ⟨N,0,none⟩) 1 1) (hcs:cs.size=size) (hc:∀ j u,cs.toList[j]?=some u->W.cell? ⟨N,j,none⟩=some u) (h1:∀ u∈cs.toList,u.oneCell'=true) (h63:n+1<=maxLen) (hbytes:(n+1) * bytes<=140737488355328) (hbase:base<=W.heap.size)
 (h:∀ g cap w',w'.ownsRow base e size (.slice (some ⟨g,0,none⟩) (n+1) cap) (n+1) (xs++cs.toList)->W.grownBy w' v.ownBlock->(v.ownBlock=some g\/W.heap.size<=g)->K (a.put o.dst (.slice (some ⟨g,0,none⟩) (n+1) cap)) w'):
 if Region.wanted o (yielded ops a.tmps)=true then Oper.wp P o a W K Q else B:=by
 have hw:Region.wanted o (yielded ops a.tmps)=true:=by simp [Region.wanted,hgd]
 rw [ZLX hw];obtain ⟨g,cap,w',hrun,how,hgr,hg⟩:=Zo (w:=W) E hown ⟨N,0,none⟩ 1 1 cs.toList (by simpa using hcs) (fun j u hj=>by
  rw [Addr.add_lit,ZLu];exact hc j u hj) h1 (by omega) h63 hbytes hbase
 have hK:=h g cap w' how hgr hg;have hr:=hrun o.type;unfold Oper.wp;simp [execOp,ho,resolve,invoke,builtin,hs,hx,hr,Result.andThen];exact hK
theorem UW {row:Option Nat}(hg:w.grownBy w' row):Only (fun k=>row=some k) w w':=⟨hg.os,hg.tape,hg.output,hg.size,fun i hi hn=>hg.block i hi (fun e=>hn e.symm)⟩
theorem WC.grown {v:Value}{m:Nat}{xs:List Value}(h:WC w A F T c x H ex B c0 s)(ho:OwF w F H 32 1 v m xs)(hg:w.grownBy w' v.ownBlock):WC w' A F T c x H ex B c0 s:=by
 have hy:=UW hg;have hb:∀ {b:Nat} {a:Array Value} {e:TypeId},w.heap[b]?=some (.cells a e (0,0))->32≠e->w'.heap[b]?=w.heap[b]?:=fun {b a e} hb he=>hy.block b (heap_lt hb) (Zt ho.1 hb he)
 exact {h with hw:=h.hw.only hy (fun k _ hk=>(ho.2 k hk).1),dr:=⟨(hb h.dr.dr (by decide)).trans h.dr.dr,(hb h.dr.lg (by decide)).trans h.dr.lg,h.dr.t,h.dr.fd,h.dr.fl⟩,ck:=(hb h.ck (by decide)).trans h.ck,li:=(hb h.li (by decide)).trans h.li,po:=(hb h.po (by decide)).trans h.po,rt:=(hb h.rt (by decide)).trans h.rt,xb:=Zz h.xb hy h.x0 (fun k _ q=>(ho.2 k q).2),xt:=h.xt.only hy (fun p hp q=>by
  rcases ho.1.2 with ⟨rfl,_⟩|⟨g,cap,cur,rfl,_,hbl,_⟩
  ·simp [Value.ownBlock] at q
  ·have hg2:=(ho.2 g rfl).2
   cases q;exact h.xt.ne hp hbl hg2 (by decide) rfl)}
theorem ZCr {v u:Value}{m q z B1 B2:Nat}{e e':TypeId}{xs ys:List Value}(ho:w.ownsRow B1 e 1 v m xs)(hu:w.ownsRow B2 e' z u q ys)(he:e≠e')(hg:w.grownBy w' v.ownBlock):w'.ownsRow B2 e' z u q ys:=by
 refine XH hu (UW hg) (fun k hk=>?_);rcases hu.2 with ⟨rfl,_⟩|⟨g,cap,cur,rfl,_,hb,_⟩
 ·simp [Value.ownBlock] at hk
 ·cases hk
  exact Zt ho hb he
theorem WR.push {L:Nat}(h:WR w F H B s fv iv)(hL:L=s.fr.length)(hg:w.grownBy w' fv.ownBlock){g cap p:Nat}(how:w'.ownsRow 0 32 1 (.slice (some ⟨g,0,none⟩) (L+1) cap) (L+1) (ptl s.fr++[.int .u64 p]))(hgF:Frn F H g/\H.x0<=g){s':LS}(hs:s'.lp=s.lp/\s'.now=s.now/\s'.ann=s.ann/\s'.its=s.its/\s'.fr=s.fr++[p]):
 WR (w'.setCell ⟨B.wb,44,none⟩ (.slice (some ⟨g,0,none⟩) (L+1) cap)) F H B s' (.slice (some ⟨g,0,none⟩) (L+1) cap) iv:=by
 subst hL;obtain ⟨e1,e2,e3,e4,e5⟩:=hs;obtain ⟨cw,hcw,_⟩:=h.row;have hrow:Row w' B.wb 46 55 (wwC B s fv iv):=h.row.of_block ((UW hg).block _ h.row.lt (Zt h.fre.1 hcw (by decide)));have hwC:∀ y,wwC B s' (.slice (some ⟨g,0,none⟩) (s.fr.length+1) cap) iv y=if y=44 then .slice (some ⟨g,0,none⟩) (s.fr.length+1) cap else wwC B s fv iv y:=fun y=>by
  rw [<-ZKV (fv:=fv)];unfold wwC;rw [e1,e2,e3]
 have hown:OwF w' F H 32 1 (.slice (some ⟨g,0,none⟩) (s.fr.length+1) cap) (s.fr.length+1) (ptl (s.fr++[p])):=⟨by rw [Qw];exact how,fun k hk=>by cases hk;exact hgF⟩
 have hit:OwF w' F H 54 2 iv s.its.length (rcl s.its):=⟨ZCr h.fre.1 h.ite.1 (by decide) hg,h.ite.2⟩
 exact {row:=(hrow.set 44 _).congr fun y _=>hwC y,fre:=by rw [e5,ZLc];exact hown.setw hrow (by decide) _,ite:=by rw [e4];exact hit.setw hrow (by decide) _,fw:=h.fw}
theorem WR.same (h:WR w F H B s fv iv){s':LS}(hs:s'.lp=s.lp/\s'.now=s.now/\s'.ann=s.ann/\s'.its=s.its/\s'.fr=s.fr):WR w F H B s' fv iv:=by
 obtain ⟨e1,e2,e3,e4,e5⟩:=hs;exact ⟨h.row.congr fun y _=>by unfold wwC;rw [e1,e2,e3],by rw [e5];exact h.fre,by rw [e4];exact h.ite,h.fw⟩
theorem ZHh {wb i B1:Nat}{e:TypeId}{z n m:Nat}{v:Value}{xs:List Value}{f:Nat->Value}(h:w.ownsRow B1 e z v n xs)(hr:Row w wb 46 m f)(he:e≠46)(u:Value):(w.setCell ⟨wb,i,none⟩ u).ownsRow B1 e z v n xs:=
 XH h ((Only.refl (fun k=>k=wb) w).set (F:=fun k=>k=wb) rfl u) (fun k hk q=>by
  have q:k=wb:=q;rw [q] at hk;obtain ⟨c,hc,_⟩:=hr;exact Zt h hc he hk)
def ColS (A:DAd)(T:Nat->Nat)(H:HAd)(B:WAd)(c0:Nat->Nat)(x ex:Nat)(s s1:LS)(flt:List (Nat×Nat))(fs:Value)(k:Nat)(wr:World):Prop:=
 ∃ F' c' x' fv' iv',x'<=x+400/\WC wr A F' T c' x' H ex B c0 s1/\WR wr F' H B {s with its:=s.its.filter (fun y=>!s.sf y),fr:=s.fr++(flt.take k).map (·.1)} fv' iv'/\wr.ownsRow 0 54 2 fs flt.length (rcl flt)
theorem ColS.below {s1:LS}{flt:List (Nat×Nat)}{fs:Value}{k:Nat}(h:ColS A T H B c0 x ex s s1 flt fs k w)(hb:Bl w w'):ColS A T H B c0 x ex s s1 flt fs k w':=by
 obtain ⟨F',c',x',fv',iv',h1,h2,h3,h4⟩:=h;exact ⟨F',c',x',fv',iv',h1,h2.below hb,h3.below hb,ZO h4 hb⟩
theorem ZId {s1:LS} {sv gv:Value} {M N:Nat} {xs ys:List Value} (hC:WC w A F T c x H ex B c0 s) (hR:WR w F H B s fv iv) (h1:OwF w F H 54 2 sv M xs) (h2:OwF w F H 54 2 gv N ys) (hs1:s1=if s.frees=[] then s else s.collect)
 (hq:s.frees=[]/\Bl w w'\/s.frees≠[]/\∃ F' c',WC w' A F' T c' (x+400) H ex B c0 s.collect/\HMv F F' H w w'):∃ F' c' x',x'<=x+400/\WC w' A F' T c' x' H ex B c0 s1/\WR w' F' H B s fv iv/\OwF w' F' H 54 2 sv M xs/\OwF w' F' H 54 2 gv N ys:=by
 rcases hq with ⟨h0,hb⟩|⟨h0,F2,c2,hw,hm⟩
 ·rw [ZLX h0] at hs1;subst hs1
  exact ⟨F,c,x,by omega,hC.below hb,hR.below hb,h1.below hb,h2.below hb⟩
 ·rw [ZLU h0] at hs1;subst hs1
  exact ⟨F2,c2,x+400,by omega,hw,hR.moved hm,h1.moved hm,h2.moved hm⟩
theorem do2 (h:WC w A F T c x H ex B c0 s)(hr:WR w F H B s fv iv)(hi:s.Inv n)(hn:n<=50)(hx:x<=900000){a b d:Int}(hk:ZX a 7=2):
 Calls prog 11 #[.pointer (some ⟨B.wb,0,none⟩),.agg #[.int .i64 a,.int .i64 b,.int .i64 d]] w fun e w'=>e=.returned (.bool true)/\DoP A T H B c0 x ex (s.stp 2 (ZX b 40) (ZX d 8)) w':=by
 have HM1:=zh (fun (w1:World)=>show Calls _ _ _ w1 _ from (Zh (w:=w1) (a:=b) (n:=40) (by omega)));have HM2:=zh (fun (w1:World)=>show Calls _ _ _ w1 _ from (Zh (w:=w1) (a:=d) (n:=8) (by omega)));have HM3:=zh (fun (w1:World)=>show Calls _ _ _ w1 _ from (Zh (w:=w1) (a:=a) (n:=7) (by omega)));rw [hk] at HM3;have est:s.stp 2 (ZX b 40) (ZX d 8)=if s.frees=[] then s else s.collect:=rfl
 rw [est];obtain ⟨i,hie⟩:=xE (ZX b 40);obtain ⟨t,hte⟩:=xE (ZX d 8);rw [<-hie] at HM1;rw [<-hte] at HM2;have hlen:s.its.length<=60:=by
  have h1:=hi.ok.per.length_eq;have h2:=hi.en;have h3:(full s.en).length<=s.en.length:=ZL0 _ _;omega
 have hfrl:s.fr.length<=60:=by have:=hi.ok.fl;have:=hi.nr;omega
 have hfe:=hi.ok.frees_len;obtain ⟨s1,hs1⟩:=xE (if s.frees=[] then s else s.collect);rw [<-hs1];obtain ⟨flt,hflt⟩:=xE (s.its.filter s.sf);obtain ⟨N,hN⟩:=xE flt.length;have HNL:=zh (show N<=60 by rw [hN,hflt];exact ZLi (ZL0 _ _) hlen);have HNE:=zh hN;rw [<-hflt,<-hN] at hfe;have HCO:=zh (fun (wx:World) (hq:Rit wx iv s.its)=>ZBq (w:=wx) hq (by omega) (now:=s.now) (an:=s.ann));have HWC:=zh (fun (wx:World) (hb:Bl w wx)=>ZEa (h.below hb) hi hn hx);have HEND:=zh (show s1.lp=s.lp/\s1.now=s.now/\s1.ann=s.ann/\s1.its=s.its.filter (fun y=>!s.sf y)/\s1.fr=s.fr++flt.map (·.1) from by
  rw [hs1,hflt]
  by_cases e:s.frees=[]
  ·rw [ZLX e]
   obtain ⟨h1,h2⟩:=hi.ok.frees_nil e;exact ⟨rfl,rfl,rfl,h2.symm,by rw [h1];simp⟩
  ·rw [ZLU e]
   exact ⟨rfl,rfl,rfl,rfl,rfl⟩)
 obtain ⟨ia,ic,hia⟩:=ZN hr.ite.1;subst hia;have HH:=zh h;have HR:=zh hr;have HFR:=zh hfrl;have HS1:=zh hs1;have HFLT:=zh hflt;unfold ck9 at HCO;rw [<-hfe] at HWC;clear hi hn hk est hie hte h hr hlen hfrl hfe hs1 hflt hN hx;go_in;go_upto_region 1 with fail;obtain ⟨w0,hw0⟩:=xE (w.alloc (.cells #[.int .i64 a,.int .i64 b,.int .i64 d] 28));have hb0:Bl w w0:=by rw [hw0];exact ZA bR
 have hx0:w0.heap[w.heap.size]?=some (.cells #[.int .i64 a,.int .i64 b,.int .i64 d] 28 (0,0)):=by rw [hw0];exact ZC _ _
 rw [<-hw0];obtain ⟨a0,a1,a2,_⟩:=ZY hx0;clear hw0;have HR0:=zh (Below.refl w0.heap.size w0)
 go_region_held3 (fun wx=>wx.cell? ⟨w.heap.size,1,none⟩=some (.int .i64 b)/\wx.cell? ⟨w.heap.size,2,none⟩=some (.int .i64 d))
  (first|assumption|exact ⟨a1,a2⟩)
  (first
    |(refine ZF rfl func26 rfl rfl rfl (HM1.o _) (by first|(simp [Act.eval];done)|(simp [Act.eval];rfl)) ?_;rintro e' V2 ⟨rfl,rfl⟩;refine ⟨_,rfl,?_⟩)
    |(refine ZF rfl func26 rfl rfl rfl (HM2.o _) (by first|(simp [Act.eval];done)|(simp [Act.eval];rfl)) ?_;rintro e' V2 ⟨rfl,rfl⟩;refine ⟨_,rfl,?_⟩))
 have hb1:Bl w w0.drew:=ZB hb0;have hx1:w0.drew.heap[w.heap.size]?=_:=hx0;obtain ⟨w1,hw1⟩:=xE w0.drew;rw [<-hw1] at hb1 hx1 ⊢;clear hw1 a0 a1 a2 hx0 hb0;obtain ⟨a0,a1,a2,_⟩:=ZY hx1;go_wp2_with fail;refine (HM3.o _).mono ?_;rintro e w' ⟨rfl,rfl⟩;have HB1:=zh hb1;have HR1:=zh (HR.o.below hb1);have HC1:=zh (HH.o.below hb1);have z45:=HR1.o.ivc;have z46:=HR1.o.nowc;obtain ⟨z47,z48,z49,z50,z51,z52,z53,z54⟩:=HR1.o.annc;have HBR:=zh (Below.refl w1.heap.size w1);have HZ:=zh (fun (wx:World) (hb:Bl w1 wx)=>show wx.cell? ⟨B.wb,45,none⟩=some (.slice ia s.its.length ic)/\wx.cell? ⟨B.wb,46,none⟩=some (.int .u64 (s.now:Nat))/\wx.cell? ⟨B.wb,47,none⟩=some (.int .u64 (s.ann 0:Nat))/\wx.cell? ⟨B.wb,48,none⟩=some (.int .u64 (s.ann 1:Nat))/\wx.cell? ⟨B.wb,49,none⟩=some (.int .u64 (s.ann 2:Nat))/\wx.cell? ⟨B.wb,50,none⟩=some (.int .u64 (s.ann 3:Nat))/\wx.cell? ⟨B.wb,51,none⟩=some (.int .u64 (s.ann 4:Nat))/\wx.cell? ⟨B.wb,52,none⟩=some (.int .u64 (s.ann 5:Nat))/\wx.cell? ⟨B.wb,53,none⟩=some (.int .u64 (s.ann 6:Nat))/\wx.cell? ⟨B.wb,54,none⟩=some (.int .u64 (s.ann 7:Nat)) from ⟨(HR1.o.below hb).ivc,(HR1.o.below hb).nowc,(HR1.o.below hb).annc⟩);clear hb1 hx1 a0 a1 a2;go_upto_region 28 with fail
 go_region_held3 (fun wx=>wx.cell? ⟨B.wb,45,none⟩=some (.slice ia s.its.length ic)/\wx.cell? ⟨B.wb,46,none⟩=some (.int .u64 (s.now:Nat))/\wx.cell? ⟨B.wb,47,none⟩=some (.int .u64 (s.ann 0:Nat))/\wx.cell? ⟨B.wb,48,none⟩=some (.int .u64 (s.ann 1:Nat))/\wx.cell? ⟨B.wb,49,none⟩=some (.int .u64 (s.ann 2:Nat))/\wx.cell? ⟨B.wb,50,none⟩=some (.int .u64 (s.ann 3:Nat))/\wx.cell? ⟨B.wb,51,none⟩=some (.int .u64 (s.ann 4:Nat))/\wx.cell? ⟨B.wb,52,none⟩=some (.int .u64 (s.ann 5:Nat))/\wx.cell? ⟨B.wb,53,none⟩=some (.int .u64 (s.ann 6:Nat))/\wx.cell? ⟨B.wb,54,none⟩=some (.int .u64 (s.ann 7:Nat)))
  (first|exact hsx|exact HZ.o _ (by repeat (with_reducible first|assumption|exact HBR.o|apply ZA|apply ZB)))
  (first|(refine ZF rfl func40 rfl rfl rfl (HCO.o _ (RitW.rit (HR1.o.below (ZB HBR.o)).ite.1)) (by first|(simp [Act.eval];done)|(simp [Act.eval];rfl)) ?_;rintro e' V2 ⟨sv,fs,rfl,ho1,ho2,hbv⟩;obtain ⟨sa,sc,hsv⟩:=ZN ho1;obtain ⟨ga,gc,hgv⟩:=ZN ho2;subst hsv;subst hgv;refine ⟨_,rfl,?_⟩;have hb2:Bl w1 V2:=(show Bl w1 _ from ZB HBR.o).trans (hbv.mono (by simp));have hsx:=HZ.o _ hb2))
 have e1:(List.filter (fun y=>Zg s.now s.ann y.snd) s.its).length=N:=by rw [HNE.o,HFLT.o];rfl
 have e2:List.filter (fun y=>Zg s.now s.ann y.snd) s.its=flt:=by rw [HFLT.o];rfl
 have HP1:=zh (HC1.o.own (Zp ho1 (by simp)));have HP2:=zh (show OwF V2 F H 54 2 (.slice ga N gc) N (rcl flt) from by
  have:=HC1.o.own (Zp ho2 (by simp));rw [e1,e2] at this;exact this)
 rw [e1];obtain ⟨M,hM⟩:=xE ((List.filter (fun y=>!Zg s.now s.ann y.snd) s.its).length);rw [<-hM] at HP1 ⊢;have HMM:=zh hM;have HC2:=zh (HC1.o.below hb2);have HR2:=zh (HR1.o.below hb2);have HB2:=zh (HB1.o.trans (hb2.mono HB1.o.size));have HBV:=zh (Below.refl V2.heap.size V2);have HZ2:=zh (fun (wx:World) (hb:Bl V2 wx)=>show wx.cell? ⟨B.wb,1,none⟩=some (.pointer (some ⟨B.db,0,none⟩))/\wx.cell? ⟨B.wb,2,none⟩=some (.pointer (some ⟨B.lib,0,none⟩)) from ⟨(HR2.o.below hb).one,(HR2.o.below hb).two⟩);clear ho1 ho2 hb2 hbv hsx e1 e2 hM z45 z46 z47 z48 z49 z50 z51 z52 z53 z54;go_upto_region 29 with fail
 go_region_held3 (fun wx=>wx.cell? ⟨B.wb,1,none⟩=some (.pointer (some ⟨B.db,0,none⟩))/\wx.cell? ⟨B.wb,2,none⟩=some (.pointer (some ⟨B.lib,0,none⟩)))
  (first|exact hsx|exact HZ2.o _ (by repeat (with_reducible first|assumption|exact HBV.o|apply ZA|apply ZB)))
  (first|(refine ZF rfl func24 rfl rfl rfl (HWC.o _ (ZB HB2.o)) (by first|(simp [Act.eval];done)|(simp [Act.eval];rfl)) ?_;rintro e' V3 ⟨rfl,hq⟩;refine ⟨_,rfl,?_⟩;obtain ⟨F3,c3,x3,hx3,hW3,hR3,hP3,hQ3⟩:=ZId (HC2.o.below (ZB HBV.o)) (HR2.o.below (ZB HBV.o)) (HP1.o.below (ZB HBV.o)) (HP2.o.below (ZB HBV.o)) HS1.o hq;have hsx:=And.intro hR3.one hR3.two))
 have z45:=hR3.ivc;have f:=hR3.free;have HW3:=zh hW3;have HR3:=zh hR3;have HP3:=zh hP3;have HQ3:=zh hQ3;have HX3:=zh hx3;clear hW3 hR3 hP3 hQ3 hq hsx hx3;go_upto_region 33 with fail
 have HST:=zh (show ColS A T H B c0 x ex s s1 flt (.slice ga N gc) 0 (V3.setCell ⟨B.wb,45,none⟩ (.slice sa M sc)) from
  ⟨F3,c3,x3,fv,.slice sa M sc,HX3.o,HW3.o.setw HR3.o.row HR3.o.fw _,HR3.o.put 45 _ rfl (fun y hy=>by
    show wwC B s fv _ y=_;exact ZIO) (by simpa using HR3.o.fre) (by
    show OwF V3 F3 H _ 2 _ (s.its.filter fun y=>!s.sf y).length (rcl (s.its.filter fun y=>!s.sf y));have:=HP3.o;rw [HMM.o] at this ⊢;exact this),by
    have:=(HQ3.o.setw HR3.o.row (by decide) (i:=45) (.slice sa M sc)).1;rw [HNE.o] at this ⊢;exact this⟩)
 obtain ⟨w4,hw4⟩:=xE (V3.setCell ⟨B.wb,45,none⟩ (.slice sa M sc));rw [<-hw4] at HST ⊢;clear hw4 z45 f;go_wp2_with fail
 go_loopw [215] (fun i wr=>∃ k:Nat,k<=N/\i=.int .i64 k/\ColS A T H B c0 x ex s s1 flt (.slice ga N gc) k wr) (fun i _=>N - (intOf i).toNat)
 case atStart=>exact ⟨0,by omega,rfl,HST.o⟩
 case round=>
 obtain ⟨k,hk,rfl,hf⟩:=hrel
 by_cases hlt:k < N
 ·have b1:(k:Int) < N:=by omega
  have hnl:k < flt.length:=by have:=HNE.o;omega
  obtain ⟨F5,c5,x5,fv5,iv5,hx5,hW5,hR5,hO5⟩:=hf;have hO5':=hO5;obtain ⟨gI,cI,eI,hsI,_⟩:=Zb hO5' (by omega);cases eI;obtain ⟨y,hy⟩:=xE (flt[k]);have hget:flt[k]?=some y:=by rw [hy];exact ZLg hnl
  obtain ⟨e0,e1⟩:=VP hget;have t0:=hsI _ _ e0;have t1:=hsI _ _ e1;have HTF:=zh (show (flt.take (k+1)).map (·.1)=(flt.take k).map (·.1)++[y.1] by rw [ZLk hnl,<-hy];simp);have HL5:=zh (show (s.fr++(flt.take k).map (·.1)).length<=200 by have:=HFR.o;have:=HNL.o;simp;omega);obtain ⟨yp,ye⟩:=y;simp only at t0 t1 HTF;rw [show 0+2 * k=k * 2 by omega] at t0;rw [show 0+(2 * k+1)=k * 2+1 by omega] at t1;have HW5:=zh hW5;have HR5:=zh hR5;have HO5:=zh hO5;have HX5:=zh hx5;have HNK:=zh hlt;clear hsI e0 e1 hget hy hnl hW5 hR5 hO5 hO5' hx5 hlt hk;go_upto_region 36 with fail;obtain ⟨w5,hw5⟩:=xE (wr.alloc (.cells #[.int .u64 yp,.int .u64 ye] 54));obtain ⟨IB,hIB⟩:=xE wr.heap.size;have hb5:Bl wr w5:=by rw [hw5];exact ZA bR
  have HI5:=zh (show w5.heap[IB]?=some (.cells #[.int .u64 yp,.int .u64 ye] 54 (0,0)) by rw [hw5,hIB];exact ZC _ _);have HW6:=zh (HW5.o.below hb5);have HR6:=zh (HR5.o.below hb5);have HO6:=zh (ZO HO5.o hb5);rw [<-hw5,<-hIB];clear hw5 hIB hb5 t0 t1;obtain ⟨fva,fvc,hfv⟩:=ZN HR6.o.fre.1;subst hfv;obtain ⟨L,hL⟩:=xE ((s.fr++(flt.take k).map (·.1)).length);have HLL:=zh hL;have HR7:=zh (show WR w5 F5 H B {s with its:=s.its.filter (fun y=>!s.sf y),fr:=s.fr++(flt.take k).map (·.1)} (.slice fva L fvc) iv5 from by rw [hL];exact HR6.o);have HL7:=zh (show L<=200 by rw [hL];exact HL5.o);have HO7:=zh (show w5.ownsRow 0 32 1 (.slice fva L fvc) L (ptl (s.fr++(flt.take k).map (·.1))) from by
   have:=HR7.o.fre.1;rw [hL] at this ⊢;exact this)
  clear hL HR6 HL5;have HS0:=zh (show ∀ wx,Bl w5 wx->wx.cell? ⟨B.wb,44,none⟩=some (.slice fva L fvc)/\wx.heap[IB]?=some (.cells #[.int .u64 yp,.int .u64 ye] 54 (0,0)) from fun wx hb=>⟨(HR7.o.below hb).fvc,(hb.block _ (heap_lt HI5.o)).trans HI5.o⟩);have HSa:=zh (HS0.o _ (ZB bR));have HSb:=zh (fun ob=>HS0.o _ (ZA (o:=ob) (ZB bR)));refine Zy 11 (fun wx=>wx.cell? ⟨B.wb,44,none⟩=some (.slice fva L fvc)/\wx.heap[IB]?=some (.cells #[.int .u64 yp,.int .u64 ye] 54 (0,0))) (by kernel_rfl) ?_;refine Zj (i:=0) (z:=11) (v:=.pointer (some ⟨B.wb,0,none⟩)) (by decide) rfl (by kernel_rfl) (by kernel_rfl) (by kernel_rfl) (by kernel_rfl) (by kernel_rfl) (fun _ _ _ h=>h) HSa.o (Or.inl ⟨by rfl,fun w' hc=>?_⟩) ?_
  ·go_simp
  (try simp only [Act.put,ZLT,ZLV,ZLW])
  refine Zj (i:=1) (z:=11) (v:=.pointer (some ⟨B.wb,0,none⟩)) (by decide) rfl (by kernel_rfl) (by kernel_rfl) (by kernel_rfl) (by kernel_rfl) (by kernel_rfl) (fun _ _ _ h=>h) HSa.o (Or.inl ⟨by rfl,fun w' hc=>?_⟩) ?_
  ·go_simp
  (try simp only [Act.put,ZLT,ZLV,ZLW])
  refine Zj (i:=2) (z:=11) (v:=.pointer (some ⟨B.wb,0,none⟩)) (by decide) rfl (by kernel_rfl) (by kernel_rfl) (by kernel_rfl) (by kernel_rfl) (by kernel_rfl) (fun _ _ _ h=>h) HSa.o (Or.inl ⟨by rfl,fun w' hc=>?_⟩) ?_
  ·go_simp
  (try simp only [Act.put,ZLT,ZLV,ZLW])
  refine Zj (i:=3) (z:=11) (v:=.pointer (some ⟨B.wb,44,none⟩)) (by decide) rfl (by kernel_rfl) (by kernel_rfl) (by kernel_rfl) (by kernel_rfl) (by kernel_rfl) (fun _ _ _ h=>h) HSa.o (Or.inl ⟨by rfl,fun w' hc=>?_⟩) ?_
  ·go_simp
  (try simp only [Act.put,ZLT,ZLV,ZLW])
  refine Zj (i:=4) (z:=11) (v:=.slice fva L fvc) (by decide) rfl (by kernel_rfl) (by kernel_rfl) (by kernel_rfl) (by kernel_rfl) (by kernel_rfl) (fun _ _ _ h=>h) HSa.o (Or.inl ⟨by rfl,fun w' hc=>?_⟩) ?_
  ·have z:=hc.1;go_simp
  (try simp only [Act.put,ZLT,ZLV,ZLW])
  refine Zj (i:=5) (z:=11) (v:=.pointer (some ⟨IB,0,none⟩)) (by decide) rfl (by kernel_rfl) (by kernel_rfl) (by kernel_rfl) (by kernel_rfl) (by kernel_rfl) (fun _ _ _ h=>h) HSa.o (Or.inl ⟨by rfl,fun w' hc=>?_⟩) ?_
  ·go_simp
  (try simp only [Act.put,ZLT,ZLV,ZLW])
  refine Zj (i:=6) (z:=11) (v:=.int .u64 yp) (by decide) rfl (by kernel_rfl) (by kernel_rfl) (by kernel_rfl) (by kernel_rfl) (by kernel_rfl) (fun _ _ _ h=>h) HSa.o (Or.inl ⟨by rfl,fun w' hc=>?_⟩) ?_
  ·obtain ⟨q0,q1,_⟩:=Yd hc.2;go_simp
  (try simp only [Act.put,ZLT,ZLV,ZLW])
  refine YA (j:=7) (z:=11) (by kernel_rfl) rfl (fun K hK=>?_);go_simp;refine hK _ _ (HSb.o _) ?_;clear hK K
  (try simp only [Act.put,ZLT,ZLV,ZLW])
  refine YA (j:=8) (z:=11) (by kernel_rfl) rfl (fun K hK=>?_);refine J5 ZJx rfl _ _ rfl #[.int .u64 yp] (ZO HO7.o (ZA (ZB bR))) rfl rfl rfl (fun j u hj=>Yn hj) (by intro u hu;simp at hu;subst hu;rfl) (by have:=HL7.o;unfold maxLen;omega) (by have:=HL7.o;omega) (Nat.zero_le _) ?_;intro g8 cap8 w8 how hgr hg8;have hr7:=HR7.o.below (show Bl w5 (w5.drew.alloc (.cells #[.int .u64 yp] 32)) from ZA (ZB bR));have hw7:=HW6.o.below (show Bl w5 (w5.drew.alloc (.cells #[.int .u64 yp] 32)) from ZA (ZB bR));have ho7:=ZO HO6.o (show Bl w5 (w5.drew.alloc (.cells #[.int .u64 yp] 32)) from ZA (ZB bR));have hw8:=hw7.grown hr7.fre hgr;have hb8:w8.heap[B.wb]?=_:=hgr.block _ hr7.row.lt (fun q=>by obtain ⟨cw,hcw,_⟩:=hr7.row;exact Zt hr7.fre.1 hcw (by decide) q.symm);have hrow8:=hr7.row.of_block hb8;have hc8:=(ZLo hb8).trans hr7.fvc;have hi7:=((show Bl w5 (w5.drew.alloc (.cells #[.int .u64 yp] 32)) from ZA (ZB bR)).block _ (heap_lt HI5.o)).trans HI5.o;have hi8:=(hgr.block _ (heap_lt hi7) (fun q=>Zt hr7.fre.1 hi7 (by decide) q.symm)).trans hi7;have hgF:Frn F5 H g8/\H.x0<=g8:=hg8.elim (fun q=>hr7.fre.2 g8 q) (fun q=>⟨hw7.hw.newf q,ZLi hw7.x0 q⟩)
  have HG:=zh (show ColS A T H B c0 x ex s s1 flt (.slice (some ⟨gI,0,none⟩) flt.length gc) (k+1) (w8.setCell ⟨B.wb,44,none⟩ (.slice (some ⟨g8,0,none⟩) (L+1) cap8)) from
   ⟨F5,c5,x5,_,iv5,HX5.o,hw8.setw hrow8 hr7.fw _,hr7.push HLL.o hgr how hgF ⟨rfl,rfl,rfl,rfl,by
     show s.fr++(flt.take (k+1)).map (·.1)=(s.fr++(flt.take k).map (·.1))++[yp];rw [HTF.o,List.append_assoc]⟩,ZHh (ZCr hr7.fre.1 ho7 (by decide) hgr) hrow8 (by decide) _⟩)
  have z8:=hc8;have f8:=hrow8.free;refine hK _ _ ⟨hc8,hi8⟩ ?_;clear hK K
  (try simp only [Act.put,ZLT,ZLV,ZLW])
  refine YA (j:=9) (z:=11) (by kernel_rfl) rfl (fun K hK=>?_);go_simp;refine hK _ _ ⟨hc8,hi8⟩ ?_;clear hK K
  (try simp only [Act.put,ZLT,ZLV,ZLW])
  refine YA (j:=10) (z:=11) (by kernel_rfl) rfl (fun K hK=>?_);go_simp;refine hK _ _ ⟨hc8,hi8⟩ ?_;clear hK K
  (try simp only [Act.put,ZLT,ZLV,ZLW])
  refine Vm (z:=11) (by kernel_rfl) rfl (by kernel_rfl) (by kernel_rfl) (fun K hK=>?_);go_simp;refine hK _ _ ?_;clear hK K how hgr hg8 hr7 hw7 ho7 hw8 hb8 hrow8 hc8 hi7 hi8 hgF z8 f8;have b2:(k:Int) < 60:=by have:=HNK.o;have:=HNL.o;omega
  go_wp2_with fail;exact ⟨⟨k+1,by have:=HNK.o;omega,rfl,HG.o⟩,by have:=HNK.o;simp [intOf];omega⟩
 ·obtain rfl:k=N:=by omega
  have d1:¬ ((k:Int) < k):=by omega
  have HE:=zh (show DoP A T H B c0 x ex s1 wr from by
   obtain ⟨F5,c5,x5,fv5,iv5,hx5,hW5,hR5,_⟩:=hf;rw [ZL1 (by rw [HNE.o];exact nR)] at hR5;exact ⟨F5,c5,x5,ex,fv5,iv5,by omega,by omega,hW5,hR5.same HEND.o⟩)
  clear hf hk hlt;go_wp2;go_returns;exact ⟨rfl,HE.o⟩
theorem do4 (h:WC w A F T c x H ex B c0 s)(hr:WR w F H B s fv iv)(hi:s.Inv n)(hn:n<=60){a b d:Int}(hk:ZX a 7=4):
 Calls prog 11 #[.pointer (some ⟨B.wb,0,none⟩),.agg #[.int .i64 a,.int .i64 b,.int .i64 d]] w fun e w'=>e=.returned (.bool true)/\DoP A T H B c0 x ex (s.stp 4 (ZX b 40) (ZX d 8)) w':=by
 have HM1:=zh (fun (w1:World)=>show Calls _ _ _ w1 _ from (Zh (w:=w1) (a:=b) (n:=40) (by omega)));have HM2:=zh (fun (w1:World)=>show Calls _ _ _ w1 _ from (Zh (w:=w1) (a:=d) (n:=8) (by omega)));have HM3:=zh (fun (w1:World)=>show Calls _ _ _ w1 _ from (Zh (w:=w1) (a:=a) (n:=7) (by omega)));rw [hk] at HM3;have ht:ZX d 8 < 8:=Z4 (by omega) rfl;have est:s.stp 4 (ZX b 40) (ZX d 8)={s with now:=s.now,ann:=if s.ann (ZX d 8)=0 then s.ann else upd s.ann (ZX d 8) 0}:=rfl;rw [est];obtain ⟨i,hie⟩:=xE (ZX b 40);obtain ⟨t,hte⟩:=xE (ZX d 8);rw [<-hie] at HM1;rw [<-hte] at HM2 ht ⊢;have hnow:1<=s.now/\s.now<=2147483647:=by have:=hi.now;have:=hi.ok.now;omega
 have HEP:=zh (fun (wx:World) (hb:Bl w wx)=>Yo (h.po.below hb));have HEN:=zh (fun (wx:World) (hb:Bl w wx)=>ZIZ (h.ar.below hb) (h.ck.below hb) hnow h.rep.clk (by omega) ht);have HRE:=zh (fun (wx:World)=>ZGH (w:=wx) (now:=s.now) (t:=t) (an:=s.ann) ht);have HREP:=zh (show ({s with now:=s.now,ann:=if s.ann t=0 then s.ann else upd s.ann t 0}:LS).Rep T c c0 from {h.rep with});have HH:=zh h;have HR:=zh hr;clear hi hn hk est hie hte h hr hnow ht;go_in;go_upto_region 1 with fail;obtain ⟨w0,hw0⟩:=xE (w.alloc (.cells #[.int .i64 a,.int .i64 b,.int .i64 d] 28));have hb0:Bl w w0:=by rw [hw0];exact ZA bR
 have hx0:w0.heap[w.heap.size]?=some (.cells #[.int .i64 a,.int .i64 b,.int .i64 d] 28 (0,0)):=by rw [hw0];exact ZC _ _
 rw [<-hw0];obtain ⟨a0,a1,a2,_⟩:=ZY hx0;clear hw0;have HR0:=zh (Below.refl w0.heap.size w0)
 go_region_held3 (fun wx=>wx.cell? ⟨w.heap.size,1,none⟩=some (.int .i64 b)/\wx.cell? ⟨w.heap.size,2,none⟩=some (.int .i64 d))
  (first|assumption|exact ⟨a1,a2⟩)
  (first
    |(refine ZF rfl func26 rfl rfl rfl (HM1.o _) (by first|(simp [Act.eval];done)|(simp [Act.eval];rfl)) ?_;rintro e' V2 ⟨rfl,rfl⟩;refine ⟨_,rfl,?_⟩)
    |(refine ZF rfl func26 rfl rfl rfl (HM2.o _) (by first|(simp [Act.eval];done)|(simp [Act.eval];rfl)) ?_;rintro e' V2 ⟨rfl,rfl⟩;refine ⟨_,rfl,?_⟩))
 have hb1:Bl w w0.drew:=ZB hb0;have hx1:w0.drew.heap[w.heap.size]?=_:=hx0;obtain ⟨w1,hw1⟩:=xE w0.drew;rw [<-hw1] at hb1 hx1 ⊢;clear hw1 a0 a1 a2 hx0 hb0;obtain ⟨a0,a1,a2,_⟩:=ZY hx1;go_wp2_with fail;refine (HM3.o _).mono ?_;rintro e w' ⟨rfl,rfl⟩;have HB1:=zh hb1;have z0:=(HR.o.below hb1).zero;clear hb1 hx1 a0 a1 a2;go_wp2_with fail;refine (HEP.o _ HB1.o).mono ?_;rintro e w' ⟨rfl,rfl⟩;go_wp2_with fail;refine (HEN.o _ HB1.o).mono ?_;rintro e w2 ⟨rfl,hck,ho⟩
 have HW2:=zh (show WC w2 A F T c x H ex B c0 {s with now:=s.now,ann:=if s.ann t=0 then s.ann else upd s.ann t 0}/\WR w2 F H B s fv iv from
  ⟨(HH.o.below HB1.o).clock ho hck ⟨rfl,rfl,rfl⟩ HREP.o,(HR.o.below HB1.o).clock (HH.o.below HB1.o).ck ho⟩)
 have HA:=zh HW2.o.2;clear hck ho z0;have z0:=HA.o.zero;have z46:=HA.o.nowc;obtain ⟨z47,z48,z49,z50,z51,z52,z53,z54⟩:=HA.o.annc;unfold ck9 at HRE
 by_cases hz:s.ann t=0
 ·simp only [ZLX hz] at *
  go_wp2_with fail;refine (HRE.o _).mono ?_;rintro e w3 ⟨rfl,hb3⟩;have HW3:=zh (show WC w3 A F T c x H ex B c0 {s with now:=s.now,ann:=s.ann}/\WR w3 F H B s fv iv from ⟨HW2.o.1.below hb3,HW2.o.2.below hb3⟩);clear hb3 z0 z46 z47 z48 z49 z50 z51 z52 z53 z54;go_upto_region 51 with fail;obtain ⟨w4,hw4⟩:=xE (w3.alloc (.cells #[.int .u64 s.now,.int .u64 (s.ann 0:Nat),.int .u64 (s.ann 1:Nat),.int .u64 (s.ann 2:Nat),.int .u64 (s.ann 3:Nat),.int .u64 (s.ann 4:Nat),.int .u64 (s.ann 5:Nat),.int .u64 (s.ann 6:Nat),.int .u64 (s.ann 7:Nat)] 44));have hb4:Bl w3 w4:=by rw [hw4];exact ZA bR
  have hx4:w4.heap[w3.heap.size]?=some (.cells #[.int .u64 s.now,.int .u64 (s.ann 0:Nat),.int .u64 (s.ann 1:Nat),.int .u64 (s.ann 2:Nat),.int .u64 (s.ann 3:Nat),.int .u64 (s.ann 4:Nat),.int .u64 (s.ann 5:Nat),.int .u64 (s.ann 6:Nat),.int .u64 (s.ann 7:Nat)] 44 (0,0)):=by rw [hw4];exact ZC _ _
  have HW4:=zh (show WC w4 A F T c x H ex B c0 {s with now:=s.now,ann:=s.ann}/\WR w4 F H B s fv iv from ⟨HW3.o.1.below hb4,HW3.o.2.below hb4⟩);rw [<-hw4];clear hw4 hb4;have f:=HW4.o.2.free;have z46:=HW4.o.2.nowc;obtain ⟨z47,z48,z49,z50,z51,z52,z53,z54⟩:=HW4.o.2.annc;obtain ⟨⟨x0,x1,x2,x3,x4,x5,x6,x7,x8⟩,_⟩:=ZCq hx4;go_upto_region 52 with fail;have hst:=X5 (B:=B) HW4.o.1 HW4.o.2 s.now s.ann;have HE:=zh (DoP.of (x:=x) (ex:=ex) hst.1 hst.2);clear hst z46 z47 z48 z49 z50 z51 z52 z53 z54 x0 x1 x2 x3 x4 x5 x6 x7 x8 f;go_wp2;go_returns;exact ⟨rfl,HE.o⟩
 ·simp only [ZLU hz] at *
  go_wp2_with fail;refine (HRE.o _).mono ?_;rintro e w3 ⟨rfl,hb3⟩;have HW3:=zh (show WC w3 A F T c x H ex B c0 {s with now:=s.now,ann:=(upd s.ann t 0)}/\WR w3 F H B s fv iv from ⟨HW2.o.1.below hb3,HW2.o.2.below hb3⟩);clear hb3 z0 z46 z47 z48 z49 z50 z51 z52 z53 z54;obtain ⟨AN,hAN⟩:=xE ((upd s.ann t 0));rw [<-hAN] at HW3 ⊢;simp only [<-hAN];have HAN:=zh hAN;clear hAN;go_upto_region 51 with fail;obtain ⟨w4,hw4⟩:=xE (w3.alloc (.cells #[.int .u64 s.now,.int .u64 (AN 0:Nat),.int .u64 (AN 1:Nat),.int .u64 (AN 2:Nat),.int .u64 (AN 3:Nat),.int .u64 (AN 4:Nat),.int .u64 (AN 5:Nat),.int .u64 (AN 6:Nat),.int .u64 (AN 7:Nat)] 44));have hb4:Bl w3 w4:=by rw [hw4];exact ZA bR
  have hx4:w4.heap[w3.heap.size]?=some (.cells #[.int .u64 s.now,.int .u64 (AN 0:Nat),.int .u64 (AN 1:Nat),.int .u64 (AN 2:Nat),.int .u64 (AN 3:Nat),.int .u64 (AN 4:Nat),.int .u64 (AN 5:Nat),.int .u64 (AN 6:Nat),.int .u64 (AN 7:Nat)] 44 (0,0)):=by rw [hw4];exact ZC _ _
  have HW4:=zh (show WC w4 A F T c x H ex B c0 {s with now:=s.now,ann:=AN}/\WR w4 F H B s fv iv from ⟨HW3.o.1.below hb4,HW3.o.2.below hb4⟩);rw [<-hw4];clear hw4 hb4;have f:=HW4.o.2.free;have z46:=HW4.o.2.nowc;obtain ⟨z47,z48,z49,z50,z51,z52,z53,z54⟩:=HW4.o.2.annc;obtain ⟨⟨x0,x1,x2,x3,x4,x5,x6,x7,x8⟩,_⟩:=ZCq hx4;go_upto_region 52 with fail;have hst:=X5 (B:=B) HW4.o.1 HW4.o.2 s.now AN;have HE:=zh (DoP.of (x:=x) (ex:=ex) hst.1 hst.2);clear hst z46 z47 z48 z49 z50 z51 z52 z53 z54 x0 x1 x2 x3 x4 x5 x6 x7 x8 f;go_wp2;go_returns;exact ⟨rfl,by rw [<-HAN.o];exact HE.o⟩
end
end Go.Proofs.YtbpeehmepehkdaaGreatDoor.Dv
