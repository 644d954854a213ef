/- Part 40. -/
import Derived.Test.YtbpeehmepehkdaaGreatDoorY39
import Derived.Test.YtbpeehmepehkdaaGreatDoorY27
set_option maxHeartbeats 8000000
set_option maxRecDepth 20000
set_option linter.all false
namespace Go.Proofs.YtbpeehmepehkdaaGreatDoor.Dv
open Tryz
section
open Go.RowKit
theorem bZ (w:World):Bl w w:=Below.refl w.heap.size w
theorem zmo {a n:Int}(h:0 < n/\n<=40):Hd (∀ w:World,Calls Tryz.prog 26 #[.int .i64 a,.int .i64 n] w fun e w'=>e=.returned (.int .i64 (ZX a n:Nat))/\w=w'):=fun w=>Zh (w:=w) h
theorem tK {P:Program}{md:Region.Mode}{ops:Array Oper}{Q:Exit->Act->World->Prop}{S0:World->Prop}{i z:Nat}{oi:Oper}{v:Value}{n:Nat}{L:Array Bool}{a:Act}{w:World}(hi:ops[i]?=some oi)(hS:S0 w)(hy:YieldsIf P ops S0 oi v a)(h:AnyL P md ops Q (SL z S0) n (L.setIfInBounds i true) (a.put oi.dst v) w)(hQ:∀ c a w,Q (.panic c) (a.put oi.dst v) w->Q (.panic c) a w:=by exact fun _ _ _ h=>h)(hne:i≠z:=by decide)(hw:ZBB md ops z i=true:=by kernel_rfl)(hs:Region.noSelect ops=true:=by kernel_rfl)(hf:Region.free md ops L i=true:=by kernel_rfl)(hr:(Region.ready md ops L).contains i=true:=by kernel_rfl)(hd:L.getD z true=false:=by kernel_rfl):AnyL P md ops Q (SL z S0) (n+1) L a w:=Zj hne hi hw hs hf hr hd hQ hS hy h
open Go.Proofs.YtbpeehmepehkdaaGreatDoor.Size
variable {w w':World}{A:DAd}{F:Nat->Option ZM}{L x x' ex:Nat}{T c c':Nat->Nat}{H:HAd}{lk:Bool}{p p':Nat->Plc}{res held:Nat->Option Nat}{ch:Nat->Chk}
def DpQ (w:World)(M line n:Nat)(bs:List Nat)(s:Nat)(V:Value)(wr:World):Prop:=
 Bl w wr/\wr.cell? ⟨M+1,0,none⟩=some (.map (some M))/\w.heap.size<=s/\M+1 < s/\s < wr.heap.size/\Uf wr M 1 (YN (fun _=>none) line (some s))/\wr.heap[s]?=some (QT (.slice none 0 0) (.slice none 0 0) V)/\wr.ownsRow (s+1) 3 1 V n ((bs.take n).map fun (b:Nat)=>Value.int .i64 (b:Int))
def DpR (w:World)(M line:Nat)(bs:List Nat)(i:Value)(wr:World):Prop:=
 ∃ n:Nat,n<=bs.length/\i=.int .i64 n/\((n=0/\Bl w wr/\w.heap.size<=M/\wr.cell? ⟨M+1,0,none⟩=some (.map (some M))/\Uf wr M 0 (fun _=>none))\/∃ s V,DpQ w M line n bs s V wr)
theorem DpQ.below {M line n:Nat}{bs:List Nat}{s:Nat}{V:Value}{wr wx:World}(h:DpQ w M line n bs s V wr)(hb:Bl wr wx):DpQ w M line n bs s V wx:=by
 obtain ⟨h1,h2,h3,h4,h5,h6,h7,h8⟩:=h;exact ⟨h1.trans (hb.mono h1.size),Zl hb h2,h3,h4,ZLq h5 hb.size,h6.kept (hb.block _ h6.lt),(hb.block _ h5).trans h7,ZO h8 hb⟩
theorem ZFY {M line n:Nat}{bs:List Nat}(hl:line<=4096){wr:World}(h:(n=0/\Bl w wr/\w.heap.size<=M/\wr.cell? ⟨M+1,0,none⟩=some (.map (some M))/\Uf wr M 0 (fun _=>none))\/∃ s V,DpQ w M line n bs s V wr):
 Calls prog 159 #[.int .i64 (line:Nat),.pointer (some ⟨M+1,0,none⟩)] wr fun e w'=>∃ s V,e=.returned (.pointer (some ⟨s,0,none⟩))/\DpQ w M line n bs s V w':=by
 rcases h with ⟨rfl,hb,hM,hc,hm⟩|⟨s,V,h⟩
 ·refine (QR hc hm hl rfl (by omega)).mono ?_
  rintro e w' ⟨rfl,hm5,hs5,hh5,hg5⟩;have m4:M+1 < wr.heap.size:=ZLf _ _ hc;have hb5:Bl w w':=hb.grown hg5 hb.size (fun k hk=>by have:=ZLd hk;omega);refine ⟨_,_,rfl,hb5,?_,hb.size,m4,hs5,hm5,hh5,ZLn _ _ _ _⟩;exact (ZLo (hg5.block (M+1) m4 (fun e=>by have:=ZLd e;omega))).trans hc
 ·obtain ⟨h1,h2,h3,h4,h5,h6,h7,h8⟩:=h
  refine (ZDh h2 h6 hl (ZLX rfl)).mono ?_;rintro e w' ⟨rfl,rfl⟩;exact ⟨_,_,rfl,h1,h2,h3,h4,h5,h6,h7,h8⟩
theorem ZF4 {w:World}{B:Nat}{e:TypeId}{z n:Nat}{v:Value}{xs:List Value}(h:w.ownsRow B e z v n xs){b i:Nat}(hb:b < B)(u:Value):(w.setCell ⟨b,i,none⟩ u).ownsRow B e z v n xs:=by
 obtain ⟨h1,h2⟩:=h;refine ⟨h1,h2.imp id ?_⟩;rintro ⟨g,cap,cur,e1,hg,hbk,rest⟩;exact ⟨g,cap,cur,e1,hg,(ZG (by omega)).trans hbk,rest⟩
theorem ZJw {M line n:Nat}{bs:List Nat}{s:Nat}{V:Value}{wr wx:World}{o:Obj}(h:DpQ w M line n bs s V wr)(hn:n < bs.length){g cap:Nat}(hown:wx.ownsRow (s+1) 3 1 (.slice (some ⟨g,0,none⟩) (n+1) cap) (n+1) ((bs.take n).map (fun (b:Nat)=>Value.int .i64 (b:Int))++[.int .i64 (bs[n]:Nat)]))(hgr:wr.grownBy wx V.ownBlock):
 (wx.cell? ⟨s,2,none⟩=some V/\wx.frozen? ⟨s,2,none⟩=false)/\DpQ w M line (n+1) bs s (.slice (some ⟨g,0,none⟩) (n+1) cap) (wx.setCell ⟨s,2,none⟩ (.slice (some ⟨g,0,none⟩) (n+1) cap)):=by
 obtain ⟨h1,h2,h3,h4,h5,h6,h7,h8⟩:=h;have hlt:∀ k,V.ownBlock=some k->s+1<=k:=fun k hk=>(h8.lt k hk).1
 have hbx:Bl w wx:=ZL h1 hgr h1.size (fun k hk=>by have:=hlt k hk;omega);have hsx:wx.heap[s]?=some (QT (.slice none 0 0) (.slice none 0 0) V):=(hgr.block s h5 (fun e=>by have:=hlt s e.symm;omega)).trans h7;have hs8:s < wx.heap.size:=ZLq h5 hgr.size;refine ⟨⟨(ZY hsx).2.2.1,(ZY hsx).2.2.2.2.2⟩,ZE hbx h3,?_,h3,h4,by simpa [World.setCell] using hs8,?_,(ZI hsx).trans rfl,?_⟩
 ·have e1:=hgr.block (M+1) (by omega) (fun e=>by have:=hlt _ e.symm;omega)
  have e2:(wx.setCell ⟨s,2,none⟩ (.slice (some ⟨g,0,none⟩) (n+1) cap)).heap[M+1]?=wx.heap[M+1]?:=ZG (by omega);exact (ZLo e2).trans ((ZLo e1).trans h2)
 ·have e1:=hgr.block M (by omega) (fun e=>by have:=hlt _ e.symm;omega)
  exact h6.kept ((ZG (by omega)).trans e1)
 ·have e:(bs.take (n+1)).map (fun (b:Nat)=>Value.int .i64 (b:Int))=(bs.take n).map (fun (b:Nat)=>Value.int .i64 (b:Int))++[.int .i64 (bs[n]:Nat)]:=by
   rw [ZLk hn,ZLs];rfl
  rw [e];exact ZF4 hown (Nat.lt_succ_self s) _
theorem ZAF (h:HW w A F L T c x H lk p ex res held) {m:Nat} (hm:m < H.n) (hl:H.l0+32 * m+32<=L) {k:Chk} (hR:CRep T c (8 * (H.l0+32 * m)) k) (hk:0<=k.cl) {ps bs:List Nat} (hlen:ps.length=bs.length) (h1:1<=bs.length) (h30:bs.length<=30)
 (hat:∀ i (hi:i < ps.length)(hj:i < bs.length),bs[i] < perN k/\ZP ps[i]=k.pay (H.l0+32 * m) bs[i]/\ps[i]≠0/\ps[i] < 72057594037927936/\(k.block (H.l0+32 * m) ps[i]).2=0)(hnd:ps.Nodup)(hcan:k.Can [] bs){tb tq tc:Nat}(ht:Seen w tb tq (ps.map fun (n:Nat)=>Value.int .u64 (n:Int))):
 Calls prog 97 #[.pointer (some ⟨H.hb,0,none⟩),.slice none 0 0,.slice (some ⟨tb,tq,none⟩) ps.length tc] w (AcP w (ZR T (H.l0+32 * m) k [] bs)):=by
 have hbd:=h.hp.bd;have HSN:=zh ht;have HC:=zh (fun w1 (hb:Bl w w1) (n:Nat) (hn:n < ps.length)=>(show w1.cell? ⟨tb,tq+n,none⟩=some (.int .u64 (ps[n]:Nat)) from (ht.below hb nR) n _ (by simp [hn])));have HDS:=zh (fun w1 (hb:Bl w w1) (q:Nat) (hq:Seen w1 q 0 [.slice none 0 0,.slice (some ⟨tb,tq,none⟩) ps.length tc])=>Xm (w:=w1) (ls:=fun j=>if j=0 then [] else ps) (vs:=fun j=>if j=0 then .slice none 0 0 else .slice (some ⟨tb,tq,none⟩) ps.length tc) (fun j _=>by
  by_cases e:j=0
  ·simp only [e,if_true];exact .inl ⟨rfl,rfl⟩
  ·simp only [e,if_false];exact .inr ⟨tb,tq,tc,rfl,HSN.o.below hb nR⟩) (by simpa using hnd) (fun q hq=>by
  have hq:q∈ps:=by simpa using hq
  obtain ⟨i,hi,rfl⟩:=List.getElem_of_mem hq;have:=hat i hi (by omega);omega) (fun j=>by by_cases e:j=0 <;> simp [e];omega) hq)
 have HER:=zh (fun w1 hb=>Zs h.ar h.hp.t w1 hb);have hpay:∀ i (hi:i < ps.length) (hj:i < bs.length),64 * (H.l0+32 * m)<=ZP ps[i]/\ZP ps[i] < 64 * (H.l0+32 * m)+2048:=fun i hi hj=>by
  obtain ⟨a1,a2,_⟩:=hat i hi hj;have:=YI hR.head a1;have:=U4 hR.head a1;rw [a2];unfold Chk.pay;omega
 have HCK:=zh (fun w1 (hb1:Bl w w1) (n:Nat) (hn:n < ps.length)=>(show Calls prog 51 #[.pointer (some ⟨H.hb,0,none⟩),.int .u64 (ps[n]:Nat),.int .u8 0] w1 (fun e w'=>e=.returned (.int .i64 0)/\Bl w1 w') from by
  obtain ⟨a1,a2,a3,a4,a5⟩:=hat n hn (by omega);have:=Xb (h.below hb1).ar (h.below hb1).hp hm hl hR hk a3 a4 (hpay n hn (by omega)).1 (hpay n hn (by omega)).2 0 (by omega);rw [a5,show UD 0 0 ps[n]=0 by unfold UD;simp] at this;exact this))
 have HPL:=zh (fun w1 (hb1:Bl w w1) (n:Nat) (hn:n < ps.length) (hj:n < bs.length)=>Qg (h.below hb1).ar (h.below hb1).hp hm hl hR hk (p:=ps[n]) (by have:=hat n hn hj;omega) (hat n hn hj).1 (hat n hn hj).2.1);have HOPN:=zh (fun w1 (hb1:Bl w w1)=>Y3 (h.below hb1).ar h.hp.t hl hR hk);have HACS:=zh (fun w1 (hb1:Bl w w1) (v3:Value) (h3:Nats w1 v3 bs)=>Uk (tk:=[]) (dr:=bs) (h.below hb1).ar h.hp.t hl hR hk hcan (by simp;omega) (by simp;omega) (v1:=.slice none 0 0) (v2:=.slice none 0 0) (.inl ⟨rfl,rfl⟩) (.inl ⟨rfl,rfl⟩) h3);have HP:=zh h.hp;have HLN:=zh (And.intro hlen (And.intro h1 h30));obtain ⟨line,hln⟩:=xE (H.l0+32 * m);rw [<-hln] at HPL HOPN HACS ⊢;obtain ⟨q0,q1,q2,q3,q4,q5,q6,q7,_⟩:=Z5 h.hp.hp;obtain ⟨ti,hti⟩:=xE H.t;rw [<-hti] at HER HOPN HACS q0;have HTI:=zh hti;have hmm:=@run_makeMap prog;have HL4:=zh (show line<=4096 by unfold HAd.n at hm;omega);have HB0:=zh (ZA (o:=.cells #[.slice none 0 0,.slice (some ⟨tb,tq,none⟩) ps.length tc] 40) (bZ w));obtain ⟨AW,hAW⟩:=xE (ZR T line k [] bs);have HAWL:=zh (show 1<=AW.length/\AW.length<=1000 from by rw [hAW];unfold ZR YR Ye;simp;omega);rw [<-hAW] at HACS ⊢;obtain ⟨N,hN⟩:=xE ps.length;have HNN:=zh hN;rw [<-hN] at HDS HB0 ⊢;clear h hti hm hl hR hk hlen h1 h30 hat hnd hcan ht hln hAW hbd hpay hN HSN;go_in;go_wp2_with fail;refine (HDS.o _ HB0.o _ (Yp _ _ _ _)).mono ?_;rintro e w1 ⟨rfl,hb⟩;have HB:=zh (HB0.o.trans (hb.mono HB0.o.size));clear hb HB0 HDS;obtain ⟨r0,r1,r2,r3,r4,r5,r6,r7,_⟩:=Z5 (HP.o.below HB.o).hp;rw [<-HTI.o] at r0;go_wp2_with fail;refine (HER.o _ HB.o).mono ?_;rintro e w' ⟨rfl,rfl⟩;go_wp2_with fail
 go_loop [52] (fun i=>i=.int .i64 0) (fun i=>0)
 case atStart=>rfl
 case round=>
 subst hrel;clear r0 r1 r2 r3 r4 r5 r6 r7 q0 q1 q2 q3 q4 q5 q6 q7;go_wp2_with fail
 go_loopw [63] (fun i wr=>∃ n:Nat,n<=N/\i=.int .i64 n/\Bl w wr) (fun i _=>N - (intOf i).toNat)
 case atStart=>exact ⟨0,by omega,rfl,HB.o⟩
 case round=>
 obtain ⟨n,hn,rfl,hbx⟩:=hrel
 by_cases hlt:n < N
 ·have b1:(n:Int) < N:=by omega
  have b2:(n:Int) < 30:=by have:=HNN.o;have:=HLN.o;omega
  have t0:=HC.o _ hbx n (by have:=HNN.o;omega);obtain ⟨Q,hQ⟩:=xE (ps[n]'(by have:=HNN.o;omega));have HK:=zh (HCK.o _ hbx n (by have:=HNN.o;omega));rw [<-hQ] at t0 HK;clear hQ;go_wp2_with fail;refine HK.o.mono ?_;rintro e w2 ⟨rfl,hb⟩;have HB2:=zh (hbx.trans (hb.mono hbx.size));clear hb t0 HK;go_wp2_with fail;go_round
  case rel=>exact ⟨n+1,by omega,by go_num,HB2.o⟩
  case measure=>simp [intOf];omega
 obtain rfl:n=N:=by omega
 replace HB:=zh hbx;obtain ⟨w2,hw2⟩:=xE wr;rw [<-hw2] at HB ⊢;clear hbx hw2 hn hlt HCK;go_wp2_with fail;have hbM:Bl w2 ((w2.alloc (Obj.map #[] 0)).alloc (Obj.cells #[Value.map (some w2.heap.size)] 275)):=ZA (ZA bR)
 have HM:=zh (show Uf ((w2.alloc (Obj.map #[] 0)).alloc (Obj.cells #[Value.map (some w2.heap.size)] 275)) w2.heap.size 0 (fun _=>none) from (UMap.made prog 3 .i64 cChg w2).kept (by
  exact (ZA (Below.refl (w2.alloc (.map #[] 0)).heap.size (w2.alloc (.map #[] 0)))).block _ (by simp)))
 have HCB:=zh (show ((w2.alloc (Obj.map #[] 0)).alloc (Obj.cells #[Value.map (some w2.heap.size)] 275)).cell? ⟨w2.heap.size+1,0,none⟩=some (.map (some w2.heap.size)) from V5 _ _ _ (by simp));obtain ⟨W3,hW3⟩:=xE (((w2.alloc (Obj.map #[] 0)).alloc (Obj.cells #[Value.map (some w2.heap.size)] 275)));rw [<-hW3] at hbM HM HCB ⊢;obtain ⟨M,hM⟩:=xE w2.heap.size;have HWM:=zh (show w.heap.size<=M by rw [hM];exact HB.o.size);rw [<-hM] at HM HCB ⊢;replace HB:=zh (HB.o.trans (hbM.mono HB.o.size));clear hbM hW3 hM
 go_loop [78] (fun i=>i=.int .i64 0) (fun i=>0)
 case atStart=>rfl
 case round=>
 subst hrel;go_wp2_with fail
 go_loopw [116] (fun i wr=>DpR w M line bs i wr) (fun i _=>n - (intOf i).toNat)
 case atStart=>exact ⟨0,Nat.zero_le _,rfl,.inl ⟨rfl,HB.o,HWM.o,HCB.o,HM.o⟩⟩
 case round=>
 obtain ⟨j,hj,rfl,hd⟩:=hrel;have HJ:=zh (show n=bs.length from HNN.o.trans HLN.o.1)
 by_cases hlt:j < n
 ·have b1:(j:Int) < n:=by omega
  have b2:(j:Int) < 30:=by have:=HNN.o;have:=HLN.o;omega
  have hbx:Bl w wr:=by
   rcases hd with ⟨_,hb,_⟩|⟨s,V,hb,_⟩ <;> exact hb
  have hdl:∀ wx,Bl wr wx->((j=0/\Bl w wx/\w.heap.size<=M/\wx.cell? ⟨M+1,0,none⟩=some (.map (some M))/\Uf wx M 0 (fun _=>none))\/∃ s V,DpQ w M line j bs s V wx):=fun wx hb=>by
   rcases hd with ⟨a1,a2,a3,a4,a5⟩|⟨s,V,hq⟩
   ·exact .inl ⟨a1,a2.trans (hb.mono a2.size),a3,Zl hb a4,a5.kept (hb.block _ a5.lt)⟩
   ·exact .inr ⟨s,V,hq.below hb⟩
  have HCH:=zh (fun wx (hb:Bl wr wx)=>ZFY HL4.o (hdl wx hb));have hjb:j < bs.length:=by have:=HJ.o;omega
  have t0:=HC.o _ hbx j (by have:=HNN.o;omega);have HPJ:=zh (HPL.o _ hbx j (by have:=HNN.o;omega) hjb);obtain ⟨Q,hQ⟩:=xE (ps[j]'(by have:=HNN.o;omega));rw [<-hQ] at t0 HPJ;obtain ⟨B,hB⟩:=xE (bs[j]);rw [<-hB] at HPJ;have HBB:=zh hB;clear hQ hB hdl hd;go_wp2_with fail;refine HPJ.o.mono ?_;rintro e w4 ⟨rfl,hb⟩;have HCH4:=zh (HCH.o _ hb);clear hb t0 HPJ HCH hbx;go_wp2_with fail;refine HCH4.o.mono ?_;rintro e w5 ⟨s,V,rfl,hq⟩;have HQ:=zh hq;have HO:=zh hq.2.2.2.2.2.2.2;obtain ⟨c0,c1,c2,f0,f1,f2⟩:=ZY hq.2.2.2.2.2.2.1;have HS5:=zh hq.2.2.2.2.1;clear hq HCH4;go_wp2_with (at_builtin;refine ZS ZBV rfl _ _ rfl HO.o rfl rfl ?c1 rfl ?c2 ?c3 ?c4 ?c5 ?_)
  case c1=>simp
  case c2=>first|rfl|simp [Value.oneCell']
  case c3=>unfold maxLen;omega
  case c4=>omega
  case c5=>have:=HS5.o;omega
  intro g4 cap4 w6 hop6 hgr6 hg6;have hpq:=ZJw (o:=.map #[] 0) HQ.o (by have:=HJ.o;omega) (by rw [<-HBB.o,List.map_take];exact hop6) hgr6;obtain ⟨⟨k2,m2⟩,hq6⟩:=hpq;have HQ6:=zh hq6;clear hop6 hgr6 hg6 hq6 c0 c1 c2 f0 f1 f2 HO HQ;go_wp2_with fail;go_round
  case rel=>exact ⟨j+1,by have:=HJ.o;omega,by go_num,.inr ⟨_,_,HQ6.o⟩⟩
  case measure=>simp [intOf];omega
 obtain rfl:j=n:=by have:=HJ.o;omega
 obtain ⟨s,V,hq⟩:∃ s V,DpQ w M line j bs s V wr:=by
  rcases hd with ⟨h0,_⟩|h
  ·have:=HNN.o;have:=HLN.o;omega
  ·exact h
 obtain ⟨hb3,hcb,_,_,_,hcm,hs,hv⟩:=hq;replace HB:=zh hb3;have HCM:=zh hcm;have HS3:=zh hs;have HCB3:=zh hcb
 have HV0:=zh (show Nats wr V bs from Qp (by
  have e:bs.take j=bs:=ZL1 (by have:=HJ.o;omega);rw [e] at hv;have e2:j=bs.length:=HJ.o;rw [e2] at hv;exact hv))
 obtain ⟨w3,hw3⟩:=xE wr;rw [<-hw3] at HB HCM HS3 HV0 HCB3 ⊢;have k0:=HCB3.o;clear hb3 hcb hcm hs hv hw3 HM HCB HWM HPL hd HC;go_wp2_with fail;refine mkeys_any.mono ?_;rintro e w4 ⟨rfl,hww⟩;have hb1:Bl w3 w4:=by rw [hww];exact ZA bR
 have HX:=zh (show w4.cell? ⟨w3.heap.size,0,none⟩=some (.map (some M)) from by rw [hww,ZD (ZC _ _)];rfl);have HCM4:=zh (HCM.o.kept (hb1.block _ HCM.o.lt));obtain ⟨BX,hBX⟩:=xE w3.heap.size;rw [<-hBX] at HX ⊢;have HB4:=zh (HB.o.trans (hb1.mono HB.o.size));have HS4:=zh ((hb1.block _ (heap_lt HS3.o)).trans HS3.o);have HV04:=zh (HV0.o.below hb1);have HCB4:=zh (Zl hb1 HCB3.o);clear hww hb1 hBX HCM HS3 HV0 HCB3 HB k0;go_wp2_with fail;refine (Ua HX.o HCM4.o (by omega)).mono ?_;rintro e w5 ⟨v,ks,rfl,hks,hrow,hnil,hb⟩;have h1:ks=[line]:=by
  have hmem:∀ n,n∈ks↔n=line:=fun n=>by
   rw [hks.mem n];unfold YN;by_cases e:n=line <;> simp [e]
  cases ks with
  |nil=>exact absurd ((hmem line).2 rfl) (by simp)
  |cons a l=>
   have ha:=(hmem a).1 (.head _);cases l with
   |nil=>rw [ha]
   |cons a2 l2=>
    have ha2:=(hmem a2).1 (.tail _ (.head _));have:=hks.nodup;rw [ha,ha2] at this;simp at this
 subst h1;obtain ⟨g,cap,rfl,hsn,_⟩:=Zb hrow (by simp);have HL5:=zh (show w5.cell? ⟨g,0,none⟩=some (.int .i64 (line:Nat)) from hsn 0 _ rfl);have HB5:=zh (HB4.o.trans (hb.mono HB4.o.size));have HS5:=zh ((hb.block _ (heap_lt HS4.o)).trans HS4.o);have HV05:=zh (HV04.o.below hb);have HCB5:=zh (Zl hb HCB4.o);have HCM5:=zh (HCM4.o.kept (hb.block _ HCM4.o.lt));clear hks hrow hnil hb hsn HX HCM4 HB4 HS4 HV04 HCB4;simp only [List.length_singleton];go_wp2_with fail
 go_loopw [145,28] (fun i o wr=>(i=.int .i64 0/\o=.slice none 0 0/\wr=w5)\/(i=.int .i64 1/\Wrt wr w.heap.size o AW/\Bl w wr)) (fun i o _=>1 - (intOf i).toNat)
 case atStart=>exact .inl ⟨rfl,rfl,rfl⟩
 case round=>
 rcases hrel with ⟨rfl,rfl,hww⟩|⟨rfl,how,hbx⟩
 ·subst hww
  have l0:=HL5.o;obtain ⟨r0,r1,r2,r3,r4,r5,r6,r7,_⟩:=Z5 (HP.o.below HB5.o).hp;rw [<-HTI.o] at r0;go_wp2_with fail;refine (HOPN.o _ HB5.o).mono ?_;rintro e w6 ⟨rfl,hb⟩;have HB6:=zh (HB5.o.trans (hb.mono HB5.o.size));have HS6:=zh ((hb.block _ (heap_lt HS5.o)).trans HS5.o);have HV06:=zh (HV05.o.below hb);have HCB6:=zh (Zl hb HCB5.o);have HCM6:=zh (HCM5.o.kept (hb.block _ HCM5.o.lt));clear hb r0 r1 r2 r3 r4 r5 r6 r7 l0;unfold chV at *;obtain ⟨w7,hw7⟩:=xE (w6.alloc (.cells #[.iface 116 (.pointer (some ⟨A.t ti,0,none⟩)),.int .i64 line,.int .i64 k.cl,.int .i64 k.ow,.int .u16 k.gen] 211));have hb7:Bl w6 w7:=by rw [hw7];exact ZA bR
  have hn7:w7.heap[w6.heap.size]?=some (.cells #[.iface 116 (.pointer (some ⟨A.t ti,0,none⟩)),.int .i64 line,.int .i64 k.cl,.int .i64 k.ow,.int .u16 k.gen] 211 (0,0)):=by rw [hw7];exact ZC _ _
  have HB7:=zh (HB6.o.trans (hb7.mono HB6.o.size));have HS7:=zh ((hb7.block _ (heap_lt HS6.o)).trans HS6.o);have HV07:=zh (HV06.o.below hb7);have HCB7:=zh (Zl hb7 HCB6.o);have HCM7:=zh (HCM6.o.kept (hb7.block _ HCM6.o.lt));have HW7:=zh hw7;have HN7:=zh hn7;clear hw7 hn7 hb7 HS6 HV06 HCB6 HCM6;have HKP7:=zh (fun wx (hb:Bl w7 wx)=>(show wx.cell? ⟨M+1,0,none⟩=some (.map (some M))/\(Instr.lookup 275 (.map (some M)) (.int .i64 (line:Nat)) false).run prog wx=.ok (.pointer (some ⟨s,0,none⟩)) wx/\wx.cell? ⟨s,0,none⟩=some (.slice none 0 0)/\wx.cell? ⟨s,1,none⟩=some (.slice none 0 0)/\wx.cell? ⟨s,2,none⟩=some V/\wx.cell? ⟨w6.heap.size,0,none⟩=some (.iface 116 (.pointer (some ⟨A.t ti,0,none⟩)))/\wx.cell? ⟨w6.heap.size,1,none⟩=some (.int .i64 line)/\wx.cell? ⟨w6.heap.size,2,none⟩=some (.int .i64 k.cl)/\wx.cell? ⟨w6.heap.size,3,none⟩=some (.int .i64 k.ow)/\wx.cell? ⟨w6.heap.size,4,none⟩=some (.int .u16 k.gen) from by
   have hl:=(HCM7.o.kept (hb.block _ HCM7.o.lt)).look underlying3 underlying275 (ZJX _) (n:=line) (wfI (by have:=HL4.o;omega));obtain ⟨x0,x1,x2,_⟩:=ZY ((hb.block _ (heap_lt HS7.o)).trans HS7.o);obtain ⟨y0,y1,y2,y3,y4,_⟩:=ZCp ((hb.block _ (heap_lt HN7.o)).trans HN7.o);have e:YN (fun _=>none) line (some s) line=some (some s):=ZLX rfl;rw [e] at hl;exact ⟨Zl hb HCB7.o,hl,x0,x1,x2,y0,y1,y2,y3,y4⟩))
  have HR7:=zh (bZ w7)
  have HACS7:=zh (fun wx (hb:Bl w7 wx)=>(HACS.o wx (HB7.o.trans (hb.mono HB7.o.size)) V (HV07.o.below hb)).mono (R':=fun e w'=>∃ v,e=.returned (.tuple #[v,.int .i64 0])/\Wrt w' w.heap.size v AW/\Bl w7 w') (by
   rintro e w' ⟨v,h1,h2,h3⟩;exact ⟨v,h1,Zp h2 (ZLi HB7.o.size hb.size),hb.trans (h3.mono hb.size)⟩))
  clear HACS;go_upto_region 44 with fail;rw [<-HW7.o]
  go_region_held3 (fun wx=>wx.cell? ⟨M+1,0,none⟩=some (.map (some M))/\(Instr.lookup 275 (.map (some M)) (.int .i64 (line:Nat)) false).run prog wx=.ok (.pointer (some ⟨s,0,none⟩)) wx/\wx.cell? ⟨s,0,none⟩=some (.slice none 0 0)/\wx.cell? ⟨s,1,none⟩=some (.slice none 0 0)/\wx.cell? ⟨s,2,none⟩=some V/\wx.cell? ⟨w6.heap.size,0,none⟩=some (.iface 116 (.pointer (some ⟨A.t ti,0,none⟩)))/\wx.cell? ⟨w6.heap.size,1,none⟩=some (.int .i64 line)/\wx.cell? ⟨w6.heap.size,2,none⟩=some (.int .i64 k.cl)/\wx.cell? ⟨w6.heap.size,3,none⟩=some (.int .i64 k.ow)/\wx.cell? ⟨w6.heap.size,4,none⟩=some (.int .u16 k.gen))
   (first|exact HKP7.o _ hbv|exact HKP7.o _ (by repeat (with_reducible first|assumption|exact HR7.o|apply ZA|apply ZB)))
   (first
     |(go_at_call 162;refine (HACS7.o _ (by repeat (with_reducible first|assumption|exact HR7.o|apply ZA|apply ZB))).mono ?_;rintro e W9 ⟨av,rfl,hav,hbv⟩))
  all_goals
   have HAV:=zh hav;obtain ⟨g9,cap9,rfl,hs9,hg9⟩:=Zb hav (by have:=HAWL.o;omega);obtain ⟨g8,cap8,w8,hrun8,how8,hgr8,_⟩:=Zo elWrites (ZLn W9 w.heap.size 138 2) ⟨g9,0,none⟩ AW.length cap9 (ZT AW) (VT AW) (fun j u hj=>by rw [Addr.add_lit];exact hs9 j u hj) (VU AW) (by have:=HAWL.o;omega) (by have:=HAWL.o;unfold maxLen;omega) (by have:=HAWL.o;omega) (HB7.o.trans (hbv.mono HB7.o.size)).size;have HRN:=zh hrun8;have HO8:=zh (show Wrt w8 w.heap.size (.slice (some ⟨g8,0,none⟩) AW.length cap8) AW from by
    unfold Wrt;have:=how8;simpa using this)
   have HB8:=zh (ZL (HB7.o.trans (hbv.mono HB7.o.size)) hgr8 (HB7.o.trans (hbv.mono HB7.o.size)).size (fun k hk=>by cases hk));clear hav hs9 hrun8 how8 hgr8 hbv;go_wp2_with (at_builtin;refine Zf rfl (Operand.tmp 187) (Operand.tmp 188) 56 rfl _ _ _ _ rfl rfl HRN.o ?_);go_wp2_with fail;go_round
   case rel=>exact .inr ⟨rfl,HO8.o,HB8.o⟩
   case measure=>simp [intOf]
 ·obtain ⟨r0,r1,r2,r3,r4,r5,r6,r7,_⟩:=Z5 (HP.o.below hbx).hp
  rw [<-HTI.o] at r0;go_wp2_with fail;refine (HER.o _ hbx).mono ?_;rintro e w' ⟨rfl,rfl⟩;go_wp2;go_returns;exact ⟨_,rfl,how,fun q=>absurd (congrArg List.length q) (by have:=HAWL.o;intro q2;rw [List.length_nil] at q2;omega),hbx⟩
theorem VG:∀ {l:List (Nat×Nat×Nat)} {i:Nat} {y:Nat×Nat×Nat},l[i]?=some y->(icl l)[3 * i]?=some (.int .i64 y.1)/\(icl l)[3 * i+1]?=some (.int .u64 y.2.1)/\(icl l)[3 * i+2]?=some (.int .u64 y.2.2)
 |[],i,y,h=>by simp at h
 |z:: l,0,y,h=>by
  have:z=y:=by simpa using h
  subst this;exact ⟨rfl,rfl,rfl⟩
 |z:: l,i+1,y,h=>by
  have ih:=VG (l:=l) (i:=i) (y:=y) (by simpa using h);have e:icl (z:: l)=[.int .i64 z.1,.int .u64 z.2.1,.int .u64 z.2.2]++icl l:=rfl;rw [e];refine ⟨?_,?_,?_⟩
  ·rw [ZL6 (by simp;omega)]
   rw [show 3 * (i+1) - [Value.int .i64 z.1,.int .u64 z.2.1,.int .u64 z.2.2].length=3 * i by simp;omega];exact ih.1
  ·rw [ZL6 (by simp;omega)]
   rw [show 3 * (i+1)+1 - [Value.int .i64 z.1,.int .u64 z.2.1,.int .u64 z.2.2].length=3 * i+1 by simp;omega];exact ih.2.1
  ·rw [ZL6 (by simp;omega)]
   rw [show 3 * (i+1)+2 - [Value.int .i64 z.1,.int .u64 z.2.1,.int .u64 z.2.2].length=3 * i+2 by simp;omega];exact ih.2.2
def Itm (w:World)(v:Value)(l:List (Nat×Nat×Nat)):Prop:=∃ a cap,v=.slice a l.length cap/\(0 < l.length->∃ g,a=some ⟨g,0,none⟩/\Seen w g 0 (icl l))
theorem ItW.itm {B:Nat}{v:Value}{l:List (Nat×Nat×Nat)}(h:ItW w B v l):Itm w v l:=by
 obtain ⟨a,cap,rfl⟩:=ZN h;refine ⟨a,cap,rfl,fun h0=>?_⟩;obtain ⟨g,cap',e,hs,_⟩:=Zb h h0;cases e;exact ⟨g,rfl,hs⟩
theorem Itm.below {v:Value}{l:List (Nat×Nat×Nat)}(h:Itm w v l)(hb:Bl w w'):Itm w' v l:=by
 obtain ⟨a,cap,e,hg⟩:=h;refine ⟨a,cap,e,fun h0=>?_⟩;obtain ⟨g,e2,hs⟩:=hg h0;exact ⟨g,e2,hs.below hb nR⟩
def ZGl (l:List (Nat×Nat×Nat))(P:Nat):Prop:=∃ y∈l,y.2.1=P
theorem ZGK {pb P:Nat}{i q e:Nat}(hp:w.cell? ⟨pb,0,none⟩=some (.int .u64 P)):
 Calls prog 56 #[.agg #[.int .i64 i,.int .u64 q,.int .u64 e],.pointer (some ⟨pb,0,none⟩)] w fun e' w'=>e'=.returned (.bool (decide (q=P)))/\Bl w w':=by
 have hb:Bl w (w.alloc (.cells #[.int .i64 i,.int .u64 q,.int .u64 e] 132)):=ZA bR;have HB:=zh hb;have c0:=Zl hb hp;have c1:(w.alloc (.cells #[.int .i64 i,.int .u64 q,.int .u64 e] 132)).cell? ⟨w.heap.size,1,none⟩=some (.int .u64 q):=(ZD (ZC w _)).trans rfl;clear hb;have hd:((q:Int) == (P:Int))=decide (q=P):=by
  rw [Bool.eq_iff_iff];simp;omega
 go_in;go_wp2;go_returns;exact ⟨by first|rfl|(rw [<-hd])|simp,HB.o⟩
theorem ZIt {pb P:Nat}{v:Value}{l:List (Nat×Nat×Nat)}(hp:w.cell? ⟨pb,0,none⟩=some (.int .u64 P))(hv:Itm w v l)(hl:l.length<=1000):
 Calls prog 110 #[v,.func (.func 56) #[] #[.pointer (some ⟨pb,0,none⟩)]] w fun e' w'=>∃ r:Int,e'=.returned (.int .i64 r)/\(0<=r↔ZGl l P)/\Bl w w':=by
 have HP:=zh hp;obtain ⟨a,cap,rfl,hg⟩:=hv;have HG:=zh hg;obtain ⟨N,hN⟩:=xE l.length;have HN:=zh hN;rw [<-hN] at hl ⊢;clear hp hg hN;go_in;go_wp2_with fail
 go_loopw [8] (fun i wr=>∃ n:Nat,n<=N/\i=.int .i64 n/\Bl w wr/\∀ y∈l.take n,y.2.1≠P) (fun i _=>N - (intOf i).toNat)
 case atStart=>exact ⟨0,by omega,rfl,bR,fun y hy=>by simp at hy⟩
 case round=>
 obtain ⟨n,hn,rfl,hb,hall⟩:=hrel;have HB:=zh hb;have HALL:=zh hall;clear hb hall
 by_cases hlt:n < N
 ·have b1:(n:Int) < N:=by omega
  have b2:(n:Int) < 1000:=by omega
  obtain ⟨g,rfl,hs⟩:=HG.o (by have:=HN.o;omega);have hnl:n < l.length:=by have:=HN.o;omega
  obtain ⟨y,hy⟩:=xE (l[n]);have hget:l[n]?=some y:=by rw [hy];exact ZLg hnl
  obtain ⟨e0,e1,e2⟩:=VG hget;have hs2:=hs.below HB.o nR;have t0:=hs2 _ _ e0;have t1:=hs2 _ _ e1;have t2:=hs2 _ _ e2;have HPR:=zh (ZGK (w:=wr) (i:=y.1) (q:=y.2.1) (e:=y.2.2) (Zl HB.o HP.o));have HY:=zh (show l.take (n+1)=l.take n++[y] by rw [ZLk hnl,hy]);have HM:=zh (show y∈l by rw [hy];exact ZLl hnl);obtain ⟨yi,yq,ye⟩:=y;simp only at t0 t1 t2 HPR;rw [show 0+3 * n=n * 3 by omega] at t0;rw [show 0+(3 * n+1)=n * 3+1 by omega] at t1;rw [show 0+(3 * n+2)=n * 3+2 by omega] at t2;clear hs hs2 e0 e1 e2 hget hy hnl;go_wp2_with fail;refine HPR.o.mono ?_;rintro e' w2 ⟨rfl,hb⟩;have HB2:=zh (HB.o.trans (hb.mono HB.o.size));clear hb t0 t1 t2 HPR
  by_cases hq:yq=P
  ·have d1:decide (yq=P)=true:=ZLp hq
   go_wp2;go_returns;exact ⟨n,rfl,⟨fun _=>⟨_,HM.o,hq⟩,fun _=>by omega⟩,HB2.o⟩
  ·have d1:decide (yq=P)=false:=ZLh hq
   have HQ:=zh hq;clear hq;go_wp2_with fail;go_round
   case rel=>
    refine ⟨n+1,by omega,by go_num,HB2.o,fun y hy=>?_⟩;rw [HY.o] at hy;rcases ZLZ.1 hy with hy|hy
    ·exact HALL.o y hy
    ·have:y=(yi,yq,ye):=by simpa using hy
     subst this;exact HQ.o
   case measure=>simp [intOf];omega
 ·obtain rfl:n=N:=by omega
  have d1:¬ ((n:Int) < n):=by omega
  go_wp2;go_returns;refine ⟨-1,rfl,⟨fun q=>by omega,?_⟩,HB.o⟩;intro hex;obtain ⟨y,hy,e⟩:=hex;have:=HALL.o y (by rw [HN.o,List.take_length];exact hy);exact absurd e this
theorem ZEm {pb P:Nat}{v:Value}{l:List (Nat×Nat×Nat)}(hp:w.cell? ⟨pb,0,none⟩=some (.int .u64 P))(hv:Itm w v l)(hl:l.length<=1000){b:Bool}(hb:b=true↔ZGl l P):
 Calls prog 55 #[v,.func (.func 56) #[] #[.pointer (some ⟨pb,0,none⟩)]] w fun e' w'=>e'=.returned (.bool b)/\Bl w w':=by
 have HI:=zh (ZIt hp hv hl);have HBB:=zh hb;obtain ⟨a,cap,rfl,_⟩:=hv;clear hp hb hl;go_in;go_wp2_with fail;refine HI.o.mono ?_;rintro e' w1 ⟨r,rfl,hr,hb1⟩;have HB1:=zh hb1;have HE:=zh (show decide (0<=r)=b from by
  rw [Bool.eq_iff_iff,decide_eq_true_iff,hr,HBB.o])
 clear hb1 hr;go_wp2;go_returns;exact ⟨by rw [<-HE.o];rfl,HB1.o⟩
theorem ZAr (h:Ar w A F L T c) {t db lb off size:Nat} (hd:DrW w A F H t db lb off size) {P kb cnt:Nat} {q e:Nat->Nat} (hn:NdC c L P 0 cnt q e)
 (hck:∀ w1,Bl w w1->Calls prog 16 #[.pointer (some ⟨db,0,none⟩),.int .u64 P,.int .u8 12] w1 fun e' w'=>e'=.returned (.int .i64 0)/\Bl w1 w'):
 Calls prog 22 #[.iface 37 (.pointer (some ⟨db,0,none⟩)),.int .u64 P,.pointer (some ⟨kb,0,none⟩)] w fun e' w'=>e'=.returned (.tuple #[.pointer (some ⟨w.heap.size,0,none⟩),.int .i64 0])/\LiB w' w.heap.size P kb/\Bl w w':=by
 obtain ⟨w1,hw1⟩:=xE (w.alloc (.cells #[.int .u64 P,.pointer (some ⟨kb,0,none⟩)] 135));have hb1:Bl w w1:=by rw [hw1];exact ZA bR
 have hli:LiB w1 w.heap.size P kb:=by rw [hw1];exact ZC _ _
 have HCH:=zh (Xc (h.below hb1) (hd.below hb1) hli hn (fun w2 hb2=>hck w2 (hb1.trans (hb2.mono hb1.size))));have HNI:=zh (fun w1=>show Calls prog 15 #[.int .u64 P] w1 (fun e' w'=>e'=.returned (.bool false)/\w1=w') from by
  have:=Zd (w:=w1) (p:=P);rw [ZLh hn.ok.ne] at this;exact this)
 have HB1:=zh hb1;have HLI:=zh hli;have HW1:=zh hw1;clear h hd hn hck hb1 hli hw1;go_in;go_wp2_with fail;refine (HNI.o _).mono ?_;rintro e' w' ⟨rfl,rfl⟩;go_wp2_with fail;rw [<-HW1.o];refine HCH.o.mono ?_;rintro e' w2 ⟨v,rfl,g,cap,iv,rfl,hs,hiv,hb2,_⟩;have HE:=zh (show LiB w2 w.heap.size P kb/\Bl w w2 from ⟨HLI.o.below hb2,HB1.o.trans (hb2.mono HB1.o.size)⟩);clear hs hiv hb2;go_wp2;go_returns;exact ⟨rfl,HE.o⟩
theorem ZJ2:(prog.info? 32).map (fun i=>(i.zero,i.size,i.bytes))=some (some (.int .u64 0),1,8):=by kernel_rfl
theorem ZJx:El prog 40 32 1 8:=El.of underlying40 ZJ2 rfl (by omega)
def ptl (l:List Nat):List Value:=l.map fun (n:Nat)=>Value.int .u64 (n:Int)
theorem Qw (l:List Nat)(n:Nat):ptl (l++[n])=ptl l++[.int .u64 (n:Int)]:=by simp [ptl]
theorem ZHM (l:List (Nat×Nat×Nat))(y:Nat×Nat×Nat):icl (l++[y])=icl l++[.int .i64 y.1,.int .u64 y.2.1,.int .u64 y.2.2]:=by simp [icl]
theorem ZJo (h:Ar w A F L T c){kb now lib P B:Nat}{an:Nat->Nat}(hk:CkB w A kb now an)(hl:LiB w lib P kb)(hB:w.cell? ⟨B,0,none⟩=some (.pointer (some ⟨lib,0,none⟩))){i q e:Nat}:
 Calls prog 63 #[.agg #[.int .i64 i,.int .u64 q,.int .u64 e],.pointer (some ⟨B,0,none⟩)] w fun r w'=>r=.returned (.bool (Zg now an e))/\Bl w w':=by
 obtain ⟨w1,hw1⟩:=xE (w.alloc (.cells #[.int .i64 i,.int .u64 q,.int .u64 e] 132));have hb:Bl w w1:=by rw [hw1];exact ZA bR
 have HB:=zh hb;have HS:=zh (fun wx (hx:Bl w1 wx)=>ZIa ((h.below hb).below hx) ((hk.below hb).below hx) (e:=e));have c0:=Zl hb hB;have c1:w1.cell? ⟨w.heap.size,2,none⟩=some (.int .u64 e):=by rw [hw1];exact (ZD (ZC w _)).trans rfl
 obtain ⟨_,l1,_⟩:=Yd (hl.below hb);have HW:=zh hw1;clear h hk hl hB hb hw1;go_in;go_upto_region 1 with fail;rw [<-HW.o]
 go_quiet (first|(go_at_call 64;exact ZZ (HS.o _ (ZU bR))))
 have HB2:=zh (ZU (n:=nq) HB.o);go_wp2;go_returns;exact ⟨rfl,HB2.o⟩
theorem ZHY (V:World):(Instr.makeSlice 226 (.int .i64 1) (.int .i64 1)).run prog V=.ok (.slice (some ⟨V.heap.size,0,none⟩) 1 1) (V.alloc (.cells #[.slice none 0 0] 127)):=by kernel_rfl
def FrS (w3:World)(FB:Nat)(wr:World)(l:List (Nat×Nat×Nat)):Prop:=Bl w3 wr/\∃ v,wr.heap[FB]?=some (.cells #[v] 127 (0,0))/\ItW wr (FB+1) v l
theorem ZJg {w:World}{b:Nat}{e:TypeId}{a0:Value}(h:w.heap[b]?=some (.cells #[a0] e (0,0))):(∀ o,(w.alloc o).cell? ⟨b,0,none⟩=some a0)/\(∀ o,(w.alloc o).frozen? ⟨b,0,none⟩=false):=
 ⟨fun o=>(Uu ((ZK (heap_lt h)).trans h)).1,fun o=>(Uu ((ZK (heap_lt h)).trans h)).2⟩
theorem FrS.below {w3 wr wr':World}{FB:Nat}{l:List (Nat×Nat×Nat)}(h:FrS w3 FB wr l)(hb:Bl wr wr'):FrS w3 FB wr' l:=by
 obtain ⟨h1,v,h2,h3⟩:=h;exact ⟨h1.trans (hb.mono h1.size),v,(hb.block _ (heap_lt h2)).trans h2,ZO h3 hb⟩
theorem ZDI {α:Type}(p:α->Bool)(l:List α){n:Nat}(hn:n < l.length):(l.take (n+1)).filter p=(l.take n).filter p++if p l[n] then [l[n]] else []:=by
 rw [ZLk hn,ZL5]
 congr 1
 by_cases h:p l[n]=true
 ·simp [h]
 ·simp [h]
def QY (P:Nat)(l:List (Nat×Nat×Nat))(all:Bool):List (Nat×Nat):=l.map (fun y=>(ZP P+8 * (2+2 * y.1),0))++if all then [(ZP P+8 * 1,0)] else []
theorem ZDm (P:Nat)(l:List (Nat×Nat×Nat)):QY P l false=l.map (fun y=>(ZP P+8 * (2+2 * y.1),0)):=by simp [QY]
theorem ZAb (P:Nat)(l:List (Nat×Nat×Nat)):QY P l true=l.map (fun y=>(ZP P+8 * (2+2 * y.1),0))++[(ZP P+8 * 1,0)]:=by simp [QY]
def ColP (w:World)(db P:Nat)(FL:List (Nat×Nat×Nat))(all:Bool)(Q:World->Prop):Prop:=
 FL≠[]->∀ wx,Bl w wx->∀ v tb tc,Wrs wx v (QY P FL all)->Seen wx tb 0 (ptl (FL.map (·.2.1)))->
  Calls prog 38 #[.pointer (some ⟨db,0,none⟩),v,.slice none 0 0,.slice (some ⟨tb,0,none⟩) FL.length tc] wx fun e w'=>e=.returned (.int .i64 0)/\Q w'/\∀ k o,w.heap.size<=k->wx.heap[k]?=some o->w'.heap[k]?=some o
theorem UB {w:World}{g o b i:Nat}{l:List Value}(h:Seen w g o l)(hb:g≠b)(u:Value):Seen (w.setCell ⟨b,i,none⟩ u) g o l:=fun j v hj=>(ZLo (ZG hb)).trans (h j v hj)
def ZEQ (w:World)(b P nx cnt:Nat)(v:Value):World:=(((w.setCell ⟨b,0,none⟩ (.int .u64 P)).setCell ⟨b,1,none⟩ (.int .u64 nx)).setCell ⟨b,2,none⟩ (.int .i64 cnt)).setCell ⟨b,3,none⟩ v
theorem ZE5 {w:World}{b P nx cnt k:Nat}{v:Value}(h:k≠b):(ZEQ w b P nx cnt v).heap[k]?=w.heap[k]?:=by
 unfold ZEQ;rw [ZG h,ZG h,ZG h,ZG h]
theorem Q2 {w0 w:World}{b P nx cnt:Nat}{v:Value}(h:Bl w0 w)(hb:w0.heap.size<=b):Bl w0 (ZEQ w b P nx cnt v):=ZE (ZE (ZE (ZE h hb) hb) hb) hb
theorem ZA2 {w:World}{g o b P nx cnt:Nat}{v:Value}{l:List Value}(h:Seen w g o l)(hb:g≠b):Seen (ZEQ w b P nx cnt v) g o l:=UB (UB (UB (UB h hb _) hb _) hb _) hb _
theorem ZDB {w:World}{b P nx cnt B:Nat}{v:Value}{e:TypeId}{z n:Nat}{x:Value}{xs:List Value}(h:w.ownsRow B e z x n xs)(hb:b < B):(ZEQ w b P nx cnt v).ownsRow B e z x n xs:=Z8 (Z8 (Z8 (Z8 h hb _) hb _) hb _) hb _
theorem ZHQ (q e:Nat->Nat):∀ n,∀ y∈itm q e n,y.1 < n
 |0,y,h=>by cases h
 |n+1,y,h=>by
  unfold itm at h;rcases ZLZ.1 h with h|h
  ·exact Nat.lt_succ_of_lt (ZHQ q e n y h)
  ·split at h
   ·cases h
   ·have:y=(n,q n,e n):=by simpa using h
    subst this;exact Nat.lt_succ_self n
theorem U7 (l:List (Nat×Nat))(a b:Nat):ZT (l++[(a,b)])=ZT l++[.int .u64 (a:Nat),.int .u64 (b:Nat)]:=by simp [ZT,u64]
theorem ZBg (h:Ar w A F L T c) {t db lb off size:Nat} (hd:DrW w A F H t db lb off size) {lib P kb cnt now B:Nat} {q e an:Nat->Nat} (hl:LiB w lib P kb) (hk:CkB w A kb now an) (hn:NdC c L P 0 cnt q e)
 (hck:∀ w1,Bl w w1->Calls prog 16 #[.pointer (some ⟨db,0,none⟩),.int .u64 P,.int .u8 12] w1 fun e' w'=>e'=.returned (.int .i64 0)/\Bl w1 w')
 (hB:w.cell? ⟨B,0,none⟩=some (.pointer (some ⟨lib,0,none⟩))){FL:List (Nat×Nat×Nat)}(hFL:FL=(itm q e 29).filter fun y=>Zg now an y.2.2){Q:World->Prop}(hpub:ColP w db P FL (FL.length == (itm q e 29).length) Q):
 Calls prog 62 #[.pointer (some ⟨lib,0,none⟩),.iface 37 (.pointer (some ⟨db,0,none⟩)),.func (.func 63) #[] #[.pointer (some ⟨B,0,none⟩)]] w fun e' w'=>e'=.returned (.tuple #[.int .i64 (FL.length:Nat),.int .i64 0])/\(FL=[]/\Bl w w'\/FL≠[]/\Q w'):=by
 have HCH:=zh (Xc h hd hl hn hck);have HC1:=zh (fun w1 (hb:Bl w w1) (i q e:Nat)=>ZJo (h.below hb) (hk.below hb) (hl.below hb) (Zl hb hB) (i:=i) (q:=q) (e:=e));have HPT:=zh (show P < 18446744073709551616/\P≠0 by have:=hn.ok.lt;exact ⟨by omega,hn.ok.ne⟩);have HN29:=zh (VI q e 29);have HI29:=zh (ZHQ q e 29);have HFL:=zh hFL;have HPUB:=zh hpub;clear h hd hl hk hn hck hB hFL hpub;go_in;go_wp2_with fail;refine HCH.o.mono ?_;rintro e' w3 ⟨nv,rfl,g,cap,iv,rfl,hs,hiv,hb3,hg⟩;have HB3:=zh hb3;have HND:=zh (fun wx (hb:Bl w3 wx)=>hs.below hb nR);have HIT:=zh (fun wx (hb:Bl w3 wx)=>hiv.itm.below hb);have hisl:∃ a cap,iv=.slice a (itm q e 29).length cap:=ZN hiv;obtain ⟨ia,ic,rfl⟩:=hisl;obtain ⟨IL,hIL⟩:=xE (itm q e 29);rw [<-hIL] at HIT HN29 HI29 HFL HND HPUB;have HC3:=zh (fun wx (hb:Bl w3 wx)=>HC1.o wx (HB3.o.trans (hb.mono HB3.o.size)));clear hb3 hg hs hiv hIL HCH HC1;obtain ⟨K,hK⟩:=xE IL.length;have HK:=zh hK;rw [<-hK] at HND HIT;clear hK;have hmk:=ZHY;go_wp2_with fail;obtain ⟨FB,hFB⟩:=xE w3.heap.size;obtain ⟨w4,hw4⟩:=xE (w3.alloc (.cells #[.slice none 0 0] 127));have HF0:=zh (show FrS w3 FB w4 [] from by
  rw [hw4,hFB];exact ⟨ZA bR,_,ZC _ _,ZLn _ _ _ _⟩)
 have HFB:=zh (show w3.heap.size<=FB by omega);rw [<-hw4,<-hFB];clear hw4 hFB hmk
 go_loopw [47] (fun i wr=>(i=.int .i64 0/\FrS w3 FB wr [])\/(i=.int .i64 1/\FrS w3 FB wr FL)) (fun i _=>1 - (intOf i).toNat)
 case atStart=>exact .inl ⟨rfl,HF0.o⟩
 case round=>
 rcases hrel with ⟨rfl,hf⟩|⟨rfl,hf⟩
 ·have hs4:=HND.o _ hf.1
  have n0:=hs4 0 _ rfl;have n1:=hs4 1 _ rfl;have n2:=hs4 2 _ rfl;have n3:=hs4 3 _ rfl;have HF:=zh hf;clear hs4 hf HF0;go_wp2_with fail;obtain ⟨w5,hw5⟩:=xE (wr.alloc (.cells #[.int .u64 P,.int .u64 0,.int .i64 cnt,.slice ia K ic] 129));have HF5:=zh (show FrS w3 FB w5 [] by rw [hw5];exact HF.o.below (ZA bR));rw [<-hw5];clear hw5 n0 n1 n2 n3 HF
  go_loopw [55] (fun j wr=>∃ n:Nat,n<=K/\j=.int .i64 n/\FrS w3 FB wr ((IL.take n).filter fun y=>Zg now an y.2.2)) (fun j _=>K - (intOf j).toNat)
  case atStart=>exact ⟨0,by omega,rfl,by simpa using HF5.o⟩
  case round=>
  obtain ⟨n,hn,rfl,hf⟩:=hrel
  by_cases hlt:n < K
  ·have b1:(n:Int) < K:=by omega
   have hnl:n < IL.length:=by have:=HK.o;omega
   have b2:(n:Int) < 29:=by have:=HN29.o;omega
   obtain ⟨a0,c0,ea,hgi⟩:=HIT.o _ hf.1;simp only [Value.slice.injEq] at ea;obtain ⟨rfl,-,-⟩:=ea;obtain ⟨gI,rfl,hsI⟩:=hgi (by omega);obtain ⟨y,hy⟩:=xE (IL[n]);have hget:IL[n]?=some y:=by rw [hy];exact ZLg hnl
   obtain ⟨e0,e1,e2⟩:=VG hget;have t0:=hsI _ _ e0;have t1:=hsI _ _ e1;have t2:=hsI _ _ e2;have HTF:=zh (show (IL.take (n+1)).filter (fun y=>Zg now an y.2.2)=(IL.take n).filter (fun y=>Zg now an y.2.2)++if Zg now an y.2.2 then [y] else [] by rw [ZDI _ _ hnl,hy]);obtain ⟨yi,yq,ye⟩:=y;simp only at t0 t1 t2 HTF;rw [show 0+3 * n=n * 3 by omega] at t0;rw [show 0+(3 * n+1)=n * 3+1 by omega] at t1;rw [show 0+(3 * n+2)=n * 3+2 by omega] at t2;have HF:=zh hf;obtain ⟨_,v0,hv0,ho0⟩:=hf;have HV0:=zh hv0;have HO0:=zh ho0;have HKL:=zh (show ∀ k,v0.ownBlock=some k->k < wr.heap.size from fun k hk=>(ho0.lt k hk).2);have HC:=zh (fun w1 hb=>HC3.o w1 hb yi yq ye);have HNK:=zh (show n < K/\n < 29 from ⟨hlt,by omega⟩);clear hsI hgi e0 e1 e2 hget hy hnl hv0 ho0 hn hlt;go_wp2_with fail;obtain ⟨w6,hw6⟩:=xE (wr.alloc (.cells #[.int .i64 yi,.int .u64 yq,.int .u64 ye] 132));have HF6:=zh (show FrS w3 FB w6 _ by rw [hw6];exact HF.o.below (ZA bR));obtain ⟨IB,hIB⟩:=xE wr.heap.size;have hx6:w6.heap[IB]?=some (.cells #[.int .i64 yi,.int .u64 yq,.int .u64 ye] 132 (0,0)):=by rw [hw6,hIB];exact ZC _ _
   have hbw6:Bl wr w6:=by rw [hw6];exact ZA bR
   rw [<-hIB] at HKL;rw [<-hw6,<-hIB];clear hw6 hIB t0 t1 t2;refine (HC.o _ HF6.o.1).mono ?_;rintro r w7 ⟨rfl,hb7⟩;have HF7:=zh (HF6.o.below hb7);have hx7:=(hb7.block _ (heap_lt hx6)).trans hx6;have hbw7:Bl wr w7:=hbw6.trans (hb7.mono hbw6.size);have HV70:=zh ((hbw7.block _ (heap_lt HV0.o)).trans HV0.o);have HO70:=zh (ZO HO0.o hbw7);have HX7:=zh hx7;clear hx6 hx7 hb7 HF6 HF HC hbw6 hbw7 HV0 HO0
   by_cases hsf:Zg now an ye=true
   ·rw [ZLX hsf] at HTF
    rw [hsf];clear hsf;have hb7:=HF7.o.1;have hv7:=HV70.o;have ho7:=HO70.o;clear HV70 HO70;obtain ⟨va,vc,rfl⟩:=ZN ho7;obtain ⟨M,hM⟩:=xE (((IL.take n).filter fun y=>Zg now an y.2.2).length);have HM:=zh (show M<=29 by have h1:=ZL0 (fun y:Nat×Nat×Nat=>Zg now an y.2.2) (IL.take n);have h2:=List.length_take_le n IL;have:=HNK.o;omega);have HMM:=zh hM;rw [<-hM] at hv7 ho7 HKL;have HV7:=zh hv7;have HO7:=zh (show w7.ownsRow (FB+1) 132 3 (.slice va M vc) M (icl ((IL.take n).filter fun y=>Zg now an y.2.2)) from ho7);have HB7:=zh hb7;have HR7:=zh (bZ w7);obtain ⟨x0,x1,x2,_⟩:=ZY HX7.o;obtain ⟨f0,f1⟩:=Uu hv7;obtain ⟨na0,nf0⟩:=ZJg hv7;clear hb7 hv7 ho7 hM;go_upto_region 14 with fail;have HSa:=zh (show (w7.drew).heap[FB]?=some (.cells #[.slice va M vc] 127 (0,0))/\(w7.drew).heap[IB]?=some (.cells #[.int .i64 yi,.int .u64 yq,.int .u64 ye] 132 (0,0))/\Bl w3 (w7.drew) from ⟨HV7.o,HX7.o,ZB HB7.o⟩);have HSb:=zh (fun ob=>show (w7.drew.alloc ob).heap[FB]?=some (.cells #[.slice va M vc] 127 (0,0))/\(w7.drew.alloc ob).heap[IB]?=some (.cells #[.int .i64 yi,.int .u64 yq,.int .u64 ye] 132 (0,0))/\Bl w3 (w7.drew.alloc ob) from ⟨(ZK (heap_lt HSa.o.1)).trans HSa.o.1,(ZK (heap_lt HSa.o.2.1)).trans HSa.o.2.1,ZA HSa.o.2.2⟩);refine Zy 10 (fun wx=>wx.heap[FB]?=some (.cells #[.slice va M vc] 127 (0,0))/\wx.heap[IB]?=some (.cells #[.int .i64 yi,.int .u64 yq,.int .u64 ye] 132 (0,0))/\Bl w3 wx) (by kernel_rfl) ?_;refine tK (i:=0) (z:=10) (v:=.slice (some ⟨FB,0,none⟩) 1 1) rfl (by first|exact HSa.o|exact HSb.o _) (Or.inl ⟨by rfl,fun w' hc=>?_⟩) ?_
    ·go_simp
    (try simp only [Act.put,ZLT,ZLV,ZLW])
    refine tK (i:=1) (z:=10) (v:=.int .i64 0) rfl (by first|exact HSa.o|exact HSb.o _) (Or.inl ⟨by rfl,fun w' hc=>?_⟩) ?_
    ·go_simp
    (try simp only [Act.put,ZLT,ZLV,ZLW])
    refine tK (i:=2) (z:=10) (v:=.slice (some ⟨FB,0,none⟩) 1 1) rfl (by first|exact HSa.o|exact HSb.o _) (Or.inl ⟨by rfl,fun w' hc=>?_⟩) ?_
    ·go_simp
    (try simp only [Act.put,ZLT,ZLV,ZLW])
    refine tK (i:=3) (z:=10) (v:=.int .i64 0) rfl (by first|exact HSa.o|exact HSb.o _) (Or.inl ⟨by rfl,fun w' hc=>?_⟩) ?_
    ·go_simp
    (try simp only [Act.put,ZLT,ZLV,ZLW])
    refine tK (i:=4) (z:=10) (v:=.pointer (some ⟨FB,0,none⟩)) rfl (by first|exact HSa.o|exact HSb.o _) (Or.inl ⟨by rfl,fun w' hc=>?_⟩) ?_
    ·go_simp
    (try simp only [Act.put,ZLT,ZLV,ZLW])
    refine tK (i:=5) (z:=10) (v:=.slice va M vc) rfl (by first|exact HSa.o|exact HSb.o _) (Or.inl ⟨by rfl,fun w' hc=>?_⟩) ?_
    ·have f0':=(Uu hc.1).1;go_simp
    (try simp only [Act.put,ZLT,ZLV,ZLW])
    refine tK (i:=6) (z:=10) (v:=.agg #[.int .i64 yi,.int .u64 yq,.int .u64 ye]) rfl (by first|exact HSa.o|exact HSb.o _) (Or.inl ⟨by rfl,fun w' hc=>?_⟩) ?_
    ·obtain ⟨x0',x1',x2',_⟩:=ZY hc.2.1;go_simp
    (try simp only [Act.put,ZLT,ZLV,ZLW])
    refine YA (j:=7) (z:=10) (by kernel_rfl) rfl (fun K hK=>?_);go_simp;refine hK _ _ (by first|exact HSa.o|exact HSb.o _) ?_;clear hK K
    (try simp only [Act.put,ZLT,ZLV,ZLW])
    refine YA (j:=8) (z:=10) (by kernel_rfl) rfl (fun K hK=>?_);refine Xf elItm rfl _ _ rfl #[.int .i64 yi,.int .u64 yq,.int .u64 ye] (ZO HO7.o (by repeat (with_reducible first|assumption|exact HR7.o|apply ZA|apply ZB))) rfl rfl rfl (fun j u hj=>Yn hj) (by intro u hu;simp at hu;rcases hu with rfl|rfl|rfl <;> rfl) (by have:=HM.o;unfold maxLen;omega) (by have:=HM.o;omega) (by have:=heap_lt HV7.o;simp;omega) ?_;intro g8 cap8 w8 how hgr;have hbx:Bl w3 w8:=ZL (HSb.o _).2.2 hgr (by have:=HB7.o.size;simp;omega) (fun k hk=>by have:=(HO7.o.lt k hk).1;have:=HFB.o;omega);have hf8:w8.heap[FB]?=some (.cells #[.slice va M vc] 127 (0,0)):=(hgr.block FB (heap_lt (HSb.o _).1) (fun q1=>by have:=(HO7.o.lt FB q1.symm).1;omega)).trans (HSb.o _).1;have hi8:w8.heap[IB]?=some (.cells #[.int .i64 yi,.int .u64 yq,.int .u64 ye] 132 (0,0)):=(hgr.block IB (heap_lt (HSb.o _).2.1) (fun q1=>by have:=HKL.o IB q1.symm;omega)).trans (HSb.o _).2.1;refine hK _ _ ⟨hf8,hi8,hbx⟩ ?_;clear hK K
    (try simp only [Act.put,ZLT,ZLV,ZLW])
    refine tK (i:=9) (z:=10) (v:=.pointer (some ⟨FB,0,none⟩)) rfl ⟨hf8,hi8,hbx⟩ (Or.inl ⟨by rfl,fun w' hc=>?_⟩) ?_
    ·go_simp
    (try simp only [Act.put,ZLT,ZLV,ZLW])
    obtain ⟨m8,n8⟩:=Uu hf8;refine Vm (z:=10) (by kernel_rfl) rfl (by kernel_rfl) (by kernel_rfl) (fun K hK=>?_);go_simp;refine hK _ _ ?_;clear hK K;have HG:=zh (show FrS w3 FB (w8.setCell ⟨FB,0,none⟩ (.slice (some ⟨g8,0,none⟩) (M+1) cap8)) ((IL.take (n+1)).filter fun y=>Zg now an y.2.2) from by
     refine ⟨ZE hbx HFB.o,_,(ZI hf8).trans rfl,?_⟩;rw [HTF.o];unfold ItW;rw [ZLc,ZHM,<-HMM.o];exact Z8 how (Nat.lt_succ_self FB) _)
    clear how hgr hbx hf8 hi8 m8 n8 na0 nf0 x0 x1 x2 f0 f1;have b1:(n:Int) < 29:=by have:=HNK.o;omega
    go_wp2_with fail;exact ⟨⟨n+1,by have:=HNK.o;omega,rfl,HG.o⟩,by have:=HNK.o;simp [intOf];omega⟩
   ·rw [ZLU hsf,List.append_nil] at HTF
    have hsf2:Zg now an ye=false:=by simpa using hsf
    rw [hsf2];clear hsf hsf2;go_wp2_with fail;exact ⟨⟨n+1,by have:=HNK.o;omega,rfl,by rw [HTF.o];exact HF7.o⟩,by have:=HNK.o;simp [intOf];omega⟩
  ·obtain rfl:n=K:=by omega
   have d1:¬ (n:Int) < n:=by omega
   have HFF:=zh (show FrS w3 FB wr FL by rw [HFL.o,<-ZL1 (l:=IL) (i:=n) (by rw [HK.o];exact nR)];exact hf);clear hf;go_wp2_with fail;exact ⟨.inr ⟨rfl,HFF.o⟩,by simp [intOf]⟩
 ·have hs4:=HND.o _ hf.1
  have n0:=hs4 0 _ rfl;have n1:=hs4 1 _ rfl;have n2:=hs4 2 _ rfl;have n3:=hs4 3 _ rfl;have HF:=zh hf;clear hs4 hf HF0;go_wp2_with fail;obtain ⟨w5,hw5⟩:=xE (wr.alloc (.cells #[.int .u64 P,.int .u64 0,.int .i64 cnt,.slice ia K ic] 129));obtain ⟨BB,hBB⟩:=xE wr.heap.size;have HF5:=zh (show FrS w3 FB w5 FL by rw [hw5];exact HF.o.below (ZA bR));have HB5:=zh (show w5.heap[BB]?=some (ndO P 0 cnt (.slice ia K ic)) by rw [hw5,hBB];exact ZC _ _);have HFBB:=zh (show FB < BB by obtain ⟨_,v9,hv9,_⟩:=HF.o;rw [hBB];exact heap_lt hv9);have HBS:=zh (show w.heap.size<=BB by have h1:=HF.o.1.size;have h2:=HB3.o.size;omega);rw [<-hw5,<-hBB];clear hw5 hBB n0 n1 n2 n3 HF
  go_loopw [79,15] (fun i tot wr=>(i=.int .i64 0/\tot=.int .i64 0/\wr=w5)\/(i=.int .i64 1/\tot=.int .i64 (FL.length:Nat)/\(FL=[]/\Bl w wr\/FL≠[]/\Q wr))) (fun i _ _=>1 - (intOf i).toNat)
  case atStart=>exact .inl ⟨rfl,rfl,rfl⟩
  case round=>
  rcases hrel with ⟨rfl,rfl,hww⟩|⟨rfl,rfl,hq⟩
  ·subst hww
   have hs4:=HND.o _ HF5.o.1;have n0:=hs4 0 _ rfl;have n1:=hs4 1 _ rfl;have n2:=hs4 2 _ rfl;have n3:=hs4 3 _ rfl;obtain ⟨hb5,v5,hv5,ho5⟩:=HF5.o;obtain ⟨va,vc,rfl⟩:=ZN ho5;obtain ⟨FK,hFK⟩:=xE FL.length;have HFK:=zh hFK;have HFI:=zh (show FK<=29 by
    have h1:=ZL0 (fun y:Nat×Nat×Nat=>Zg now an y.2.2) IL;have:=HN29.o;rw [hFK,HFL.o];omega)
   rw [<-hFK] at hv5 ho5;have HO5:=zh (show wr.ownsRow (FB+1) 132 3 (.slice va FK vc) FK (icl FL) from by
    have:=ho5;unfold ItW at this;rw [<-hFK] at this;exact this)
   have HV5:=zh hv5;obtain ⟨f0,f1⟩:=Uu hv5;obtain ⟨na0,nf0⟩:=ZJg hv5;clear hs4 hv5 ho5 hFK hb5;go_wp2_with fail;obtain ⟨w6,hw6⟩:=xE (wr.alloc (.cells #[.int .u64 P,.int .u64 0,.int .i64 cnt,.slice ia K ic] 129));obtain ⟨NB,hNB⟩:=xE wr.heap.size;have hb6:Bl wr w6:=by rw [hw6];exact ZA bR
   have HN6:=zh (show w6.heap[NB]?=some (ndO P 0 cnt (.slice ia K ic)) by rw [hw6,hNB];exact ZC _ _);have HV6:=zh ((hb6.block _ (heap_lt HV5.o)).trans HV5.o);have HO6:=zh (ZO HO5.o hb6);have HB6:=zh ((hb6.block _ (heap_lt HB5.o)).trans HB5.o);have HF6:=zh (HF5.o.1.trans (hb6.mono HF5.o.1.size));rw [<-hw6,<-hNB];clear hw6 hNB hb6 n0 n1 n2 n3 f0 f1 na0 nf0 HV5 HO5 HB5 HF5
   go_loopw [89,20] (fun j fv wr=>∃ n:Nat,n<=FK/\j=.int .i64 n/\Bl w6 wr/\wr.ownsRow w6.heap.size 32 1 fv n (ptl ((FL.map (·.2.1)).take n))) (fun j _ _=>FK - (intOf j).toNat)
   case atStart=>exact ⟨0,by omega,rfl,bR,ZLn _ _ _ _⟩
   case round=>
   obtain ⟨n,hn,rfl,hb,ho⟩:=hrel;obtain ⟨fa,fc,rfl⟩:=ZN ho
   by_cases hlt:n < FK
   ·have b1:(n:Int) < FK:=by omega
    have hnl:n < FL.length:=by have:=HFK.o;omega
    have b2:(n:Int) < 29:=by have:=HFI.o;omega
    obtain ⟨gI,cI,eI,hsI,_⟩:=Zb (ZO HO6.o hb) (by omega);cases eI;obtain ⟨y,hy⟩:=xE (FL[n]);have hget:FL[n]?=some y:=by rw [hy];exact ZLg hnl
    obtain ⟨e0,e1,e2⟩:=VG hget;have t0:=hsI _ _ e0;have t1:=hsI _ _ e1;have t2:=hsI _ _ e2;have HTF:=zh (show ptl ((FL.map (·.2.1)).take (n+1))=ptl ((FL.map (·.2.1)).take n)++[.int .u64 (y.2.1:Nat)] by rw [ZLk (by simpa using hnl),List.getElem_map,<-hy];exact Qw _ _);obtain ⟨yi,yq,ye⟩:=y;simp only at t0 t1 t2 HTF;rw [show 0+3 * n=n * 3 by omega] at t0;rw [show 0+(3 * n+1)=n * 3+1 by omega] at t1;rw [show 0+(3 * n+2)=n * 3+2 by omega] at t2;have HB:=zh hb;have HO:=zh ho;have HNK:=zh (show n < FK/\n < 29 from ⟨hlt,by omega⟩);clear hsI e0 e1 e2 hget hy hnl hb ho hn hlt;go_wp2_with (at_builtin;refine ZS ZJx rfl _ _ rfl (World.ownsRow.alloc HO.o _) rfl rfl ?c1 rfl ?c2 ?c3 ?c4 ?c5 ?_)
    case c1=>simp
    case c2=>rfl
    case c3=>have:=HNK.o;unfold maxLen;omega
    case c4=>have:=HNK.o;omega
    case c5=>have:=HB.o.size;simp;omega
    intro g9 cap9 w9 hop hgr hg9;have HG:=zh (show Bl w6 w9/\w9.ownsRow w6.heap.size 32 1 (.slice (some ⟨g9,0,none⟩) (n+1) cap9) (n+1) (ptl ((FL.map (·.2.1)).take (n+1))) from by
     refine ⟨ZL (ZA HB.o) hgr (by have:=HB.o.size;simp;omega) (fun k hk=>(HO.o.lt k hk).1),?_⟩;rw [HTF.o];exact hop)
    clear hop hgr hg9 t0 t1 t2 HO HB;go_wp2_with fail;exact ⟨⟨n+1,by have:=HNK.o;omega,rfl,HG.o⟩,by have:=HNK.o;simp [intOf];omega⟩
   ·obtain rfl:n=FK:=by omega
    have d1:¬ (n:Int) < n:=by omega
    have et:(FL.map (·.2.1)).take n=FL.map (·.2.1):=ZL1 (by rw [ZLj,HFK.o];exact nR);rw [et] at ho;have HPR:=zh ho;obtain ⟨w8,hw8⟩:=xE wr;rw [<-hw8] at hb HPR ⊢;have HN8:=zh ((hb.block _ (heap_lt HN6.o)).trans HN6.o);have HV8:=zh ((hb.block _ (heap_lt HV6.o)).trans HV6.o);have HO8:=zh (ZO HO6.o hb);have HB8:=zh ((hb.block _ (heap_lt HB6.o)).trans HB6.o);have HW8:=zh (show Bl w w8 from (HB3.o.trans (HF6.o.mono HB3.o.size)).trans (hb.mono (by have h1:=HB3.o.size;have h2:=HF6.o.size;omega)));have HBB6:=zh (show BB < w6.heap.size from heap_lt HB6.o);clear hw8 hb ho hn hlt et HN6 HV6 HO6 HB6;have b29:(n:Int)<=29:=by have:=HFI.o;omega
    obtain ⟨n0,n1,n2,n3,_⟩:=Ya HN8.o;obtain ⟨q0,q1,q2,q3,q4,q5,q6,q7⟩:=Ya HB8.o;obtain ⟨f0,f1⟩:=Uu HV8.o
    by_cases hz:n=0
    ·subst hz
     have HNIL:=zh (show FL=[] from ZLr HFK.o.symm);have HE:=zh (show ∀ wx,Bl w wx->(.int .i64 0:Value)=.int .i64 (FL.length:Nat)/\(FL=[]/\Bl w wx\/FL≠[]/\Q wx) from fun wx hx=>⟨by rw [HNIL.o];rfl,.inl ⟨HNIL.o,hx⟩⟩)
     by_cases hk0:K=0
     ·have d2:((0:Int) == (K:Int))=true:=by simp [hk0]
      clear hk0;go_wp2_with fail;exact ⟨.inr ⟨rfl,HE.o _ (by repeat (first|with_reducible exact HW8.o|refine ZE ?_ HBS.o))⟩,by simp [intOf]⟩
     ·have d2:((0:Int) == (K:Int))=false:=by simp;omega
      clear hk0;go_wp2_with fail;exact ⟨.inr ⟨rfl,HE.o _ (by repeat (first|with_reducible exact HW8.o|refine ZE ?_ HBS.o))⟩,by simp [intOf]⟩
    ·have d2:(n:Int) > 0:=by omega
     obtain ⟨EB,hEB⟩:=xE (((n:Int) == (K:Int)));have HEB:=zh (show (FL.length == IL.length)=EB by rw [hEB,<-HFK.o,<-HK.o,Bool.eq_iff_iff];simp;omega);have e1:((n:Int) == (K:Int))=EB:=hEB.symm;have HNN:=zh (show FL≠[] from fun q=>by have:=HFK.o;rw [q] at this;exact hz this);have HPO:=zh (HPUB.o HNN.o);rw [HEB.o] at HPO;clear hEB hz HPUB;obtain ⟨gp,cp,ep,hsp,hgp⟩:=Zb HPR.o (by omega);cases ep;have HSP:=zh hsp;have HGP:=zh (show gp≠BB by have:=HBB6.o;omega);have HBB8:=zh (show BB < w8.heap.size from heap_lt HB8.o);clear hsp hgp;go_wp2_with fail
     go_loopw [132,19] (fun j wv wr=>∃ m:Nat,m<=n/\j=.int .i64 m/\Bl w8 wr/\wr.ownsRow w8.heap.size 138 2 wv m (ZT ((FL.map (fun y:Nat×Nat×Nat=>(ZP P+8 * (2+2 * y.1),0))).take m))) (fun j _ _=>n - (intOf j).toNat)
     case atStart=>exact ⟨0,by omega,rfl,bR,ZLn _ _ _ _⟩
     case round=>
     obtain ⟨m,hm,rfl,hb,ho⟩:=hrel;obtain ⟨pa,pc,rfl⟩:=ZN ho;have HB:=zh hb;have HO:=zh ho;clear n0 n1 n2 n3 q0 q1 q2 q3 q4 q5 q6 q7 f0 f1
     by_cases hlt:m < n
     ·have b1:(m:Int) < n:=by omega
      have hnl:m < FL.length:=by have:=HFK.o;omega
      have b2:(m:Int) < 29:=by have:=HFI.o;omega
      obtain ⟨gI,cI,eI,hsI,_⟩:=Zb (ZO HO8.o hb) (by omega);cases eI;obtain ⟨y,hy⟩:=xE (FL[m]);have hget:FL[m]?=some y:=by rw [hy];exact ZLg hnl
      have hy29:y.1 < 29:=by
       have h1:y∈FL:=by rw [hy];exact ZLl _
       rw [HFL.o] at h1;exact HI29.o y (ZLv.1 h1).1
      obtain ⟨e0,e2,e3⟩:=VG hget;have t0:=hsI _ _ e0;have t1:=hsI _ _ e2;have t2:=hsI _ _ e3;have HTF:=zh (show ZT ((FL.map (fun y:Nat×Nat×Nat=>(ZP P+8 * (2+2 * y.1),0))).take (m+1))=ZT ((FL.map (fun y:Nat×Nat×Nat=>(ZP P+8 * (2+2 * y.1),0))).take m)++[.int .u64 ((ZP P+8 * (2+2 * y.1):Nat):Int),.int .u64 (0:Nat)] by rw [ZLk (by simpa using hnl),List.getElem_map,<-hy];exact U7 _ _ _);obtain ⟨yi,yq,ye⟩:=y;simp only at t0 t1 t2 HTF hy29;rw [show 0+3 * m=m * 3 by omega] at t0;rw [show 0+(3 * m+1)=m * 3+1 by omega] at t1;rw [show 0+(3 * m+2)=m * 3+2 by omega] at t2;have HAT:=zh (fun (w1:World)=>XE (w:=w1) (p:=P) (k:=2+2 * yi) HPT.o.1 HPT.o.2 (by omega));have HPA:=zh (fun (w1:World)=>JT (w:=w1) (i:=yi) (by omega));obtain ⟨X2,hX2⟩:=xE (2+2 * yi);rw [<-hX2] at HAT HPA HTF;obtain ⟨A1,hA1⟩:=xE (ZP P+8 * X2);rw [<-hA1] at HAT HTF;have HNK:=zh (show m < n/\m < 29 from ⟨hlt,by omega⟩);clear hsI e0 e2 e3 hget hy hnl hb ho hm hlt hX2 hA1 hy29;go_wp2_with fail;obtain ⟨w9,hw9⟩:=xE (wr.alloc (.cells #[.int .i64 yi,.int .u64 yq,.int .u64 ye] 132));obtain ⟨IB,hIB⟩:=xE wr.heap.size;have hb9:Bl wr w9:=by rw [hw9];exact ZA bR
      have HX9:=zh (show w9.heap[IB]?=some (.cells #[.int .i64 yi,.int .u64 yq,.int .u64 ye] 132 (0,0)) by rw [hw9,hIB];exact ZC _ _);have HO9:=zh (ZO HO.o hb9);have HB9:=zh (HB.o.trans (hb9.mono HB.o.size));have HN9:=zh ((HB9.o.block _ (heap_lt HN8.o)).trans HN8.o);have HR9:=zh (bZ w9);rw [<-hw9,<-hIB];clear hw9 hIB hb9 t0 t1 t2
      have HS9:=zh (fun wx (hb:Bl w9 wx)=>show wx.cell? ⟨NB,0,none⟩=some (.int .u64 P)/\wx.cell? ⟨IB,0,none⟩=some (.int .i64 yi) from
       ⟨(Ya ((hb.block _ (heap_lt HN9.o)).trans HN9.o)).1,(ZY ((hb.block _ (heap_lt HX9.o)).trans HX9.o)).1⟩)
      go_region_held3 (fun wx=>wx.cell? ⟨NB,0,none⟩=some (.int .u64 P)/\wx.cell? ⟨IB,0,none⟩=some (.int .i64 yi))
       (first|exact hsx|exact HS9.o _ (by repeat (with_reducible first|assumption|exact HR9.o|apply ZA|apply ZB)))
       (first
         |(refine ZF rfl func58 rfl rfl rfl (HPA.o _) (by simp [Act.eval];first|done|rfl) ?_;rintro e' V2 ⟨rfl,rfl⟩;refine ⟨_,rfl,?_⟩)
         |(refine ZF rfl func19 rfl rfl rfl (HAT.o _) (by simp [Act.eval];first|done|rfl) ?_;rintro e' V2 ⟨rfl,rfl⟩;refine ⟨_,rfl,?_⟩)
         |(refine Xf elWrites rfl _ _ rfl #[.int .u64 A1,.int .u64 0] (ZO HO9.o (by repeat (with_reducible first|assumption|exact HR9.o|apply ZA|apply ZB))) rfl rfl rfl (fun j u hj=>Yn hj) (by intro u hu;simp at hu;rcases hu with rfl|rfl <;> rfl) (by have:=HNK.o;unfold maxLen;omega) (by have:=HNK.o;omega) (by have:=HB9.o.size;simp;omega) ?_;intro g8 cap8 w10 how hgr;have hbx:Bl w8 w10:=ZL (by repeat (with_reducible first|assumption|exact HB9.o|apply ZA|apply ZB)) hgr (by have:=HB9.o.size;simp;omega) (fun k hk=>(HO9.o.lt k hk).1);have hsx:w10.cell? ⟨NB,0,none⟩=some (.int .u64 P)/\w10.cell? ⟨IB,0,none⟩=some (.int .i64 yi):=⟨(Ya ((hbx.block _ (heap_lt HN8.o)).trans HN8.o)).1,(ZY ((hgr.block IB (by have:=heap_lt HX9.o;simp;omega) (fun q1=>Zt HO9.o HX9.o (by decide) q1.symm)).trans ((ZK (heap_lt HX9.o)).trans HX9.o))).1⟩))
      all_goals
       have HG:=zh (show Bl w8 w10/\w10.ownsRow w8.heap.size 138 2 (.slice (some ⟨g8,0,none⟩) (m+1) cap8) (m+1) (ZT ((FL.map (fun y:Nat×Nat×Nat=>(ZP P+8 * (2+2 * y.1),0))).take (m+1))) from ⟨hbx,by rw [HTF.o];exact how⟩);clear how hgr hbx hsx;have b3:(m:Int) < 29:=by have:=HNK.o;omega
       go_wp2_with fail;exact ⟨⟨m+1,by have:=HNK.o;omega,rfl,HG.o⟩,by have:=HNK.o;simp [intOf];omega⟩
     ·obtain rfl:m=n:=by omega
      have d3:¬ (m:Int) < m:=by omega
      have et:(FL.map (fun y:Nat×Nat×Nat=>(ZP P+8 * (2+2 * y.1),0))).take m=FL.map (fun y:Nat×Nat×Nat=>(ZP P+8 * (2+2 * y.1),0)):=ZL1 (by rw [ZLj,HFK.o];exact nR);rw [et] at ho;have HWO:=zh ho;have hW9:Bl w wr:=HW8.o.trans (hb.mono HW8.o.size);have HW9:=zh hW9;have HN9:=zh ((hb.block _ (heap_lt HN8.o)).trans HN8.o);have HB9:=zh ((hb.block _ (heap_lt HB8.o)).trans HB8.o);have HV9:=zh ((hb.block _ (heap_lt HV8.o)).trans HV8.o);have HSP9:=zh (HSP.o.below hb nR);have HAT1:=zh (fun (w1:World)=>XE (w:=w1) (p:=P) (k:=1) HPT.o.1 HPT.o.2 (by omega));obtain ⟨A1,hA1⟩:=xE (ZP P+8 * 1);have HA1:=zh hA1;rw [<-hA1] at HAT1;have HFBW:=zh (show w.heap.size<=FB by have h1:=HFB.o;have h2:=HB3.o.size;omega);have hm0:¬ (m:Int)=0:=by omega
      have hm1:((m:Int) == 0)=false:=by simp;omega
      have HBW:=zh hb;clear hb ho hm hlt et hA1 HB HO hW9 HO8 HPR;obtain ⟨n0,n1,n2,n3,_⟩:=Ya HN9.o;obtain ⟨q0,q1,q2,q3,q4,q5,q6,q7⟩:=Ya HB9.o;cases EB with
      |false=>
       obtain ⟨W4,hW4⟩:=xE (ZEQ wr BB P 0 cnt (.slice ia K ic));have HB4:=zh (show Bl w W4 by rw [hW4];exact Q2 HW9.o HBS.o);have HV4:=zh (show W4.heap[FB]?=some (.cells #[.slice va m vc] 127 (0,0)) by rw [hW4,ZE5 (by have:=HFBB.o;omega)];exact HV9.o);have HWS4:=zh (show Wrs W4 (.slice pa m pc) (QY P FL false) from by
        refine UC (B:=w8.heap.size) ?_;unfold Wrt;rw [hW4,ZDm,show (FL.map fun y=>(ZP P+8 * (2+2 * y.1),0)).length=m by rw [ZLj];exact HFK.o.symm];exact ZDB HWO.o HBB8.o)
       have HPB:=zh (HPO.o W4 HB4.o _ gp fc HWS4.o (by rw [hW4];exact ZA2 HSP9.o HGP.o));rw [<-HFK.o] at HPB;go_upto_region 44 with fail;rw [show (((wr.setCell ⟨BB,0,none⟩ (.int .u64 P)).setCell ⟨BB,1,none⟩ (.int .u64 0)).setCell ⟨BB,2,none⟩ (.int .i64 cnt)).setCell ⟨BB,3,none⟩ (.slice ia K ic)=W4 from hW4.symm];clear hW4;have hFBc:=(Uu HV4.o).1
       go_wp2_with (first
        |(rw [nilD_publish];exact ⟨rfl,rfl⟩)
        |(go_invoke;go_simp;go_at_call 38;refine HPB.o.mono ?_;rintro e' w9 ⟨rfl,hQ9,hk9⟩;have HK9:=zh hk9;have HQ9:=zh hQ9;clear hk9 hQ9;have hFB9:=(Uu (HK9.o FB _ HFBW.o HV4.o)).1))
       (try go_wp2_with fail)
       exact ⟨.inr ⟨rfl,by rw [<-HFK.o],.inr ⟨HNN.o,HQ9.o⟩⟩,by simp [intOf]⟩
      |true=>
       go_wp2_with fail;refine (HAT1.o _).mono ?_;rintro e' w' ⟨rfl,rfl⟩;go_wp2_with (at_builtin;refine ZS elWrites rfl _ _ rfl HWO.o rfl rfl ?c1 rfl ?c2 ?c3 ?c4 ?c5 ?_)
       case c1=>rfl
       case c2=>exact ⟨rfl,rfl⟩
       case c3=>have:=HFI.o;unfold maxLen;omega
       case c4=>have:=HFI.o;omega
       case c5=>have:=HBW.o.size;omega
       intro g10 cap10 w10 hop10 hgr10 hg10;have hb10:Bl w8 w10:=ZL HBW.o hgr10 HBW.o.size (fun k hk=>(HWO.o.lt k hk).1);have HW10:=zh (HW8.o.trans (hb10.mono HW8.o.size));have HN10:=zh ((hb10.block _ (heap_lt HN8.o)).trans HN8.o);have HB10:=zh ((hb10.block _ (heap_lt HB8.o)).trans HB8.o);have HV10:=zh ((hb10.block _ (heap_lt HV8.o)).trans HV8.o);have HSP10:=zh (HSP.o.below hb10 nR);have HO10:=zh (show w10.ownsRow w8.heap.size 138 2 (.slice (some ⟨g10,0,none⟩) (m+1) cap10) (m+1) (ZT (QY P FL true)) from by
        rw [ZAb,U7,<-HA1.o];exact hop10)
       clear hop10 hgr10 hg10 hb10 n0 n1 n2 n3 q0 q1 q2 q3 q4 q5 q6 q7;obtain ⟨n0,n1,n2,n3,_⟩:=Ya HN10.o;obtain ⟨q0,q1,q2,q3,q4,q5,q6,q7⟩:=Ya HB10.o;obtain ⟨W4,hW4⟩:=xE (ZEQ w10 BB P 0 cnt (.slice ia K ic));have HB4:=zh (show Bl w W4 by rw [hW4];exact Q2 HW10.o HBS.o);have HV4:=zh (show W4.heap[FB]?=some (.cells #[.slice va m vc] 127 (0,0)) by rw [hW4,ZE5 (by have:=HFBB.o;omega)];exact HV10.o);have HWS4:=zh (show Wrs W4 (.slice (some ⟨g10,0,none⟩) (m+1) cap10) (QY P FL true) from by
        refine UC (B:=w8.heap.size) ?_;unfold Wrt;rw [hW4,show (QY P FL true).length=m+1 by rw [ZAb,ZLc,ZLj,<-HFK.o];rfl];exact ZDB HO10.o HBB8.o)
       have HPB:=zh (HPO.o W4 HB4.o _ gp fc HWS4.o (by rw [hW4];exact ZA2 HSP10.o HGP.o));rw [<-HFK.o] at HPB;go_upto_region 44 with fail;rw [show (((w10.setCell ⟨BB,0,none⟩ (.int .u64 P)).setCell ⟨BB,1,none⟩ (.int .u64 0)).setCell ⟨BB,2,none⟩ (.int .i64 cnt)).setCell ⟨BB,3,none⟩ (.slice ia K ic)=W4 from hW4.symm];clear hW4;have hFBc:=(Uu HV4.o).1
       go_wp2_with (first
        |(rw [nilD_publish];exact ⟨rfl,rfl⟩)
        |(go_invoke;go_simp;go_at_call 38;refine HPB.o.mono ?_;rintro e' w9 ⟨rfl,hQ9,hk9⟩;have HK9:=zh hk9;have HQ9:=zh hQ9;clear hk9 hQ9;have hFB9:=(Uu (HK9.o FB _ HFBW.o HV4.o)).1))
       (try go_wp2_with fail)
       exact ⟨.inr ⟨rfl,by rw [<-HFK.o],.inr ⟨HNN.o,HQ9.o⟩⟩,by simp [intOf]⟩
  ·go_wp2
   go_returns;exact ⟨rfl,hq⟩
theorem ColP.below {db P:Nat}{FL:List (Nat×Nat×Nat)}{all:Bool}{Q:World->Prop}(h:ColP w db P FL all Q)(hb:Bl w w'):ColP w' db P FL all Q:=
 fun hne wx hx v tb tc hv hs=>(h hne wx (hb.trans (hx.mono hb.size)) v tb tc hv hs).mono fun e w2 ⟨h1,h2,h3⟩=>⟨h1,h2,fun k o hk=>h3 k o (ZLi hb.size hk)⟩
theorem ZBd (h:Ar w A F L T c) {t db lb off size:Nat} (hd:DrW w A F H t db lb off size) {lib P kb cnt now:Nat} {q e an:Nat->Nat} (hl:LiB w lib P kb) (hk:CkB w A kb now an) (hn:NdC c L P 0 cnt q e)
 (hck:∀ w1,Bl w w1->Calls prog 16 #[.pointer (some ⟨db,0,none⟩),.int .u64 P,.int .u8 12] w1 fun e' w'=>e'=.returned (.int .i64 0)/\Bl w1 w')
 {FL:List (Nat×Nat×Nat)} (hFL:FL=(itm q e 29).filter fun y=>Zg now an y.2.2) {Q:World->Prop} (hpub:ColP w db P FL (FL.length == (itm q e 29).length) Q):
 Calls prog 24 #[.pointer (some ⟨lib,0,none⟩),.iface 37 (.pointer (some ⟨db,0,none⟩))] w fun e' w'=>e'=.returned (.tuple #[.int .i64 (FL.length:Nat),.int .i64 0])/\(FL=[]/\Bl w w'\/FL≠[]/\Q w'):=by
 obtain ⟨w1,hw1⟩:=xE (w.alloc (.cells #[.pointer (some ⟨lib,0,none⟩)] 38));have hb:Bl w w1:=by rw [hw1];exact ZA bR
 have c0:w1.cell? ⟨w.heap.size,0,none⟩=some (.pointer (some ⟨lib,0,none⟩)):=by rw [hw1];exact (Uu (ZC w _)).1
 have HC:=zh (ZBg (h.below hb) (hd.below hb) (hl.below hb) (hk.below hb) hn (fun w2 h2=>hck w2 (hb.trans (h2.mono hb.size))) c0 hFL (hpub.below hb));have HB:=zh hb;have HW:=zh hw1;obtain ⟨N,hN⟩:∃ N:Nat,N=FL.length:=⟨_,rfl⟩
 rw [<-hN] at HC ⊢;clear h hd hl hk hn hck hFL hpub hb hw1 c0 hN;go_in;go_wp2_with fail
 (try rw [<-HW.o])
 refine HC.o.mono ?_;rintro e' w2 ⟨rfl,hq⟩;have HQ:=zh (show FL=[]/\Bl w w2\/FL≠[]/\Q w2 from hq.imp (fun q=>⟨q.1,HB.o.trans (q.2.mono HB.o.size)⟩) id);clear hq;go_wp2;go_returns;exact ⟨rfl,HQ.o⟩
theorem ZBX (h:HW w A F L T c x H lk p ex res held):
 Calls prog 97 #[.pointer (some ⟨H.hb,0,none⟩),.slice none 0 0,.slice none 0 0] w fun e w'=>e=.returned (.tuple #[.slice none 0 0,.int .i64 0])/\Bl w w':=by
 have HDS:=zh (fun (w1:World) (b:Nat) (hb:Seen w1 b 0 [.slice none 0 0,.slice none 0 0])=>Xm (w:=w1) (ls:=fun _=>[]) (vs:=fun _=>.slice none 0 0) (fun j _=>.inl ⟨rfl,rfl⟩) (by simp) (by simp) (by simp) hb);have HER:=zh (fun w1 hb=>Zs h.ar h.hp.t w1 hb);have HP:=zh h.hp;obtain ⟨q0,q1,q2,q3,q4,q5,q6,q7,_⟩:=Z5 h.hp.hp;obtain ⟨ti,hti⟩:=xE H.t;rw [<-hti] at HER q0;have HTI:=zh hti;have hmm:=@run_makeMap prog;have HB0:=zh (ZA (o:=.cells #[.slice none 0 0,.slice none 0 0] 40) (bZ w));clear h hti;go_in;go_wp2_with fail;refine (HDS.o _ _ (Yp _ _ _ _)).mono ?_;rintro e w1 ⟨rfl,hb⟩;have HB:=zh (HB0.o.trans (hb.mono HB0.o.size));clear hb HB0;obtain ⟨r0,r1,r2,r3,r4,r5,r6,r7,_⟩:=Z5 (HP.o.below HB.o).hp;rw [<-HTI.o] at r0;go_wp2_with fail;refine (HER.o _ HB.o).mono ?_;rintro e w' ⟨rfl,rfl⟩;go_wp2_with fail
 go_loop [52] (fun i=>i=.int .i64 0) (fun i=>0)
 case atStart=>rfl
 case round=>
 subst hrel;go_wp2_with fail
 go_loop [63] (fun i=>i=.int .i64 0) (fun i=>0)
 case atStart=>rfl
 case round=>
 subst hrel;go_wp2_with fail
 go_loop [78] (fun i=>i=.int .i64 0) (fun i=>0)
 case atStart=>rfl
 case round=>
 subst hrel;go_wp2_with fail
 go_loop [116] (fun i=>i=.int .i64 0) (fun i=>0)
 case atStart=>rfl
 case round=>
 subst hrel;go_wp2_with fail;refine mkeys_any.mono ?_;rintro e w2 ⟨rfl,hww⟩;have hb1:Bl w1 w2:=by rw [hww];exact ZA (ZA (ZA bR))
 have HM:=zh (show Uf w2 w1.heap.size 0 (fun _=>none) from (UMap.made prog 3 .i64 cChg w1).kept (by
  rw [hww];exact (ZA (ZA (Below.refl (w1.alloc (.map #[] 0)).heap.size (w1.alloc (.map #[] 0))))).block _ (by simp)))
 obtain ⟨BX,hBX⟩:=xE (((w1.alloc (Obj.map #[] 0)).alloc (Obj.cells #[Value.map (some w1.heap.size)] 275)).heap.size);have HX:=zh (show w2.cell? ⟨BX,0,none⟩=some (.map (some w1.heap.size)) from by rw [hww,hBX,ZD (ZC _ _)];rfl);rw [<-hBX];replace HB:=zh (HB.o.trans (hb1.mono HB.o.size));clear hww hb1 hBX r0 r1 r2 r3 r4 r5 r6 r7 q0 q1 q2 q3 q4 q5 q6 q7;go_wp2_with fail;refine (Ua HX.o HM.o (by omega)).mono ?_;rintro e w3 ⟨v,ks,rfl,hks,hrow,hnil,hb⟩;have h0:ks=[]:=by
  cases ks with
  |nil=>rfl
  |cons a l=>have:=(hks.mem a).1 (by simp);simp at this
 subst h0;replace HB:=zh (HB.o.trans (hb.mono HB.o.size));obtain rfl:v=.slice none 0 0:=hnil.2 rfl;clear hnil;clear hks hrow hb HM HX;obtain ⟨r0,r1,r2,r3,r4,r5,r6,r7,_⟩:=Z5 (HP.o.below HB.o).hp;rw [<-HTI.o] at r0;go_wp2_with fail
 go_loop [145,28] (fun i o=>i=.int .i64 0/\o=.slice none 0 0) (fun i o=>0)
 case atStart=>exact ⟨rfl,rfl⟩
 case round=>
 obtain ⟨rfl,rfl⟩:=hrel;go_wp2_with fail;refine (HER.o _ HB.o).mono ?_;rintro e w' ⟨rfl,rfl⟩;go_wp2;go_returns;exact ⟨rfl,HB.o⟩
variable {F':Nat->Option ZM}{ex':Nat}{res' held':Nat->Option Nat}
theorem ZHB (h:HW w A F L T c x H false p ex res held){t db lb off size:Nat}(hd:DrW w A F H t db lb off size)(hoff:off % 8=0/\off+size<=64 * L)(hsz:size < 1000000)(hz:c (off / 8)=0){v:Value}{lw:List (Nat×Nat)}(hv:Wrs w v lw)(h1:1<=lw.length)(h96:lw.length<=96)(hs:64+16 * lw.length<=size)(hok:UP L off size lw)(hx1:x+6 * lw.length+8<=x')(hx:x'<=1000000):
 Calls prog 38 #[.pointer (some ⟨db,0,none⟩),v,.slice none 0 0,.slice none 0 0] w fun e w'=>e=.returned (.int .i64 0)/\ClP w A F L T (wrs c (cmL off (cmV T lw) lw).flatten) x' H false p ex res held w':=by
 have:=VE (x':=x') (p':=p) (ex':=ex) (res':=res) (held':=held) (la:=[]) (tv:=.slice none 0 0) (dv:=.slice none 0 0) h hd hoff hsz hz hv h1 (by simpa using h96) (by simpa using hs) (by simpa using hok) (by simpa using hx1) hx
  (fun w1 hb=>(ZBX (h.below hb)).mono fun e w' ⟨h1,h2⟩=>⟨_,h1,ZLn _ _ _ _,fun _=>rfl,h2⟩)
  (fun F1 w1 hw hm=>hsettle_nil.mono fun e w' ⟨h1,h2⟩=>⟨h1,by subst h2;exact hw,by subst h2;exact HMv.refl _ _ _⟩)
 simpa using this
theorem ZFZ (h:HW w A F L T c x H false p ex res held) {t db lb off size:Nat} (hd:DrW w A F H t db lb off size) (hoff:off % 8=0/\off+size<=64 * L) (hsz:size < 1000000) (hz:c (off / 8)=0) {m:Nat} (hm:m < H.n) (hl:H.l0+32 * m+32<=L) {k:Chk} (hR:CRep T c (8 * (H.l0+32 * m)) k) (hk:0<=k.cl) {ps bs:List Nat} (hlen:ps.length=bs.length) (hb1:1<=bs.length) (h30:bs.length<=30)
 (hat:∀ i (hi:i < ps.length) (hj:i < bs.length),bs[i] < perN k/\ZP ps[i]=k.pay (H.l0+32 * m) bs[i]/\ps[i]≠0/\ps[i] < 72057594037927936/\(k.block (H.l0+32 * m) ps[i]).2=0) (hnd:ps.Nodup) (hcan:k.Can [] bs) {tb tq tc:Nat} (ht:Seen w tb tq (ps.map fun (n:Nat)=>Value.int .u64 (n:Int)))
 {v:Value} {lw:List (Nat×Nat)} (hv:Wrs w v lw) (h1:1<=lw.length) (h96:(lw++ZR T (H.l0+32 * m) k [] bs).length<=96) (hs:64+16 * (lw++ZR T (H.l0+32 * m) k [] bs).length<=size) (hok:UP L off size (lw++ZR T (H.l0+32 * m) k [] bs)) (hx1:x+6 * (lw++ZR T (H.l0+32 * m) k [] bs).length+8<=x') (hx:x'<=1000000):
 Calls prog 38 #[.pointer (some ⟨db,0,none⟩),v,.slice none 0 0,.slice (some ⟨tb,tq,none⟩) ps.length tc] w fun e w'=>e=.returned (.int .i64 0)/\ClP w A F L T (wrs c (cmL off (cmV T (lw++ZR T (H.l0+32 * m) k [] bs)) (lw++ZR T (H.l0+32 * m) k [] bs)).flatten) x' H false p ex res held w':=
 VE (x':=x') (p':=p) (ex':=ex) (res':=res) (held':=held) h hd hoff hsz hz hv h1 h96 hs hok hx1 hx
  (fun w1 hb=>ZAF (h.below hb) hm hl hR hk hlen hb1 h30 hat hnd hcan (ht.below hb nR))
  (fun F1 w1 hw hmv=>hsettle_nil.mono fun e w' ⟨h1,h2⟩=>⟨h1,by subst h2;exact hw,by subst h2;exact HMv.refl _ _ _⟩)
theorem JI (h:HW w A F L T c x H false p ex res held) {t db lb off size:Nat} (hd:DrW w A F H t db lb off size) (hoff:off % 8=0/\off+size<=64 * L) (hsz:size < 1000000) (hz:c (off / 8)=0) {m:Nat} (hm:m < H.n) (hl:H.l0+32 * m+32<=L) {k:Chk} (hR:CRep T c (8 * (H.l0+32 * m)) k) (hk:0<=k.cl) {b kd P:Nat} (hb:b < perN k) (ho:ZP P=k.pay (H.l0+32 * m) b) (hkp:Z9 P=kd) (hkd:kd<=127) (hP0:P≠0) (hP:P < 72057594037927936) (hr:res (ZP P)=some P) (hcan:k.Can [(b,kd)] [])
 {tb tq tc:Nat} (ht:w.cell? ⟨tb,tq,none⟩=some (.int .u64 (P:Nat))) (htf:F tb=none/\¬ H.own tb) (hlp:∀ m,m < H.n->(p m).line=H.l0+32 * m) (hpc:0<=(p m).cl) (h1p:64 * (H.l0+32 * m)<=ZP P) (h2p:ZP P < 64 * (H.l0+32 * m)+2048) {g:Nat} (hg:held (H.l0+32 * m)=some (g+1)) (hh:g<=1000000) (hex:ex+1<=1000000)
 {v:Value} {lw:List (Nat×Nat)} (hv:Wrs w v lw) (h1:1<=lw.length) (h96:(lw++ZR T (H.l0+32 * m) k [(b,kd)] []).length<=96) (hs:64+16 * (lw++ZR T (H.l0+32 * m) k [(b,kd)] []).length<=size) (hok:UP L off size (lw++ZR T (H.l0+32 * m) k [(b,kd)] [])) (hx1:x+6 * (lw++ZR T (H.l0+32 * m) k [(b,kd)] []).length+8<=x') (hx:x'<=1000000):
 Calls prog 38 #[.pointer (some ⟨db,0,none⟩),v,.slice (some ⟨tb,tq,none⟩) 1 tc,.slice none 0 0] w fun e w'=>e=.returned (.int .i64 0)/\ClP w A F L T (wrs c (cmL off (cmV T (lw++ZR T (H.l0+32 * m) k [(b,kd)] [])) (lw++ZR T (H.l0+32 * m) k [(b,kd)] [])).flatten) x' H false (Qz p m g) (ex+1) (Xl res (ZP P)) (J3 held (H.l0+32 * m) g) w':=
 VE (x':=x') (p':=Qz p m g) (ex':=ex+1) (res':=Xl res (ZP P)) (held':=J3 held (H.l0+32 * m) g) h hd hoff hsz hz hv h1 h96 hs hok hx1 hx
  (fun w1 hb1=>ZAG (h.below hb1) hm hl hR hk hb ho hkp hkd hP0 hP hr hcan (Zl hb1 ht))
  (fun F1 w1 hw hmv=>ZCU hw hP hm hlp hpc h1p h2p hg hh hex hr ((ZLo (hmv.only.block tb (ZLf _ _ ht) (fun q=>q.elim (fun q=>q htf.1) htf.2))).trans ht))
theorem J6 {P:Program} {ops:Array Oper} {o:Oper} {a:Act} {K:Act->World->Prop} {Q:Exit->Act->World->Prop} {B:Prop} {W:World} {t e:TypeId} {size bytes:Nat} (E:El P t e size bytes) (hgd:o.guard=none) (s x:Operand)
 (ho:o.op=.call {callee:=.builtin .append,args:=#[s,x],argTypes:=#[t,t]}) {base:Nat} {v:Value} {n m cp:Nat} {xs:List Value} (cs:List Value) (hown:W.ownsRow base e size v n xs)
 {N:Nat} (hs:a.eval s=v) (hx:a.eval x=.slice (some ⟨N,0,none⟩) m cp) (hm:0 < m) (hcs:cs.length=m * size) (hc:∀ j u,cs[j]?=some u->W.cell? ⟨N,j,none⟩=some u) (h1:∀ u∈cs,u.oneCell'=true) (h63:n+m<=maxLen) (hbytes:(n+m) * bytes<=140737488355328) (hbase:base<=W.heap.size)
 (h:∀ g cap w',w'.ownsRow base e size (.slice (some ⟨g,0,none⟩) (n+m) cap) (n+m) (xs++cs)->W.grownBy w' v.ownBlock->K (a.put o.dst (.slice (some ⟨g,0,none⟩) (n+m) cap)) w'):
 if Region.wanted o (yielded ops a.tmps)=true then Oper.wp P o a W K Q else B:=by
 have hw:Region.wanted o (yielded ops a.tmps)=true:=by simp [Region.wanted,hgd]
 rw [ZLX hw];obtain ⟨g,cap,w',hrun,how,hgr,hg⟩:=Zo (w:=W) E hown ⟨N,0,none⟩ m cp cs hcs (fun j u hj=>by
  rw [Addr.add_lit,ZLu];exact hc j u hj) h1 hm h63 hbytes hbase
 have hK:=h g cap w' how hgr;have hr:=hrun o.type;unfold Oper.wp;simp [execOp,ho,resolve,invoke,builtin,hs,hx,hr,Result.andThen];exact hK
theorem nilD_publish (w:World)(v:Value)(k:Nat):(nilAhead (k+1) 37 v "Publish").run prog w=.ok (some false) w:=by kernel_rfl
theorem ZCf (h:HW w A F L T c x H false p ex res held) {t db lb off size:Nat} (hd:DrW w A F H t db lb off size) (hoff:off % 8=0/\off+size<=64 * L) (hsz:size < 1000000) (hz:c (off / 8)=0) {lib P kb cnt now Q:Nat} {q e an:Nat->Nat} (hl:LiB w lib P kb) (hk:CkB w A kb now an) (hn:NdC c L P 0 cnt q e) (hcnt:cnt < 29) (hQ:PtrOk Q)
 (hck:∀ w1,Bl w w1->Calls prog 16 #[.pointer (some ⟨db,0,none⟩),.int .u64 P,.int .u8 12] w1 fun e' w'=>e'=.returned (.int .i64 0)/\Bl w1 w')
 (hckq:∀ w1,Bl w w1->Calls prog 16 #[.pointer (some ⟨db,0,none⟩),.int .u64 Q,.int .u8 0] w1 fun e' w'=>e'=.returned (.int .i64 0)/\Bl w1 w')
 (hno:¬ ZGl (itm q e 29) Q) (hnow:now<=1000000)
 {v:Value} {lw l:List (Nat×Nat)} (hv:Wrs w v lw) (hlw:l=lw++[(ZP P+8 * (2+2 * cnt),Q),(ZP P+8 * (3+2 * cnt),now),(ZP P+8 * 1,cnt+1)]) (h1:1<=lw.length) (h90:lw.length<=80) (hs:64+16 * l.length<=size) (hok:UP L off size l) (hx1:x+6 * l.length+8<=x') (hx:x'<=1000000):
 Calls prog 20 #[.pointer (some ⟨lib,0,none⟩),.iface 37 (.pointer (some ⟨db,0,none⟩)),.int .u64 Q,v] w fun e' w'=>e'=.returned (.int .i64 0)/\ClP w A F L T (wrs c (cmL off (cmV T l) l).flatten) x' H false p ex res held w':=by
 have hq64:Q < 18446744073709551616:=by have:=hQ.lt;omega
 have hll:l.length=lw.length+3:=by rw [hlw];simp
 obtain ⟨C2,hC2⟩:=xE (wrs c (cmL off (cmV T l) l).flatten);obtain ⟨w1,hw1⟩:=xE (w.alloc (.cells #[.int .u64 Q] 32));have hb1:Bl w w1:=by rw [hw1];exact ZA bR
 have ht:∀ wx,Bl w1 wx->Bl w wx:=fun wx hb=>hb1.trans (hb.mono hb1.size)
 have HPB:=zh (fun wx (hb:Bl w1 wx) (v1:Value) (hv1:Wrs wx v1 l)=>(ZHB (x':=x') (h.below (ht _ hb)) (hd.below (ht _ hb)) hoff hsz hz hv1 (by omega) (by omega) hs hok hx1 hx).mono (R':=fun e' w'=>e'=.returned (.int .i64 0)/\ClP w A F L T C2 x' H false p ex res held w') (by
  rintro e' w' ⟨h1,F',h2,h3⟩;rw [hC2];exact ⟨h1,F',h2,(HMv.of_below (F:=F) (H:=H) (ht _ hb)).trans h3⟩))
 rw [<-hC2];obtain ⟨A1,hA1⟩:=xE (ZP P+8 * (2+2 * cnt));obtain ⟨A2,hA2⟩:=xE (ZP P+8 * (3+2 * cnt));obtain ⟨A3,hA3⟩:=xE (ZP P+8 * 1);rw [<-hA1,<-hA2,<-hA3] at hlw;obtain ⟨X2,hX2⟩:=xE (2+2 * cnt);obtain ⟨X3,hX3⟩:=xE (3+2 * cnt);have HLW:=zh hlw;have HL1:=zh (show 1<=lw.length/\lw.length<=80 from ⟨h1,h90⟩);have HER:=zh (fun wx (hb:Bl w1 wx)=>Vf (h.ar.below (ht _ hb)) (hd.below (ht _ hb)));have HCH:=zh (fun wx (hb:Bl w1 wx)=>Xc (h.ar.below (ht _ hb)) (hd.below (ht _ hb)) (hl.below (ht _ hb)) hn (fun w2 hb2=>hck w2 ((ht _ hb).trans (hb2.mono (ht _ hb).size))));have HNOW:=zh (fun wx (hb:Bl w1 wx)=>ZBN (h.ar.below (ht _ hb)) (hk.below (ht _ hb)));have HAT1:=zh (fun w1=>show Calls prog 19 #[.int .u64 P,.int .i64 X2] w1 (fun e w'=>e=.returned (.int .u64 A1)/\w'=w1) from by
  rw [hX2,hA1];exact (XE (w:=w1) (p:=P) (by have:=hn.ok.lt;omega) hn.ok.ne (by omega)).mono (fun e w' h=>⟨h.1,h.2.symm⟩))
 have HAT2:=zh (fun w1=>show Calls prog 19 #[.int .u64 P,.int .i64 X3] w1 (fun e w'=>e=.returned (.int .u64 A2)/\w'=w1) from by
  rw [hX3,hA2];exact (XE (w:=w1) (p:=P) (by have:=hn.ok.lt;omega) hn.ok.ne (by omega)).mono (fun e w' h=>⟨h.1,h.2.symm⟩))
 have HAT3:=zh (fun w1=>show Calls prog 19 #[.int .u64 P,.int .i64 1] w1 (fun e w'=>e=.returned (.int .u64 A3)/\w'=w1) from by
  rw [hA3];exact (XE (w:=w1) (p:=P) (k:=1) (by have:=hn.ok.lt;omega) hn.ok.ne (by omega)).mono (fun e w' h=>⟨h.1,h.2.symm⟩))
 have HPA:=zh (fun w1=>show Calls prog 58 #[.int .i64 cnt] w1 (fun e w'=>e=.returned (.int .i64 X2)/\w'=w1) from by
  rw [hX2];exact (JT (w:=w1) (i:=cnt) (by omega)).mono (fun e w' h=>⟨h.1,h.2.symm⟩))
 have HEA:=zh (fun w1=>show Calls prog 59 #[.int .i64 cnt] w1 (fun e w'=>e=.returned (.int .i64 X3)/\w'=w1) from by
  rw [hX3];exact (Jl (w:=w1) (i:=cnt) (by omega)).mono (fun e w' h=>⟨h.1,h.2.symm⟩))
 have HCK:=zh (fun wx (hb:Bl w1 wx)=>hckq _ (ht _ hb));have HNO:=zh hno;have HN29:=zh (VI q e 29);have HV:=zh (fun wx (hb:Bl w1 wx)=>hv.below (ht _ hb));have HLI:=zh (fun wx (hb:Bl w1 wx)=>hl.below (ht _ hb));have HNI:=zh (fun w1=>show Calls prog 15 #[.int .u64 Q] w1 (fun e' w'=>e'=.returned (.bool false)/\w1=w') from by
  have:=Zd (w:=w1) (p:=Q);rw [ZLh hQ.ne] at this;exact this)
 have hsl:∃ a cap,v=.slice a lw.length cap:=hv.len;have HBB:=zh hb1;have hpq:w1.heap[w.heap.size]?=some (.cells #[.int .u64 Q] 32):=by rw [hw1];exact ZC _ _
 have HPQ:=zh (fun wx (hb:Bl w1 wx)=>show wx.cell? ⟨w.heap.size,0,none⟩=some (.int .u64 Q) from (ZD ((hb.block _ (heap_lt hpq)).trans hpq)).trans rfl);have HC29:=zh (show (cnt:Int) < 29 by omega);have HR1:=zh (bZ w1);have HP1:=zh (show w.heap.size < w1.heap.size from heap_lt hpq);clear h hd hoff hsz hz hl hk hn hcnt hQ hck hckq hno hnow hv hlw h1 h90 hs hok hx1 hx hq64 hll hC2 hA1 hA2 hA3 hX2 hX3 hb1 ht hpq;obtain ⟨va,vc,rfl⟩:=hsl;obtain ⟨PB,hPB⟩:=xE w.heap.size;rw [<-hPB] at HPQ HP1;go_in;go_wp2_with fail;rw [<-hw1];refine (HNI.o _).mono ?_;rintro e' w' ⟨rfl,rfl⟩;go_wp2_with fail;rw [<-hw1,<-hPB];refine (HER.o _ HR1.o).mono ?_;rintro e' w' ⟨rfl,rfl⟩;clear hw1 hPB;have p1:=HPQ.o _ HR1.o
 go_wp2_with (first
  |(rw [Yk];exact ⟨rfl,rfl⟩)
  |(go_invoke;go_simp;go_at_call 16;refine (HCK.o _ HR1.o).mono ?_;rintro e' w2 ⟨rfl,hb2⟩))
 have HB2:=zh hb2;clear hb2 p1 HCK;go_wp2_with fail;refine (HCH.o _ HB2.o).mono ?_;rintro e' w3 ⟨nv,rfl,g,cap,iv,rfl,hs,hiv,hb3,hg⟩;have HB3:=zh (HB2.o.trans (hb3.mono HB2.o.size));have HND:=zh (fun wx (hb:Bl w3 wx)=>hs.below hb nR);have HIT:=zh (fun wx (hb:Bl w3 wx)=>hiv.itm.below hb);have hisl:∃ a cap,iv=.slice a (itm q e 29).length cap:=ZN hiv;have HPQ3:=zh (fun wx (hb:Bl w3 wx)=>HPQ.o wx (HB3.o.trans (hb.mono HB3.o.size)));have HLI3:=zh (fun wx (hb:Bl w3 wx)=>HLI.o wx (HB3.o.trans (hb.mono HB3.o.size)));have HNOW3:=zh (fun wx (hb:Bl w3 wx)=>HNOW.o wx (HB3.o.trans (hb.mono HB3.o.size)));have HV3:=zh (fun wx (hb:Bl w3 wx)=>HV.o wx (HB3.o.trans (hb.mono HB3.o.size)));have HPB3:=zh (fun wx (hb:Bl w3 wx)=>HPB.o wx (HB3.o.trans (hb.mono HB3.o.size)));have HR3:=zh (bZ w3);obtain ⟨ia,ic,rfl⟩:=hisl;obtain ⟨IL,hIL⟩:=xE (itm q e 29);rw [<-hIL] at HIT HN29 HNO HND;clear hb3 hg hs hiv HB2 HB3 hIL HCH HPQ HLI HNOW HV HPB HR1 HER HNI;obtain ⟨K,hK⟩:=xE IL.length;have HK:=zh hK;rw [<-hK] at HND HIT;clear hK;go_wp2_with fail
 go_loopw [50] (fun i wr=>Bl w3 wr/\(i=.int .i64 0\/i=.int .i64 1)) (fun i _=>1 - (intOf i).toNat)
 case atStart=>exact ⟨HR3.o,.inl rfl⟩
 case round=>
 obtain ⟨hb,hi⟩:=hrel;have HB4:=zh hb;clear hb;rcases hi with rfl|rfl
 ·have hs4:=HND.o _ HB4.o
  have n0:=hs4 0 _ rfl;have n1:=hs4 1 _ rfl;have n2:=hs4 2 _ rfl;have n3:=hs4 3 _ rfl;clear hs4;go_wp2_with fail;obtain ⟨w4,hw4⟩:=xE (wr.alloc (.cells #[.int .u64 P,.int .u64 0,.int .i64 cnt,.slice ia K ic] 129));have HB5:=zh (show Bl w3 w4 by rw [hw4];exact ZA HB4.o);have HCN:=zh (ZEm (b:=false) (HPQ3.o _ HB5.o) (by have:=HIT.o _ HB5.o;rw [HK.o] at this;exact this) (by have:=HN29.o;omega) ⟨fun h=>(nomatch h),fun h=>absurd h HNO.o⟩);rw [<-HK.o] at HCN;rw [<-hw4];clear hw4 HB4 n0 n1 n2 n3;refine HCN.o.mono ?_;rintro e' w5 ⟨rfl,hb5⟩;have HB6:=zh (HB5.o.trans (hb5.mono HB5.o.size));clear hb5 HB5;go_wp2_with fail;exact ⟨⟨HB6.o,.inr rfl⟩,by simp [intOf]⟩
 ·have hs4:=HND.o _ HB4.o
  have n0:=hs4 0 _ rfl;have n1:=hs4 1 _ rfl;have n2:=hs4 2 _ rfl;have n3:=hs4 3 _ rfl;obtain ⟨l0,l1,_⟩:=Yd (HLI3.o _ HB4.o);have c29:=HC29.o;clear hs4;go_wp2_with fail;refine (HNOW3.o _ HB4.o).mono ?_;rintro e' w' ⟨rfl,rfl⟩;go_wp2_with fail;obtain ⟨w6,hw6⟩:=xE (wr.alloc (.cells #[.int .u64 P,.int .u64 0,.int .i64 cnt,.slice ia K ic] 129));obtain ⟨NN,hNN⟩:=xE wr.heap.size;have hn6:w6.heap[NN]?=some (ndO P 0 cnt (.slice ia K ic)):=by rw [hw6,hNN];exact ZC _ _
  have HB6:=zh (show Bl w3 w6 by rw [hw6];exact ZA HB4.o);have HR6:=zh (bZ w6);have HS6:=zh (fun wx (hb:Bl w6 wx)=>show wx.cell? ⟨PB,0,none⟩=some (.int .u64 Q)/\wx.cell? ⟨NN,0,none⟩=some (.int .u64 P)/\wx.cell? ⟨NN,2,none⟩=some (.int .i64 cnt) from by
   have hx:=Ya ((hb.block _ (heap_lt hn6)).trans hn6);exact ⟨HPQ3.o _ (HB6.o.trans (hb.mono HB6.o.size)),hx.1,hx.2.2.1⟩)
  have HV6:=zh (fun wx (hb:Bl w6 wx)=>ZAa (HV3.o wx (HB6.o.trans (hb.mono HB6.o.size))) HL1.o.1 (by have:=HL1.o;omega));rw [<-hw6,<-hNN];have hc1:IntKind.i64.wrap ((cnt:Int)+1)=(cnt:Int)+1:=IntWalk.i64_in _ (by omega);have hc2:IntKind.u64.wrap ((cnt:Int)+1)=(cnt:Int)+1:=by
   have:=HC29.o;have h0:(0:Int)<=cnt:=by omega
   show ((cnt:Int)+1) % 18446744073709551616=(cnt:Int)+1;omega
  clear hw6 hNN hn6 n0 n1 n2 n3 l0 l1;have e3:ZT [(A1,Q),(A2,now),(A3,cnt+1)]=[.int .u64 A1,.int .u64 Q,.int .u64 A2,.int .u64 now,.int .u64 A3,.int .u64 ((cnt:Int)+1)]:=rfl
  go_region_held3 (fun wx=>wx.cell? ⟨PB,0,none⟩=some (.int .u64 Q)/\wx.cell? ⟨NN,0,none⟩=some (.int .u64 P)/\wx.cell? ⟨NN,2,none⟩=some (.int .i64 cnt))
   (first|exact HS6.o _ (by repeat (with_reducible first|assumption|exact HR6.o|apply ZA|apply ZB)))
   (first
     |(refine ZF rfl func57 rfl rfl rfl (HV6.o _ (by repeat (with_reducible first|assumption|exact HR6.o|apply ZA|apply ZB))) (by simp [Act.eval];first|done|rfl) ?_;rintro e' V1 ⟨r,rfl,hwr,hbv⟩;have hbz:Bl w6 V1:=(show Bl w6 _ from by repeat (with_reducible first|exact HR6.o|apply ZA|apply ZB)).trans (hbv.mono nR);clear hbv;refine ⟨_,rfl,?_⟩)
     |(refine ZF rfl func19 rfl rfl rfl (HAT1.o _) (by simp [Act.eval];first|done|rfl) ?_;rintro e' V2 ⟨rfl,rfl⟩;refine ⟨_,rfl,?_⟩)
     |(refine ZF rfl func19 rfl rfl rfl (HAT2.o _) (by simp [Act.eval];first|done|rfl) ?_;rintro e' V2 ⟨rfl,rfl⟩;refine ⟨_,rfl,?_⟩)
     |(refine ZF rfl func19 rfl rfl rfl (HAT3.o _) (by simp [Act.eval];first|done|rfl) ?_;rintro e' V2 ⟨rfl,rfl⟩;refine ⟨_,rfl,?_⟩)
     |(refine ZF rfl func58 rfl rfl rfl (HPA.o _) (by simp [Act.eval];first|done|rfl) ?_;rintro e' V2 ⟨rfl,rfl⟩;refine ⟨_,rfl,?_⟩)
     |(refine ZF rfl func59 rfl rfl rfl (HEA.o _) (by simp [Act.eval];first|done|rfl) ?_;rintro e' V2 ⟨rfl,rfl⟩;refine ⟨_,rfl,?_⟩)
     |(refine J6 elWrites rfl _ _ rfl [.int .u64 A1,.int .u64 Q,.int .u64 A2,.int .u64 now,.int .u64 A3,.int .u64 ((cnt:Int)+1)] (World.ownsRow.alloc hwr _) rfl rfl (by omega) rfl (fun j u hj=>Yn hj) (by intro u hu;simp at hu;rcases hu with rfl|rfl|rfl|rfl|rfl|rfl <;> rfl) (by have:=HL1.o;unfold maxLen;omega) (by have:=HL1.o;omega) (by have:=hbz.size;simp;omega) ?_;intro g8 cap8 w8 how hgr;have hbx:Bl w6 w8:=ZL (by repeat (with_reducible first|assumption|exact HR6.o|apply ZA|apply ZB)) hgr (by have:=hbz.size;simp;omega) (fun k hk=>(World.ownsRow.lt hwr k hk).1)))
  have HB8:=zh (HB6.o.trans (hbx.mono HB6.o.size));have HV8:=zh (show Wrs w8 (.slice (some ⟨g8,0,none⟩) (lw.length+3) cap8) l from by
   have e4:l.length=lw.length+3:=by rw [HLW.o];simp
   have e5:ZT lw++[.int .u64 A1,.int .u64 Q,.int .u64 A2,.int .u64 now,.int .u64 A3,.int .u64 ((cnt:Int)+1)]=ZT l:=by rw [HLW.o];simp [ZT,u64]
   rw [e5] at how;refine UC (B:=w6.drew.heap.size) (show Wrt w8 _ _ l from ?_);unfold Wrt;rw [e4];exact how)
  have HPB8:=zh (HPB3.o _ HB8.o _ HV8.o);clear how hgr hbx hwr hbz HPB3 HV3 HV6 HV8
  go_wp2_with (first
   |(rw [nilD_publish];exact ⟨rfl,rfl⟩)
   |(go_invoke;go_simp;go_at_call 38;refine HPB8.o.mono ?_;rintro e' w9 ⟨rfl,hcl⟩))
  have HCL:=zh hcl;clear hcl;go_wp2;go_returns;exact ⟨rfl,HCL.o⟩
variable {c0:Nat->Nat}{s:LS}
structure WAd where
 wb:Nat
 pb:Nat
 db:Nat
 lg:Nat
 lib:Nat
 kb:Nat
 rb:Nat
 mb:Nat
 xs:List (Nat×Obj)
 w0:World
abbrev pL:Nat:=3377704015495745
abbrev pA:Nat:=18014402804449918
def plc (k:Chk):Nat->Plc:=fun j=>if j=1 then ⟨103,k.cl,k.ow,false⟩ else ⟨71+32 * j,4,0,false⟩
def wwC (B:WAd)(s:LS)(fv iv:Value):Nat->Value:=fun i=>
 if i=0 then .pointer (some ⟨B.pb,0,none⟩) else if i=1 then .pointer (some ⟨B.db,0,none⟩) else if i=2 then .pointer (some ⟨B.lib,0,none⟩) else if i=3 then .int .u64 pA
 else if i < 44 then .int .u64 (s.lp (i - 4)) else if i=44 then fv else if i=45 then iv else if i=46 then .int .u64 s.now else .int .u64 (s.ann (i - 47))
def OwF (w:World)(F:Nat->Option ZM)(H:HAd)(e:TypeId)(z:Nat)(v:Value)(n:Nat)(xs:List Value):Prop:=w.ownsRow 0 e z v n xs/\∀ k,v.ownBlock=some k->Frn F H k/\H.x0<=k
def ZKY (H:HAd)(p:Nat×Obj):Prop:=p.1 < H.x0\/(∃ es cl,p.2=.map es cl)\/∃ cs,p.2=.cells cs 28 (0,0)
def XsB (w:World)(F:Nat->Option ZM)(H:HAd)(l:List (Nat×Obj)):Prop:=∀ p∈l,w.heap[p.1]?=some p.2/\(F p.1=none/\¬ H.own p.1)/\ZKY H p
theorem XsB.below {l:List (Nat×Obj)}(h:XsB w F H l)(hb:Bl w w'):XsB w' F H l:=fun p hp=>⟨(hb.block _ (heap_lt (h p hp).1)).trans (h p hp).1,(h p hp).2⟩
theorem XsB.ne {l:List (Nat×Obj)}(h:XsB w F H l){p:Nat×Obj}(hp:p∈l){b:Nat}{a:Array Value}{e:TypeId}{z:Nat×Nat}(hb:w.heap[b]?=some (.cells a e z))(he:H.x0<=b)(hne:e≠28):p.1≠b:=by
 intro q;have h1:=(h p hp).1;rcases (h p hp).2.2 with h2|⟨es,cl,h2⟩|⟨cs,h2⟩
 ·omega
 ·rw [q,hb,h2] at h1;simp at h1
 ·rw [q,hb,h2] at h1;cases h1;exact hne rfl
theorem XsB.only {l:List (Nat×Obj)}(h:XsB w F H l){G:Nat->Prop}(ho:Only G w w')(hG:∀ p∈l,¬ G p.1):XsB w' F H l:=fun p hp=>⟨(ho.block _ (heap_lt (h p hp).1) (hG p hp)).trans (h p hp).1,(h p hp).2⟩
theorem Zz {n:Nat}{a:World}{G:Nat->Prop}(h:Below n a w)(ho:Only G w w')(hn:n<=w.heap.size)(hG:∀ k,k < w.heap.size->G k->n<=k):Below n a w':=
 h.trans ⟨ho.os,ho.tape,ho.output,ho.size,fun k hk=>ho.block k (ZLq hk hn) (fun q=>by have:=hG k (ZLq hk hn) q;omega)⟩
theorem XsB.moved {l:List (Nat×Obj)}(h:XsB w F H l)(hm:HMv F F' H w w'):XsB w' F' H l:=fun p hp=>by
 obtain ⟨h1,h2,h3⟩:=h p hp;have hlt:=heap_lt h1;exact ⟨(hm.only.block p.1 hlt (fun q=>q.elim (fun q=>q h2.1) h2.2)).trans h1,⟨by rw [hm.same _ hlt];exact h2.1,h2.2⟩,h3⟩
structure WC (w:World)(A:DAd)(F:Nat->Option ZM)(T c:Nat->Nat)(x:Nat)(H:HAd)(ex:Nat)(B:WAd)(c0:Nat->Nat)(s:LS):Prop where
 hw:HW w A F 160 T c x H false (plc s.k) ex (fun _=>none) (fun _=>none)
 l0:H.l0=71/\H.ls=64/\H.t=0
 dr:DrW w A F H 0 B.db B.lg 640 1664
 ck:CkB w A B.kb s.now s.ann
 fk:Frn F H B.kb
 li:LiB w B.lib pL B.kb
 fi:Frn F H B.lib
 po:PoB w A B.pb H.hb B.rb B.kb B.mb
 fp:Frn F H B.pb
 rt:RtB w A B.rb
 fr:Frn F H B.rb
 rep:s.Rep T c c0
 xk:H.x0<=B.kb/\H.x0<=B.wb/\H.x0<=H.hb
 xo:∀ k,H.own k->H.x0<=k
 xf:∀ k,F k≠none->H.x0<=k
 xb:Below H.x0 B.w0 w
 xt:XsB w F H B.xs
structure WR (w:World)(F:Nat->Option ZM)(H:HAd)(B:WAd)(s:LS)(fv iv:Value):Prop where
 row:Row w B.wb 46 55 (wwC B s fv iv)
 fre:OwF w F H 32 1 fv s.fr.length (ptl s.fr)
 ite:OwF w F H 54 2 iv s.its.length (rcl s.its)
 fw:Frn F H B.wb
theorem OwF.below {e:TypeId}{z n:Nat}{v:Value}{xs:List Value}(h:OwF w F H e z v n xs)(hb:Bl w w'):OwF w' F H e z v n xs:=⟨ZO h.1 hb,h.2⟩
theorem WR.below {B:WAd}{fv iv:Value}(h:WR w F H B s fv iv)(hb:Bl w w'):WR w' F H B s fv iv:=⟨h.row.of_block (hb.block _ h.row.lt),h.fre.below hb,h.ite.below hb,h.fw⟩
theorem WC.below {B:WAd}(h:WC w A F T c x H ex B c0 s)(hb:Bl w w'):WC w' A F T c x H ex B c0 s:=
 {h with hw:=h.hw.below hb,dr:=h.dr.below hb,ck:=h.ck.below hb,li:=h.li.below hb,po:=h.po.below hb,rt:=(hb.block _ (heap_lt h.rt)).trans h.rt,xt:=h.xt.below hb,xb:=Zz h.xb (Only.of_below (F:=fun _=>False) hb) (ZLi h.xk.2.2 (Nat.le_of_lt (heap_lt h.hw.hp.hp))) (fun _ _ q=>q.elim)}
theorem XH {e:TypeId}{z n:Nat}{v:Value}{xs:List Value}{b:Nat}{G:Nat->Prop}(h:w.ownsRow b e z v n xs)(ho:Only G w w')(hn:∀ k,v.ownBlock=some k->¬ G k):w'.ownsRow b e z v n xs:=by
 obtain ⟨h1,h2⟩:=h;refine ⟨h1,h2.imp id ?_⟩;rintro ⟨g,cap,cur,rfl,hg,hb,rest⟩;exact ⟨g,cap,cur,rfl,hg,(ho.block g (heap_lt hb) (hn g rfl)).trans hb,rest⟩
theorem HMv.notG (h:HMv F F' H w w'){k:Nat}(hf:Frn F H k):¬ (F k≠none\/H.own k):=fun q=>q.elim (fun q=>q hf.f) hf.o
theorem OwF.moved {e:TypeId}{z n:Nat}{v:Value}{xs:List Value}(h:OwF w F H e z v n xs)(hm:HMv F F' H w w'):OwF w' F' H e z v n xs:=
 ⟨XH h.1 hm.only (fun k hk=>hm.notG (h.2 k hk).1),fun k hk=>⟨(hm.frn (h.2 k hk).1 (h.1.lt k hk).2).2,(h.2 k hk).2⟩⟩
theorem WR.moved {B:WAd}{fv iv:Value}(h:WR w F H B s fv iv)(hm:HMv F F' H w w'):WR w' F' H B s fv iv:=
 ⟨h.row.of_block (hm.frn h.fw h.row.lt).1,h.fre.moved hm,h.ite.moved hm,(hm.frn h.fw h.row.lt).2⟩
theorem WC.moved {B:WAd}{s':LS}{ex':Nat}(h:WC w A F T c x H ex B c0 s)(hw:HW w' A F' 160 T c' x' H false (plc s'.k) ex' (fun _=>none) (fun _=>none))(hm:HMv F F' H w w')(hr:s'.Rep T c' c0)(hn:s'.now=s.now/\s'.ann=s.ann):WC w' A F' T c' x' H ex' B c0 s' where
 hw:=hw
 l0:=h.l0
 dr:=h.dr.moved hm
 ck:=by rw [hn.1,hn.2];exact (hm.frn h.fk (heap_lt h.ck)).1.trans h.ck
 fk:=(hm.frn h.fk (heap_lt h.ck)).2
 li:=(hm.frn h.fi (heap_lt h.li)).1.trans h.li
 fi:=(hm.frn h.fi (heap_lt h.li)).2
 po:=(hm.frn h.fp (heap_lt h.po)).1.trans h.po
 fp:=(hm.frn h.fp (heap_lt h.po)).2
 rt:=(hm.frn h.fr (heap_lt h.rt)).1.trans h.rt
 fr:=(hm.frn h.fr (heap_lt h.rt)).2
 rep:=hr
 xk:=h.xk
 xo:=h.xo
 xf:=fun k hk=>by
  have h1:=h.xk.2.2;have h2:=heap_lt h.hw.hp.hp
  by_cases e:k < w.heap.size
  ·rw [hm.same k e] at hk;exact h.xf k hk
  ·omega
 xb:=Zz h.xb hm.only (ZLi h.xk.2.2 (Nat.le_of_lt (heap_lt h.hw.hp.hp))) (fun k _ q=>q.elim (h.xf k) (h.xo k))
 xt:=h.xt.moved hm
theorem WC.x0 {B:WAd}(h:WC w A F T c x H ex B c0 s):H.x0<=w.heap.size:=by
 have h1:=h.xk.2.2;have h2:=heap_lt h.hw.hp.hp;omega
theorem Xa {b b':Nat}{a:Array Value}{e e':TypeId}{n:Nat}{f:Nat->Value}(h:w.heap[b]?=some (.cells a e (0,0)))(h':Row w b' e' n f)(hne:e≠e'):b≠b':=by
 rintro rfl;obtain ⟨c,hc,_⟩:=h';rw [hc] at h;cases h;exact hne rfl
theorem WC.setw {B:WAd}{n i:Nat}{f:Nat->Value}(h:WC w A F T c x H ex B c0 s)(hr:Row w B.wb 46 n f)(hf:Frn F H B.wb)(u:Value):WC (w.setCell ⟨B.wb,i,none⟩ u) A F T c x H ex B c0 s:=by
 have ho:Only (fun k=>k=B.wb) w (w.setCell ⟨B.wb,i,none⟩ u):=(Only.refl (fun k=>k=B.wb) w).set (F:=fun k=>k=B.wb) rfl u;have hb:∀ k,k≠B.wb->(w.setCell ⟨B.wb,i,none⟩ u).heap[k]?=w.heap[k]?:=fun k hk=>ZG hk
 refine {h with hw:=h.hw.only ho (fun k _ hk=>hk▸hf),dr:=h.dr.only ho (Xa h.dr.dr hr (by decide)) (Xa h.dr.lg hr (by decide)),ck:=?_,li:=?_,po:=?_,rt:=?_,xt:=?_,xb:=Zz h.xb ho (ZLi h.xk.2.2 (Nat.le_of_lt (heap_lt h.hw.hp.hp))) (fun k _ q=>by have q:k=B.wb:=q;rw [q];exact h.xk.2.1)}
 ·exact (hb _ (Xa h.ck hr (by decide))).trans h.ck
 ·exact (hb _ (Xa h.li hr (by decide))).trans h.li
 ·exact (hb _ (Xa h.po hr (by decide))).trans h.po
 ·exact (hb _ (Xa h.rt hr (by decide))).trans h.rt
 ·obtain ⟨cw,hcw,_⟩:=hr
  exact h.xt.only ho (fun p hp=>h.xt.ne hp hcw h.xk.2.1 (by decide))
theorem OwF.setw {wb i:Nat}{e:TypeId}{z n m:Nat}{v:Value}{xs:List Value}{f:Nat->Value}(h:OwF w F H e z v n xs)(hr:Row w wb 46 m f)(he:e≠46)(u:Value):OwF (w.setCell ⟨wb,i,none⟩ u) F H e z v n xs:=
 ⟨XH h.1 ((Only.refl (fun k=>k=wb) w).set (F:=fun k=>k=wb) rfl u) (fun k hk q=>by
   have q:k=wb:=q;rw [q] at hk;obtain ⟨c,hc,_⟩:=hr;exact Zt h.1 hc he hk),h.2⟩
variable {n:Nat}
theorem Qk (q e:Nat->Nat):∀ n,itm q e n=((List.range n).filter fun i=>q i != 0).map fun i=>(i,q i,e i)
 |0=>rfl
 |n+1=>by
  show itm q e n++_=_;rw [Qk q e n,ZLy,ZL5,ZLs]
  congr 1
  by_cases h:q n=0
  ·simp [h]
  ·simp [h]
def LS.q (s:LS)(i:Nat):Nat:=(s.en.getD i (0,0)).1
def epW (c:Nat->Nat)(i:Nat):Nat:=c (580+2 * i)
theorem LS.q_ge (s:LS){i:Nat}(h:s.en.length<=i):s.q i=0:=by unfold LS.q;rw [V8 h]
theorem LS.range_q (s:LS)(h:s.en.length<=29)(p:Nat->Bool):(List.range 29).filter (fun i=>s.q i != 0 && p i)=(List.range s.en.length).filter (fun i=>s.q i != 0 && p i):=by
 obtain ⟨d,hd⟩:∃ d,29=s.en.length+d:=⟨29 - s.en.length,by omega⟩
 rw [hd,List.range_add,ZL5];have hz:List.filter (fun i=>s.q i != 0 && p i) (List.map (fun x=>s.en.length+x) (List.range d))=[]:=List.filter_eq_nil_iff.2 fun x hx=>by
  obtain ⟨j,_,rfl⟩:=ZLb.1 hx;rw [s.q_ge (Nat.le_add_right _ _)];simp
 rw [hz,List.append_nil]
theorem LS.Rep.itm_eq (h:s.Rep T c c0):Dv.itm s.q (epW c) 29=((List.range s.en.length).filter fun i=>s.q i != 0).map fun i=>(i,s.en.getD i (0,0)):=by
 rw [Qk];have h1:=s.range_q h.n29 (fun _=>true);simp only [Bool.and_true] at h1;rw [h1];refine List.map_congr_left fun i hi=>?_
 have hlt:i < s.en.length:=ZLz.1 (ZLv.1 hi).1;show (i,s.q i,epW c i)=_;unfold epW LS.q;rw [h.epo i hlt]
theorem LS.Rep.itm_full (h:s.Rep T c c0):(Dv.itm s.q (epW c) 29).map (fun y=>(y.2.1,y.2.2))=full s.en:=by
 rw [h.itm_eq,List.map_map];unfold full
 conv=>rhs;rw [<-Qy s.en]
 rw [List.filter_map];rfl
theorem LS.Rep.itm_fl (h:s.Rep T c c0):(Dv.itm s.q (epW c) 29).filter (fun y=>Zg s.now s.ann y.2.2)=s.ixs.map fun i=>(i,s.en.getD i (0,0)):=by
 rw [h.itm_eq,List.filter_map,List.filter_filter];unfold LS.ixs
 congr 1
 refine List.filter_congr fun i _=>?_
 show (Zg s.now s.ann (s.en.getD i (0,0)).2 && (s.q i != 0))=_;rw [Bool.and_comm];rfl
theorem LS.colW_eq (s:LS){all:Bool}(ha:all=true↔full (s.en.map s.clr)=[]):QY 3377704015495745 (s.ixs.map fun i=>(i,s.en.getD i (0,0))) all=YH s:=by
 unfold QY YH;rw [List.map_map]
 congr 1
 ·refine List.map_congr_left fun i _=>?_
  show (ZP 3377704015495745+8 * (2+2 * i),0)=_;rw [XV.2.1];congr 1;omega
 ·by_cases h:full (s.en.map s.clr)=[]
  ·rw [ZLX h,ZLX (ha.2 h),XV.2.1]
  ·rw [ZLU h]
   cases all with
   |true=>exact absurd (ha.1 rfl) h
   |false=>rfl
theorem LS.Rep.all_iff (h:s.Rep T c c0):((s.ixs.map fun i=>(i,s.en.getD i (0,0))).length == (Dv.itm s.q (epW c) 29).length)=true↔full (s.en.map s.clr)=[]:=by
 have e1:(Dv.itm s.q (epW c) 29).length=(full s.en).length:=by rw [<-h.itm_full,ZLj]
 have e2:s.ixs.length=s.frees.length:=by rw [LS.frees_ixs,ZLj]
 rw [e1,ZLj,e2,beq_iff_eq,Um s];have e3:=Vh s.sf (full s.en);unfold LS.frees;constructor
 ·intro q;exact ZLr (by omega)
 ·intro q;rw [q,List.length_nil] at e3;omega
theorem LS.Rep.ndc (h:s.Rep T c c0)(hi:s.Inv n)(hn:n<=60):NdC c 160 3377704015495745 0 s.en.length s.q (epW c) where
 ok:=XV.1
 fit:=by rw [XV.2.1];omega
 nxt:=by rw [XV.2.1];exact h.nxt
 num:=by rw [XV.2.1];exact h.num
 c29:=h.n29
 ents:=fun i h29=>by
  rw [XV.2.1];refine ⟨?_,?_⟩
  ·rw [show 4616 / 8+(2+2 * i)=579+2 * i by omega];exact h.ptr i h29
  ·rw [show 4616 / 8+(3+2 * i)=580+2 * i by omega];rfl
 good:=fun i h29 h0=>by
  have hlt:i < s.en.length:=Nat.lt_of_not_le fun q=>h0 (s.q_ge q)
  have hm:s.en.getD i (0,0)∈full s.en:=by
   refine ZLv.2 ⟨?_,by simpa [LS.q] using h0⟩;rw [ZLw,ZLg hlt];exact ZLl hlt
  have hk:=(h.rep 1 (by omega)).head;obtain ⟨_,h2,_,_⟩:=hi.live_chk hn (by simpa [XF] using hk) (LS.mem_en hm);exact ⟨hlt,h2.ok,by have:=h2.hi;show ZP (s.en.getD i (0,0)).1 < 64 * 160;omega⟩
 some:=by
  rcases hi.ok.fm with h1|h1
  ·exact .inl (by rw [h1];rfl)
  ·refine .inr fun q=>h1 ?_
   rw [<-h.itm_full,q];rfl
theorem LS.Rep.head (h:s.Rep T c c0):s.k.Head:=by have:=(h.rep 1 (by omega)).head;simpa [XF] using this
theorem LS.Inv.its_perm (hi:s.Inv n)(h:s.Rep T c c0):s.its.Perm ((Dv.itm s.q (epW c) 29).map fun y=>(y.2.1,y.2.2)):=by rw [h.itm_full];exact hi.ok.per
theorem LS.Inv.its_nd (hi:s.Inv n):(s.its.map fun x=>x.1 % 4294967296).Nodup:=by
 by_cases h0:s.na=0
 ·rw [(hi.ok.zero h0).2.2.2.2];exact List.nodup_nil
 have hc:=(hi.cl0 h0).1;have h1:(s.its.map (·.1)).Nodup:=by
  have hnd:=hi.ok.nd;rw [LS.live_eq] at hnd;exact (hi.ok.per.map (·.1)).nodup_iff.2 (ZL3.1 hnd).2.1
 have e:s.its.map (fun x=>x.1 % 4294967296)=(s.its.map (·.1)).map (· % 4294967296):=by rw [List.map_map];rfl
 rw [e];refine List.pairwise_map.2 (List.Pairwise.imp_of_mem (fun {a b} ha hb hne hab=>hne ?_) h1);obtain ⟨x,hx,rfl⟩:=ZLb.1 ha;obtain ⟨y,hy,rfl⟩:=ZLb.1 hb;obtain ⟨j,hj⟩:=hi.ok.liv x.1 (LS.mem_en (hi.ok.per.mem_iff.1 hx));obtain ⟨m,hm⟩:=hi.ok.liv y.1 (LS.mem_en (hi.ok.per.mem_iff.1 hy));have e1:=hj.low hc;have e2:=hm.low hc;have:j=m:=by omega
 subst this;exact hj.2.2.2.trans hm.2.2.2.symm
variable {B:WAd}{fv iv:Value}
theorem WC.ar (h:WC w A F T c x H ex B c0 s):Ar w A F 160 T c:=h.hw.aq.ar
theorem WC.hn (h:WC w A F T c x H ex B c0 s):H.n=2:=by unfold HAd.n;rw [h.l0.2.1]
theorem WC.chk (h:WC w A F T c x H ex B c0 s){m:Nat}(hm:m < 2):CRep T c (8 * (H.l0+32 * m)) (chs s.k m):=by rw [h.l0.1];exact h.rep.rep m hm
theorem YG (h:WC w A F T c x H ex B c0 s):
 Calls prog 16 #[.pointer (some ⟨B.db,0,none⟩),.int .u64 (pL:Nat),.int .u8 12] w fun e w'=>e=.returned (.int .i64 0)/\Bl w w':=by
 have hR:=h.chk (m:=0) (by omega);rw [Jj] at hR;have h1:=Xb h.ar h.hw.hp (m:=0) (k:=k0) (by rw [h.hn];omega) (by rw [h.l0.1];omega) hR (by decide) (p:=pL) (by decide) (by decide) (by rw [h.l0.1];decide) (by rw [h.l0.1];decide) 12 (by omega);rw [h.l0.1] at h1;exact VC h.dr (by simpa [ZEu,UD,XV.2.2] using h1)
theorem ZDZ (h:WC w A F T c x H ex B c0 s){P kd:Nat}(hP:InC P)(hc:s.k.cl=0)(hkd:kd < 256):
 Calls prog 16 #[.pointer (some ⟨B.db,0,none⟩),.int .u64 P,.int .u8 kd] w fun e w'=>e=.returned (.int .i64 (UD (s.k.block 103 P).2 kd P))/\Bl w w':=by
 have hR:=h.chk (m:=1) (by omega);rw [XF] at hR;have h1:=Xb h.ar h.hw.hp (m:=1) (k:=s.k) (by rw [h.hn];omega) (by rw [h.l0.1];omega) hR (by omega) (p:=P) hP.ok.ne hP.ok.lt (by rw [h.l0.1];exact hP.lo) (by rw [h.l0.1];exact hP.hi) kd hkd;rw [h.l0.1] at h1;exact VC h.dr h1
theorem Yg (h:WC w A F T c x H ex B c0 s)(hi:s.Inv n)(hn:n<=60){P kd:Nat}(hP:P∈s.live)(hkd:kd=0\/kd=65):
 Calls prog 16 #[.pointer (some ⟨B.db,0,none⟩),.int .u64 P,.int .u8 kd] w fun e w'=>e=.returned (.int .i64 0)/\Bl w w':=by
 obtain ⟨h1,h2,h3,h4⟩:=hi.live_chk hn h.rep.head hP;have:=ZDZ h h2 h1 (kd:=kd) (by omega);rw [h4] at this;have e:UD 0 kd P=0:=by
  unfold UD;rw [ZLX rfl];rcases hkd with rfl|rfl
  ·rfl
  ·rw [ZLU (by omega),ZLX h3.symm]
 rw [e] at this;exact this
theorem Vx (h:WC w A F T c x H ex B c0 s)(hi:s.Inv n)(hn:n<=60){P:Nat}(hP:P∈s.fr):
 Calls prog 16 #[.pointer (some ⟨B.db,0,none⟩),.int .u64 P,.int .u8 (0:Nat)] w fun e w'=>e=.returned (.int .i64 12)/\Bl w w':=by
 obtain ⟨h1,h2,h3⟩:=hi.stale_chk hn h.rep.head hP;have:=ZDZ h h2 h1 (kd:=0) (by omega);rw [h3] at this;exact this
theorem WR.cells (h:WR w F H B s fv iv){i:Nat}(hi:i < 55):w.cell? ⟨B.wb,i,none⟩=some (wwC B s fv iv i):=h.row.cell i hi
theorem WR.zero (h:WR w F H B s fv iv):w.cell? ⟨B.wb,0,none⟩=some (.pointer (some ⟨B.pb,0,none⟩)):=h.cells (by omega)
theorem WR.one (h:WR w F H B s fv iv):w.cell? ⟨B.wb,1,none⟩=some (.pointer (some ⟨B.db,0,none⟩)):=h.cells (by omega)
theorem WR.two (h:WR w F H B s fv iv):w.cell? ⟨B.wb,2,none⟩=some (.pointer (some ⟨B.lib,0,none⟩)):=h.cells (by omega)
theorem WR.three (h:WR w F H B s fv iv):w.cell? ⟨B.wb,3,none⟩=some (.int .u64 (pA:Nat)):=h.cells (by omega)
theorem WR.lp (h:WR w F H B s fv iv){i:Nat}(hi:i < 40):w.cell? ⟨B.wb,4+i,none⟩=some (.int .u64 (s.lp i:Nat)):=by
 have:=h.cells (i:=4+i) (by omega);unfold wwC at this;rw [ZLU (by omega),ZLU (by omega),ZLU (by omega),ZLU (by omega),ZLX (by omega),show 4+i - 4=i by omega] at this;exact this
theorem WR.fvc (h:WR w F H B s fv iv):w.cell? ⟨B.wb,44,none⟩=some fv:=h.cells (by omega)
theorem WR.ivc (h:WR w F H B s fv iv):w.cell? ⟨B.wb,45,none⟩=some iv:=h.cells (by omega)
theorem WR.nowc (h:WR w F H B s fv iv):w.cell? ⟨B.wb,46,none⟩=some (.int .u64 (s.now:Nat)):=h.cells (by omega)
theorem WR.annc (h:WR w F H B s fv iv):w.cell? ⟨B.wb,47,none⟩=some (.int .u64 (s.ann 0:Nat))/\w.cell? ⟨B.wb,48,none⟩=some (.int .u64 (s.ann 1:Nat))/\w.cell? ⟨B.wb,49,none⟩=some (.int .u64 (s.ann 2:Nat))/\w.cell? ⟨B.wb,50,none⟩=some (.int .u64 (s.ann 3:Nat))/\w.cell? ⟨B.wb,51,none⟩=some (.int .u64 (s.ann 4:Nat))/\w.cell? ⟨B.wb,52,none⟩=some (.int .u64 (s.ann 5:Nat))/\w.cell? ⟨B.wb,53,none⟩=some (.int .u64 (s.ann 6:Nat))/\w.cell? ⟨B.wb,54,none⟩=some (.int .u64 (s.ann 7:Nat)):=
 ⟨h.cells (by omega),h.cells (by omega),h.cells (by omega),h.cells (by omega),h.cells (by omega),h.cells (by omega),h.cells (by omega),h.cells (by omega)⟩
theorem WR.free (h:WR w F H B s fv iv)(i:Nat):w.frozen? ⟨B.wb,i,none⟩=false:=h.row.free i
theorem WR.put (h:WR w F H B s fv iv) (i:Nat) (u:Value) {B':WAd} {s':LS} {fv' iv':Value} (hB:B'.wb=B.wb) (hc:∀ y,y < 55->wwC B' s' fv' iv' y=if y=i then u else wwC B s fv iv y)
 (h1:OwF w F H 32 1 fv' s'.fr.length (ptl s'.fr))(h2:OwF w F H 54 2 iv' s'.its.length (rcl s'.its)):WR (w.setCell ⟨B.wb,i,none⟩ u) F H B' s' fv' iv' where
 row:=by rw [hB];exact (h.row.set i u).congr fun y hy=>hc y hy
 fre:=h1.setw h.row (by decide) u
 ite:=h2.setw h.row (by decide) u
 fw:=by rw [hB];exact h.fw
def ZKO (w:World)(b now:Nat)(an:Nat->Nat):World:=((((((((w.setCell ⟨b,46,none⟩ (.int .u64 now)).setCell ⟨b,47,none⟩ (.int .u64 (an 0))).setCell ⟨b,48,none⟩ (.int .u64 (an 1))).setCell ⟨b,49,none⟩ (.int .u64 (an 2))).setCell ⟨b,50,none⟩ (.int .u64 (an 3))).setCell ⟨b,51,none⟩ (.int .u64 (an 4))).setCell ⟨b,52,none⟩ (.int .u64 (an 5))).setCell ⟨b,53,none⟩ (.int .u64 (an 6))).setCell ⟨b,54,none⟩ (.int .u64 (an 7))
theorem XX {n:Nat}{f:Nat->Value}{wb i:Nat}(h:Row w wb 46 n f)(u:Value):Row (w.setCell ⟨wb,i,none⟩ u) wb 46 n (fun y=>if y=i then u else f y):=h.set i u
theorem X5 {m:LS}(h:WC w A F T c x H ex B c0 m)(hr:WR w F H B s fv iv)(now:Nat)(an:Nat->Nat):WC (ZKO w B.wb now an) A F T c x H ex B c0 m/\WR (ZKO w B.wb now an) F H B {s with now:=now,ann:=an} fv iv:=by
 have r0:=hr.row;have f:=hr.fw;have r1:=XX r0 (i:=46) (.int .u64 now);have r2:=XX r1 (i:=47) (.int .u64 (an 0));have r3:=XX r2 (i:=48) (.int .u64 (an 1));have r4:=XX r3 (i:=49) (.int .u64 (an 2));have r5:=XX r4 (i:=50) (.int .u64 (an 3));have r6:=XX r5 (i:=51) (.int .u64 (an 4));have r7:=XX r6 (i:=52) (.int .u64 (an 5));have r8:=XX r7 (i:=53) (.int .u64 (an 6));have r9:=XX r8 (i:=54) (.int .u64 (an 7));refine ⟨((((((((h.setw r0 f _).setw r1 f _).setw r2 f _).setw r3 f _).setw r4 f _).setw r5 f _).setw r6 f _).setw r7 f _).setw r8 f _,⟨r9.congr fun y hy=>?_,?_,?_,f⟩⟩
 ·by_cases h46:y < 46
  ·rw [ZLU (by omega),ZLU (by omega),ZLU (by omega),ZLU (by omega),ZLU (by omega),ZLU (by omega),ZLU (by omega),ZLU (by omega),ZLU (by omega)]
   unfold wwC;split;rfl;split;rfl;split;rfl;split;rfl;split;rfl;split;rfl;rw [ZLX (by omega),ZLX (by omega)]
  ·rcases (show y=46\/y=47\/y=48\/y=49\/y=50\/y=51\/y=52\/y=53\/y=54 by omega) with rfl|rfl|rfl|rfl|rfl|rfl|rfl|rfl|rfl <;> rfl
 ·exact ((((((((hr.fre.setw r0 (by decide) _).setw r1 (by decide) _).setw r2 (by decide) _).setw r3 (by decide) _).setw r4 (by decide) _).setw r5 (by decide) _).setw r6 (by decide) _).setw r7 (by decide) _).setw r8 (by decide) _
 ·exact ((((((((hr.ite.setw r0 (by decide) _).setw r1 (by decide) _).setw r2 (by decide) _).setw r3 (by decide) _).setw r4 (by decide) _).setw r5 (by decide) _).setw r6 (by decide) _).setw r7 (by decide) _).setw r8 (by decide) _
theorem WC.clock (h:WC w A F T c x H ex B c0 s){now:Nat}{an:Nat->Nat}(ho:Only (fun k=>k=B.kb) w w')(hk:CkB w' A B.kb now an){s':LS}(hs:s'.k=s.k/\s'.now=now/\s'.ann=an)(hr:s'.Rep T c c0):WC w' A F T c x H ex B c0 s':=by
 obtain ⟨e1,e2,e3⟩:=hs;have hne:∀ {b:Nat} {a:Array Value} {e:TypeId},w.heap[b]?=some (.cells a e (0,0))->e≠149->w'.heap[b]?=w.heap[b]?:=fun {b a e} hb he=>ho.block b (heap_lt hb) (fun q=>by
  have q:b=B.kb:=q;rw [q,h.ck] at hb;cases hb;exact he rfl)
 exact {hw:=by rw [e1];exact h.hw.only ho (fun k _ hk=>hk▸h.fk),l0:=h.l0,dr:=⟨(hne h.dr.dr (by decide)).trans h.dr.dr,(hne h.dr.lg (by decide)).trans h.dr.lg,h.dr.t,h.dr.fd,h.dr.fl⟩,ck:=by rw [e2,e3];exact hk,fk:=h.fk,li:=(hne h.li (by decide)).trans h.li,fi:=h.fi,po:=(hne h.po (by decide)).trans h.po,fp:=h.fp,rt:=(hne h.rt (by decide)).trans h.rt,fr:=h.fr,rep:=hr,xk:=h.xk,xo:=h.xo,xf:=h.xf,xb:=Zz h.xb ho h.x0 (fun k _ q=>by have q:k=B.kb:=q;rw [q];exact h.xk.1),xt:=h.xt.only ho (fun p hp=>h.xt.ne hp h.ck h.xk.1 (by decide))}
theorem WR.clock (h:WR w F H B s fv iv){now:Nat}{an:Nat->Nat}(hc:CkB w A B.kb now an)(ho:Only (fun k=>k=B.kb) w w'):WR w' F H B s fv iv:=by
 have hne:B.wb≠B.kb:=(Xa hc h.row (by decide)).symm;have hown:∀ {e:TypeId} {z n:Nat} {v:Value} {xs:List Value},w.ownsRow 0 e z v n xs->e≠149->∀ k,v.ownBlock=some k->¬ (k=B.kb):=fun {e z n v xs} h1 he k hk q=>by
  rw [q] at hk;exact Zt h1 hc he hk
 exact ⟨h.row.of_block (ho.block _ h.row.lt hne),⟨XH h.fre.1 ho (hown h.fre.1 (by decide)),h.fre.2⟩,⟨XH h.ite.1 ho (hown h.ite.1 (by decide)),h.ite.2⟩,h.fw⟩
def DoP (A:DAd)(T:Nat->Nat)(H:HAd)(B:WAd)(c0:Nat->Nat)(x ex:Nat)(s':LS)(w':World):Prop:=
 ∃ F' c' x' ex' fv' iv',x'<=x+2000/\ex'<=ex+2/\WC w' A F' T c' x' H ex' B c0 s'/\WR w' F' H B s' fv' iv'
theorem DoP.of (h:WC w A F T c x H ex B c0 s)(hr:WR w F H B s fv iv):DoP A T H B c0 x ex s w:=⟨F,c,x,ex,fv,iv,by omega,by omega,h,hr⟩
theorem Z4 {a n:Int}(hn:0 < n){k:Nat}(hk:n=k):ZX a n < k:=by have:=(ZEy (a:=a) hn).1;omega
theorem do3 (h:WC w A F T c x H ex B c0 s)(hr:WR w F H B s fv iv)(hi:s.Inv n)(hn:n<=60){a b d:Int}(hk:ZX a 7=3):
 Calls prog 11 #[.pointer (some ⟨B.wb,0,none⟩),.agg #[.int .i64 a,.int .i64 b,.int .i64 d]] w fun e w'=>e=.returned (.bool true)/\DoP A T H B c0 x ex (s.stp 3 (ZX b 40) (ZX d 8)) w':=by
 have HM1:=zmo (a:=b) (n:=40) (by omega);have HM2:=zmo (a:=d) (n:=8) (by omega);have HM3:=zmo (a:=a) (n:=7) (by omega);rw [hk] at HM3;have ht:ZX d 8 < 8:=Z4 (by omega) rfl;have est:s.stp 3 (ZX b 40) (ZX d 8)={s with now:=s.now,ann:=if s.ann (ZX d 8)=0 then upd s.ann (ZX d 8) s.now else s.ann}:=rfl;rw [est];obtain ⟨i,hie⟩:=xE (ZX b 40);obtain ⟨t,hte⟩:=xE (ZX d 8);rw [<-hie] at HM1;rw [<-hte] at HM2 ht ⊢;have hnow:1<=s.now/\s.now<=2147483647:=by have:=hi.now;have:=hi.ok.now;omega
 have HEP:=zh (fun wx (hb:Bl w wx)=>Yo (h.po.below hb));have HEN:=zh (fun wx (hb:Bl w wx)=>ZG4 (h.ar.below hb) (h.ck.below hb) hnow h.rep.clk (by omega) ht);have HRE:=zh (fun (wx:World)=>ZEH (w:=wx) (now:=s.now) (t:=t) (an:=s.ann) ht);have HREP:=zh (show ({s with now:=s.now,ann:=if s.ann t=0 then upd s.ann t s.now else s.ann}:LS).Rep T c c0 from {h.rep with});have HH:=zh h;have HR:=zh hr;clear hi hn hk est hie hte h hr hnow ht;go_in;go_upto_region 1 with fail;obtain ⟨w0,hw0⟩:=xE (w.alloc (.cells #[.int .i64 a,.int .i64 b,.int .i64 d] 28));have hb0:Bl w w0:=by rw [hw0];exact ZA bR
 have hx0:w0.heap[w.heap.size]?=some (.cells #[.int .i64 a,.int .i64 b,.int .i64 d] 28 (0,0)):=by rw [hw0];exact ZC _ _
 rw [<-hw0];obtain ⟨a0,a1,a2,_⟩:=ZY hx0;clear hw0;have HR0:=zh (bZ w0)
 go_region_held3 (fun wx=>wx.cell? ⟨w.heap.size,1,none⟩=some (.int .i64 b)/\wx.cell? ⟨w.heap.size,2,none⟩=some (.int .i64 d))
  (first|assumption|exact ⟨a1,a2⟩)
  (first
    |(refine ZF rfl func26 rfl rfl rfl (HM1.o _) (by simp [Act.eval];first|done|rfl) ?_;rintro e' V2 ⟨rfl,rfl⟩;refine ⟨_,rfl,?_⟩)
    |(refine ZF rfl func26 rfl rfl rfl (HM2.o _) (by simp [Act.eval];first|done|rfl) ?_;rintro e' V2 ⟨rfl,rfl⟩;refine ⟨_,rfl,?_⟩))
 have hb1:Bl w w0.drew:=ZB hb0;have hx1:w0.drew.heap[w.heap.size]?=_:=hx0;obtain ⟨w1,hw1⟩:=xE w0.drew;rw [<-hw1] at hb1 hx1 ⊢;clear hw1 a0 a1 a2 hx0 hb0;obtain ⟨a0,a1,a2,_⟩:=ZY hx1;go_wp2_with fail;refine (HM3.o _).mono ?_;rintro e w' ⟨rfl,rfl⟩;have HB1:=zh hb1;have z0:=(HR.o.below hb1).zero;clear hb1 hx1 a0 a1 a2;go_wp2_with fail;refine (HEP.o _ HB1.o).mono ?_;rintro e w' ⟨rfl,rfl⟩;go_wp2_with fail;refine (HEN.o _ HB1.o).mono ?_;rintro e w2 ⟨rfl,hck,ho⟩
 have HW2:=zh (show WC w2 A F T c x H ex B c0 {s with now:=s.now,ann:=if s.ann t=0 then upd s.ann t s.now else s.ann}/\WR w2 F H B s fv iv from
  ⟨(HH.o.below HB1.o).clock ho hck ⟨rfl,rfl,rfl⟩ HREP.o,(HR.o.below HB1.o).clock (HH.o.below HB1.o).ck ho⟩)
 have HA:=zh HW2.o.2;clear hck ho z0;have z0:=HA.o.zero;have z46:=HA.o.nowc;obtain ⟨z47,z48,z49,z50,z51,z52,z53,z54⟩:=HA.o.annc;unfold ck9 at HRE
 by_cases hz:s.ann t=0
 ·simp only [ZLX hz] at *
  go_wp2_with fail;refine (HRE.o _).mono ?_;rintro e w3 ⟨rfl,hb3⟩;have HW3:=zh (show WC w3 A F T c x H ex B c0 {s with now:=s.now,ann:=(upd s.ann t s.now)}/\WR w3 F H B s fv iv from ⟨HW2.o.1.below hb3,HW2.o.2.below hb3⟩);clear hb3 z0 z46 z47 z48 z49 z50 z51 z52 z53 z54;obtain ⟨AN,hAN⟩:=xE ((upd s.ann t s.now));rw [<-hAN] at HW3 ⊢;simp only [<-hAN];have HAN:=zh hAN;clear hAN;go_upto_region 44 with fail;obtain ⟨w4,hw4⟩:=xE (w3.alloc (.cells #[.int .u64 s.now,.int .u64 (AN 0:Nat),.int .u64 (AN 1:Nat),.int .u64 (AN 2:Nat),.int .u64 (AN 3:Nat),.int .u64 (AN 4:Nat),.int .u64 (AN 5:Nat),.int .u64 (AN 6:Nat),.int .u64 (AN 7:Nat)] 44));have hb4:Bl w3 w4:=by rw [hw4];exact ZA bR
  have hx4:w4.heap[w3.heap.size]?=some (.cells #[.int .u64 s.now,.int .u64 (AN 0:Nat),.int .u64 (AN 1:Nat),.int .u64 (AN 2:Nat),.int .u64 (AN 3:Nat),.int .u64 (AN 4:Nat),.int .u64 (AN 5:Nat),.int .u64 (AN 6:Nat),.int .u64 (AN 7:Nat)] 44 (0,0)):=by rw [hw4];exact ZC _ _
  have HW4:=zh (show WC w4 A F T c x H ex B c0 {s with now:=s.now,ann:=AN}/\WR w4 F H B s fv iv from ⟨HW3.o.1.below hb4,HW3.o.2.below hb4⟩);rw [<-hw4];clear hw4 hb4;have f:=HW4.o.2.free;have z46:=HW4.o.2.nowc;obtain ⟨z47,z48,z49,z50,z51,z52,z53,z54⟩:=HW4.o.2.annc;obtain ⟨⟨x0,x1,x2,x3,x4,x5,x6,x7,x8⟩,_⟩:=ZCq hx4;go_upto_region 45 with fail;have hst:=X5 (B:=B) HW4.o.1 HW4.o.2 s.now AN;have HE:=zh (DoP.of (x:=x) (ex:=ex) hst.1 hst.2);clear hst z46 z47 z48 z49 z50 z51 z52 z53 z54 x0 x1 x2 x3 x4 x5 x6 x7 x8 f;go_wp2;go_returns;exact ⟨rfl,by rw [<-HAN.o];exact HE.o⟩
 ·simp only [ZLU hz] at *
  go_wp2_with fail;refine (HRE.o _).mono ?_;rintro e w3 ⟨rfl,hb3⟩;have HW3:=zh (show WC w3 A F T c x H ex B c0 {s with now:=s.now,ann:=s.ann}/\WR w3 F H B s fv iv from ⟨HW2.o.1.below hb3,HW2.o.2.below hb3⟩);clear hb3 z0 z46 z47 z48 z49 z50 z51 z52 z53 z54;go_upto_region 44 with fail;obtain ⟨w4,hw4⟩:=xE (w3.alloc (.cells #[.int .u64 s.now,.int .u64 (s.ann 0:Nat),.int .u64 (s.ann 1:Nat),.int .u64 (s.ann 2:Nat),.int .u64 (s.ann 3:Nat),.int .u64 (s.ann 4:Nat),.int .u64 (s.ann 5:Nat),.int .u64 (s.ann 6:Nat),.int .u64 (s.ann 7:Nat)] 44));have hb4:Bl w3 w4:=by rw [hw4];exact ZA bR
  have hx4:w4.heap[w3.heap.size]?=some (.cells #[.int .u64 s.now,.int .u64 (s.ann 0:Nat),.int .u64 (s.ann 1:Nat),.int .u64 (s.ann 2:Nat),.int .u64 (s.ann 3:Nat),.int .u64 (s.ann 4:Nat),.int .u64 (s.ann 5:Nat),.int .u64 (s.ann 6:Nat),.int .u64 (s.ann 7:Nat)] 44 (0,0)):=by rw [hw4];exact ZC _ _
  have HW4:=zh (show WC w4 A F T c x H ex B c0 {s with now:=s.now,ann:=s.ann}/\WR w4 F H B s fv iv from ⟨HW3.o.1.below hb4,HW3.o.2.below hb4⟩);rw [<-hw4];clear hw4 hb4;have f:=HW4.o.2.free;have z46:=HW4.o.2.nowc;obtain ⟨z47,z48,z49,z50,z51,z52,z53,z54⟩:=HW4.o.2.annc;obtain ⟨⟨x0,x1,x2,x3,x4,x5,x6,x7,x8⟩,_⟩:=ZCq hx4;go_upto_region 45 with fail;have hst:=X5 (B:=B) HW4.o.1 HW4.o.2 s.now s.ann;have HE:=zh (DoP.of (x:=x) (ex:=ex) hst.1 hst.2);clear hst z46 z47 z48 z49 z50 z51 z52 z53 z54 x0 x1 x2 x3 x4 x5 x6 x7 x8 f;go_wp2;go_returns;exact ⟨rfl,HE.o⟩
theorem Jn {lib db:Nat}{v:Value}:Calls prog 20 #[.pointer (some ⟨lib,0,none⟩),.iface 37 (.pointer (some ⟨db,0,none⟩)),.int .u64 (0:Nat),v] w fun e' w'=>e'=.returned (.int .i64 1)/\Bl w w':=by
 have HNI:=zh (fun w1=>show Calls prog 15 #[.int .u64 (0:Nat)] w1 (fun e w'=>e=.returned (.bool true)/\w1=w') from by
  have:=Zd (w:=w1) (p:=0);simpa using this)
 have HB:=zh (ZA (o:=.cells #[.int .u64 (0:Nat)] 32) (bZ w));go_in;go_wp2_with fail;refine (HNI.o _).mono ?_;rintro e' w' ⟨rfl,rfl⟩;go_wp2;go_returns;exact ⟨rfl,HB.o⟩
theorem ZHW {i:Nat}(hi:i < 40)(hn:s.en.length < 29)(h1:s.lp i < 18446744073709551616)(h2:s.now < 18446744073709551616):UP 160 640 1664 (XU s i):=by
 unfold UP XU;refine ⟨?_,fun p hp=>?_⟩
 ·simp only [List.map_cons,List.map_nil,List.nodup_cons,List.mem_cons,List.not_mem_nil,or_false,not_false_eq_true,List.nodup_nil,and_true]
  omega
 ·simp only [List.mem_cons,List.not_mem_nil,or_false] at hp
  rcases hp with rfl|rfl|rfl|rfl <;> dsimp only <;> refine ⟨by omega,by omega,by omega,by omega⟩
theorem ZGj (h:WC w A F T c x H ex B c0 s)(hi:s.Inv n)(hn:n<=50){i:Nat}(hi40:i < 40)(h0:s.lp i≠0)(hx:x<=900000){v:Value}(hv:Wrs w v [(8 * (638+i),0)]):
 Calls prog 20 #[.pointer (some ⟨B.lib,0,none⟩),.iface 37 (.pointer (some ⟨B.db,0,none⟩)),.int .u64 (s.lp i),v] w fun e w'=>e=.returned (.int .i64 0)/\∃ F',WC w' A F' T (wrs c (cmL 640 (cmV T (XU s i)) (XU s i)).flatten) (x+100) H ex B c0 (s.retire i)/\HMv F F' H w w':=by
 have hen:s.en.length < 29:=by have:=hi.en;omega
 have hlive:=LS.mem_lp hi40 h0;obtain ⟨hc,hin,hkd,hbl⟩:=hi.live_chk (by omega) h.rep.head hlive;have hnow:s.now<=1000000:=by have:=hi.now;omega
 have hno:¬ ZGl (Dv.itm s.q (epW c) 29) (s.lp i):=by
  rintro ⟨y,hy,e⟩;have h1:(y.2.1,y.2.2)∈full s.en:=by rw [<-h.rep.itm_full];exact ZLb.2 ⟨y,hy,rfl⟩
  have hnd:=hi.ok.nd;rw [LS.live_eq] at hnd;refine (ZL3.1 hnd).2.2 (s.lp i) (ZLv.2 ⟨ZLb.2 ⟨i,ZLz.2 hi40,rfl⟩,by simpa using h0⟩) (s.lp i) (ZLb.2 ⟨_,h1,e⟩) rfl
 have hl:XU s i=[(8 * (638+i),0)]++[(ZP pL+8 * (2+2 * s.en.length),s.lp i),(ZP pL+8 * (3+2 * s.en.length),s.now),(ZP pL+8 * 1,s.en.length+1)]:=by
  unfold XU;rw [show ZP pL=4616 from XV.2.1];simp only [List.cons_append,List.nil_append,List.cons.injEq,Prod.mk.injEq,and_true,true_and];omega
 have:=ZCf (x':=x+100) h.hw h.dr (by omega) (by omega) h.rep.log h.li h.ck (h.rep.ndc hi (by omega)) hen hin.ok (fun w1 hb=>YG (h.below hb)) (fun w1 hb=>Yg (h.below hb) hi (by omega) hlive (.inl rfl)) hno hnow hv hl (by simp) (by simp) (by unfold XU;simp) (ZHW hi40 hen (by have:=hin.ok.lt;omega) (by omega)) (by unfold XU;simp only [List.length_cons,List.length_nil];omega) (by omega);refine this.mono ?_;rintro e w' ⟨rfl,F',h1,h2⟩;exact ⟨rfl,F',h.moved h1 h2 (h.rep.retire hi40 hen) ⟨rfl,rfl⟩,h2⟩
theorem ZIf (h:WC w A F T c x H ex B c0 s)(hr:WR w F H B s fv iv){a b d:Int}(hk:ZX a 7=1)(h0:s.lp (ZX b 40)=0):
 Calls prog 11 #[.pointer (some ⟨B.wb,0,none⟩),.agg #[.int .i64 a,.int .i64 b,.int .i64 d]] w fun e w'=>e=.returned (.bool true)/\DoP A T H B c0 x ex s w':=by
 have HM1:=zmo (a:=b) (n:=40) (by omega);have HM2:=zmo (a:=d) (n:=8) (by omega);have HM3:=zmo (a:=a) (n:=7) (by omega);rw [hk] at HM3;have hi40:ZX b 40 < 40:=Z4 (by omega) rfl;obtain ⟨i,hie⟩:=xE (ZX b 40);obtain ⟨t,hte⟩:=xE (ZX d 8);rw [<-hie] at HM1 hi40 h0;rw [<-hte] at HM2;have HLK:=zh (fun wx (hb:Bl w wx)=>Us (v:=0) (hr.below hb).three (by decide) (by decide) (show i < 60 by omega));have HRT:=zh (fun (wx:World) (v:Value)=>Jn (w:=wx) (lib:=B.lib) (db:=B.db) (v:=v));have HNI:=zh (fun w1=>show Calls prog 15 #[.int .u64 (0:Nat)] w1 (fun e w'=>e=.returned (.bool true)/\w1=w') from by
  have:=Zd (w:=w1) (p:=0);simpa using this)
 have HH:=zh h;have HR:=zh hr;have b40:(i:Int) < 40:=by omega
 have HL0:=zh h0;obtain ⟨O,hO⟩:∃ O:Nat,O=ZP pA+8 * i:=⟨_,rfl⟩
 rw [<-hO] at HLK;clear hk h hr h0 hie hte hi40 hO;go_in;go_upto_region 1 with fail;obtain ⟨w0,hw0⟩:=xE (w.alloc (.cells #[.int .i64 a,.int .i64 b,.int .i64 d] 28));have hb0:Bl w w0:=by rw [hw0];exact ZA bR
 have hx0:w0.heap[w.heap.size]?=some (.cells #[.int .i64 a,.int .i64 b,.int .i64 d] 28 (0,0)):=by rw [hw0];exact ZC _ _
 rw [<-hw0];obtain ⟨a0,a1,a2,_⟩:=ZY hx0;clear hw0;have HR0:=zh (bZ w0)
 go_region_held3 (fun wx=>wx.cell? ⟨w.heap.size,1,none⟩=some (.int .i64 b)/\wx.cell? ⟨w.heap.size,2,none⟩=some (.int .i64 d))
  (first|assumption|exact ⟨a1,a2⟩)
  (first
    |(refine ZF rfl func26 rfl rfl rfl (HM1.o _) (by simp [Act.eval];first|done|rfl) ?_;rintro e' V2 ⟨rfl,rfl⟩;refine ⟨_,rfl,?_⟩)
    |(refine ZF rfl func26 rfl rfl rfl (HM2.o _) (by simp [Act.eval];first|done|rfl) ?_;rintro e' V2 ⟨rfl,rfl⟩;refine ⟨_,rfl,?_⟩))
 have hb1:Bl w w0.drew:=ZB hb0;have hx1:w0.drew.heap[w.heap.size]?=_:=hx0;obtain ⟨w1,hw1⟩:=xE w0.drew;rw [<-hw1] at hb1 hx1 ⊢;clear hw1 a0 a1 a2 hx0 hb0;obtain ⟨a0,a1,a2,_⟩:=ZY hx1;go_wp2_with fail;refine (HM3.o _).mono ?_;rintro e w' ⟨rfl,rfl⟩;have HB1:=zh hb1;have hR1:=HR.o.below hb1;have z1:=hR1.one;have z2:=hR1.two;have z4:=hR1.lp (i:=i) (by omega);rw [HL0.o] at z4;have HS1:=zh (fun wx (hb:Bl w1 wx)=>show wx.cell? ⟨B.wb,1,none⟩=some (.pointer (some ⟨B.db,0,none⟩))/\wx.cell? ⟨B.wb,2,none⟩=some (.pointer (some ⟨B.lib,0,none⟩)) from ⟨(hR1.below hb).one,(hR1.below hb).two⟩);have HR1:=zh (bZ w1);clear hb1 hx1 a0 a1 a2 hR1;go_upto_region 20 with fail
 go_region_held3 (fun wx=>wx.cell? ⟨B.wb,1,none⟩=some (.pointer (some ⟨B.db,0,none⟩))/\wx.cell? ⟨B.wb,2,none⟩=some (.pointer (some ⟨B.lib,0,none⟩)))
  (first|exact hsx|exact HS1.o _ (by repeat (with_reducible first|assumption|exact HR1.o|apply ZA|apply ZB)))
  (first
    |(refine ZF rfl func21 rfl rfl rfl (HLK.o _ (ZB HB1.o)) (by simp [Act.eval];first|done|rfl) ?_;rintro e' V2 ⟨rfl,rfl⟩;refine ⟨_,rfl,?_⟩)
    |(refine ZF rfl func20 rfl rfl rfl (HRT.o _ _) (by simp [Act.eval];first|done|rfl) ?_;rintro e' V3 ⟨rfl,hbv⟩;refine ⟨_,rfl,?_⟩;have hb3:Bl w1 V3:=(show Bl w1 _ from by repeat (with_reducible first|exact HR1.o|apply ZA|apply ZB)).trans (hbv.mono (by simp));have hsx:=HS1.o _ hb3))
 have HB3:=zh (HB1.o.trans (hb3.mono HB1.o.size));have HE:=zh (DoP.of (x:=x) (ex:=ex) (HH.o.below HB3.o) (HR.o.below HB3.o));clear hb3 hbv hsx z1 z2 z4;go_wp2_with fail;refine (HNI.o _).mono ?_;rintro e' w' ⟨rfl,rfl⟩;go_wp2;go_returns;exact ⟨rfl,HE.o⟩
theorem HW.newf {L:Nat}{lk:Bool}{p:Nat->Plc}{res held:Nat->Option Nat}(h:HW w A F L T c x H lk p ex res held){b:Nat}(hb:w.heap.size<=b):Frn F H b:=by
 obtain ⟨q,h1,_⟩:=h.aq.dev;have ne:∀ {k},k < w.heap.size->b≠k:=fun {k} hk e=>by omega
 refine ⟨?_,?_,⟨ne (heap_lt h.hp.hp),ne (heap_lt h.set.set)⟩,⟨ne h.aq.nib.lt,ne h.aq.tab.lt⟩⟩
 ·cases e:F b with
  |none=>rfl
  |some r=>exact absurd (h1.lt b (by rw [e];simp)) (by omega)
 ·rintro (e|e|e)
  ·exact ne h.set.row.lt e
  ·exact ne h.rm.lt e
  ·exact ne h.vm.lt e
theorem WC.own {w1:World}(h:WC w A F T c x H ex B c0 s){e:TypeId}{z n:Nat}{v:Value}{xs:List Value}(ho:w1.ownsRow w.heap.size e z v n xs):OwF w1 F H e z v n xs:=
 ⟨Zp ho (Nat.zero_le _),fun k hk=>⟨h.hw.newf (ho.lt k hk).1,ZLi h.x0 (ho.lt k hk).1⟩⟩
theorem ZKW {fv iv:Value}{i v y:Nat}(hi:i < 40):wwC B {s with lp:=upd s.lp i v} fv iv y=if y=4+i then .int .u64 v else wwC B s fv iv y:=by
 by_cases e:y=4+i
 ·rw [ZLX e];unfold wwC
  rw [ZLU (by omega),ZLU (by omega),ZLU (by omega),ZLU (by omega),ZLX (by omega)];show Value.int .u64 ((upd s.lp i v (y - 4):Nat):Int)=_;rw [show y - 4=i by omega];unfold upd;rw [ZLX rfl]
 ·rw [ZLU e];unfold wwC
  by_cases h:4<=y/\y < 44
  ·rw [ZLU (by omega),ZLU (by omega),ZLU (by omega),ZLU (by omega),ZLX (by omega),ZLU (by omega),ZLU (by omega),ZLU (by omega),ZLU (by omega),ZLX (by omega)]
   show Value.int .u64 ((upd s.lp i v (y - 4):Nat):Int)=_;unfold upd;rw [ZLU (by omega)]
  ·split;rfl;split;rfl;split;rfl;split;rfl
   have hh:¬ y < 44:=by omega
   rw [ZLU hh,ZLU hh]
theorem ZIO {fv iv u:Value}{y:Nat}:wwC B s fv u y=if y=45 then u else wwC B s fv iv y:=by
 by_cases e:y=45
 ·rw [ZLX e];subst e;rfl
 ·rw [ZLU e];unfold wwC
  split;rfl;split;rfl;split;rfl;split;rfl;split;rfl;split;rfl;rfl
theorem ZKV {fv iv u:Value}{y:Nat}:wwC B s u iv y=if y=44 then u else wwC B s fv iv y:=by
 by_cases e:y=44
 ·rw [ZLX e];subst e;rfl
 ·rw [ZLU e];unfold wwC
  split;rfl;split;rfl;split;rfl;split;rfl;split;rfl;rfl
theorem WR.link (h:WR w F H B s fv iv){i:Nat}(hi:i < 40)(v:Nat){s':LS}(hl:s'.lp=upd s.lp i v)(he:s'.now=s.now/\s'.ann=s.ann/\s'.fr=s.fr/\s'.its=s.its):WR (w.setCell ⟨B.wb,4+i,none⟩ (.int .u64 v)) F H B s' fv iv:=by
 obtain ⟨e1,e2,e3,e4⟩:=he;refine h.put _ _ rfl (fun y hy=>?_) (by rw [e3];exact h.fre) (by rw [e4];exact h.ite);rw [<-ZKW hi];unfold wwC;rw [hl,e1,e2]
theorem ZIg (h:WC w A F T c x H ex B c0 s)(hr:WR w F H B s fv iv)(hi:s.Inv n)(hn:n<=50)(hx:x<=900000){a b d:Int}(hk:ZX a 7=1)(h0:s.lp (ZX b 40)≠0):
 Calls prog 11 #[.pointer (some ⟨B.wb,0,none⟩),.agg #[.int .i64 a,.int .i64 b,.int .i64 d]] w fun e w'=>e=.returned (.bool true)/\DoP A T H B c0 x ex (s.retire (ZX b 40)) w':=by
 have HM1:=zmo (a:=b) (n:=40) (by omega);have HM2:=zmo (a:=d) (n:=8) (by omega);have HM3:=zmo (a:=a) (n:=7) (by omega);rw [hk] at HM3;have hi40:ZX b 40 < 40:=Z4 (by omega) rfl;obtain ⟨i,hie⟩:=xE (ZX b 40);obtain ⟨t,hte⟩:=xE (ZX d 8);rw [<-hie] at HM1 hi40 h0 ⊢;rw [<-hte] at HM2;obtain ⟨O,hO⟩:∃ O:Nat,O=ZP pA+8 * i:=⟨_,rfl⟩
 obtain ⟨p,hp⟩:=xE (s.lp i);have HLK:=zh (fun wx (hb:Bl w wx)=>Us (v:=0) (hr.below hb).three (by decide) (by decide) (show i < 60 by omega))
 have HRT:=zh (fun wx (hb:Bl w wx)=>ZGj (w:=wx.alloc (.cells #[.int .u64 (O:Nat),.int .u64 (0:Nat)] 138)) (h.below (ZA hb)) hi hn hi40 h0 hx (v:=.slice (some ⟨wx.heap.size,0,none⟩) 1 1)
  (.inr ⟨_,_,_,rfl,by
    rw [hO,show ZP pA=5104 from Jp.2.1,show 5104+8 * i=8 * (638+i) by omega];exact Yp _ _ _ _⟩))
 have HNI:=zh (fun w1=>show Calls prog 15 #[.int .u64 p] w1 (fun e w'=>e=.returned (.bool false)/\w1=w') from by
  have:=Zd (w:=w1) (p:=p);rw [show decide (p=0)=false by simp [hp,h0]] at this;exact this)
 have hlen:s.its.length<=100:=by
  have h1:=hi.ok.per.length_eq;have h2:=hi.en;have h3:(full s.en).length<=s.en.length:=ZL0 _ _;omega
 have HAD:=zh (fun (wx:World) (hq:Rit wx iv s.its)=>ZHy (w:=wx) hq hlen (xp:=p) (xe:=s.now));obtain ⟨ia,ic,hia⟩:=ZN hr.ite.1;subst hia;have HH:=zh h;have HR:=zh hr;have b40:(i:Int) < 40:=by omega
 have HI:=zh hi40;have HP:=zh hp;rw [<-hO] at HLK;rw [<-hp] at HRT;clear hk h hr h0 hie hte hi40 hO hp hlen hi;go_in;go_upto_region 1 with fail;obtain ⟨w0,hw0⟩:=xE (w.alloc (.cells #[.int .i64 a,.int .i64 b,.int .i64 d] 28));have hb0:Bl w w0:=by rw [hw0];exact ZA bR
 have hx0:w0.heap[w.heap.size]?=some (.cells #[.int .i64 a,.int .i64 b,.int .i64 d] 28 (0,0)):=by rw [hw0];exact ZC _ _
 rw [<-hw0];obtain ⟨a0,a1,a2,_⟩:=ZY hx0;clear hw0;have HR0:=zh (bZ w0)
 go_region_held3 (fun wx=>wx.cell? ⟨w.heap.size,1,none⟩=some (.int .i64 b)/\wx.cell? ⟨w.heap.size,2,none⟩=some (.int .i64 d))
  (first|assumption|exact ⟨a1,a2⟩)
  (first
    |(refine ZF rfl func26 rfl rfl rfl (HM1.o _) (by simp [Act.eval];first|done|rfl) ?_;rintro e' V2 ⟨rfl,rfl⟩;refine ⟨_,rfl,?_⟩)
    |(refine ZF rfl func26 rfl rfl rfl (HM2.o _) (by simp [Act.eval];first|done|rfl) ?_;rintro e' V2 ⟨rfl,rfl⟩;refine ⟨_,rfl,?_⟩))
 have hb1:Bl w w0.drew:=ZB hb0;have hx1:w0.drew.heap[w.heap.size]?=_:=hx0;obtain ⟨w1,hw1⟩:=xE w0.drew;rw [<-hw1] at hb1 hx1 ⊢;clear hw1 a0 a1 a2 hx0 hb0;obtain ⟨a0,a1,a2,_⟩:=ZY hx1;go_wp2_with fail;refine (HM3.o _).mono ?_;rintro e w' ⟨rfl,rfl⟩;have HB1:=zh hb1;have hR1:=HR.o.below hb1;have z1:=hR1.one;have z2:=hR1.two;have z4:=hR1.lp (i:=i) (by omega);rw [<-HP.o] at z4;have HS1:=zh (fun wx (hb:Bl w1 wx)=>show wx.cell? ⟨B.wb,1,none⟩=some (.pointer (some ⟨B.db,0,none⟩))/\wx.cell? ⟨B.wb,2,none⟩=some (.pointer (some ⟨B.lib,0,none⟩)) from ⟨(hR1.below hb).one,(hR1.below hb).two⟩);have HR1:=zh (bZ w1);clear hb1 hx1 a0 a1 a2 hR1;go_upto_region 20 with fail
 go_region_held3 (fun wx=>wx.cell? ⟨B.wb,1,none⟩=some (.pointer (some ⟨B.db,0,none⟩))/\wx.cell? ⟨B.wb,2,none⟩=some (.pointer (some ⟨B.lib,0,none⟩)))
  (first|exact hsx|exact HS1.o _ (by repeat (with_reducible first|assumption|exact HR1.o|apply ZA|apply ZB)))
  (first
    |(refine ZF rfl func21 rfl rfl rfl (HLK.o _ (ZB HB1.o)) (by simp [Act.eval];first|done|rfl) ?_;rintro e' V2 ⟨rfl,rfl⟩;refine ⟨_,rfl,?_⟩)
    |(refine ZF rfl func20 rfl rfl rfl (HRT.o _ (ZB HB1.o)) (by simp [Act.eval];first|done|rfl) ?_;rintro e' V3 ⟨rfl,F2,hW3,hm3⟩;refine ⟨_,rfl,?_⟩;have hR3:=(HR.o.below (ZA (ZB HB1.o))).moved hm3;have hsx:=And.intro hR3.one hR3.two))
 have HW3:=zh hW3;have HR3:=zh hR3;clear hW3 hm3 hR3 hsx z1 z2 z4;have z4:=HR3.o.cells (i:=4+i) (by have:=HI.o;omega);have f:=HR3.o.free;go_wp2_with fail;refine (HNI.o _).mono ?_;rintro e' w' ⟨rfl,rfl⟩;go_upto_region 26 with fail;have HW4:=zh (HW3.o.setw HR3.o.row HR3.o.fw (i:=4+i) (.int .u64 (0:Nat)));have HR4:=zh (HR3.o.link (s':={s with lp:=upd s.lp i 0}) HI.o 0 rfl ⟨rfl,rfl,rfl,rfl⟩);obtain ⟨w4,hw4⟩:=xE (V3.setCell ⟨B.wb,4+i,none⟩ (.int .u64 (0:Nat)));rw [<-hw4] at HW4 HR4;have hz:w4=V3.setCell ⟨B.wb,4+i,none⟩ (.int .u64 (0:Int)):=hw4;rw [<-hz];clear hz;clear hw4 z4 f;have HS0:=zh (show Bl w4 w4.drew from ZB bR);refine Zy 15 (fun wx=>Bl w4 wx) (by kernel_rfl) ?_;refine tK (i:=0) (z:=15) (v:=.pointer (some ⟨B.wb,0,none⟩)) rfl HS0.o (Or.inl ⟨by rfl,fun w' hc=>?_⟩) ?_
 ·go_simp
 (try simp only [Act.put,ZLT,ZLV,ZLW])
 refine tK (i:=1) (z:=15) (v:=.pointer (some ⟨B.wb,0,none⟩)) rfl HS0.o (Or.inl ⟨by rfl,fun w' hc=>?_⟩) ?_
 ·go_simp
 (try simp only [Act.put,ZLT,ZLV,ZLW])
 refine tK (i:=2) (z:=15) (v:=.pointer (some ⟨B.wb,0,none⟩)) rfl HS0.o (Or.inl ⟨by rfl,fun w' hc=>?_⟩) ?_
 ·go_simp
 (try simp only [Act.put,ZLT,ZLV,ZLW])
 refine tK (i:=3) (z:=15) (v:=.pointer (some ⟨B.wb,45,none⟩)) rfl HS0.o (Or.inl ⟨by rfl,fun w' hc=>?_⟩) ?_
 ·go_simp
 (try simp only [Act.put,ZLT,ZLV,ZLW])
 refine tK (i:=4) (z:=15) (v:=.slice ia s.its.length ic) rfl HS0.o (Or.inl ⟨by rfl,fun w' hc=>?_⟩) ?_
 ·have z:=(HR4.o.below hc).ivc;go_simp
 (try simp only [Act.put,ZLT,ZLV,ZLW])
 refine tK (i:=5) (z:=15) (v:=.int .u64 p) rfl HS0.o (Or.inl ⟨by rfl,fun w' hc=>?_⟩) ?_
 ·go_simp
 (try simp only [Act.put,ZLT,ZLV,ZLW])
 refine tK (i:=6) (z:=15) (v:=.pointer (some ⟨B.wb,0,none⟩)) rfl HS0.o (Or.inl ⟨by rfl,fun w' hc=>?_⟩) ?_
 ·go_simp
 (try simp only [Act.put,ZLT,ZLV,ZLW])
 refine tK (i:=7) (z:=15) (v:=.pointer (some ⟨B.wb,0,none⟩)) rfl HS0.o (Or.inl ⟨by rfl,fun w' hc=>?_⟩) ?_
 ·go_simp
 (try simp only [Act.put,ZLT,ZLV,ZLW])
 refine tK (i:=8) (z:=15) (v:=.pointer (some ⟨B.wb,46,none⟩)) rfl HS0.o (Or.inl ⟨by rfl,fun w' hc=>?_⟩) ?_
 ·go_simp
 (try simp only [Act.put,ZLT,ZLV,ZLW])
 refine tK (i:=9) (z:=15) (v:=.pointer (some ⟨B.wb,46,none⟩)) rfl HS0.o (Or.inl ⟨by rfl,fun w' hc=>?_⟩) ?_
 ·go_simp
 (try simp only [Act.put,ZLT,ZLV,ZLW])
 refine tK (i:=10) (z:=15) (v:=.int .u64 s.now) rfl HS0.o (Or.inl ⟨by rfl,fun w' hc=>?_⟩) ?_
 ·have z:=(HR4.o.below hc).nowc;go_simp
 (try simp only [Act.put,ZLT,ZLV,ZLW])
 refine tK (i:=11) (z:=15) (v:=.agg #[.int .u64 p,.int .u64 s.now]) rfl HS0.o (Or.inl ⟨by rfl,fun w' hc=>?_⟩) ?_
 ·go_simp
 (try simp only [Act.put,ZLT,ZLV,ZLW])
 refine YA (j:=12) (z:=15) (by kernel_rfl) rfl (fun K hK=>?_);refine Yw rfl (HAD.o _ (RitW.rit (HR4.o.below HS0.o).ite.1)) (by kernel_rfl) ?_;rintro e6 w6 ⟨sv,rfl,hro,hb6⟩;obtain ⟨sa,sc,hsv⟩:=ZN hro;subst hsv;have hbx:Bl w4 w6:=HS0.o.trans (hb6.mono HS0.o.size);refine ⟨_,rfl,hK _ _ hbx ?_⟩;clear hK K
 (try simp only [Act.put,ZLT,ZLV,ZLW])
 refine YA (j:=13) (z:=15) (by kernel_rfl) rfl (fun K hK=>?_);go_simp;refine hK _ _ hbx ?_;clear hK K
 (try simp only [Act.put,ZLT,ZLV,ZLW])
 refine YA (j:=14) (z:=15) (by kernel_rfl) rfl (fun K hK=>?_);go_simp;refine hK _ _ hbx ?_;clear hK K
 (try simp only [Act.put,ZLT,ZLV,ZLW])
 have HR6:=zh (HR4.o.below hbx);have HW6:=zh (HW4.o.below hbx);have HO6:=zh (HW4.o.own (Zp hro (by have:=HS0.o.size;omega)));have z:=HR6.o.ivc;have f:=HR6.o.free;clear hbx hb6 hro;refine Vm (z:=15) (by kernel_rfl) rfl (by kernel_rfl) (by kernel_rfl) (fun K hK=>?_);go_simp;refine hK _ _ ?_;clear hK K z f
 have HE:=zh (show DoP A T H B c0 x ex (s.retire i) (w6.setCell ⟨B.wb,45,none⟩ (.slice sa (YK (p,s.now) s.its).length sc)) from
  ⟨F2,_,x+100,ex,fv,_,by omega,by omega,HW6.o.setw HR6.o.row HR6.o.fw _,HR6.o.put 45 _ rfl (fun y hy=>ZIO) HR6.o.fre (by
    show OwF w6 F2 H _ 2 _ (YK (s.lp i,s.now) s.its).length (rcl (YK (s.lp i,s.now) s.its));rw [<-HP.o];exact HO6.o)⟩)
 go_wp2;go_returns;exact ⟨rfl,HE.o⟩
theorem ZF3 {l:List (Nat×Nat)}(h:(l.map (·.1 / 8)).Nodup):(l.map (·.1)).Nodup:=
 List.pairwise_map.2 ((List.pairwise_map.1 h).imp fun hne e=>hne (by rw [e]))
theorem ZE9 {k:Chk}(hk:k.Head)(hc:k.cl=0){tk:List (Nat×Nat)}{dr:List Nat}(h:k.Can tk dr)(hg:∀ j,1<=(k.blk j).gen/\(k.blk j).gen < 65536)(hT:∀ i,i < 4294967296->Zc T i < 18446744073709551616):
 ∀ p∈ZR T 103 k tk dr,p.1 % 8=0/\p.1 < 64 * 160/\6592<=p.1/\p.2 < 18446744073709551616:=by
 intro p hp;refine ⟨Ug p hp,?_,by have:=ZAT p hp;omega,?_⟩
 ·unfold ZR YR Ye ZAB hdW at hp
  simp only [ZLZ,ZLb,ZLt] at hp;rcases hp with (⟨q,hq,rfl⟩|⟨q,hq,rfl⟩)|rfl
  ·have:=YI hk (h.lt q.1 (ZLZ.2 (.inl (ZLb.2 ⟨q,hq,rfl⟩))))
   simp only;omega
  ·have:=YI hk (h.lt q (ZLZ.2 (.inr hq)))
   simp only;omega
  ·simp
 ·unfold ZR YR Ye ZAB hdW at hp
  simp only [ZLZ,ZLb,ZLt] at hp;rcases hp with (⟨q,hq,rfl⟩|⟨q,hq,rfl⟩)|rfl
  ·have hkd:=h.kind q hq
   exact hT _ (Blk.Good.info_lt ⟨hg q.1,.inr (.inl ⟨rfl,hkd.1,hkd.2⟩)⟩)
  ·have:=hg q
   refine hT _ (Blk.Good.info_lt ?_);unfold Blk.freed;split
   ·rename_i e;exact ⟨⟨by simp,by simp⟩,.inr (.inr ⟨rfl,rfl,rfl⟩)⟩
   ·rename_i e;exact ⟨⟨by simp only;omega,by simp only;omega⟩,.inl ⟨rfl,rfl⟩⟩
  ·have hb:=Ym (k.after tk dr).used (perN (k.after tk dr))
   have hp:perN (k.after tk dr)=62:=Xd ((k.same_after tk dr).cl.trans hc);rw [hp] at hb ⊢;exact Nat.lt_trans hb (by decide)
theorem ZB3 {k:Chk} (hk:k.Head) (hc:k.cl=0) {tk:List (Nat×Nat)} {dr:List Nat} (h:k.Can tk dr) (hg:∀ j,1<=(k.blk j).gen/\(k.blk j).gen < 65536) (hT:∀ i,i < 4294967296->Zc T i < 18446744073709551616)
 {lw:List (Nat×Nat)} (hn:(lw.map (·.1)).Nodup) (hl:∀ p∈lw,p.1 % 8=0/\2304<=p.1/\p.1 < 6592/\p.2 < 18446744073709551616):UP 160 640 1664 (lw++ZR T 103 k tk dr):=by
 have ha:=ZE9 hk hc h hg hT;refine ⟨?_,fun p hp=>?_⟩
 ·rw [ZLs,ZL3]
  refine ⟨hn,ZF3 (Uh hk h),fun a ha1 b hb1 e=>?_⟩;obtain ⟨p,hp,rfl⟩:=ZLb.1 ha1;obtain ⟨q,hq,rfl⟩:=ZLb.1 hb1;have:=(hl p hp).2.2.1;have:=(ha q hq).2.2.1;omega
 ·rcases ZLZ.1 hp with hp|hp
  ·obtain ⟨h1,h2,h3,h4⟩:=hl p hp
   exact ⟨h1,by omega,by omega,h4⟩
  ·obtain ⟨h1,h2,h3,h4⟩:=ha p hp
   exact ⟨h1,h2,by omega,h4⟩
theorem ZHr {k k':Chk}(h:k.Same k'):plc k'=plc k:=by
 funext j;unfold plc;rw [h.cl,h.ow]
theorem LS.ixs_le (s:LS):s.ixs.length<=s.en.length:=by
 have:=ZL0 (fun i=>(s.en.getD i (0,0)).1 != 0 && s.sf (s.en.getD i (0,0))) (List.range s.en.length);simpa [LS.ixs] using this
theorem LS.drs_len (s:LS):s.drs.length=s.ixs.length:=by unfold LS.drs;rw [LS.frees_ixs];simp
theorem ZCg (s:LS)(hn:s.en.length<=29):((YH s).map (·.1)).Nodup/\∀ p∈YH s,p.1 % 8=0/\2304<=p.1/\p.1 < 6592/\p.2 < 18446744073709551616:=by
 have hix:∀ i∈s.ixs,i < s.en.length:=fun i hi=>ZLz.1 (ZLv.1 hi).1
 have hnd:s.ixs.Nodup:=List.nodup_range.filter _;have hn1:((s.ixs.map (fun i=>(8 * (579+2 * i),0))).map (·.1)).Nodup:=by
  rw [List.map_map];exact List.Pairwise.map _ (fun a b hab e=>hab (by simp only [Function.comp_apply] at e;omega)) hnd
 constructor
 ·unfold YH
  split
  ·rw [ZLs,ZL3]
   refine ⟨hn1,by simp,fun a ha b hb e=>?_⟩;rw [List.map_map] at ha;obtain ⟨i,_,rfl⟩:=ZLb.1 ha;simp at hb;simp only [Function.comp_apply] at e;omega
  ·rw [List.append_nil];exact hn1
 ·intro p hp
  unfold YH at hp;rcases ZLZ.1 hp with hp|hp
  ·obtain ⟨i,hi,rfl⟩:=ZLb.1 hp
   have:=hix i hi;exact ⟨by simp only;omega,by simp only;omega,by simp only;omega,by simp only;omega⟩
  ·split at hp
   ·simp at hp;subst hp;exact ⟨by simp,by simp,by simp,by simp⟩
   ·cases hp
theorem ZAs (s:LS):s.ixs.length<=(YH s).length/\(YH s).length<=s.ixs.length+1:=by
 unfold YH;split <;> simp
theorem ZEa (h:WC w A F T c x H ex B c0 s)(hi:s.Inv n)(hn:n<=50)(hx:x<=900000):
 Calls prog 24 #[.pointer (some ⟨B.lib,0,none⟩),.iface 37 (.pointer (some ⟨B.db,0,none⟩))] w fun e w'=>e=.returned (.tuple #[.int .i64 (s.frees.length:Nat),.int .i64 0])/\(s.frees=[]/\Bl w w'\/s.frees≠[]/\∃ F' c',WC w' A F' T c' (x+400) H ex B c0 s.collect/\HMv F F' H w w'):=by
 have hps:(s.ixs.map fun i=>(i,s.en.getD i (0,0))).map (·.2.1)=s.frees.map (·.1):=by rw [LS.frees_ixs,List.map_map,List.map_map];rfl
 have hlen:(s.ixs.map fun i=>(i,s.en.getD i (0,0))).length=s.frees.length:=by rw [LS.frees_ixs];simp
 have hen:=hi.en;have hil:=s.ixs_le;have hdl:=s.drs_len;have hfl:s.frees.length=s.ixs.length:=by rw [LS.frees_ixs];simp
 have hK:=h.rep.head
 have key:=ZBd h.ar h.dr h.li h.ck (h.rep.ndc hi (by omega)) (fun w1 hb=>YG (h.below hb)) (FL:=s.ixs.map fun i=>(i,s.en.getD i (0,0))) h.rep.itm_fl.symm (Q:=fun w'=>∃ F' c',WC w' A F' T c' (x+400) H ex B c0 s.collect/\HMv F F' H w w') (by
  intro hne wx hb v tb tc hv hs;rw [s.colW_eq h.rep.all_iff] at hv;rw [hlen,show s.frees.length=(s.frees.map (·.1)).length by simp];have h0:s.frees≠[]:=fun e=>hne (ZLr (by rw [hlen,e];rfl))
  have hpos:1<=s.frees.length:=by
   rcases Nat.eq_zero_or_pos s.frees.length with q|q
   ·exact absurd (ZLr q) h0
   ·exact q
  have hc:=(hi.cl0 (hi.ok.na_en (LS.frees_en h0))).1;have hcan:=hi.ok.drs_can hc;have hB:=h.below hb;have hR:=hB.chk (m:=1) (by omega);rw [XF] at hR;have hal:(YH s++ZR T 103 s.k [] s.drs).length<=60:=by
   have:=(ZAs s).2;rw [ZLc,XC,hdl,List.length_nil];omega
  have hcm:=ZB3 (T:=T) hK hc hcan (hi.gens (by omega)) h.hw.sealed_lt (ZCg s (by omega)).1 (ZCg s (by omega)).2;have hnd:(s.frees.map (·.1)).Nodup:=by
   have hnd:=hi.ok.nd;rw [LS.live_eq] at hnd;have h2:=(ZL3.1 hnd).2.1;exact List.Nodup.sublist (List.Sublist.map _ List.filter_sublist) h2
  have hhn:=h.hn;have hat:∀ i (h1:i < (s.frees.map (·.1)).length) (h2:i < s.drs.length),s.drs[i] < perN s.k/\ZP (s.frees.map (·.1))[i]=s.k.pay 103 s.drs[i]/\(s.frees.map (·.1))[i]≠0/\(s.frees.map (·.1))[i] < 72057594037927936/\(s.k.block 103 (s.frees.map (·.1))[i]).2=0:=by
   intro i h1 h2;have hm:s.frees[i]'(by simpa using h1)∈s.frees:=ZLl _;have hlv:=LS.mem_en (ZLv.1 hm).1;obtain ⟨j,hL⟩:=hi.ok.liv _ hlv;obtain ⟨_,h3,_,h5⟩:=hi.live_chk (by omega) hK hlv;obtain ⟨_,h6,_,_⟩:=hL.chk hK hc (hi.gens (by omega));have e1:(s.frees.map (·.1))[i]=(s.frees[i]'(by simpa using h1)).1:=by simp
   have e2:s.drs[i]=j:=by
    have:s.drs[i]=jOf (s.frees[i]'(by simpa using h1)).1:=by simp [LS.drs]
    rw [this,hL.jOf hc]
   rw [e1,e2];exact ⟨by rw [Xd hc];exact hL.1,by rw [h6,ZE0 hc],h3.ok.ne,h3.ok.lt,h5⟩
  have k1:(s.frees.map (·.1)).length=s.drs.length:=by simp [LS.drs]
  have k2:64+16 * (YH s++ZR T 103 s.k [] s.drs).length<=1664:=by omega
  have k3:x+6 * (YH s++ZR T 103 s.k [] s.drs).length+8<=x+400:=by omega
  have k4:(YH s++ZR T 103 s.k [] s.drs).length<=96:=by omega
  have k5:1<=(YH s).length:=by have:=(ZAs s).1;omega
  have e103:H.l0+32 * 1=103:=by rw [h.l0.1]
  rw [hps] at hs;have key2:=ZFZ (x':=x+400) hB.hw hB.dr (by omega) (by omega) h.rep.log (m:=1) (by omega) (by omega) hR (by omega) (ps:=s.frees.map (·.1)) (bs:=s.drs) k1 (by omega) (by omega) (by rw [e103];exact hat) hnd hcan (tc:=tc) hs hv k5 (by rw [e103];exact k4) (by rw [e103];exact k2) (by rw [e103];exact hcm) (by rw [e103];exact k3) (by omega);rw [e103] at key2;refine key2.mono ?_
  ·rintro e w' ⟨rfl,F',h2,h3⟩
   refine ⟨rfl,⟨F',_,hB.moved (s':=s.collect) (by rw [show plc s.collect.k=plc s.k from ZHr (s.k.same_after [] s.drs)];exact h2) h3 (h.rep.collect hi.ok hc) ⟨rfl,rfl⟩,(HMv.of_below hb).trans h3⟩,fun k o hk ho=>?_⟩;exact (h3.frn (h.hw.newf hk) (heap_lt ho)).1.trans ho)
 refine key.mono ?_;rintro e w' ⟨rfl,hq⟩;rw [hlen];refine ⟨rfl,hq.imp (fun q=>⟨ZLr (by rw [<-hlen,q.1];rfl),q.2⟩) (fun q=>⟨fun e=>q.1 (ZLr (by rw [hlen,e];rfl)),q.2⟩)⟩
theorem WC.hok (h:WC w A F T c x H ex B c0 s):HOK T c 160 H (plc s.k) (chs s.k) where
 rep:=by rw [h.l0.1,h.hn];exact h.rep.rep
 line j hj:=by
  rw [h.hn] at hj;rw [h.l0.1];rcases (show j=0\/j=1 by omega) with rfl|rfl <;> rfl
 cl j hj:=by
  rw [h.hn] at hj;rcases (show j=0\/j=1 by omega) with rfl|rfl <;> exact ⟨rfl,rfl⟩
 fit:=by rw [h.l0.1,h.hn];omega
theorem ZJA {k:Chk}(h:k.cl=0/\k.ow=0):Zx (plc k) ((0:Nat):Int) ((0:Nat):Int) 2=[1]:=by
 rw [ZDA (m:=1) (by unfold plc;exact ⟨h.2,h.1⟩),ZBu (m:=0) (by rintro ⟨_,q⟩;cases q)];rfl
theorem ZHs:Zx (plc kF) ((0:Nat):Int) ((0:Nat):Int) 2=[]:=by decide
theorem ZKy (k:Chk):∀ m,m < 1->0<=(plc k m).cl:=by
 intro m hm;obtain rfl:m=0:=by omega
 show (0:Int)<=4;omega
theorem ZKz (k:Chk):∀ m,m < 1->(plc k m).line≠(plc k 1).line:=by
 intro m hm;obtain rfl:m=0:=by omega
 show (71+32 * 0:Nat)≠103;omega
theorem ZJe (hi:s.Inv n)(hn:n<=60)(hk:s.clm.k.Head):s.clm.fj < 62/\InC s.np/\ZP s.np=(833+4 * s.clm.fj) * 8/\Z9 s.np=65:=by
 obtain ⟨h1,h2,h3⟩:=hi.clm;obtain ⟨f1,f2,f3,f4⟩:=h1.fj hn h2;obtain ⟨m1,m2,m3,m4,m5⟩:=ZHZ (P:=s.np) hk h2 f1 (h1.gens hn s.clm.fj) rfl;exact ⟨f1,m1,m2,m4⟩
def ZGp (A:DAd)(F:Nat->Option ZM)(T:Nat->Nat)(x:Nat)(H:HAd)(ex:Nat)(c0:Nat->Nat)(s:LS)(w w':World):Prop:=
 ∃ F' c' x',x'<=x+400/\HW w' A F' 160 T c' x' H false (Xo (plc s.clm.k) 1 ⟨103,0,0,true⟩) (ex+1) (YN (fun _=>none) (ZP s.np) s.np) (YN (fun _=>none) 103 1)/\HMv F F' H w w'/\s.clm.Rep T c' c0
theorem ZIQ (h:WC w A F T c x H ex B c0 s)(hi:s.Inv n)(hn:n<=50)(hx:x<=900000):∃ c1 x1,x1<=x+200/\s.clm.Rep T c1 c0/\ZEf w A F 160 T c x H false (plc s.k) ex (fun _=>none) (fun _=>none) 0 0 65 c1 x1 (plc s.clm.k) s.np 103:=by
 obtain ⟨hc,h1,h2⟩:=hi.clm;obtain ⟨f1,f2,f3,f4⟩:=hc.fj (by omega) h1;have hhn:=h.hn;rcases hi.ok.cl with ⟨e1,e2⟩|⟨e1,e2⟩
 ·have hk:=hi.k1 e1
  have hrep:s.clm.Rep T (wrs c (YP T 103 (Chk.made 0 0 1))) c0:=by rw [LS.clm_yes e1];exact h.rep.claim (by omega)
  have hR:=hrep.rep 1 (by omega);rw [XF] at hR;have hmk:s.clm.k=Chk.made 0 0 1:=by rw [LS.clm_yes e1]
  refine ⟨_,x+200,by omega,hrep,.inr ⟨fun w1 hb=>?_,fun w1 hb=>?_,fun F1 w1 hw1=>?_⟩⟩
  ·refine Up (th:=0) (cl:=0) (h.hw.below hb) h.hok (fun i hi2 _=>?_) 65
   rw [hhn,hk,ZHs] at hi2;cases hi2
  ·have hR0:=h.chk (m:=1) (by omega)
   rw [XF,hk,h.l0.1] at hR0;have:=Qe (h.hw.below hb) (j:=1) (by omega) (ZKy s.k) (by rw [hk];show (-1:Int) < 0;omega) (k:=kF) (by show 103+32<=160;omega) hR0 (cl:=0) (th:=0) (by omega) (by omega) (by omega);refine this.mono ?_;rintro e w' ⟨he,hp⟩;have ep:Xo (plc s.k) 1 ⟨(plc s.k 1).line,(0:Nat),(0:Nat),(plc s.k 1).held⟩=plc s.clm.k:=by
    rw [hmk];funext j;unfold Xo plc
    by_cases e:j=1
    ·subst e;rfl
    ·simp [e]
   rw [ep] at hp;exact ⟨he,hp⟩
  ·have:=Vk hw1.ar hw1.hp hw1.rm (line:=103) (k:=s.clm.k) (by omega) hR (by omega) (j:=s.clm.fj) (by rw [Xd h1];exact f1) f2 f3 (kind:=65) (by omega) rfl
   exact this
 ·have hk:s.clm=s:=LS.clm_no e1
  rw [hk] at f1 f2 f3;refine ⟨c,x,by omega,by rw [hk];exact h.rep,.inl ⟨rfl,rfl,by rw [hk],fun w1 hb=>?_⟩⟩;have hsel:Zx (plc s.k) ((0:Nat):Int) ((0:Nat):Int) H.n=[1]:=by rw [hhn];exact ZJA ⟨e1,e2⟩
  have hl0:=h.l0.1;have key:=ZCT (th:=0) (cl:=0) (h.hw.below hb) h.hok (m:=0) (by rw [hsel];exact Nat.zero_lt_one) (fun i _ hi2=>by omega) (b:=s.fj) (by simp only [hsel,ZLY,XF];rw [Xd e1];exact f1) (by simp only [hsel,ZLY,XF];exact f2) (by simp only [hsel,ZLY,XF];exact f3) (kind:=65) (by omega) rfl;simp only [hsel,ZLY,XF,hl0] at key;have enp:s.np=s.k.ptr (71+32 * 1) s.fj 65:=by unfold LS.np;rw [hk]
  rw [enp];exact key
theorem ZEc (h:WC w A F T c x H ex B c0 s)(hi:s.Inv n)(hn:n<=50)(hx:x<=900000)(hex:ex<=900000):
 Calls prog 88 #[.pointer (some ⟨H.hb,0,none⟩),.int .i64 (0:Nat),.int .i64 (3:Nat),.int .u8 (65:Nat)] w fun e w'=>e=.returned (.tuple #[.int .u64 s.np,.int .i64 0])/\ZGp A F T x H ex c0 s w w':=by
 obtain ⟨c1,x1,hx1,hrep,hf⟩:=ZIQ h hi hn hx;obtain ⟨hc,h1,h2⟩:=hi.clm;have hK:=hrep.head;obtain ⟨f1,hin,hof,hkd⟩:=ZJe hi (by omega) hK;have hhn:=h.hn;have key:=VF h.hw (th:=0) (cl:=0) (kind:=65) (n:=3) (words:=3) (by omega) (by omega) (by omega) (by decide) (by omega) (by decide) hf hin.ok.lt hin.ok.ne (by omega) (by omega) (j:=1) (by omega) (ZKz s.clm.k) (by show 0<=s.clm.k.cl;omega) rfl (by omega) (by simp) (by omega);refine key.mono ?_;rintro e w' ⟨he,F',hw,hm⟩;refine ⟨he,F',_,x1+200,by omega,?_,hm,hrep.zero h1 f1 hof⟩;have ep:(⟨(plc s.clm.k 1).line,(plc s.clm.k 1).cl,(plc s.clm.k 1).ow,true⟩:Plc)=⟨103,0,0,true⟩:=by
  show (⟨103,s.clm.k.cl,s.clm.k.ow,true⟩:Plc)=_;rw [h1,h2]
 rw [ep] at hw;exact hw
theorem ZIP (h:WC w A F T c x H ex B c0 s)(hi:s.Inv n)(hn:n<=50)(hx:x<=900000)(hex:ex<=900000):
 Calls prog 36 #[.pointer (some ⟨B.db,0,none⟩),.int .i64 (3:Nat),.int .u8 (65:Nat)] w fun e w'=>e=.returned (.tuple #[.int .u64 s.np,.int .i64 0])/\ZGp A F T x H ex c0 s w w':=
 UQ h.hw h.dr (by omega) (by omega) (fun w1 ⟨F',_,_,_,_,h2,_⟩=>⟨F',h2⟩) (fun w1 hb=>(ZEc (h.below hb) hi hn hx hex).mono fun e w' ⟨h1,F',c',x',h2,h3,h4,h5⟩=>⟨h1,F',c',x',h2,h3,(HMv.of_below hb).trans h4,h5⟩)
end
end Go.Proofs.YtbpeehmepehkdaaGreatDoor.Dv
