/- Part 39. -/
import Derived.Test.YteomliechfdhhaaGreatDoorY38
set_option maxHeartbeats 8000000
set_option maxRecDepth 20000
set_option linter.all false
namespace Go.Proofs.YteomliechfdhhaaGreatDoor.Dv
open Tryz
section
open Go.RowKit Go.Proofs.YteomliechfdhhaaGreatDoor.Size
variable {w w':World}{A:DAd}{F:Nat->Option ZK}{L:Nat}{T c c':Nat->Nat}{x x':Nat}{H:HAd}{lk:Bool}{p p':Nat->Plc}{ex:Nat}{res held:Nat->Option Nat}{ch:Nat->Chk}
def DpQ (w:World)(M line n:Nat)(bs:List Nat)(s:Nat)(V:Value)(wr:World):Prop:=
 Bl w wr/\wr.cell? ⟨M+1,0,none⟩=some (.map (some M))/\w.heap.size<=s/\M+1 < s/\s < wr.heap.size/\UL wr M 1 (YE (fun _=>none) line (some s))/\wr.heap[s]?=some (QC (.slice none 0 0) (.slice none 0 0) V)/\wr.ownsRow (s+1) 3 1 V n ((bs.take n).map fun (b:Nat)=>Value.int .i64 (b:Int))
def DpR (w:World)(M line:Nat)(bs:List Nat)(i:Value)(wr:World):Prop:=
 ∃ n:Nat,n<=bs.length/\i=.int .i64 n/\((n=0/\Bl w wr/\w.heap.size<=M/\wr.cell? ⟨M+1,0,none⟩=some (.map (some M))/\UL wr M 0 (fun _=>none))\/∃ s V,DpQ w M line n bs s V wr)
theorem DpQ.below {M line n:Nat}{bs:List Nat}{s:Nat}{V:Value}{wr wx:World}(h:DpQ w M line n bs s V wr)(hb:Bl wr wx):DpQ w M line n bs s V wx:=by
 obtain ⟨h1,h2,h3,h4,h5,h6,h7,h8⟩:=h;exact ⟨h1.trans (hb.mono h1.size),Zp hb h2,h3,h4,ZLC h5 hb.size,h6.kept (hb.block _ h6.lt),(hb.block _ h5).trans h7,ZQ h8 hb⟩
theorem ZEx {M line n:Nat}{bs:List Nat}(hl:line<=4096){wr:World}(h:(n=0/\Bl w wr/\w.heap.size<=M/\wr.cell? ⟨M+1,0,none⟩=some (.map (some M))/\UL wr M 0 (fun _=>none))\/∃ s V,DpQ w M line n bs s V wr):
 Calls prog 123 #[.int .i64 (line:Nat),.pointer (some ⟨M+1,0,none⟩)] wr fun e w'=>∃ s V,e=.returned (.pointer (some ⟨s,0,none⟩))/\DpQ w M line n bs s V w':=by
 rcases h with ⟨rfl,hb,hM,hc,hm⟩|⟨s,V,h⟩
 ·refine (QA hc hm hl rfl (by omega)).mono ?_
  rintro e w' ⟨rfl,hm5,hs5,hh5,hg5⟩;have m4:M+1 < wr.heap.size:=ZK2 _ _ hc;have hb5:Bl w w':=hb.grown hg5 hb.size (fun k hk=>by have:=ZK5 hk;omega);refine ⟨_,_,rfl,hb5,?_,hb.size,m4,hs5,hm5,hh5,ZLD _ _ _ _⟩;exact (ZK8 (hg5.block (M+1) m4 (fun e=>by have:=ZK5 e;omega))).trans hc
 ·obtain ⟨h1,h2,h3,h4,h5,h6,h7,h8⟩:=h
  refine (ZDD h2 h6 hl (ZKv rfl)).mono ?_;rintro e w' ⟨rfl,rfl⟩;exact ⟨_,_,rfl,h1,h2,h3,h4,h5,h6,h7,h8⟩
theorem ZFL {w:World}{B:Nat}{e:TypeId}{z n:Nat}{v:Value}{xs:List Value}(h:w.ownsRow B e z v n xs){b i:Nat}(hb:b < B)(u:Value):(w.setCell ⟨b,i,none⟩ u).ownsRow B e z v n xs:=by
 obtain ⟨h1,h2⟩:=h;refine ⟨h1,h2.imp id ?_⟩;rintro ⟨g,cap,cur,e1,hg,hbk,rest⟩;exact ⟨g,cap,cur,e1,hg,(ZF (by omega)).trans hbk,rest⟩
theorem ZI8 {M line n:Nat}{bs:List Nat}{s:Nat}{V:Value}{wr wx:World}{o:Obj}(h:DpQ w M line n bs s V wr)(hn:n < bs.length){g cap:Nat}(hown:wx.ownsRow (s+1) 3 1 (.slice (some ⟨g,0,none⟩) (n+1) cap) (n+1) ((bs.take n).map (fun (b:Nat)=>Value.int .i64 (b:Int))++[.int .i64 (bs[n]:Nat)]))(hgr:wr.grownBy wx V.ownBlock):
 (wx.cell? ⟨s,2,none⟩=some V/\wx.frozen? ⟨s,2,none⟩=false)/\DpQ w M line (n+1) bs s (.slice (some ⟨g,0,none⟩) (n+1) cap) (wx.setCell ⟨s,2,none⟩ (.slice (some ⟨g,0,none⟩) (n+1) cap)):=by
 obtain ⟨h1,h2,h3,h4,h5,h6,h7,h8⟩:=h;have hlt:∀ k,V.ownBlock=some k->s+1<=k:=fun k hk=>(h8.lt k hk).1
 have hbx:Bl w wx:=ZN h1 hgr h1.size (fun k hk=>by have:=hlt k hk;omega);have hsx:wx.heap[s]?=some (QC (.slice none 0 0) (.slice none 0 0) V):=(hgr.block s h5 (fun e=>by have:=hlt s e.symm;omega)).trans h7;have hs8:s < wx.heap.size:=ZLC h5 hgr.size;refine ⟨⟨(Zb hsx).2.2.1,(Zb hsx).2.2.2.2.2⟩,ZE hbx h3,?_,h3,h4,by simpa [World.setCell] using hs8,?_,(ZH hsx).trans rfl,?_⟩
 ·have e1:=hgr.block (M+1) (by omega) (fun e=>by have:=hlt _ e.symm;omega)
  have e2:(wx.setCell ⟨s,2,none⟩ (.slice (some ⟨g,0,none⟩) (n+1) cap)).heap[M+1]?=wx.heap[M+1]?:=ZF (by omega);exact (ZK8 e2).trans ((ZK8 e1).trans h2)
 ·have e1:=hgr.block M (by omega) (fun e=>by have:=hlt _ e.symm;omega)
  exact h6.kept ((ZF (by omega)).trans e1)
 ·have e:(bs.take (n+1)).map (fun (b:Nat)=>Value.int .i64 (b:Int))=(bs.take n).map (fun (b:Nat)=>Value.int .i64 (b:Int))++[.int .i64 (bs[n]:Nat)]:=by
   rw [ZLE hn,ZLH];rfl
  rw [e];exact ZFL hown (Nat.lt_succ_self s) _
theorem Qu (h:HW w A F L T c x H lk p ex res held) {m:Nat} (hm:m < H.n) (hl:H.l0+32 * m+32<=L) {k:Chk} (hR:CRep T c (8 * (H.l0+32 * m)) k) (hk:0<=k.cl) {ps bs:List Nat} (hlen:ps.length=bs.length) (h1:1<=bs.length) (h30:bs.length<=30)
 (hat:∀ i (hi:i < ps.length)(hj:i < bs.length),bs[i] < perN k/\ZM ps[i]=k.pay (H.l0+32 * m) bs[i]/\ps[i]≠0/\ps[i] < 72057594037927936/\(k.block (H.l0+32 * m) ps[i]).2=0)(hnd:ps.Nodup)(hcan:k.Can [] bs){tb tq tc:Nat}(ht:Seen w tb tq (ps.map fun (n:Nat)=>Value.int .u64 (n:Int))):
 Calls prog 65 #[.pointer (some ⟨H.hb,0,none⟩),.slice none 0 0,.slice (some ⟨tb,tq,none⟩) ps.length tc] w (AcP w (ZO T (H.l0+32 * m) k [] bs)):=by
 have hbd:=h.hp.bd;have HSN:=zh ht;have HC:=zh (fun (w1:World) (hb:Bl w w1) (n:Nat) (hn:n < ps.length)=>(show w1.cell? ⟨tb,tq+n,none⟩=some (.int .u64 (ps[n]:Nat)) from (ht.below hb nR) n _ (by simp [hn])));have HDS:=zh (fun (w1:World) (hb:Bl w w1) (q:Nat) (hq:Seen w1 q 0 [.slice none 0 0,.slice (some ⟨tb,tq,none⟩) ps.length tc])=>XW (w:=w1) (ls:=fun j=>if j=0 then [] else ps) (vs:=fun j=>if j=0 then .slice none 0 0 else .slice (some ⟨tb,tq,none⟩) ps.length tc) (fun j _=>by
  by_cases e:j=0
  ·simp only [e,if_true];exact .inl ⟨rfl,rfl⟩
  ·simp only [e,if_false];exact .inr ⟨tb,tq,tc,rfl,HSN.o.below hb nR⟩) (by simpa using hnd) (fun q hq=>by
  have hq:q∈ps:=by simpa using hq
  obtain ⟨i,hi,rfl⟩:=List.getElem_of_mem hq;have:=hat i hi (by omega);omega) (fun j=>by by_cases e:j=0 <;> simp [e];omega) hq)
 have HER:=zh (fun w1 hb=>Zq h.ar h.hp.t w1 hb);have hpay:∀ i (hi:i < ps.length) (hj:i < bs.length),64 * (H.l0+32 * m)<=ZM ps[i]/\ZM ps[i] < 64 * (H.l0+32 * m)+2048:=fun i hi hj=>by
  obtain ⟨a1,a2,_⟩:=hat i hi hj;have:=YF hR.head a1;have:=Uk hR.head a1;rw [a2];unfold Chk.pay;omega
 have HCK:=zh (fun (w1:World) (hb1:Bl w w1) (n:Nat) (hn:n < ps.length)=>(show Calls prog 42 #[.pointer (some ⟨H.hb,0,none⟩),.int .u64 (ps[n]:Nat),.int .u8 0] w1 (fun e w'=>e=.returned (.int .i64 0)/\Bl w1 w') from by
  obtain ⟨a1,a2,a3,a4,a5⟩:=hat n hn (by omega);have:=Xy (h.below hb1).ar (h.below hb1).hp hm hl hR hk a3 a4 (hpay n hn (by omega)).1 (hpay n hn (by omega)).2 0 (by omega);rw [a5,show V6 0 0 ps[n]=0 by unfold V6;simp] at this;exact this))
 have HPL:=zh (fun (w1:World) (hb1:Bl w w1) (n:Nat) (hn:n < ps.length) (hj:n < bs.length)=>QO (h.below hb1).ar (h.below hb1).hp hm hl hR hk (p:=ps[n]) (by have:=hat n hn hj;omega) (hat n hn hj).1 (hat n hn hj).2.1);have HOPN:=zh (fun (w1:World) (hb1:Bl w w1)=>Yu (h.below hb1).ar h.hp.t hl hR hk);have HACS:=zh (fun (w1:World) (hb1:Bl w w1) (v3:Value) (h3:Nats w1 v3 bs)=>UP (tk:=[]) (dr:=bs) (h.below hb1).ar h.hp.t hl hR hk hcan (by simp;omega) (by simp;omega) (v1:=.slice none 0 0) (v2:=.slice none 0 0) (.inl ⟨rfl,rfl⟩) (.inl ⟨rfl,rfl⟩) h3);have HP:=zh h.hp;have HLN:=zh (And.intro hlen (And.intro h1 h30));obtain ⟨line,hln⟩:=xE (H.l0+32 * m);rw [<-hln] at HPL HOPN HACS ⊢;obtain ⟨q0,q1,q2,q3,q4,q5,q6,q7,_⟩:=Zz h.hp.hp;obtain ⟨ti,hti⟩:=xE H.t;rw [<-hti] at HER HOPN HACS q0;have HTI:=zh hti;have hmm:=@run_makeMap prog;have HL4:=zh (show line<=4096 by unfold HAd.n at hm;omega);have HB0:=zh (ZA (o:=.cells #[.slice none 0 0,.slice (some ⟨tb,tq,none⟩) ps.length tc] 32) (Below.refl w.heap.size w));obtain ⟨AW,hAW⟩:=xE (ZO T line k [] bs);have HAWL:=zh (show 1<=AW.length/\AW.length<=1000 from by rw [hAW];unfold ZO YN Yc;simp;omega);rw [<-hAW] at HACS ⊢;obtain ⟨N,hN⟩:=xE ps.length;have HNN:=zh hN;rw [<-hN] at HDS HB0 ⊢;clear h hti hm hl hR hk hlen h1 h30 hat hnd hcan ht hln hAW hbd hpay hN HSN;go_in;go_wp2_with fail;refine (HDS.o _ HB0.o _ (Yi _ _ _ _)).mono ?_;rintro e w1 ⟨rfl,hb⟩;have HB:=zh (HB0.o.trans (hb.mono HB0.o.size));clear hb HB0 HDS;obtain ⟨r0,r1,r2,r3,r4,r5,r6,r7,_⟩:=Zz (HP.o.below HB.o).hp;rw [<-HTI.o] at r0;go_wp2_with fail;refine (HER.o _ HB.o).mono ?_;rintro e w' ⟨rfl,rfl⟩;go_wp2_with fail
 go_loop [52] (fun i=>i=.int .i64 0) (fun i=>0)
 case atStart=>rfl
 case round=>
 subst hrel;clear r0 r1 r2 r3 r4 r5 r6 r7 q0 q1 q2 q3 q4 q5 q6 q7;go_wp2_with fail
 go_loopw [63] (fun i wr=>∃ n:Nat,n<=N/\i=.int .i64 n/\Bl w wr) (fun i _=>N - (intOf i).toNat)
 case atStart=>exact ⟨0,by omega,rfl,HB.o⟩
 case round=>
 obtain ⟨n,hn,rfl,hbx⟩:=hrel
 by_cases hlt:n < N
 ·have b1:(n:Int) < N:=by omega
  have b2:(n:Int) < 30:=by have:=HNN.o;have:=HLN.o;omega
  have t0:=HC.o _ hbx n (by have:=HNN.o;omega);obtain ⟨Q,hQ⟩:=xE (ps[n]'(by have:=HNN.o;omega));have HK:=zh (HCK.o _ hbx n (by have:=HNN.o;omega));rw [<-hQ] at t0 HK;clear hQ;go_wp2_with fail;refine HK.o.mono ?_;rintro e w2 ⟨rfl,hb⟩;have HB2:=zh (hbx.trans (hb.mono hbx.size));clear hb t0 HK;go_wp2_with fail;go_round
  case rel=>exact ⟨n+1,by omega,by go_num,HB2.o⟩
  case measure=>simp [intOf];omega
 obtain rfl:n=N:=by omega
 replace HB:=zh hbx;obtain ⟨w2,hw2⟩:=xE wr;rw [<-hw2] at HB ⊢;clear hbx hw2 hn hlt HCK;go_wp2_with fail;have hbM:Bl w2 ((w2.alloc (Obj.map #[] 0)).alloc (Obj.cells #[Value.map (some w2.heap.size)] 239)):=ZA (ZA bR)
 have HM:=zh (show UL ((w2.alloc (Obj.map #[] 0)).alloc (Obj.cells #[Value.map (some w2.heap.size)] 239)) w2.heap.size 0 (fun _=>none) from (UMap.made prog 3 .i64 cChg w2).kept (by
  exact (ZA (Below.refl (w2.alloc (.map #[] 0)).heap.size (w2.alloc (.map #[] 0)))).block _ (by simp)))
 have HCB:=zh (show ((w2.alloc (Obj.map #[] 0)).alloc (Obj.cells #[Value.map (some w2.heap.size)] 239)).cell? ⟨w2.heap.size+1,0,none⟩=some (.map (some w2.heap.size)) from Vf _ _ _ (by simp));obtain ⟨W3,hW3⟩:=xE (((w2.alloc (Obj.map #[] 0)).alloc (Obj.cells #[Value.map (some w2.heap.size)] 239)));rw [<-hW3] at hbM HM HCB ⊢;obtain ⟨M,hM⟩:=xE w2.heap.size;have HWM:=zh (show w.heap.size<=M by rw [hM];exact HB.o.size);rw [<-hM] at HM HCB ⊢;replace HB:=zh (HB.o.trans (hbM.mono HB.o.size));clear hbM hW3 hM
 go_loop [78] (fun i=>i=.int .i64 0) (fun i=>0)
 case atStart=>rfl
 case round=>
 subst hrel;go_wp2_with fail
 go_loopw [116] (fun i wr=>DpR w M line bs i wr) (fun i _=>n - (intOf i).toNat)
 case atStart=>exact ⟨0,Nat.zero_le _,rfl,.inl ⟨rfl,HB.o,HWM.o,HCB.o,HM.o⟩⟩
 case round=>
 obtain ⟨j,hj,rfl,hd⟩:=hrel;have HJ:=zh (show n=bs.length from HNN.o.trans HLN.o.1)
 by_cases hlt:j < n
 ·have b1:(j:Int) < n:=by omega
  have b2:(j:Int) < 30:=by have:=HNN.o;have:=HLN.o;omega
  have hbx:Bl w wr:=by
   rcases hd with ⟨_,hb,_⟩|⟨s,V,hb,_⟩ <;> exact hb
  have hdl:∀ wx,Bl wr wx->((j=0/\Bl w wx/\w.heap.size<=M/\wx.cell? ⟨M+1,0,none⟩=some (.map (some M))/\UL wx M 0 (fun _=>none))\/∃ s V,DpQ w M line j bs s V wx):=fun wx hb=>by
   rcases hd with ⟨a1,a2,a3,a4,a5⟩|⟨s,V,hq⟩
   ·exact .inl ⟨a1,a2.trans (hb.mono a2.size),a3,Zp hb a4,a5.kept (hb.block _ a5.lt)⟩
   ·exact .inr ⟨s,V,hq.below hb⟩
  have HCH:=zh (fun (wx:World) (hb:Bl wr wx)=>ZEx HL4.o (hdl wx hb));have hjb:j < bs.length:=by have:=HJ.o;omega
  have t0:=HC.o _ hbx j (by have:=HNN.o;omega);have HPJ:=zh (HPL.o _ hbx j (by have:=HNN.o;omega) hjb);obtain ⟨Q,hQ⟩:=xE (ps[j]'(by have:=HNN.o;omega));rw [<-hQ] at t0 HPJ;obtain ⟨B,hB⟩:=xE (bs[j]);rw [<-hB] at HPJ;have HBB:=zh hB;clear hQ hB hdl hd;go_wp2_with fail;refine HPJ.o.mono ?_;rintro e w4 ⟨rfl,hb⟩;have HCH4:=zh (HCH.o _ hb);clear hb t0 HPJ HCH hbx;go_wp2_with fail;refine HCH4.o.mono ?_;rintro e w5 ⟨s,V,rfl,hq⟩;have HQ:=zh hq;have HO:=zh hq.2.2.2.2.2.2.2;obtain ⟨c0,c1,c2,f0,f1,f2⟩:=Zb hq.2.2.2.2.2.2.1;have HS5:=zh hq.2.2.2.2.1;clear hq HCH4;go_wp2_with (at_builtin;refine ZT ZA9 rfl _ _ rfl HO.o rfl rfl ?c1 rfl ?c2 ?c3 ?c4 ?c5 ?_)
  case c1=>simp
  case c2=>first|rfl|simp [Value.oneCell']
  case c3=>unfold maxLen;omega
  case c4=>omega
  case c5=>have:=HS5.o;omega
  intro g4 cap4 w6 hop6 hgr6 hg6;have hpq:=ZI8 (o:=.map #[] 0) HQ.o (by have:=HJ.o;omega) (by rw [<-HBB.o,List.map_take];exact hop6) hgr6;obtain ⟨⟨k2,m2⟩,hq6⟩:=hpq;have HQ6:=zh hq6;clear hop6 hgr6 hg6 hq6 c0 c1 c2 f0 f1 f2 HO HQ;go_wp2_with fail;go_round
  case rel=>exact ⟨j+1,by have:=HJ.o;omega,by go_num,.inr ⟨_,_,HQ6.o⟩⟩
  case measure=>simp [intOf];omega
 obtain rfl:j=n:=by have:=HJ.o;omega
 obtain ⟨s,V,hq⟩:∃ s V,DpQ w M line j bs s V wr:=by
  rcases hd with ⟨h0,_⟩|h
  ·have:=HNN.o;have:=HLN.o;omega
  ·exact h
 obtain ⟨hb3,hcb,_,_,_,hcm,hs,hv⟩:=hq;replace HB:=zh hb3;have HCM:=zh hcm;have HS3:=zh hs;have HCB3:=zh hcb
 have HV0:=zh (show Nats wr V bs from QU (by
  have e:bs.take j=bs:=ZLV (by have:=HJ.o;omega);rw [e] at hv;have e2:j=bs.length:=HJ.o;rw [e2] at hv;exact hv))
 obtain ⟨w3,hw3⟩:=xE wr;rw [<-hw3] at HB HCM HS3 HV0 HCB3 ⊢;have k0:=HCB3.o;clear hb3 hcb hcm hs hv hw3 HM HCB HWM HPL hd HC;go_wp2_with fail;refine mkeys_any.mono ?_;rintro e w4 ⟨rfl,hww⟩;have hb1:Bl w3 w4:=by rw [hww];exact ZA bR
 have HX:=zh (show w4.cell? ⟨w3.heap.size,0,none⟩=some (.map (some M)) from by rw [hww,ZC (ZB _ _)];rfl);have HCM4:=zh (HCM.o.kept (hb1.block _ HCM.o.lt));obtain ⟨BX,hBX⟩:=xE w3.heap.size;rw [<-hBX] at HX ⊢;have HB4:=zh (HB.o.trans (hb1.mono HB.o.size));have HS4:=zh ((hb1.block _ (heap_lt HS3.o)).trans HS3.o);have HV04:=zh (HV0.o.below hb1);have HCB4:=zh (Zp hb1 HCB3.o);clear hww hb1 hBX HCM HS3 HV0 HCB3 HB k0;go_wp2_with fail;refine (UH HX.o HCM4.o (by omega)).mono ?_;rintro e w5 ⟨v,ks,rfl,hks,hrow,hnil,hb⟩;have h1:ks=[line]:=by
  have hmem:∀ n,n∈ks↔n=line:=fun n=>by
   rw [hks.mem n];unfold YE;by_cases e:n=line <;> simp [e]
  cases ks with
  |nil=>exact absurd ((hmem line).2 rfl) (by simp)
  |cons a l=>
   have ha:=(hmem a).1 (.head _);cases l with
   |nil=>rw [ha]
   |cons a2 l2=>
    have ha2:=(hmem a2).1 (.tail _ (.head _));have:=hks.nodup;rw [ha,ha2] at this;simp at this
 subst h1;obtain ⟨g,cap,rfl,hsn,_⟩:=Zi hrow (by simp);have HL5:=zh (show w5.cell? ⟨g,0,none⟩=some (.int .i64 (line:Nat)) from hsn 0 _ rfl);have HB5:=zh (HB4.o.trans (hb.mono HB4.o.size));have HS5:=zh ((hb.block _ (heap_lt HS4.o)).trans HS4.o);have HV05:=zh (HV04.o.below hb);have HCB5:=zh (Zp hb HCB4.o);have HCM5:=zh (HCM4.o.kept (hb.block _ HCM4.o.lt));clear hks hrow hnil hb hsn HX HCM4 HB4 HS4 HV04 HCB4;simp only [List.length_singleton];go_wp2_with fail
 go_loopw [145,28] (fun i o wr=>(i=.int .i64 0/\o=.slice none 0 0/\wr=w5)\/(i=.int .i64 1/\Wrt wr w.heap.size o AW/\Bl w wr)) (fun i o _=>1 - (intOf i).toNat)
 case atStart=>exact .inl ⟨rfl,rfl,rfl⟩
 case round=>
 rcases hrel with ⟨rfl,rfl,hww⟩|⟨rfl,how,hbx⟩
 ·subst hww
  have l0:=HL5.o;obtain ⟨r0,r1,r2,r3,r4,r5,r6,r7,_⟩:=Zz (HP.o.below HB5.o).hp;rw [<-HTI.o] at r0;go_wp2_with fail;refine (HOPN.o _ HB5.o).mono ?_;rintro e w6 ⟨rfl,hb⟩;have HB6:=zh (HB5.o.trans (hb.mono HB5.o.size));have HS6:=zh ((hb.block _ (heap_lt HS5.o)).trans HS5.o);have HV06:=zh (HV05.o.below hb);have HCB6:=zh (Zp hb HCB5.o);have HCM6:=zh (HCM5.o.kept (hb.block _ HCM5.o.lt));clear hb r0 r1 r2 r3 r4 r5 r6 r7 l0;unfold chV at *;obtain ⟨w7,hw7⟩:=xE (w6.alloc (.cells #[.iface 97 (.pointer (some ⟨A.t ti,0,none⟩)),.int .i64 line,.int .i64 k.cl,.int .i64 k.ow,.int .u16 k.gen] 195));have hb7:Bl w6 w7:=by rw [hw7];exact ZA bR
  have hn7:w7.heap[w6.heap.size]?=some (.cells #[.iface 97 (.pointer (some ⟨A.t ti,0,none⟩)),.int .i64 line,.int .i64 k.cl,.int .i64 k.ow,.int .u16 k.gen] 195 (0,0)):=by rw [hw7];exact ZB _ _
  have HB7:=zh (HB6.o.trans (hb7.mono HB6.o.size));have HS7:=zh ((hb7.block _ (heap_lt HS6.o)).trans HS6.o);have HV07:=zh (HV06.o.below hb7);have HCB7:=zh (Zp hb7 HCB6.o);have HCM7:=zh (HCM6.o.kept (hb7.block _ HCM6.o.lt));have HW7:=zh hw7;have HN7:=zh hn7;clear hw7 hn7 hb7 HS6 HV06 HCB6 HCM6;have HKP7:=zh (fun (wx:World) (hb:Bl w7 wx)=>(show wx.cell? ⟨M+1,0,none⟩=some (.map (some M))/\(Instr.lookup 239 (.map (some M)) (.int .i64 (line:Nat)) false).run prog wx=.ok (.pointer (some ⟨s,0,none⟩)) wx/\wx.cell? ⟨s,0,none⟩=some (.slice none 0 0)/\wx.cell? ⟨s,1,none⟩=some (.slice none 0 0)/\wx.cell? ⟨s,2,none⟩=some V/\wx.cell? ⟨w6.heap.size,0,none⟩=some (.iface 97 (.pointer (some ⟨A.t ti,0,none⟩)))/\wx.cell? ⟨w6.heap.size,1,none⟩=some (.int .i64 line)/\wx.cell? ⟨w6.heap.size,2,none⟩=some (.int .i64 k.cl)/\wx.cell? ⟨w6.heap.size,3,none⟩=some (.int .i64 k.ow)/\wx.cell? ⟨w6.heap.size,4,none⟩=some (.int .u16 k.gen) from by
   have hl:=(HCM7.o.kept (hb.block _ HCM7.o.lt)).look underlying3 underlying239 (ZIk _) (n:=line) (wfI (by have:=HL4.o;omega));obtain ⟨x0,x1,x2,_⟩:=Zb ((hb.block _ (heap_lt HS7.o)).trans HS7.o);obtain ⟨y0,y1,y2,y3,y4,_⟩:=VH ((hb.block _ (heap_lt HN7.o)).trans HN7.o);have e:YE (fun _=>none) line (some s) line=some (some s):=ZKv rfl;rw [e] at hl;exact ⟨Zp hb HCB7.o,hl,x0,x1,x2,y0,y1,y2,y3,y4⟩))
  have HR7:=zh (Below.refl w7.heap.size w7)
  have HACS7:=zh (fun (wx:World) (hb:Bl w7 wx)=>(HACS.o wx (HB7.o.trans (hb.mono HB7.o.size)) V (HV07.o.below hb)).mono (R':=fun e w'=>∃ v,e=.returned (.tuple #[v,.int .i64 0])/\Wrt w' w.heap.size v AW/\Bl w7 w') (by
   rintro e w' ⟨v,h1,h2,h3⟩;exact ⟨v,h1,YJ h2 (ZK6 HB7.o.size hb.size),hb.trans (h3.mono hb.size)⟩))
  clear HACS;go_upto_region 44 with fail;rw [<-HW7.o]
  go_region_held3 (fun wx=>wx.cell? ⟨M+1,0,none⟩=some (.map (some M))/\(Instr.lookup 239 (.map (some M)) (.int .i64 (line:Nat)) false).run prog wx=.ok (.pointer (some ⟨s,0,none⟩)) wx/\wx.cell? ⟨s,0,none⟩=some (.slice none 0 0)/\wx.cell? ⟨s,1,none⟩=some (.slice none 0 0)/\wx.cell? ⟨s,2,none⟩=some V/\wx.cell? ⟨w6.heap.size,0,none⟩=some (.iface 97 (.pointer (some ⟨A.t ti,0,none⟩)))/\wx.cell? ⟨w6.heap.size,1,none⟩=some (.int .i64 line)/\wx.cell? ⟨w6.heap.size,2,none⟩=some (.int .i64 k.cl)/\wx.cell? ⟨w6.heap.size,3,none⟩=some (.int .i64 k.ow)/\wx.cell? ⟨w6.heap.size,4,none⟩=some (.int .u16 k.gen))
   (first|exact HKP7.o _ hbv|exact HKP7.o _ (by repeat (with_reducible first|assumption|exact HR7.o|apply ZA|apply ZD)))
   (first
     |(go_at_call 127;refine (HACS7.o _ (by repeat (with_reducible first|assumption|exact HR7.o|apply ZA|apply ZD))).mono ?_;rintro e W9 ⟨av,rfl,hav,hbv⟩))
  all_goals
   have HAV:=zh hav;obtain ⟨g9,cap9,rfl,hs9,hg9⟩:=Zi hav (by have:=HAWL.o;omega);obtain ⟨g8,cap8,w8,hrun8,how8,hgr8,_⟩:=Zm elWrites (ZLD W9 w.heap.size 155 2) ⟨g9,0,none⟩ AW.length cap9 (ZP AW) (VB AW) (fun j u hj=>by rw [Addr.add_lit];exact hs9 j u hj) (VC AW) (by have:=HAWL.o;omega) (by have:=HAWL.o;unfold maxLen;omega) (by have:=HAWL.o;omega) (HB7.o.trans (hbv.mono HB7.o.size)).size;have HRN:=zh hrun8;have HO8:=zh (show Wrt w8 w.heap.size (.slice (some ⟨g8,0,none⟩) AW.length cap8) AW from by
    unfold Wrt;have:=how8;simpa using this)
   have HB8:=zh (ZN (HB7.o.trans (hbv.mono HB7.o.size)) hgr8 (HB7.o.trans (hbv.mono HB7.o.size)).size (fun k hk=>by cases hk));clear hav hs9 hrun8 how8 hgr8 hbv;go_wp2_with (at_builtin;refine Zg rfl (Operand.tmp 187) (Operand.tmp 188) 78 rfl _ _ _ _ rfl rfl HRN.o ?_);go_wp2_with fail;go_round
   case rel=>exact .inr ⟨rfl,HO8.o,HB8.o⟩
   case measure=>simp [intOf]
 ·obtain ⟨r0,r1,r2,r3,r4,r5,r6,r7,_⟩:=Zz (HP.o.below hbx).hp
  rw [<-HTI.o] at r0;go_wp2_with fail;refine (HER.o _ hbx).mono ?_;rintro e w' ⟨rfl,rfl⟩;go_wp2;go_returns;exact ⟨_,rfl,how,fun q=>absurd (congrArg List.length q) (by have:=HAWL.o;intro q2;rw [List.length_nil] at q2;omega),hbx⟩
theorem UW:∀ {l:List (Nat×Nat×Nat)} {i:Nat} {y:Nat×Nat×Nat},l[i]?=some y->(icl l)[3 * i]?=some (.int .i64 y.1)/\(icl l)[3 * i+1]?=some (.int .u64 y.2.1)/\(icl l)[3 * i+2]?=some (.int .u64 y.2.2)
 |[],i,y,h=>by simp at h
 |z:: l,0,y,h=>by
  have:z=y:=by simpa using h
  subst this;exact ⟨rfl,rfl,rfl⟩
 |z:: l,i+1,y,h=>by
  have ih:=UW (l:=l) (i:=i) (y:=y) (by simpa using h);have e:icl (z:: l)=[.int .i64 z.1,.int .u64 z.2.1,.int .u64 z.2.2]++icl l:=rfl;rw [e];refine ⟨?_,?_,?_⟩
  ·rw [ZLT (by simp;omega)]
   rw [show 3 * (i+1) - [Value.int .i64 z.1,.int .u64 z.2.1,.int .u64 z.2.2].length=3 * i by simp;omega];exact ih.1
  ·rw [ZLT (by simp;omega)]
   rw [show 3 * (i+1)+1 - [Value.int .i64 z.1,.int .u64 z.2.1,.int .u64 z.2.2].length=3 * i+1 by simp;omega];exact ih.2.1
  ·rw [ZLT (by simp;omega)]
   rw [show 3 * (i+1)+2 - [Value.int .i64 z.1,.int .u64 z.2.1,.int .u64 z.2.2].length=3 * i+2 by simp;omega];exact ih.2.2
def Itm (w:World)(v:Value)(l:List (Nat×Nat×Nat)):Prop:=∃ a cap,v=.slice a l.length cap/\(0 < l.length->∃ g,a=some ⟨g,0,none⟩/\Seen w g 0 (icl l))
theorem ItW.itm {B:Nat}{v:Value}{l:List (Nat×Nat×Nat)}(h:ItW w B v l):Itm w v l:=by
 obtain ⟨a,cap,rfl⟩:=ZR h;refine ⟨a,cap,rfl,fun h0=>?_⟩;obtain ⟨g,cap',e,hs,_⟩:=Zi h h0;cases e;exact ⟨g,rfl,hs⟩
theorem Itm.below {v:Value}{l:List (Nat×Nat×Nat)}(h:Itm w v l)(hb:Bl w w'):Itm w' v l:=by
 obtain ⟨a,cap,e,hg⟩:=h;refine ⟨a,cap,e,fun h0=>?_⟩;obtain ⟨g,e2,hs⟩:=hg h0;exact ⟨g,e2,hs.below hb nR⟩
def ZEZ (l:List (Nat×Nat×Nat))(P:Nat):Prop:=∃ y∈l,y.2.1=P
theorem ZFb {pb P:Nat}{i q e:Nat}(hp:w.cell? ⟨pb,0,none⟩=some (.int .u64 P)):
 Calls prog 79 #[.agg #[.int .i64 i,.int .u64 q,.int .u64 e],.pointer (some ⟨pb,0,none⟩)] w fun e' w'=>e'=.returned (.bool (decide (q=P)))/\Bl w w':=by
 have hb:Bl w (w.alloc (.cells #[.int .i64 i,.int .u64 q,.int .u64 e] 115)):=ZA bR;have HB:=zh hb;have c0:=Zp hb hp;have c1:(w.alloc (.cells #[.int .i64 i,.int .u64 q,.int .u64 e] 115)).cell? ⟨w.heap.size,1,none⟩=some (.int .u64 q):=(ZC (ZB w _)).trans rfl;clear hb;have hd:((q:Int) == (P:Int))=decide (q=P):=by
  rw [Bool.eq_iff_iff];simp;omega
 go_in;go_wp2;go_returns;exact ⟨by first|rfl|(rw [<-hd])|simp,HB.o⟩
theorem ZH1 {pb P:Nat}{v:Value}{l:List (Nat×Nat×Nat)}(hp:w.cell? ⟨pb,0,none⟩=some (.int .u64 P))(hv:Itm w v l)(hl:l.length<=1000):
 Calls prog 137 #[v,.func (.func 79) #[] #[.pointer (some ⟨pb,0,none⟩)]] w fun e' w'=>∃ r:Int,e'=.returned (.int .i64 r)/\(0<=r↔ZEZ l P)/\Bl w w':=by
 have HP:=zh hp;obtain ⟨a,cap,rfl,hg⟩:=hv;have HG:=zh hg;obtain ⟨N,hN⟩:=xE l.length;have HN:=zh hN;rw [<-hN] at hl ⊢;clear hp hg hN;go_in;go_wp2_with fail
 go_loopw [8] (fun i wr=>∃ n:Nat,n<=N/\i=.int .i64 n/\Bl w wr/\∀ y∈l.take n,y.2.1≠P) (fun i _=>N - (intOf i).toNat)
 case atStart=>exact ⟨0,by omega,rfl,bR,fun y hy=>by simp at hy⟩
 case round=>
 obtain ⟨n,hn,rfl,hb,hall⟩:=hrel;have HB:=zh hb;have HALL:=zh hall;clear hb hall
 by_cases hlt:n < N
 ·have b1:(n:Int) < N:=by omega
  have b2:(n:Int) < 1000:=by omega
  obtain ⟨g,rfl,hs⟩:=HG.o (by have:=HN.o;omega);have hnl:n < l.length:=by have:=HN.o;omega
  obtain ⟨y,hy⟩:=xE (l[n]);have hget:l[n]?=some y:=by rw [hy];exact ZK9 hnl
  obtain ⟨e0,e1,e2⟩:=UW hget;have hs2:=hs.below HB.o nR;have t0:=hs2 _ _ e0;have t1:=hs2 _ _ e1;have t2:=hs2 _ _ e2;have HPR:=zh (ZFb (w:=wr) (i:=y.1) (q:=y.2.1) (e:=y.2.2) (Zp HB.o HP.o));have HY:=zh (show l.take (n+1)=l.take n++[y] by rw [ZLE hnl,hy]);have HM:=zh (show y∈l by rw [hy];exact ZLF hnl);obtain ⟨yi,yq,ye⟩:=y;simp only at t0 t1 t2 HPR;rw [show 0+3 * n=n * 3 by omega] at t0;rw [show 0+(3 * n+1)=n * 3+1 by omega] at t1;rw [show 0+(3 * n+2)=n * 3+2 by omega] at t2;clear hs hs2 e0 e1 e2 hget hy hnl;go_wp2_with fail;refine HPR.o.mono ?_;rintro e' w2 ⟨rfl,hb⟩;have HB2:=zh (HB.o.trans (hb.mono HB.o.size));clear hb t0 t1 t2 HPR
  by_cases hq:yq=P
  ·have d1:decide (yq=P)=true:=ZLG hq
   go_wp2;go_returns;exact ⟨n,rfl,⟨fun _=>⟨_,HM.o,hq⟩,fun _=>by omega⟩,HB2.o⟩
  ·have d1:decide (yq=P)=false:=ZLB hq
   have HQ:=zh hq;clear hq;go_wp2_with fail;go_round
   case rel=>
    refine ⟨n+1,by omega,by go_num,HB2.o,fun y hy=>?_⟩;rw [HY.o] at hy;rcases ZK1.1 hy with hy|hy
    ·exact HALL.o y hy
    ·have:y=(yi,yq,ye):=by simpa using hy
     subst this;exact HQ.o
   case measure=>simp [intOf];omega
 ·obtain rfl:n=N:=by omega
  have d1:¬ ((n:Int) < n):=by omega
  go_wp2;go_returns;refine ⟨-1,rfl,⟨fun q=>by omega,?_⟩,HB.o⟩;intro hex;obtain ⟨y,hy,e⟩:=hex;have:=HALL.o y (by rw [HN.o,List.take_length];exact hy);exact absurd e this
theorem ZHp {pb P:Nat}{v:Value}{l:List (Nat×Nat×Nat)}(hp:w.cell? ⟨pb,0,none⟩=some (.int .u64 P))(hv:Itm w v l)(hl:l.length<=1000){b:Bool}(hb:b=true↔ZEZ l P):
 Calls prog 78 #[v,.func (.func 79) #[] #[.pointer (some ⟨pb,0,none⟩)]] w fun e' w'=>e'=.returned (.bool b)/\Bl w w':=by
 have HI:=zh (ZH1 hp hv hl);have HBB:=zh hb;obtain ⟨a,cap,rfl,_⟩:=hv;clear hp hb hl;go_in;go_wp2_with fail;refine HI.o.mono ?_;rintro e' w1 ⟨r,rfl,hr,hb1⟩;have HB1:=zh hb1;have HE:=zh (show decide (0<=r)=b from by
  rw [Bool.eq_iff_iff,decide_eq_true_iff,hr,HBB.o])
 clear hb1 hr;go_wp2;go_returns;exact ⟨by rw [<-HE.o];rfl,HB1.o⟩
theorem ZFG (h:Ar w A F L T c) {t db lb off size:Nat} (hd:DrW w A F H t db lb off size) {P kb cnt:Nat} {q e:Nat->Nat} (hn:NdC c L P 0 cnt q e)
 (hck:∀ w1,Bl w w1->Calls prog 18 #[.pointer (some ⟨db,0,none⟩),.int .u64 P,.int .u8 12] w1 fun e' w'=>e'=.returned (.int .i64 0)/\Bl w1 w'):
 Calls prog 28 #[.iface 27 (.pointer (some ⟨db,0,none⟩)),.int .u64 P,.pointer (some ⟨kb,0,none⟩)] w fun e' w'=>e'=.returned (.tuple #[.pointer (some ⟨w.heap.size,0,none⟩),.int .i64 0])/\LiB w' w.heap.size P kb/\Bl w w':=by
 obtain ⟨w1,hw1⟩:=xE (w.alloc (.cells #[.int .u64 P,.pointer (some ⟨kb,0,none⟩)] 117));have hb1:Bl w w1:=by rw [hw1];exact ZA bR
 have hli:LiB w1 w.heap.size P kb:=by rw [hw1];exact ZB _ _
 have HCH:=zh (UA (h.below hb1) (hd.below hb1) hli hn (fun w2 hb2=>hck w2 (hb1.trans (hb2.mono hb1.size))));have HNI:=zh (fun (w1:World)=>show Calls prog 14 #[.int .u64 P] w1 (fun e' w'=>e'=.returned (.bool false)/\w1=w') from by
  have:=Z6 (w:=w1) (p:=P);rw [ZLB hn.ok.ne] at this;exact this)
 have HB1:=zh hb1;have HLI:=zh hli;have HW1:=zh hw1;clear h hd hn hck hb1 hli hw1;go_in;go_wp2_with fail;refine (HNI.o _).mono ?_;rintro e' w' ⟨rfl,rfl⟩;go_wp2_with fail;rw [<-HW1.o];refine HCH.o.mono ?_;rintro e' w2 ⟨v,rfl,g,cap,iv,rfl,hs,hiv,hb2,_⟩;have HE:=zh (show LiB w2 w.heap.size P kb/\Bl w w2 from ⟨HLI.o.below hb2,HB1.o.trans (hb2.mono HB1.o.size)⟩);clear hs hiv hb2;go_wp2;go_returns;exact ⟨rfl,HE.o⟩
end
end Go.Proofs.YteomliechfdhhaaGreatDoor.Dv
