/- Part 38. -/
import Derived.Test.YteomliechfdhhaaGreatDoorY37
import Derived.Test.YteomliechfdhhaaGreatDoorY28
set_option maxHeartbeats 8000000
set_option maxRecDepth 20000
set_option linter.all false
namespace Go.Proofs.YteomliechfdhhaaGreatDoor.Dv
open Tryz
section
open Go.RowKit Go.Proofs.YteomliechfdhhaaGreatDoor.Size
variable {w w':World}{A:DAd}{F:Nat->Option ZK}{L:Nat}{T c c':Nat->Nat}{x x':Nat}{H:HAd}{lk:Bool}{p p':Nat->Plc}{ex:Nat}{res held:Nat->Option Nat}{ch:Nat->Chk}
theorem ZJH:(prog.info? 5).map (fun i=>(i.zero,i.size,i.bytes))=some (some (.int .u8 0),1,1):=by kernel_rfl
theorem ZKa:El prog 242 5 1 1:=El.of underlying242 ZJH rfl (by omega)
theorem Vf (w:World)(u:Value)(t:TypeId){N:Nat}(h:N=w.heap.size):(w.alloc (.cells #[u] t)).cell? ⟨N,0,none⟩=some u:=by
 subst h;rw [ZC (ZB w _)];rfl
theorem Zp {w w':World}{q:Addr}{v:Value}(hb:Bl w w')(h:w.cell? q=some v):w'.cell? q=some v:=(hb.cell (ZK2 _ _ h)).trans h
theorem ZEB {w:World}{q:Addr}{v:Value}{o:Obj}(h:w.cell? q=some v):(w.alloc o).cell? q=some v:=Zp (ZA bR) h
theorem Xo {P:Program} {ops:Array Oper} {o:Oper} {a:Act} {K:Act->World->Prop} {Q:Exit->Act->World->Prop} {B:Prop} {W:World} {t e:TypeId} {bytes:Nat} (E:El P t e 1 bytes) (hb:bytes<=1000) (hgd:o.guard=none) (s x:Operand)
 (ho:o.op=.call {callee:=.builtin .append,args:=#[s,x],argTypes:=#[t,t]}) {N:Nat} {u:Value} (hs:a.eval s=.slice none 0 0) (hx:a.eval x=.slice (some ⟨N,0,none⟩) 1 1) (hc:W.cell? ⟨N,0,none⟩=some u) (h1:u.oneCell'=true)
 (h:∀ g cap w',w'.ownsRow W.heap.size e 1 (.slice (some ⟨g,0,none⟩) 1 cap) 1 [u]->(∀ X:World,Bl X W->Bl X w')->K (a.put o.dst (.slice (some ⟨g,0,none⟩) 1 cap)) w'):
 if Region.wanted o (yielded ops a.tmps)=true then Oper.wp P o a W K Q else B:=by
 obtain ⟨g,cap,w',hrun,how,hgr,hg⟩:=Zm (w:=W) (base:=W.heap.size) E (ZLD W W.heap.size e 1) ⟨N,0,none⟩ 1 1 [u] rfl (fun j v hj=>by
  cases j with
  |zero=>cases hj;exact hc
  |succ j=>simp at hj) (by simpa using h1) (by omega) (by unfold maxLen;omega) (by omega) nR
 refine VG hgd s x ho hs hx hrun (h g cap w' how ?_);exact fun X hX=>hX.grown hgr hX.size (fun k hk=>by cases hk)
theorem ZGu {w:World}{b:Nat}{e:TypeId}{a0 a1 a2:Value}(h:w.heap[b]?=some (.cells #[a0,a1,a2] e (0,0))):(∀ o,(w.alloc o).cell? ⟨b,0,none⟩=some a0)/\(∀ o,(w.alloc o).cell? ⟨b,1,none⟩=some a1)/\(∀ o,(w.alloc o).frozen? ⟨b,0,none⟩=false)/\(∀ o,(w.alloc o).frozen? ⟨b,1,none⟩=false):=
 ⟨fun o=>(Zb ((ZI (heap_lt h)).trans h)).1,fun o=>(Zb ((ZI (heap_lt h)).trans h)).2.1,fun o=>(Zb ((ZI (heap_lt h)).trans h)).2.2.2.1,fun o=>(Zb ((ZI (heap_lt h)).trans h)).2.2.2.2.1⟩
def TkS (w:World)(M cb line b kd:Nat)(wr:World):Prop:=Bl w wr/\wr.cell? ⟨cb,0,none⟩=some (.map (some M))/\∃ s V0 V1,UL wr M 1 (YE (fun _=>none) line (some s))/\wr.heap[s]?=some (QC V0 V1 (.slice none 0 0))/\Nats wr V0 [b]/\U8s wr V1 [kd]
theorem Vd {W:World}{S:Nat}{a0 a1 a2 v0 v1:Value}(h:W.heap[S]?=some (QC a0 a1 a2)):
 (Only (fun k=>k=S) W ((W.setCell ⟨S,0,none⟩ v0).setCell ⟨S,1,none⟩ v1)/\((W.setCell ⟨S,0,none⟩ v0).setCell ⟨S,1,none⟩ v1).heap[S]?=some (QC v0 v1 a2))/\
 (Only (fun k=>k=S) W ((W.setCell ⟨S,1,none⟩ v1).setCell ⟨S,0,none⟩ v0)/\((W.setCell ⟨S,1,none⟩ v1).setCell ⟨S,0,none⟩ v0).heap[S]?=some (QC v0 v1 a2)):=by
 refine ⟨⟨((Only.refl (fun k=>k=S) W).set (b:=S) rfl _).set (b:=S) rfl _,?_⟩,⟨((Only.refl (fun k=>k=S) W).set (b:=S) rfl _).set (b:=S) rfl _,?_⟩⟩
 ·rw [ZH (ZH h)];rfl
 ·rw [ZH (ZH h)];rfl
theorem ZBb {w w4 w5 W Z:World} {M line b kd S:Nat} (HB4:Bl w w4) (hM:w.heap.size<=M) (HC4:w4.cell? ⟨M+1,0,none⟩=some (.map (some M))) (hS4:w4.heap.size<=S)
 (h5:UL w5 M (0+1) (YE (fun _=>none) line (some S))/\S < w5.heap.size/\w5.heap[S]?=some (QC (.slice none 0 0) (.slice none 0 0) (.slice none 0 0))/\w4.grownBy w5 (some M)) (hb:Bl w5 W) {V0 V1:Value} {B0 B1:Nat}
 (hI:W.ownsRow B0 3 1 V0 1 [.int .i64 (b:Nat)])(hB0:w5.heap.size<=B0)(hU:W.ownsRow B1 5 1 V1 1 [.int .u8 (kd:Nat)])(hB1:w5.heap.size<=B1)(hZ:Only (fun k=>k=S) W Z)(hZS:Z.heap[S]?=some (QC V0 V1 (.slice none 0 0))):TkS w M (M+1) line b kd Z:=by
 obtain ⟨hm5,hs5,hh5,hg5⟩:=h5;have s4:=HB4.size;have m4:=ZK2 _ _ HC4;have m4:M+1 < w4.heap.size:=m4;have b5:Bl w w5:=HB4.grown hg5 HB4.size (fun k hk=>by have:=ZK5 hk;omega);have bW:Bl w W:=b5.trans (hb.mono b5.size);have hw5:=hb.size;have hk:∀ k,k < w5.heap.size->k≠S->Z.heap[k]?=w5.heap[k]?:=fun k h1 h2=>(hZ.block k (by omega) h2).trans (hb.block k h1)
 have row:∀ {B e v u},W.ownsRow B e 1 v 1 [u]->w5.heap.size<=B->∃ g cap,v=.slice (some ⟨g,0,none⟩) 1 cap/\Seen Z g 0 [u]:=fun {B e v u} h hB=>by
  obtain ⟨g,cap,rfl,hs,hg⟩:=Zi h (by omega);refine ⟨g,cap,rfl,fun j u' hj=>?_⟩;have hc:=hs j u' hj;have hlt:g < W.heap.size:=ZK2 _ _ hc;exact (ZK8 (hZ.block g hlt (by omega))).trans hc
 refine ⟨⟨hZ.os.trans bW.os,hZ.tape.trans bW.tape,hZ.output.trans bW.output,ZK6 bW.size hZ.size,fun k h1=>(hZ.block k (by have:=bW.size;omega) (by omega)).trans (bW.block k h1)⟩,?_,S,V0,V1,hm5.kept (hk _ hm5.lt ?_),hZS,?_,?_⟩
 ·have e1:=hk (M+1) (by have:=hg5.size;omega) (by omega)
  have e2:=hg5.block (M+1) m4 (fun e=>by have:=ZK5 e;omega);exact (ZK8 e1).trans ((ZK8 e2).trans HC4)
 ·omega
 ·obtain ⟨g,cap,rfl,hs⟩:=row hI hB0
  exact .inr ⟨g,0,cap,rfl,hs⟩
 ·obtain ⟨g,cap,rfl,hs⟩:=row hU hB1
  exact .inr ⟨g,0,cap,rfl,hs⟩
theorem Qv (h:HW w A F L T c x H lk p ex res held){m:Nat}(hm:m < H.n)(hl:H.l0+32 * m+32<=L){k:Chk}(hR:CRep T c (8 * (H.l0+32 * m)) k)(hk:0<=k.cl){b kd P:Nat}(hb:b < perN k)(ho:ZM P=k.pay (H.l0+32 * m) b)(hkp:Z0 P=kd)(hkd:kd<=127)(hP0:P≠0)(hP:P < 72057594037927936)(hr:res (ZM P)=some P)(hcan:k.Can [(b,kd)] []){tb tq tc:Nat}(ht:w.cell? ⟨tb,tq,none⟩=some (.int .u64 (P:Nat))):
 Calls prog 65 #[.pointer (some ⟨H.hb,0,none⟩),.slice (some ⟨tb,tq,none⟩) 1 tc,.slice none 0 0] w (AcP w (ZO T (H.l0+32 * m) k [(b,kd)] [])):=by
 have hbd:=h.hp.bd;have HSN:=zh (show Seen w tb tq [.int .u64 (P:Nat)] from fun j u hj=>by
  cases j with
  |zero=>cases hj;exact ht
  |succ j=>simp at hj)
 have HDS:=zh (fun (w1:World) (hb:Bl w w1) (q:Nat) (hq:Seen w1 q 0 [.slice (some ⟨tb,tq,none⟩) 1 tc,.slice none 0 0])=>XW (w:=w1) (ls:=fun j=>if j=0 then [P] else []) (vs:=fun j=>if j=0 then .slice (some ⟨tb,tq,none⟩) 1 tc else .slice none 0 0) (fun j _=>by
  by_cases e:j=0
  ·simp only [e,if_true];exact .inr ⟨tb,tq,tc,rfl,HSN.o.below hb nR⟩
  ·simp only [e,if_false];exact .inl ⟨rfl,rfl⟩) (by simp) (by simp;omega) (fun j=>by by_cases e:j=0 <;> simp [e]) hq)
 have HER:=zh (fun w1 hb=>Zq h.ar h.hp.t w1 hb);have HHO:=zh (fun (w1:World) (hb:Bl w w1)=>ZAM (h.below hb).hp (h.below hb).rm (p:=P) (by omega));rw [ZLG hr] at HHO;have HPL:=zh (fun (w1:World) (hb1:Bl w w1)=>QO (h.below hb1).ar (h.below hb1).hp hm hl hR hk (p:=P) (by omega) hb ho);have HOPN:=zh (fun (w1:World) (hb1:Bl w w1)=>Yu (h.below hb1).ar h.hp.t hl hR hk);have HACS:=zh (fun (w1:World) (hb1:Bl w w1) (v1 v2:Value) (h1:Nats w1 v1 [b]) (h2:U8s w1 v2 [kd])=>UP (tk:=[(b,kd)]) (dr:=[]) (h.below hb1).ar h.hp.t hl hR hk hcan (by simp) (by simp) h1 h2 (v3:=.slice none 0 0) (.inl ⟨rfl,rfl⟩));have HKN:=zh hkp;have HP:=zh h.hp;obtain ⟨line,hln⟩:=xE (H.l0+32 * m);rw [<-hln] at HPL HOPN HACS ⊢;obtain ⟨q0,q1,q2,q3,q4,q5,q6,q7,_⟩:=Zz h.hp.hp;obtain ⟨ti,hti⟩:=xE H.t;rw [<-hti] at HER HOPN HACS q0;have HTI:=zh hti;have hmm:=@run_makeMap prog;have HKD:=zh (fun w1=>Vl (w:=w1) (p:=P) (by omega));rw [hkp] at HKD;have HL4:=zh (show line<=4096 by unfold HAd.n at hm;omega);have HB0:=zh (ZA (o:=.cells #[.slice (some ⟨tb,tq,none⟩) 1 tc,.slice none 0 0] 32) (Below.refl w.heap.size w));obtain ⟨AW,hAW⟩:=xE (ZO T line k [(b,kd)] []);have HAWL:=zh (show 1<=AW.length/\AW.length<=1000 from by rw [hAW];unfold ZO YN Yc;simp);rw [<-hAW] at HACS ⊢;have HT:=zh ht;clear h hti hm hl hR hk hb ho hkp hkd hP0 hP hr hcan ht hln hAW hbd;go_in;go_wp2_with fail;refine (HDS.o _ HB0.o _ (Yi _ _ _ _)).mono ?_;rintro e w1 ⟨rfl,hb⟩;have HB:=zh (HB0.o.trans (hb.mono HB0.o.size));clear hb HB0 HDS;obtain ⟨r0,r1,r2,r3,r4,r5,r6,r7,_⟩:=Zz (HP.o.below HB.o).hp;rw [<-HTI.o] at r0;go_wp2_with fail;refine (HER.o _ HB.o).mono ?_;rintro e w' ⟨rfl,rfl⟩;go_wp2_with fail
 go_loopw [52] (fun i wr=>(i=.int .i64 0/\wr=w1)\/(i=.int .i64 1/\Bl w wr)) (fun i _=>1 - (intOf i).toNat)
 case atStart=>exact .inl ⟨rfl,rfl⟩
 case round=>
 rcases hrel with ⟨rfl,hww⟩|⟨rfl,hbx⟩
 ·subst hww
  have t0:=(HB.o.cell (ZK2 _ _ HT.o)).trans HT.o;go_wp2_with fail;refine (HHO.o _ HB.o).mono ?_;rintro e w2 ⟨rfl,hb⟩;have HB2:=zh (HB.o.trans (hb.mono HB.o.size));clear hb;go_wp2_with fail;go_round
  case rel=>exact .inr ⟨rfl,HB2.o⟩
  case measure=>simp [intOf]
 replace HB:=zh hbx;obtain ⟨w2,hw2⟩:=xE wr;rw [<-hw2] at HB ⊢;clear hbx hw2 r0 r1 r2 r3 r4 r5 r6 r7 q0 q1 q2 q3 q4 q5 q6 q7;have t0:=(HB.o.cell (ZK2 _ _ HT.o)).trans HT.o;go_wp2_with fail
 go_loop [63] (fun i=>i=.int .i64 0) (fun i=>0)
 case atStart=>rfl
 case round=>
 subst hrel;go_wp2_with fail;have hbM:Bl w2 ((w2.alloc (Obj.map #[] 0)).alloc (Obj.cells #[Value.map (some w2.heap.size)] 239)):=ZA (ZA bR)
 have HM:=zh (show UL ((w2.alloc (Obj.map #[] 0)).alloc (Obj.cells #[Value.map (some w2.heap.size)] 239)) w2.heap.size 0 (fun _=>none) from (UMap.made prog 3 .i64 cChg w2).kept (by
  exact (ZA (Below.refl (w2.alloc (.map #[] 0)).heap.size (w2.alloc (.map #[] 0)))).block _ (by simp)))
 have HCB:=zh (show ((w2.alloc (Obj.map #[] 0)).alloc (Obj.cells #[Value.map (some w2.heap.size)] 239)).cell? ⟨w2.heap.size+1,0,none⟩=some (.map (some w2.heap.size)) from Vf _ _ _ (by simp));obtain ⟨W3,hW3⟩:=xE (((w2.alloc (Obj.map #[] 0)).alloc (Obj.cells #[Value.map (some w2.heap.size)] 239)));rw [<-hW3] at hbM HM HCB ⊢;obtain ⟨M,hM⟩:=xE w2.heap.size;have HWM:=zh (show w.heap.size<=M by rw [hM];exact HB.o.size);rw [<-hM] at HM HCB ⊢;replace HB:=zh (HB.o.trans (hbM.mono HB.o.size));clear hbM hW3 t0 hM
 go_loopw [78] (fun i wr=>(i=.int .i64 0/\wr=W3)\/(i=.int .i64 1/\TkS w M (M+1) line b kd wr)) (fun i _=>1 - (intOf i).toNat)
 case atStart=>exact .inl ⟨rfl,rfl⟩
 case round=>
 rcases hrel with ⟨rfl,hww⟩|⟨rfl,hbx⟩
 ·subst hww
  have t0:=(HB.o.cell (ZK2 _ _ HT.o)).trans HT.o;go_wp2_with fail;refine (HPL.o _ HB.o).mono ?_;rintro e w4 ⟨rfl,hb⟩;have HB4:=zh (HB.o.trans (hb.mono HB.o.size));have HM4:=zh (HM.o.kept (hb.block _ HM.o.lt));have HC4:=zh (Zp hb HCB.o);clear hb t0;go_wp2_with fail;refine (QA HC4.o HM4.o HL4.o rfl (by omega)).mono ?_;rintro e w5 ⟨rfl,hm5,hs5,hh5,hg5⟩;obtain ⟨S,hS⟩:=xE w4.heap.size;rw [<-hS] at hm5 hs5 hh5 ⊢;have HS:=zh (show w4.heap.size<=S by omega);clear hS;obtain ⟨c0,c1,c2,f0,f1,f2⟩:=Zb hh5;obtain ⟨ca0,ca1,cb0,cb1⟩:=ZGu hh5;have HKP:=zh (fun (wx:World) (hb:Bl w5 wx)=>(hb.block _ (heap_lt hh5)).trans hh5);have HR1:=zh (Below.refl w5.heap.size w5);have H5:=zh (And.intro hm5 (And.intro hs5 (And.intro hh5 hg5)));clear hm5 hs5 hh5 hg5;go_upto_region 28 with fail
  go_region_law (first
   |(refine ZJ rfl func85 rfl rfl rfl (HKD.o _) (by simp [Act.eval]) ?_;rintro e V1 ⟨rfl,rfl⟩;refine ⟨_,rfl,?_⟩)
   |(refine Xo ZA9 (by omega) rfl _ _ rfl rfl rfl (by repeat (first|exact Vf _ _ _ (by simp)|refine ZEB ?_|refine Zp (by assumption) ?_)) rfl ?_;intro gI capI wI howI hbwI;have hkk:=HKP.o wI (hbwI _ (by repeat (with_reducible first|assumption|exact HR1.o|apply ZA|apply ZD|apply hbwI)));obtain ⟨k0,k1,k2,g0,g1,g2⟩:=Zb hkk;obtain ⟨ka0,ka1,kb0,kb1⟩:=ZGu hkk;clear hkk;have hbxI:=hbwI w5 (by repeat (with_reducible first|assumption|exact HR1.o|apply ZA|apply ZD)))
   |(refine Xo ZKa (by omega) rfl _ _ rfl rfl rfl (by repeat (first|exact Vf _ _ _ (by simp)|refine ZEB ?_|refine Zp (by assumption) ?_)) rfl ?_;intro gU capU wU howU hbwU;have hkk:=HKP.o wU (hbwU _ (by repeat (with_reducible first|assumption|exact HR1.o|apply ZA|apply ZD|apply hbwU)));obtain ⟨k0,k1,k2,g0,g1,g2⟩:=Zb hkk;obtain ⟨ka0,ka1,kb0,kb1⟩:=ZGu hkk;clear hkk;have hbxU:=hbwU w5 (by repeat (with_reducible first|assumption|exact HR1.o|apply ZA|apply ZD))))
  all_goals
   clear c0 c1 c2 f0 f1 f2 ca0 ca1 cb0 cb1;go_wp2_with fail;go_round
   case rel=>first
    |exact .inr ⟨rfl,ZBb HB4.o HWM.o HC4.o HS.o H5.o hbxU (ZQ howI (hbwU _ (by repeat (first|exact bR|with_reducible apply ZA|with_reducible apply ZD)))) (by have q1:=hbxI.size;have q2:=hbxU.size;simp;try omega) howU (by have q1:=hbxI.size;have q2:=hbxU.size;simp;try omega) (Vd (HKP.o _ hbxU)).1.1 (Vd (HKP.o _ hbxU)).1.2⟩
    |exact .inr ⟨rfl,ZBb HB4.o HWM.o HC4.o HS.o H5.o hbxU (ZQ howI (hbwU _ (by repeat (first|exact bR|with_reducible apply ZA|with_reducible apply ZD)))) (by have q1:=hbxI.size;have q2:=hbxU.size;simp;try omega) howU (by have q1:=hbxI.size;have q2:=hbxU.size;simp;try omega) (Vd (HKP.o _ hbxU)).2.1 (Vd (HKP.o _ hbxU)).2.2⟩
    |exact .inr ⟨rfl,ZBb HB4.o HWM.o HC4.o HS.o H5.o hbxI howI (by have q1:=hbxI.size;have q2:=hbxU.size;simp;try omega) (ZQ howU (hbwI _ (by repeat (first|exact bR|with_reducible apply ZA|with_reducible apply ZD)))) (by have q1:=hbxI.size;have q2:=hbxU.size;simp;try omega) (Vd (HKP.o _ hbxI)).1.1 (Vd (HKP.o _ hbxI)).1.2⟩
    |exact .inr ⟨rfl,ZBb HB4.o HWM.o HC4.o HS.o H5.o hbxI howI (by have q1:=hbxI.size;have q2:=hbxU.size;simp;try omega) (ZQ howU (hbwI _ (by repeat (first|exact bR|with_reducible apply ZA|with_reducible apply ZD)))) (by have q1:=hbxI.size;have q2:=hbxU.size;simp;try omega) (Vd (HKP.o _ hbxI)).2.1 (Vd (HKP.o _ hbxI)).2.2⟩
   case measure=>simp [intOf]
 ·obtain ⟨hb3,hcb,s,V0,V1,hcm,hs,hv0,hv1⟩:=hbx
  replace HB:=zh hb3;have HCM:=zh hcm;have HS3:=zh hs;have HV0:=zh hv0;have HV1:=zh hv1;have HCB3:=zh hcb;obtain ⟨w3,hw3⟩:=xE wr;rw [<-hw3] at HB HCM HS3 HV0 HV1 HCB3 ⊢;have k0:=HCB3.o;clear hb3 hcb hcm hs hv0 hv1 hw3 HM HCB HWM HPL;go_wp2_with fail
  go_loop [116] (fun i=>i=.int .i64 0) (fun i=>0)
  case atStart=>rfl
  case round=>
  subst hrel;go_wp2_with fail;refine mkeys_any.mono ?_;rintro e w4 ⟨rfl,hww⟩;have hb1:Bl w3 w4:=by rw [hww];exact ZA bR
  have HX:=zh (show w4.cell? ⟨w3.heap.size,0,none⟩=some (.map (some M)) from by rw [hww,ZC (ZB _ _)];rfl);have HCM4:=zh (HCM.o.kept (hb1.block _ HCM.o.lt));obtain ⟨BX,hBX⟩:=xE w3.heap.size;rw [<-hBX] at HX ⊢;have HB4:=zh (HB.o.trans (hb1.mono HB.o.size));have HS4:=zh ((hb1.block _ (heap_lt HS3.o)).trans HS3.o);have HV04:=zh (HV0.o.below hb1);have HV14:=zh (HV1.o.below hb1);have HCB4:=zh (Zp hb1 HCB3.o);clear hww hb1 hBX HCM HS3 HV0 HV1 HCB3 HB k0;go_wp2_with fail;refine (UH HX.o HCM4.o (by omega)).mono ?_;rintro e w5 ⟨v,ks,rfl,hks,hrow,hnil,hb⟩;have h1:ks=[line]:=by
   have hmem:∀ n,n∈ks↔n=line:=fun n=>by
    rw [hks.mem n];unfold YE;by_cases e:n=line <;> simp [e]
   cases ks with
   |nil=>exact absurd ((hmem line).2 rfl) (by simp)
   |cons a l=>
    have ha:=(hmem a).1 (.head _);cases l with
    |nil=>rw [ha]
    |cons a2 l2=>
     have ha2:=(hmem a2).1 (.tail _ (.head _));have:=hks.nodup;rw [ha,ha2] at this;simp at this
  subst h1;obtain ⟨g,cap,rfl,hsn,_⟩:=Zi hrow (by simp);have HL5:=zh (show w5.cell? ⟨g,0,none⟩=some (.int .i64 (line:Nat)) from hsn 0 _ rfl);have HB5:=zh (HB4.o.trans (hb.mono HB4.o.size));have HS5:=zh ((hb.block _ (heap_lt HS4.o)).trans HS4.o);have HV05:=zh (HV04.o.below hb);have HV15:=zh (HV14.o.below hb);have HCB5:=zh (Zp hb HCB4.o);have HCM5:=zh (HCM4.o.kept (hb.block _ HCM4.o.lt));clear hks hrow hnil hb hsn HX HCM4 HB4 HS4 HV04 HV14 HCB4;simp only [List.length_singleton];go_wp2_with fail
  go_loopw [145,28] (fun i o wr=>(i=.int .i64 0/\o=.slice none 0 0/\wr=w5)\/(i=.int .i64 1/\Wrt wr w.heap.size o AW/\Bl w wr)) (fun i o _=>1 - (intOf i).toNat)
  case atStart=>exact .inl ⟨rfl,rfl,rfl⟩
  case round=>
  rcases hrel with ⟨rfl,rfl,hww⟩|⟨rfl,how,hbx⟩
  ·subst hww
   have l0:=HL5.o;obtain ⟨r0,r1,r2,r3,r4,r5,r6,r7,_⟩:=Zz (HP.o.below HB5.o).hp;rw [<-HTI.o] at r0;go_wp2_with fail;refine (HOPN.o _ HB5.o).mono ?_;rintro e w6 ⟨rfl,hb⟩;have HB6:=zh (HB5.o.trans (hb.mono HB5.o.size));have HS6:=zh ((hb.block _ (heap_lt HS5.o)).trans HS5.o);have HV06:=zh (HV05.o.below hb);have HV16:=zh (HV15.o.below hb);have HCB6:=zh (Zp hb HCB5.o);have HCM6:=zh (HCM5.o.kept (hb.block _ HCM5.o.lt));clear hb r0 r1 r2 r3 r4 r5 r6 r7 l0;unfold chV at *;obtain ⟨w7,hw7⟩:=xE (w6.alloc (.cells #[.iface 97 (.pointer (some ⟨A.t ti,0,none⟩)),.int .i64 line,.int .i64 k.cl,.int .i64 k.ow,.int .u16 k.gen] 195));have hb7:Bl w6 w7:=by rw [hw7];exact ZA bR
   have hn7:w7.heap[w6.heap.size]?=some (.cells #[.iface 97 (.pointer (some ⟨A.t ti,0,none⟩)),.int .i64 line,.int .i64 k.cl,.int .i64 k.ow,.int .u16 k.gen] 195 (0,0)):=by rw [hw7];exact ZB _ _
   have HB7:=zh (HB6.o.trans (hb7.mono HB6.o.size));have HS7:=zh ((hb7.block _ (heap_lt HS6.o)).trans HS6.o);have HV07:=zh (HV06.o.below hb7);have HV17:=zh (HV16.o.below hb7);have HCB7:=zh (Zp hb7 HCB6.o);have HCM7:=zh (HCM6.o.kept (hb7.block _ HCM6.o.lt));have HW7:=zh hw7;have HN7:=zh hn7;clear hw7 hn7 hb7 HS6 HV06 HV16 HCB6 HCM6;have HKP7:=zh (fun (wx:World) (hb:Bl w7 wx)=>(show wx.cell? ⟨M+1,0,none⟩=some (.map (some M))/\(Instr.lookup 239 (.map (some M)) (.int .i64 (line:Nat)) false).run prog wx=.ok (.pointer (some ⟨s,0,none⟩)) wx/\wx.cell? ⟨s,0,none⟩=some V0/\wx.cell? ⟨s,1,none⟩=some V1/\wx.cell? ⟨s,2,none⟩=some (.slice none 0 0)/\wx.cell? ⟨w6.heap.size,0,none⟩=some (.iface 97 (.pointer (some ⟨A.t ti,0,none⟩)))/\wx.cell? ⟨w6.heap.size,1,none⟩=some (.int .i64 line)/\wx.cell? ⟨w6.heap.size,2,none⟩=some (.int .i64 k.cl)/\wx.cell? ⟨w6.heap.size,3,none⟩=some (.int .i64 k.ow)/\wx.cell? ⟨w6.heap.size,4,none⟩=some (.int .u16 k.gen) from by
    have hl:=(HCM7.o.kept (hb.block _ HCM7.o.lt)).look underlying3 underlying239 (ZIk _) (n:=line) (wfI (by have:=HL4.o;omega));obtain ⟨x0,x1,x2,_⟩:=Zb ((hb.block _ (heap_lt HS7.o)).trans HS7.o);obtain ⟨y0,y1,y2,y3,y4,_⟩:=VH ((hb.block _ (heap_lt HN7.o)).trans HN7.o);have e:YE (fun _=>none) line (some s) line=some (some s):=ZKv rfl;rw [e] at hl;exact ⟨Zp hb HCB7.o,hl,x0,x1,x2,y0,y1,y2,y3,y4⟩))
   have HR7:=zh (Below.refl w7.heap.size w7)
   have HACS7:=zh (fun (wx:World) (hb:Bl w7 wx)=>(HACS.o wx (HB7.o.trans (hb.mono HB7.o.size)) V0 V1 (HV07.o.below hb) (HV17.o.below hb)).mono (R':=fun e w'=>∃ v,e=.returned (.tuple #[v,.int .i64 0])/\Wrt w' w.heap.size v AW/\Bl w7 w') (by
    rintro e w' ⟨v,h1,h2,h3⟩;exact ⟨v,h1,YJ h2 (ZK6 HB7.o.size hb.size),hb.trans (h3.mono hb.size)⟩))
   clear HACS;go_upto_region 44 with fail;rw [<-HW7.o]
   go_region_held3 (fun wx=>wx.cell? ⟨M+1,0,none⟩=some (.map (some M))/\(Instr.lookup 239 (.map (some M)) (.int .i64 (line:Nat)) false).run prog wx=.ok (.pointer (some ⟨s,0,none⟩)) wx/\wx.cell? ⟨s,0,none⟩=some V0/\wx.cell? ⟨s,1,none⟩=some V1/\wx.cell? ⟨s,2,none⟩=some (.slice none 0 0)/\wx.cell? ⟨w6.heap.size,0,none⟩=some (.iface 97 (.pointer (some ⟨A.t ti,0,none⟩)))/\wx.cell? ⟨w6.heap.size,1,none⟩=some (.int .i64 line)/\wx.cell? ⟨w6.heap.size,2,none⟩=some (.int .i64 k.cl)/\wx.cell? ⟨w6.heap.size,3,none⟩=some (.int .i64 k.ow)/\wx.cell? ⟨w6.heap.size,4,none⟩=some (.int .u16 k.gen))
    (first|exact HKP7.o _ hbv|exact HKP7.o _ (by repeat (with_reducible first|assumption|exact HR7.o|apply ZA|apply ZD)))
    (first
      |(go_at_call 127;refine (HACS7.o _ (by repeat (with_reducible first|assumption|exact HR7.o|apply ZA|apply ZD))).mono ?_;rintro e W9 ⟨av,rfl,hav,hbv⟩))
   all_goals
    have HAV:=zh hav;obtain ⟨g9,cap9,rfl,hs9,hg9⟩:=Zi hav (by have:=HAWL.o;omega);obtain ⟨g8,cap8,w8,hrun8,how8,hgr8,_⟩:=Zm elWrites (ZLD W9 w.heap.size 155 2) ⟨g9,0,none⟩ AW.length cap9 (ZP AW) (VB AW) (fun j u hj=>by rw [Addr.add_lit];exact hs9 j u hj) (VC AW) (by have:=HAWL.o;omega) (by have:=HAWL.o;unfold maxLen;omega) (by have:=HAWL.o;omega) (HB7.o.trans (hbv.mono HB7.o.size)).size;have HRN:=zh hrun8;have HO8:=zh (show Wrt w8 w.heap.size (.slice (some ⟨g8,0,none⟩) AW.length cap8) AW from by
     unfold Wrt;have:=how8;simpa using this)
    have HB8:=zh (ZN (HB7.o.trans (hbv.mono HB7.o.size)) hgr8 (HB7.o.trans (hbv.mono HB7.o.size)).size (fun k hk=>by cases hk));clear hav hs9 hrun8 how8 hgr8 hbv;go_wp2_with (at_builtin;refine Zg rfl (Operand.tmp 187) (Operand.tmp 188) 78 rfl _ _ _ _ rfl rfl HRN.o ?_);go_wp2_with fail;go_round
    case rel=>exact .inr ⟨rfl,HO8.o,HB8.o⟩
    case measure=>simp [intOf]
  ·obtain ⟨r0,r1,r2,r3,r4,r5,r6,r7,_⟩:=Zz (HP.o.below hbx).hp
   rw [<-HTI.o] at r0;go_wp2_with fail;refine (HER.o _ hbx).mono ?_;rintro e w' ⟨rfl,rfl⟩;go_wp2;go_returns;exact ⟨_,rfl,how,fun q=>absurd (congrArg List.length q) (by have:=HAWL.o;intro q2;rw [List.length_nil] at q2;omega),hbx⟩
end
end Go.Proofs.YteomliechfdhhaaGreatDoor.Dv
