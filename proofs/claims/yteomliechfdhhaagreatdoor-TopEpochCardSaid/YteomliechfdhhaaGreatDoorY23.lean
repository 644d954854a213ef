/- Part 23. -/
import Derived.Test.YteomliechfdhhaaGreatDoorY22
import Derived.Test.YteomliechfdhhaaGreatDoorY20
set_option maxHeartbeats 8000000
set_option maxRecDepth 20000
set_option linter.all false
namespace Go.Proofs.YteomliechfdhhaaGreatDoor.Dv
open Tryz
section
open Go.RowKit Go.Proofs.YteomliechfdhhaaGreatDoor.Size
variable {w w':World}{A:DAd}{F F':Nat->Option ZK}{L:Nat}{T c c':Nat->Nat}{x x':Nat}{H:HAd}{lk:Bool}{p p':Nat->Plc}{ex:Nat}{res held:Nat->Option Nat}{ch:Nat->Chk}
theorem ZJ2 (h:Ar w A F L T c){i:Nat}(hi:i < 8)(w1:World)(hb:Bl w w1):
 Calls prog 55 #[.pointer (some ⟨A.t i,0,none⟩)] w1 fun r w'=>r=.returned (.int .i64 i)/\w1=w':=by
 obtain ⟨s,h1,h2,rfl⟩:=(h.below hb).dev;have c1:w1.cell? ⟨A.t i,1,none⟩=some (.int .i64 i):=(h1.thr i hi).cell 1 (by omega);clear h hb h1 h2;go_in;go_wp2;go_returns;exact ⟨rfl,rfl⟩
structure DrW (w:World)(A:DAd)(F:Nat->Option ZK)(H:HAd)(t db lb off size:Nat):Prop where
 dr:w.heap[db]?=some (.cells #[.pointer (some ⟨H.hb,0,none⟩),.pointer (some ⟨A.t t,0,none⟩),.pointer (some ⟨lb,0,none⟩)] 109 (0,0))
 lg:Lg w lb A t off size
 t:t < 8
 fd:F db=none/\¬ H.own db
 fl:F lb=none/\¬ H.own lb
theorem DrW.below {t db lb off size:Nat}(h:DrW w A F H t db lb off size)(hb:Bl w w'):DrW w' A F H t db lb off size:=
 ⟨(hb.block _ (heap_lt h.dr)).trans h.dr,h.lg.below hb,h.t,h.fd,h.fl⟩
theorem DrW.moved {t db lb off size:Nat}(h:DrW w A F H t db lb off size)(hm:HMv F F' H w w'):DrW w' A F' H t db lb off size:=by
 have h1:=heap_lt h.dr;have h2:=heap_lt h.lg;refine ⟨(hm.only.block _ h1 ?_).trans h.dr,(hm.only.block _ h2 ?_).trans h.lg,h.t,⟨?_,h.fd.2⟩,⟨?_,h.fl.2⟩⟩
 ·rintro (q|q)
  ·exact q h.fd.1
  ·exact h.fd.2 q
 ·rintro (q|q)
  ·exact q h.fl.1
  ·exact h.fl.2 q
 ·rw [hm.same _ h1];exact h.fd.1
 ·rw [hm.same _ h2];exact h.fl.1
theorem Xv (h:HW w A F L T c x H false p ex res held) {t db lb off size:Nat} (hd:DrW w A F H t db lb off size) {n kind P:Nat} (hn:1<=n/\n<=60) (hkd:1<=kind/\kind<=127) {Q:World->Prop} (hQ:∀ w1,Q w1->∃ F',HMv F F' H w w1)
 (hr:∀ w1,Bl w w1->Calls prog 56 #[.pointer (some ⟨H.hb,0,none⟩),.int .i64 t,.int .i64 n,.int .u8 kind] w1 fun e w'=>e=.returned (.tuple #[.int .u64 P,.int .i64 0])/\Q w'):
 Calls prog 24 #[.pointer (some ⟨db,0,none⟩),.int .i64 n,.int .u8 kind] w fun e w'=>e=.returned (.tuple #[.int .u64 P,.int .i64 0])/\Q w':=by
 have HAR:=zh (fun w1=>VS (w:=w1) hd.t hn hkd);have HER:=zh (fun w1 hb=>Zq h.ar hd.t w1 hb);have HER2:=zh (fun w1 hb=>Zq h.ar h.hp.t w1 hb);have HID:=zh (fun w1 hb=>ZJ2 h.ar hd.t w1 hb);obtain ⟨q0,q1,q2,q3,q4,q5,q6,q7,_⟩:=Zz h.hp.hp;obtain ⟨c0,c1,c2,_⟩:=Zb hd.dr;have HKP:=zh (fun (w1:World) (hb:Bl w w1)=>(show w1.cell? ⟨db,0,none⟩=some (.pointer (some ⟨H.hb,0,none⟩))/\w1.cell? ⟨db,1,none⟩=some (.pointer (some ⟨A.t t,0,none⟩)) from ⟨(Zb (hd.below hb).dr).1,(Zb (hd.below hb).dr).2.1⟩));have HKQ:=zh (fun (w1:World) (hq:Q w1)=>(show w1.cell? ⟨db,0,none⟩=some (.pointer (some ⟨H.hb,0,none⟩))/\w1.cell? ⟨db,1,none⟩=some (.pointer (some ⟨A.t t,0,none⟩)) from by
  obtain ⟨F',hm⟩:=hQ w1 hq;exact ⟨(Zb (hd.moved hm).dr).1,(Zb (hd.moved hm).dr).2.1⟩))
 have HRS:=zh hr;have HR1:=zh (Below.refl w.heap.size w);obtain ⟨ti,hti⟩:=xE H.t;rw [<-hti] at HER2 q0;clear h hd hn hkd hQ hr hti;go_in;go_wp2_with fail;refine (HID.o _ HR1.o).mono ?_;rintro e w' ⟨rfl,rfl⟩;go_wp2_with fail;refine (HAR.o _).mono ?_;rintro e w' ⟨rfl,rfl⟩;go_wp2_with fail;refine (HER.o _ HR1.o).mono ?_;rintro e w' ⟨rfl,rfl⟩;go_wp2_with fail;refine (HER2.o _ HR1.o).mono ?_;rintro e w' ⟨rfl,rfl⟩;go_upto_region 14 with fail
 go_region_held3 (fun w'=>w'.cell? ⟨db,0,none⟩=some (.pointer (some ⟨H.hb,0,none⟩))/\w'.cell? ⟨db,1,none⟩=some (.pointer (some ⟨A.t t,0,none⟩)))
  (first|exact HKQ.o _ hq|exact HKP.o _ (by repeat (with_reducible first|assumption|exact HR1.o|apply ZA|apply ZD)))
  (first
    |(go_at_call 55;refine (HID.o _ (by repeat (with_reducible first|assumption|exact HR1.o|apply ZA|apply ZD))).mono ?_;rintro e V1 ⟨rfl,rfl⟩)
    |(go_at_call 56;refine (HRS.o _ (by repeat (with_reducible first|assumption|exact HR1.o|apply ZA|apply ZD))).mono ?_;rintro e V1 ⟨rfl,hq⟩))
 all_goals
  go_wp2;go_returns;exact ⟨rfl,hq⟩
theorem ZIy {g:Option Addr}{n c:Nat}(hn:n<=c)(ty:TypeId)(w:World):(Builtin.append_ #[78,78] ty #[.slice g n c,.slice none 0 0]).run prog w=.ok (.slice g n c) w:=by
 have hu:=underlying78;obtain ⟨i,z,hi,hz,hsz,hby,hzs⟩:=elWrites.ex;cases g <;> simp [Builtin.append_,run_underlying hu,sizeOf,typeInfo,hi,Builtin.lenOf,Builtin.firstCells,loadCells,loadCellsFrom,hn,storeCells]
variable {A:DAd}{F F':Nat->Option ZK}{L:Nat}{T c c':Nat->Nat}{x x':Nat}{H:HAd}{lk:Bool}{p p':Nat->Plc}{ex ex':Nat}{res held res' held':Nat->Option Nat}{ch:Nat->Chk}
theorem VG {P:Program} {ops:Array Oper} {o:Oper} {a:Act} {K:Act->World->Prop} {Q:Exit->Act->World->Prop} {B:Prop} {W w':World} {t:TypeId} (hgd:o.guard=none) (s x:Operand)
 (ho:o.op=.call {callee:=.builtin .append,args:=#[s,x],argTypes:=#[t,t]}) {v xv v':Value} (hs:a.eval s=v) (hx:a.eval x=xv) (hrun:∀ ty,(Builtin.append_ #[t,t] ty #[v,xv]).run P W=.ok v' w')
 (h:K (a.put o.dst v') w'):if Region.wanted o (yielded ops a.tmps)=true then Oper.wp P o a W K Q else B:=by
 have hw:Region.wanted o (yielded ops a.tmps)=true:=by simp [Region.wanted,hgd]
 rw [ZKv hw];have hr:=hrun o.type;unfold Oper.wp;simp [execOp,ho,resolve,invoke,builtin,hs,hx,hr,Result.andThen];exact h
def AcP (w:World)(la:List (Nat×Nat))(e:Ending)(w':World):Prop:=∃ av,e=.returned (.tuple #[av,.int .i64 0])/\Wrt w' w.heap.size av la/\(la=[]->av=.slice none 0 0)/\Bl w w'
theorem ZEo {w2:World}{v av:Value}{lw la:List (Nat×Nat)}(hv:Wrs w2 v lw)(h1:1<=lw.length)(hn:lw.length+la.length<=1000){B:Nat}(ha:Wrt w2 B av la)(ha0:la=[]->av=.slice none 0 0)(W:World)(hb:Bl w2 W):
 Calls prog 67 #[v] W fun e w'=>∃ r,e=.returned r/\Bl w2 w'/\∃ r2 w8,(∀ ty,(Builtin.append_ #[78,78] ty #[r,av]).run prog w'=.ok r2 w8)/\Hd (Wrs w8 r2 (lw++la)/\Bl w2 w8):=by
 refine (Ut (hv.below hb) h1 (by omega)).mono ?_;rintro e w' ⟨r,rfl,hw,hb2⟩;have hbe:Bl w2 w':=hb.trans (hb2.mono hb.size);refine ⟨r,rfl,hbe,?_⟩
 by_cases h0:la=[]
 ·subst h0
  rw [ha0 rfl];obtain ⟨g,cap,rfl,hs,hg⟩:=Zi hw h1;have hnc:lw.length<=cap:=by
   rcases hw.2 with ⟨e,_⟩|⟨g',cap',cur,e,_,_,hc,_⟩
   ·cases e
   ·cases e;exact hc
  exact ⟨_,_,fun ty=>ZIy hnc ty w',zh ⟨by rw [List.append_nil];exact VE hw,hbe⟩⟩
 ·have h2:1<=la.length:=List.length_pos_iff.2 h0
  obtain ⟨g,cap,rfl,hs,hg⟩:=Zi (ha.below hbe) h2;obtain ⟨g2,c2,w8,hrun,how,hgr,_⟩:=Zm elWrites hw ⟨g,0,none⟩ la.length cap (ZP la) (VB la) (fun j u hj=>by rw [Addr.add_lit];exact hs j u hj) (VC la) h2 (by unfold maxLen;omega) (by omega) hb2.size;refine ⟨_,w8,hrun,zh ⟨?_,?_⟩⟩
  ·have e1:ZP lw++ZP la=ZP (lw++la):=by simp [ZP]
   rw [e1] at how;refine VE (B:=W.heap.size) (show Wrt w8 W.heap.size _ (lw++la) from ?_);unfold Wrt;rw [ZK4];exact how
  ·obtain ⟨g3,cap3,rfl,_,hg3⟩:=Zi hw h1
   exact hbe.grown hgr hbe.size (fun k hk=>by have:g3=k:=ZK5 hk;have:=hb.size;omega)
theorem Xx (h:HW w A F L T c x H false p ex res held) {t db lb off size:Nat} (hd:DrW w A F H t db lb off size) (hoff:off % 8=0/\off+size<=64 * L) (hsz:size < 1000000) (hz:c (off / 8)=0) {v tv dv:Value} {lw la:List (Nat×Nat)} (hv:Wrs w v lw) (h1:1<=lw.length) (h96:(lw++la).length<=96) (hs:64+16 * (lw++la).length<=size) (hok:Vp L off size (lw++la)) (hx1:x+6 * (lw++la).length+8<=x') (hx:x'<=1000000)
 (hact:∀ w1,Bl w w1->Calls prog 65 #[.pointer (some ⟨H.hb,0,none⟩),tv,dv] w1 (AcP w1 la))
 (hset:∀ F1 w1,HW w1 A F1 L T (wrs c (cmL off (cmV T (lw++la)) (lw++la)).flatten) x' H false p ex res held->HMv F F1 H w w1->Calls prog 68 #[.pointer (some ⟨H.hb,0,none⟩),tv,dv] w1 fun e w'=>e=.returned (.tuple #[])/\HW w' A F1 L T (wrs c (cmL off (cmV T (lw++la)) (lw++la)).flatten) x' H false p' ex' res' held'/\HMv F1 F1 H w1 w'):
 Calls prog 26 #[.pointer (some ⟨db,0,none⟩),v,tv,dv] w fun e w'=>e=.returned (.int .i64 0)/\ClP w A F L T (wrs c (cmL off (cmV T (lw++la)) (lw++la)).flatten) x' H false p' ex' res' held' w':=by
 have hll:(lw++la).length=lw.length+la.length:=ZK4;have hlen:lw.length+la.length<=1000:=by omega
 have hokw:Vp L off size lw:=by
  refine ⟨?_,fun q hq=>hok.2 q (ZK1.2 (.inl hq))⟩;have:=hok.1;rw [ZLH] at this;exact (ZLO.1 this).1
 have HPL:=zh (ZAd h.ar hd.t hd.lg ⟨hoff.1,by omega⟩ hsz hz hv h1 (by omega) hokw);have HER:=zh (fun w1 hb=>Zq h.ar hd.t w1 hb);have HACT:=zh hact;have HCL:=zh (fun (w2:World) (hb:Bl w w2) (av:Value) (B:Nat) (ha:Wrt w2 B av la) (ha0:la=[]->av=.slice none 0 0)=>ZEo (hv.below hb) h1 hlen ha ha0);have HCM:=zh (fun (w1:World) (hb:Bl w w1) (r:Value) (hr:Wrs w1 r (lw++la))=>ZB8 (x':=x') (h.below hb) hd.t (hd.lg.below hb) hoff hsz hz hr (by omega) h96 hs hok hx1 hx);have HSET:=zh hset;have HD:=zh hd;have HH:=zh h.hp;obtain ⟨l,hl⟩:=xE (lw++la);rw [<-hl] at HCM HSET;obtain ⟨C2,hC2⟩:=xE (wrs c (cmL off (cmV T l) l).flatten);rw [<-hC2] at HCM HSET;rw [<-hl,<-hC2];rw [<-hl] at HCL;obtain ⟨PG,hPG⟩:=xE (Za (cmL off (cmV T lw) lw));rw [<-hPG] at HPL;obtain ⟨q0,q1,q2,q3,q4,q5,q6,q7,_⟩:=Zz h.hp.hp;obtain ⟨c0,c1,c2,_⟩:=Zb hd.dr;have hsl:∃ a cap,v=.slice a lw.length cap:=by
  rcases hv with ⟨rfl,rfl⟩|⟨_,_,cap,rfl,_⟩
  ·exact ⟨none,0,rfl⟩
  ·exact ⟨_,cap,rfl⟩
 clear h hd hoff hsz hz hv h1 h96 hs hok hx1 hx hact hset hll hlen hokw hl hC2 hPG hsl;go_in;go_wp2_with fail;refine HPL.o.mono ?_;rintro e w1 ⟨r,rfl,_,hb⟩;have HB:=zh hb;clear hb HPL c0 c1 c2 q0 q1 q2 q3 q4 q5 q6 q7;obtain ⟨c0,c1,c2,_⟩:=Zb (HD.o.below HB.o).dr;obtain ⟨q0,q1,q2,q3,q4,q5,q6,q7,_⟩:=Zz (HH.o.below HB.o).hp;go_wp2_with fail;refine (HER.o _ HB.o).mono ?_;rintro e w' ⟨rfl,rfl⟩;go_wp2_with fail;refine (HACT.o _ HB.o).mono ?_;rintro e w2 ⟨av,rfl,hav,hav0,hb⟩;have HB2:=zh (HB.o.trans (hb.mono HB.o.size));have HCL2:=zh (HCL.o _ HB2.o _ _ hav hav0);clear hb hav hav0 HCL HACT c0 c1 c2 q0 q1 q2 q3 q4 q5 q6 q7;have HKP:=zh (fun (w1:World) (hb:Bl w2 w1)=>(show w1.cell? ⟨db,2,none⟩=some (.pointer (some ⟨lb,0,none⟩)) from (Zb ((HD.o.below HB2.o).below hb).dr).2.2.1));have HKQ:=zh (fun (w1:World) (hq:ClP w A F L T C2 x' H false p ex res held w1)=>(show w1.cell? ⟨db,2,none⟩=some (.pointer (some ⟨lb,0,none⟩)) from by
  obtain ⟨F',_,hm⟩:=hq;exact (Zb (HD.o.moved hm).dr).2.2.1))
 have HCM2:=zh (fun (w3:World) (hb:Bl w2 w3) (r:Value) (hr:Wrs w3 r l)=>(HCM.o w3 (HB2.o.trans (hb.mono HB2.o.size)) r hr).mono (R':=fun e w'=>e=.returned (.int .i64 0)/\ClP w A F L T C2 x' H false p ex res held w') (by
  rintro e w' ⟨h1,F',h2,h3⟩;exact ⟨h1,F',h2,(HMv.of_below (F:=F) (H:=H) (HB2.o.trans (hb.mono HB2.o.size))).trans h3⟩))
 have HR1:=zh (Below.refl w2.heap.size w2);go_upto_region 14 with fail
 go_region_held3 (fun w'=>w'.cell? ⟨db,2,none⟩=some (.pointer (some ⟨lb,0,none⟩)))
  (first|exact HKQ.o _ hq|exact HKP.o _ hinf.o.2|exact HKP.o _ (by repeat (with_reducible first|assumption|exact HR1.o|apply ZA|apply ZD)))
  (first
    |(go_at_call 67;refine (HCL2.o _ (by repeat (with_reducible first|assumption|exact HR1.o|apply ZA|apply ZD))).mono ?_;rintro e V1 ⟨r1,rfl,hbv,r2,w8,hput,hinf⟩)
    |(refine VG rfl (Operand.tmp 62) (Operand.tmp 63) rfl rfl rfl hput ?_)
    |(go_at_call 66;refine (HCM2.o _ hinf.o.2 _ hinf.o.1).mono ?_;rintro e V1 ⟨rfl,hq⟩))
 all_goals
  obtain ⟨F3,hw3,hm3⟩:=hq;have HSE:=zh (HSET.o F3 _ hw3 hm3);have HM3:=zh hm3;obtain ⟨c0,c1,c2,_⟩:=Zb (HD.o.moved hm3).dr;clear hw3 hm3 HSET HKP HKQ HCM2 HCM HCL2;go_wp2_with fail;refine HSE.o.mono ?_;rintro e w9 ⟨rfl,hw4,hm4⟩;have HE:=zh (show ClP w A F L T C2 x' H false p' ex' res' held' w9 from ⟨F3,hw4,HM3.o.trans hm4⟩);clear hw4 hm4 HSE;go_wp2;go_returns;exact ⟨rfl,HE.o⟩
variable {t db lb off size:Nat}
theorem ZBx (h:Ar w A F L T c)(hd:DrW w A F H t db lb off size):
 Calls prog 304 #[.pointer (some ⟨db,0,none⟩)] w fun e w'=>e=.returned (.int .i64 0)/\w=w':=by
 have HER:=zh (fun w1 hb=>Zq h hd.t w1 hb);have HR:=zh (Below.refl w.heap.size w);obtain ⟨c0,c1,c2,_⟩:=Zb hd.dr;clear h hd;go_in;go_wp2_with fail;refine (HER.o _ HR.o).mono ?_;rintro e w' ⟨rfl,rfl⟩;go_wp2;go_returns;exact ⟨rfl,rfl⟩
theorem ZEz (h:Ar w A F L T c)(hd:DrW w A F H t db lb off size):
 Calls prog 307 #[.pointer (some ⟨db,0,none⟩)] w fun e w'=>e=.returned (.int .u64 (L * 64:Nat))/\w=w':=by
 have HER:=zh (fun w1 hb=>XZ h hd.t w1 hb);have HR:=zh (Below.refl w.heap.size w);obtain ⟨c0,c1,c2,_⟩:=Zb hd.dr;clear h hd;go_in;go_wp2_with fail;refine (HER.o _ HR.o).mono ?_;rintro e w' ⟨rfl,rfl⟩;go_wp2;go_returns;exact ⟨rfl,rfl⟩
theorem ZAF (h:Ar w A F L T c)(hd:DrW w A F H t db lb off size){o:Nat}(h8:o % 8=0)(hL:o < 64 * L):
 Calls prog 12 #[.pointer (some ⟨db,0,none⟩),.int .u64 o] w fun e w'=>e=.returned (.int .u64 (c (o / 8)))/\w=w':=by
 have HER:=zh (fun w1 hb=>Yw h hd.t w1 hb o h8 hL);have HR:=zh (Below.refl w.heap.size w);obtain ⟨c0,c1,c2,_⟩:=Zb hd.dr;clear h hd h8 hL;go_in;go_wp2_with fail;refine (HER.o _ HR.o).mono ?_;rintro e w' ⟨rfl,rfl⟩;go_wp2;go_returns;exact ⟨rfl,rfl⟩
theorem V7 (hd:DrW w A F H t db lb off size) {P kd:Nat} {r:Int}
 (hc:Calls prog 42 #[.pointer (some ⟨H.hb,0,none⟩),.int .u64 P,.int .u8 kd] w fun e w'=>e=.returned (.int .i64 r)/\Bl w w'):
 Calls prog 18 #[.pointer (some ⟨db,0,none⟩),.int .u64 P,.int .u8 kd] w fun e w'=>e=.returned (.int .i64 r)/\Bl w w':=by
 have HC:=zh hc;obtain ⟨c0,c1,c2,_⟩:=Zb hd.dr;clear hd hc;go_in;go_wp2_with fail;refine HC.o.mono ?_;rintro e w' ⟨rfl,hb⟩;have HB:=zh hb;clear hb;go_wp2;go_returns;exact ⟨rfl,HB.o⟩
theorem Vn {i:Nat}(hi:i < 1000):Calls prog 77 #[.int .i64 i] w fun e w'=>e=.returned (.int .i64 ((2+2 * i:Nat):Int))/\w=w':=by
 have b1:(i:Int) < 1000:=by omega
 have e:((2+2 * i:Nat):Int)=2+2 * (i:Int):=by omega
 rw [e];clear hi e;go_in;go_wp2;go_returns;exact ⟨rfl,rfl⟩
theorem VP {i:Nat}(hi:i < 1000):Calls prog 80 #[.int .i64 i] w fun e w'=>e=.returned (.int .i64 ((3+2 * i:Nat):Int))/\w=w':=by
 have b1:(i:Int) < 1000:=by omega
 have e:((3+2 * i:Nat):Int)=3+2 * (i:Int):=by omega
 rw [e];clear hi e;go_in;go_wp2;go_returns;exact ⟨rfl,rfl⟩
structure PtrOk (p:Nat):Prop where
 lt:p < 72057594037927936
 gen:1<=Vr p
 kind:1<=Z0 p/\Z0 p<=127
 off:0 < ZM p
theorem PtrOk.ne {p:Nat}(h:PtrOk p):p≠0:=fun e=>by
 have:=h.off;subst e;unfold ZM at this;omega
theorem ZCT {p:Nat}(h:PtrOk p):Calls prog 112 #[.int .u64 p] w fun e w'=>e=.returned (.bool true)/\w=w':=by
 have hp:p < 18446744073709551616:=by have:=h.lt;omega
 have HO:=zh (fun w1=>YU (w:=w1) hp);have HG:=zh (fun w1=>ZCU (w:=w1) hp);have HK:=zh (fun w1=>Vl (w:=w1) hp);have d1:((p:Int) / 72057594037927936 == 0)=true:=by have:=h.lt;simp;omega
 have d2:((ZM p:Int) != 0)=true:=by have:=h.off;simp;omega
 have d3:((Vr p:Int) != 0)=true:=by have:=h.gen;simp;omega
 have d4:((Z0 p:Int) != 0)=true:=by have:=h.kind;simp;omega
 have d5:decide ((Z0 p:Int)<=127)=true:=by have:=h.kind;simp;omega
 have b0:0<=(p:Int):=by omega
 have b1:(p:Int) < 18446744073709551616:=by omega
 obtain ⟨O,hO⟩:=xE (ZM p);obtain ⟨G,hG⟩:=xE (Vr p);obtain ⟨K,hK⟩:=xE (Z0 p);rw [<-hO] at HO d2;rw [<-hG] at HG d3;rw [<-hK] at HK d4 d5;clear h hp hO hG hK;go_in
 go_wp2_with (first
  |(go_at_call 35;refine (HO.o _).mono ?_;rintro e w' ⟨rfl,rfl⟩)
  |(go_at_call 141;refine (HG.o _).mono ?_;rintro e w' ⟨rfl,rfl⟩)
  |(go_at_call 85;refine (HK.o _).mono ?_;rintro e w' ⟨rfl,rfl⟩))
 go_returns;exact ⟨rfl,rfl⟩
theorem Qa {p size:Nat}(h:PtrOk p)(hs:ZM p < size)(hz:size < 18446744073709551616):Calls prog 59 #[.int .u64 p,.int .u64 size] w fun e w'=>e=.returned (.bool true)/\w=w':=by
 have hp:p < 18446744073709551616:=by have:=h.lt;omega
 have HO:=zh (fun w1=>YU (w:=w1) hp);have HF:=zh (fun w1=>ZCT (w:=w1) h);have d2:decide ((ZM p:Int) < size)=true:=by simp;omega
 obtain ⟨O,hO⟩:=xE (ZM p);rw [<-hO] at HO d2 hs;have HS:=zh hs;clear h hp hO hs hz;go_in
 go_wp2_with (first
  |(go_at_call 35;refine (HO.o _).mono ?_;rintro e w' ⟨rfl,rfl⟩)
  |(go_at_call 112;refine (HF.o _).mono ?_;rintro e w' ⟨rfl,rfl⟩))
 go_returns;exact ⟨by have:=HS.o;simp [this],rfl⟩
theorem Xh (w:World)(v:Value)(k:Nat):(nilAhead (k+1) 27 v "Load").run prog w=.ok (some false) w:=by kernel_rfl
theorem UD (w:World)(v:Value)(k:Nat):(nilAhead (k+1) 27 v "Check").run prog w=.ok (some false) w:=by kernel_rfl
theorem ZGQ {k:Chk}(hk:k.Head){j:Nat}(hj:j < perN k){line off:Nat}(ho:off=k.pay line j):k.find line off=((j:Int),true):=by
 have hle:=YF hk hj;have hst:=Uk hk hj;have e:(off - 64 * line) / 8=hdN k j+1:=by rw [ho];unfold Chk.pay;omega
 unfold Chk.find;rw [ZKu (by rw [ho];unfold Chk.pay;omega),e];exact ZGR hk hj
structure InC (P:Nat):Prop where
 ok:PtrOk P
 lo:64 * 103<=ZM P
 hi:ZM P < 64 * 103+2048
theorem ZGo {k:Chk}(hk:k.Head)(hc:k.cl=0){j g P:Nat}(hj:j < 62)(hg:1<=g/\g < 65536)(hP:P=Yl (k.pay 103 j) g 65):InC P/\ZM P=(833+4 * j) * 8/\Vr P=g/\Z0 P=65/\k.find 103 (ZM P)=((j:Int),true):=by
 have hpay:=ZEQ hc j;obtain ⟨e1,e2,e3⟩:=Jb (off:=k.pay 103 j) (gen:=g) (kind:=65) (by rw [hpay];omega) (by rw [hpay];omega) hg.2 (by omega);rw [<-hP] at e1 e2 e3;have hf:k.find 103 (ZM P)=((j:Int),true):=ZGQ hk (by rw [XJ hc];exact hj) e1;refine ⟨⟨⟨?_,by rw [e2];exact hg.1,by rw [e3];omega,by rw [e1,hpay];omega⟩,by rw [e1,hpay];omega,by rw [e1,hpay];omega⟩,e1.trans hpay,e2,e3,hf⟩;rw [hP];unfold Yl;rw [hpay];omega
theorem LivP.chk {k:Chk}(hk:k.Head)(hc:k.cl=0)(hg:∀ j,1<=(k.blk j).gen/\(k.blk j).gen < 65536){P j:Nat}(h:LivP k P j):InC P/\ZM P=(833+4 * j) * 8/\Z0 P=65/\k.block 103 P=((j:Int),0):=by
 obtain ⟨h1,h2,h3,h4⟩:=h;obtain ⟨a1,a2,a3,a4,a5⟩:=ZGo hk hc h1 (hg j) h4;refine ⟨a1,a2,a4,?_⟩;have hlt:=a1.ok.lt;unfold Chk.block;rw [ZKu a1.ok.ne,a5];simp only [Int.toNat_natCast];rw [ZKu (by simp;omega),ZKu (by rw [h2,a3];simp),ZKu (by rw [h3,a4];simp)]
theorem stale_chk {k:Chk}(hk:k.Head)(hc:k.cl=0)(hg:∀ j,1<=(k.blk j).gen/\(k.blk j).gen < 65536){P j g:Nat}(hj:j < 62)(h1:1<=g)(h2:g < (k.blk j).gen)(hP:P=Yl (k.pay 103 j) g 65):InC P/\(k.block 103 P).2=12:=by
 obtain ⟨a1,a2,a3,a4,a5⟩:=ZGo hk hc hj ⟨h1,by have:=hg j;omega⟩ hP;refine ⟨a1,?_⟩;have hlt:=a1.ok.lt;unfold Chk.block;rw [ZKu a1.ok.ne,a5];simp only [Int.toNat_natCast];rw [ZKu (by simp;omega),ZKv (.inr (by rw [a3];omega))]
theorem LS.Inv.gens {s:LS}{n:Nat}(h:s.Inv n)(hn:n<=60)(j:Nat):1<=(s.k.blk j).gen/\(s.k.blk j).gen < 65536:=by
 have h1:=h.ok.gen j;have h2:=h.nr;have h3:=h.ok.fl;omega
theorem LS.Ok.na_live {s:LS}(h:s.Ok){P:Nat}(hP:P∈s.live):s.na≠0:=fun e=>by
 have:=(h.zero e).2.2.2.1;rw [this] at hP;cases hP
theorem LS.Inv.live_chk {s:LS}{n:Nat}(h:s.Inv n)(hn:n<=60)(hk:s.k.Head){P:Nat}(hP:P∈s.live):s.k.cl=0/\InC P/\Z0 P=65/\(s.k.block 103 P).2=0:=by
 obtain ⟨j,hL⟩:=h.ok.liv P hP;have hc:=(h.cl0 (h.ok.na_live hP)).1;obtain ⟨h1,_,h3,h4⟩:=hL.chk hk hc (h.gens hn);exact ⟨hc,h1,h3,by rw [h4]⟩
theorem LS.Inv.stale_chk {s:LS}{n:Nat}(h:s.Inv n)(hn:n<=60)(hk:s.k.Head){P:Nat}(hP:P∈s.fr):s.k.cl=0/\InC P/\(s.k.block 103 P).2=12:=by
 obtain ⟨j,g,h1,h2,h3,h4⟩:=h.ok.fr P hP;have hc:=(h.cl0 (fun e=>by have:=(h.ok.zero e).2.2.1;rw [this] at hP;cases hP)).1;obtain ⟨h5,h6⟩:=Dv.stale_chk hk hc (h.gens hn) h1 h2 h3 h4;exact ⟨hc,h5,h6⟩
theorem ZEK:k0.block 71 3377704015495745=(0,0):=by decide
theorem Xk:PtrOk 3377704015495745/\ZM 3377704015495745=4616/\Z0 3377704015495745=12:=by
 refine ⟨⟨?_,?_,?_,?_⟩,?_,?_⟩ <;> decide
theorem ZEP:PtrOk 18014402804449918/\ZM 18014402804449918=5104/\Z0 18014402804449918=64:=by
 refine ⟨⟨?_,?_,?_,?_⟩,?_,?_⟩ <;> decide
structure RdS where
 op:Option Nat
 inn:Bool
 held:List Nat
structure TI (s:LS)(rd:Nat->RdS)(r:Nat->Option Nat)(n:Nat):Prop where
 inv:s.Inv n
 kept:s.Kept r
 ann:∀ t,t < 3->((rd t).inn=true↔s.ann (1+t)≠0)
 held:∀ t,t < 3->∀ P,P∈(rd t).held->(rd t).inn=true/\P≠0/\((∃ i,i < 40/\s.lp i=P)\/∃ e,r P=some e/\s.ann (1+t)<=e)
 few:∀ t,t < 3->(rd t).inn=true->s.na+s.nr+1<=n
 opr:∀ t,t < 3->(rd t).op≠none->(rd t).inn=false/\s.na+s.nr+1<=n
 len:∀ t,t < 3->(rd t).held.length<=n
variable {s:LS}{rd:Nat->RdS}{r:Nat->Option Nat}{n:Nat}
theorem TI.live (h:TI s rd r n){t:Nat}(ht:t < 3){P:Nat}(hP:P∈(rd t).held):P∈s.live:=by
 obtain ⟨h1,h0,h2⟩:=h.held t ht P hP;rcases h2 with ⟨i,hi,rfl⟩|⟨e,he,ha⟩
 ·exact LS.mem_lp hi h0
 ·rcases h.kept.kept P e he with q|⟨_,q⟩
  ·exact LS.mem_en q
  ·exfalso
   rcases q (1+t) (by omega) with q|q
   ·exact (h.ann t ht).1 h1 q
   ·omega
theorem TI.full (h:TI s rd r n)(hn:n<=59)(hf:29<=s.en.length){i:Nat}(hi:i < 40)(h0:s.lp i≠0){t:Nat}(ht:t < 3):(rd t).held=[]/\(rd t).inn=false:=by
 have h1:=h.inv.ok.cnt;have h2:=h.inv.ok.len;have h3:=h.inv.cnt
 have h4:1<=(((List.range 40).map s.lp).filter (· != 0)).length:=
  List.length_pos_of_mem (ZLK.2 ⟨ZKz.2 ⟨i,ZLJ.2 hi,rfl⟩,by simpa using h0⟩)
 have hi:(rd t).inn=false:=by
  cases e:(rd t).inn with
  |false=>rfl
  |true=>exact absurd (h.few t ht e) (by omega)
 refine ⟨?_,hi⟩;cases e:(rd t).held with
 |nil=>rfl
 |cons P l=>exact absurd (h.held t ht P (by rw [e];exact .head _)).1 (by rw [hi];simp)
theorem TI.mono (h:TI s rd r n):TI s rd r (n+1):=
 ⟨h.inv.mono (Nat.le_succ _),h.kept,h.ann,h.held,fun t ht hh=>by have:=h.few t ht hh;omega,fun t ht hh=>⟨(h.opr t ht hh).1,by have:=(h.opr t ht hh).2;omega⟩,fun t ht=>by have:=h.len t ht;omega⟩
theorem TI.stp (h:TI s rd r n)(hn:n<=60){kd i:Nat}(hi:i < 40)(hk:kd=0\/kd=1\/kd=2\/kd=5):
 TI (s.stp kd i 0) rd (if kd=1/\s.lp i≠0 then YE r (s.lp i) s.now else r) (n+1):=by
 have ha:(s.stp kd i 0).ann=s.ann:=by
  unfold LS.stp;rcases hk with rfl|rfl|rfl|rfl
  ·simp only [if_true];split
   ·exact (Xt s).2.2.2.2.2.1
   ·rfl
  ·simp;split <;> rfl
  ·simp;split <;> rfl
  ·simp;split <;> rfl
 have hc:(s.stp kd i 0).na+(s.stp kd i 0).nr<=s.na+s.nr+1:=by
  unfold LS.stp;rcases hk with rfl|rfl|rfl|rfl
  ·simp only [if_true];split
   ·have h1:(s.mk0 i).na=s.na+1:=by
     show s.clm.na+1=_;rw [(Xt s).2.2.2.2.2.2.1]
    have h2:(s.mk0 i).nr=s.nr:=(Xt s).2.2.2.2.2.2.2;omega
   ·omega
  ·simp;split
   ·omega
   ·show s.na+(s.nr+1)<=_
    omega
  ·simp;split
   ·omega
   ·show s.na+s.nr<=_
    omega
  ·simp;split
   ·show s.na+s.nr<=_
    omega
   ·omega
 have hl:∀ j,j < 40->s.lp j≠0->(s.stp kd i 0).lp j=s.lp j\/(kd=1/\s.lp i≠0/\j=i):=by
  intro j hj h0;unfold LS.stp;rcases hk with rfl|rfl|rfl|rfl
  ·simp only [if_true];split
   ·rename_i e
    left;show upd s.clm.lp i s.np j=_;rw [(Xt s).1];unfold upd;split
    ·rename_i e2;subst e2;exact absurd e h0
    ·rfl
   ·exact .inl rfl
  ·simp;split
   ·exact .inl rfl
   ·rename_i e
    by_cases e2:j=i
    ·exact .inr ⟨e,e2⟩
    ·left
     show upd s.lp i 0 j=_;exact ZZ _ _ e2
  ·left;simp;split <;> rfl
  ·left;simp;split <;> rfl
 refine ⟨h.inv.stp hn hi,h.kept.stp h.inv.ok hi,fun t ht=>by rw [ha];exact h.ann t ht,fun t ht P hP=>?_,fun t ht hh=>?_,fun t ht hh=>⟨(h.opr t ht hh).1,by have:=(h.opr t ht hh).2;omega⟩,fun t ht=>by have:=h.len t ht;omega⟩
 ·obtain ⟨h1,h0,h2⟩:=h.held t ht P hP
  refine ⟨h1,h0,?_⟩;rw [ha];have hnow:s.ann (1+t)<=s.now:=h.inv.ok.ann _;rcases h2 with ⟨j,hj,rfl⟩|⟨e,he,h3⟩
  ·rcases hl j hj h0 with q|⟨q1,q2,q3⟩
   ·exact .inl ⟨j,hj,q⟩
   ·subst q3
    rw [ZKv ⟨q1,q2⟩];exact .inr ⟨s.now,Yv _ _ _,hnow⟩
  ·right
   split
   ·by_cases e2:P=s.lp i
    ·subst e2;exact ⟨s.now,Yv _ _ _,hnow⟩
    ·exact ⟨e,by rw [UQ _ _ e2];exact he,h3⟩
   ·exact ⟨e,he,h3⟩
 ·have:=h.few t ht hh
  omega
theorem TI.enter (h:TI s rd r n)(hn:n<=60){t:Nat}(ht:t < 3)(hop:(rd t).op≠none):
 TI {s with ann:=upd s.ann (1+t) s.now} (upd rd t ⟨none,true,[]⟩) r (n+1):=by
 obtain ⟨h0,hc⟩:=h.opr t ht hop;have ha:s.ann (1+t)=0:=by
  cases e:s.ann (1+t) with
  |zero=>rfl
  |succ m=>exact absurd ((h.ann t ht).2 (by rw [e];omega)) (by rw [h0];simp)
 have h1:=h.inv.stp hn (kd:=3) (i:=0) (t:=1+t) (by omega);have h2:=h.kept.stp h.inv.ok (kd:=3) (i:=0) (t:=1+t) (by omega);have e3:s.stp 3 0 (1+t)={s with ann:=upd s.ann (1+t) s.now}:=by
  unfold LS.stp;simp [ha]
 rw [e3] at h1 h2;rw [ZKu (by simp)] at h2;have hnow:s.now≠0:=by have:=h.inv.ok.now;omega
 refine ⟨h1,h2,fun u hu=>?_,fun u hu P hP=>?_,fun u hu hh=>?_,fun u hu hh=>?_,fun u hu=>?_⟩
 ·show (upd rd t ⟨none,true,[]⟩ u).inn=true↔upd s.ann (1+t) s.now (1+u)≠0
  unfold upd
  by_cases e:u=t
  ·subst e;simp [hnow]
  ·rw [ZKu e,ZKu (by omega)];exact h.ann u hu
 ·by_cases e:u=t
  ·subst e
   rw [ZS] at hP;cases hP
  ·rw [ZZ _ _ e] at hP ⊢
   have:=h.held u hu P hP;refine ⟨this.1,this.2.1,this.2.2.imp id fun ⟨x,q1,q2⟩=>⟨x,q1,?_⟩⟩;show upd s.ann (1+t) s.now (1+u)<=x;rw [ZZ _ _ (by omega)];exact q2
 ·show s.na+s.nr+1<=n+1
  omega
 ·by_cases e:u=t
  ·subst e
   rw [ZS] at hh;exact absurd rfl hh
  ·rw [ZZ _ _ e] at hh ⊢
   have:=h.opr u hu hh;exact ⟨this.1,by show s.na+s.nr+1<=n+1;omega⟩
 ·by_cases e:u=t
  ·subst e
   rw [ZS];exact Nat.zero_le _
  ·rw [ZZ _ _ e]
   have:=h.len u hu;omega
theorem TI.begin (h:TI s rd r n){t b:Nat}(ht:t < 3)(h0:(rd t).inn=false):TI s (upd rd t ⟨some b,false,(rd t).held⟩) r (n+1):=by
 have hc:=h.inv.cnt;refine ⟨h.inv.mono (Nat.le_succ _),h.kept,fun u hu=>?_,fun u hu P hP=>?_,fun u hu hh=>?_,fun u hu hh=>?_,fun u hu=>?_⟩
 ·by_cases e:u=t
  ·subst e;rw [ZS,<-h.ann u hu,h0]
  ·rw [ZZ _ _ e];exact h.ann u hu
 ·by_cases e:u=t
  ·subst e
   rw [ZS] at hP;exact absurd (h.held u hu P hP).1 (by rw [h0];simp)
  ·rw [ZZ _ _ e] at hP ⊢
   exact h.held u hu P hP
 ·by_cases e:u=t
  ·subst e;rw [ZS] at hh;cases hh
  ·rw [ZZ _ _ e] at hh
   have:=h.few u hu hh;omega
 ·by_cases e:u=t
  ·subst e;rw [ZS];exact ⟨rfl,by omega⟩
  ·rw [ZZ _ _ e] at hh ⊢
   have:=h.opr u hu hh;exact ⟨this.1,by omega⟩
 ·by_cases e:u=t
  ·subst e;rw [ZS]
   have:=h.len u hu;show (rd u).held.length<=n+1;omega
  ·rw [ZZ _ _ e]
   have:=h.len u hu;omega
theorem TI.leave (h:TI s rd r n)(hn:n<=60){t:Nat}(ht:t < 3)(h0:(rd t).inn=true):
 TI {s with ann:=upd s.ann (1+t) 0} (upd rd t ⟨none,false,[]⟩) r (n+1):=by
 have ha:s.ann (1+t)≠0:=(h.ann t ht).1 h0;have h1:=h.inv.stp hn (kd:=4) (i:=0) (t:=1+t) (by omega);have h2:=h.kept.stp h.inv.ok (kd:=4) (i:=0) (t:=1+t) (by omega);have e3:s.stp 4 0 (1+t)={s with ann:=upd s.ann (1+t) 0}:=by
  unfold LS.stp;simp [ha]
 rw [e3] at h1 h2;rw [ZKu (by simp)] at h2;refine ⟨h1,h2,fun u hu=>?_,fun u hu P hP=>?_,fun u hu hh=>?_,fun u hu hh=>?_,fun u hu=>?_⟩
 ·show (upd rd t ⟨none,false,[]⟩ u).inn=true↔upd s.ann (1+t) 0 (1+u)≠0
  unfold upd
  by_cases e:u=t
  ·subst e;simp
  ·rw [ZKu e,ZKu (by omega)];exact h.ann u hu
 ·by_cases e:u=t
  ·subst e
   rw [ZS] at hP;cases hP
  ·rw [ZZ _ _ e] at hP ⊢
   have:=h.held u hu P hP;refine ⟨this.1,this.2.1,this.2.2.imp id fun ⟨x,q1,q2⟩=>⟨x,q1,?_⟩⟩;show upd s.ann (1+t) 0 (1+u)<=x;rw [ZZ _ _ (by omega)];exact q2
 ·by_cases e:u=t
  ·subst e
   rw [ZS] at hh;cases hh
  ·rw [ZZ _ _ e] at hh
   have:=h.few u hu hh;show s.na+s.nr+1<=n+1;omega
 ·by_cases e:u=t
  ·subst e
   rw [ZS] at hh;exact absurd rfl hh
  ·rw [ZZ _ _ e] at hh ⊢
   have:=h.opr u hu hh;exact ⟨this.1,by show s.na+s.nr+1<=n+1;omega⟩
 ·by_cases e:u=t
  ·subst e
   rw [ZS];exact Nat.zero_le _
  ·rw [ZZ _ _ e]
   have:=h.len u hu;omega
theorem TI.read (h:TI s rd r n){t i:Nat}(ht:t < 3)(hi:i < 40)(h0:(rd t).inn=true)(hp:s.lp i≠0):
 TI s (upd rd t ⟨(rd t).op,true,(rd t).held++[s.lp i]⟩) r (n+1):=by
 refine ⟨h.inv.mono (Nat.le_succ _),h.kept,fun u hu=>?_,fun u hu P hP=>?_,fun u hu hh=>?_,fun u hu hh=>?_,fun u hu=>?_⟩
 ·by_cases e:u=t
  ·subst e;rw [ZS];simpa using (h.ann u hu).1 h0
  ·rw [ZZ _ _ e];exact h.ann u hu
 ·by_cases e:u=t
  ·subst e
   rw [ZS] at hP ⊢;rcases ZK1.1 hP with q|q
   ·have:=h.held u hu P q
    exact ⟨rfl,this.2⟩
   ·obtain rfl:=ZLL.1 q
    exact ⟨rfl,hp,.inl ⟨i,hi,rfl⟩⟩
  ·rw [ZZ _ _ e] at hP ⊢
   exact h.held u hu P hP
 ·by_cases e:u=t
  ·subst e
   have:=h.few u hu h0;omega
  ·rw [ZZ _ _ e] at hh
   have:=h.few u hu hh;omega
 ·by_cases e:u=t
  ·subst e
   rw [ZS] at hh;exact absurd (h.opr u hu hh).1 (by rw [h0];simp)
  ·rw [ZZ _ _ e] at hh ⊢
   have:=h.opr u hu hh;exact ⟨this.1,by omega⟩
 ·by_cases e:u=t
  ·subst e
   rw [ZS];have:=h.len u hu;simp;omega
  ·rw [ZZ _ _ e]
   have:=h.len u hu;omega
theorem ZJ8 (h:Ar w A F L T c)(w1:World)(hb:Bl w w1):
 Calls prog 69 #[.pointer (some ⟨A.d,0,none⟩)] w1 fun r w'=>r=.returned (.bool false)/\w1=w':=by
 obtain ⟨s,h1,h2,rfl⟩:=(h.below hb).dev;have c0:w1.cell? ⟨A.d,11,none⟩=some (.bool false):=by rw [h1.dev.cell 11 (by omega)];show some (Value.bool s.off)=_;rw [h2.off]
 clear h hb h1 h2;go_in;go_wp2;go_returns;exact ⟨rfl,rfl⟩
theorem Vc (h:Ar w A F L T c){i:Nat}(hi:i < 8)(w1:World)(hb:Bl w w1):
 Calls prog 30 #[.pointer (some ⟨A.d,0,none⟩),.int .i64 i] w1 fun r w'=>r=.returned (.pointer (some ⟨A.t i,0,none⟩))/\w1=w':=by
 obtain ⟨s,h1,h2,rfl⟩:=(h.below hb).dev;exact Qh h1 hi
def ckC (A:DAd)(now:Nat)(an:Nat->Nat):Array Value:=#[.pointer (some ⟨A.d,0,none⟩),.int .u64 (4480:Nat),.int .u64 now,.int .u64 (an 0),.int .u64 (an 1),.int .u64 (an 2),.int .u64 (an 3),.int .u64 (an 4),.int .u64 (an 5),.int .u64 (an 6),.int .u64 (an 7)]
def CkB (w:World)(A:DAd)(kb now:Nat)(an:Nat->Nat):Prop:=w.heap[kb]?=some (.cells (ckC A now an) 99 (0,0))
theorem CkB.below {kb now:Nat}{an:Nat->Nat}(h:CkB w A kb now an)(hb:Bl w w'):CkB w' A kb now an:=(hb.block _ (heap_lt h)).trans h
theorem CkB.three {kb now:Nat}{an:Nat->Nat}(h:CkB w A kb now an):w.cell? ⟨kb,0,none⟩=some (.pointer (some ⟨A.d,0,none⟩))/\w.cell? ⟨kb,1,none⟩=some (.int .u64 4480)/\w.cell? ⟨kb,2,none⟩=some (.int .u64 now):=⟨(ZC h).trans rfl,(ZC h).trans rfl,(ZC h).trans rfl⟩
theorem CkB.eight {kb now:Nat}{an:Nat->Nat}(h:CkB w A kb now an):w.cell? ⟨kb,3,none⟩=some (.int .u64 (an 0))/\w.cell? ⟨kb,4,none⟩=some (.int .u64 (an 1))/\w.cell? ⟨kb,5,none⟩=some (.int .u64 (an 2))/\w.cell? ⟨kb,6,none⟩=some (.int .u64 (an 3))/\w.cell? ⟨kb,7,none⟩=some (.int .u64 (an 4))/\w.cell? ⟨kb,8,none⟩=some (.int .u64 (an 5))/\w.cell? ⟨kb,9,none⟩=some (.int .u64 (an 6))/\w.cell? ⟨kb,10,none⟩=some (.int .u64 (an 7)):=by
 refine ⟨?_,?_,?_,?_,?_,?_,?_,?_⟩ <;> exact (ZC h).trans rfl
theorem CkB.at {kb now:Nat}{an:Nat->Nat}(h:CkB w A kb now an){t:Nat}(ht:t < 8):w.cell? ⟨kb,3+t,none⟩=some (.int .u64 (an t)):=by
 obtain ⟨c0,c1,c2,c3,c4,c5,c6,c7⟩:=h.eight;rcases (show t=0\/t=1\/t=2\/t=3\/t=4\/t=5\/t=6\/t=7 by omega) with rfl|rfl|rfl|rfl|rfl|rfl|rfl|rfl <;> assumption
theorem ZDF (h:Ar w A F L T c){kb now:Nat}{an:Nat->Nat}(hk:CkB w A kb now an):
 Calls prog 27 #[.pointer (some ⟨kb,0,none⟩)] w fun e w'=>e=.returned (.int .u64 now)/\w=w':=by
 have HO:=zh (fun w1 hb=>ZJ8 h w1 hb);have HR:=zh (Below.refl w.heap.size w);obtain ⟨c0,c1,c2⟩:=hk.three;clear h hk;go_in;go_wp2_with fail;refine (HO.o _ HR.o).mono ?_;rintro e w' ⟨rfl,rfl⟩;go_wp2;go_returns;exact ⟨rfl,rfl⟩
theorem ZIx {a:Nat}(h:a < 18446744073709551616):bits .and .u64 (a:Int) 4294967295=((a % 4294967296:Nat):Int):=by
 have e:=u64_and_nat a 4294967295 h (by omega);rw [show a &&& 4294967295=a % 4294967296 from Nat.and_two_pow_sub_one_eq_mod a 32] at e;exact e
theorem ZEl {n:Nat}(hn:1<=n/\n<=2147483647):
 Calls prog 71 #[.int .u64 ((7309464666214760448+n:Nat):Int)] w fun e w'=>e=.returned (.tuple #[.int .u64 n,.bool true])/\w=w':=by
 have e1:=ZIx (a:=7309464666214760448+n) (by omega);rw [show (7309464666214760448+n) % 4294967296=n by omega] at e1;obtain ⟨W,hW⟩:∃ W:Int,W=((7309464666214760448+n:Nat):Int):=⟨_,rfl⟩
 rw [<-hW] at e1;have e2:W / 4294967296=1701867363:=by omega
 have d1:decide ((n:Int) < 1)=false:=by simp;omega
 have d2:decide ((n:Int) > 2147483647)=false:=by simp;omega
 rw [<-hW];clear hW;go_in;go_wp2;go_returns;exact ⟨rfl,rfl⟩
theorem QD (h:Ar w A F L T c){kb now:Nat}{an:Nat->Nat}(hk:CkB w A kb now an)(hn:1<=now/\now<=2147483647)(hc:c 560=7309464666214760448+now)(hL:4480 < 64 * L){t:Nat}(ht:t < 8):
 Calls prog 32 #[.pointer (some ⟨kb,0,none⟩),.pointer (some ⟨A.t t,0,none⟩)] w fun e w'=>e=.returned (.tuple #[.int .u64 now,.int .i64 0])/\w=w':=by
 have HL:=zh (fun w1 hb=>Yw h ht w1 hb 4480 (by omega) hL);rw [show 4480 / 8=560 by rfl,hc] at HL;have HE:=zh (fun w1 hb=>Zq h ht w1 hb);have HU:=zh (ZEl (w:=w) hn);have HR:=zh (Below.refl w.heap.size w);obtain ⟨W,hW⟩:∃ W:Nat,W=7309464666214760448+now:=⟨_,rfl⟩
 rw [<-hW] at HL HU;obtain ⟨c0,c1,c2⟩:=hk.three;clear h hk hn hc hW;go_in;go_wp2_with fail;refine (HL.o _ HR.o).mono ?_;rintro e w' ⟨rfl,rfl⟩;go_wp2_with fail;refine (HE.o _ HR.o).mono ?_;rintro e w' ⟨rfl,rfl⟩;go_wp2_with fail;refine HU.o.mono ?_;rintro e w' ⟨rfl,rfl⟩;go_wp2;go_returns;exact ⟨rfl,rfl⟩
theorem ZBn (h:Ar w A F L T c){kb now:Nat}{an:Nat->Nat}(hk:CkB w A kb now an)(hn:1<=now/\now<=2147483647)(hc:c 560=7309464666214760448+now)(hL:4480 < 64 * L){t:Nat}(ht:t < 8):
 Calls prog 33 #[.pointer (some ⟨kb,0,none⟩),.int .i64 t] w fun e w'=>e=.returned (.tuple #[.pointer (some ⟨A.t t,0,none⟩),.int .u64 now,.int .i64 0])/\w=w':=by
 have HT:=zh (fun w1 hb=>Vc h ht w1 hb);have HE:=zh (fun w1 hb=>Zq h ht w1 hb);have HP:=zh (QD h hk hn hc hL ht);have HR:=zh (Below.refl w.heap.size w);obtain ⟨c0,c1,c2⟩:=hk.three;have d1:decide ((t:Int) < 0)=false:=by simp
 have d2:decide ((t:Int)>=8)=false:=by simp;omega
 have d3:(t:Int) < 8:=by omega
 clear h hk hn hc ht;go_in;go_wp2_with fail;refine (HT.o _ HR.o).mono ?_;rintro e w' ⟨rfl,rfl⟩;go_wp2_with fail;refine (HE.o _ HR.o).mono ?_;rintro e w' ⟨rfl,rfl⟩;go_wp2_with fail;refine HP.o.mono ?_;rintro e w' ⟨rfl,rfl⟩;go_wp2;go_returns;exact ⟨rfl,rfl⟩
end
end Go.Proofs.YteomliechfdhhaaGreatDoor.Dv
