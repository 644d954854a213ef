/- Part 20. -/
import Derived.Test.YtbpeehmepehkdaaGreatDoorY19
set_option maxHeartbeats 8000000
set_option maxRecDepth 20000
set_option linter.all false
namespace Go.Proofs.YtbpeehmepehkdaaGreatDoor.Dv
open Tryz
section
open Go.RowKit Go.Proofs.YtbpeehmepehkdaaGreatDoor.Size
variable {w w':World}{A:DAd}{F F':Nat->Option ZM}{L:Nat}{T c c':Nat->Nat}{x x':Nat}{H:HAd}{lk:Bool}{p p':Nat->Plc}{ex:Nat}{res held:Nat->Option Nat}{ch:Nat->Chk}
theorem ZKp (h:Ar w A F L T c){i:Nat}(hi:i < 8)(w1:World)(hb:Bl w w1):
 Calls prog 87 #[.pointer (some ⟨A.t i,0,none⟩)] w1 fun r w'=>r=.returned (.int .i64 i)/\w1=w':=by
 obtain ⟨s,h1,h2,rfl⟩:=(h.below hb).dev;have c1:w1.cell? ⟨A.t i,1,none⟩=some (.int .i64 i):=(h1.thr i hi).cell 1 (by omega);clear h hb h1 h2;go_in;go_wp2;go_returns;exact ⟨rfl,rfl⟩
structure DrW (w:World)(A:DAd)(F:Nat->Option ZM)(H:HAd)(t db lb off size:Nat):Prop where
 dr:w.heap[db]?=some (.cells #[.pointer (some ⟨H.hb,0,none⟩),.pointer (some ⟨A.t t,0,none⟩),.pointer (some ⟨lb,0,none⟩)] 119 (0,0))
 lg:Lg w lb A t off size
 t:t < 8
 fd:F db=none/\¬ H.own db
 fl:F lb=none/\¬ H.own lb
theorem DrW.below {t db lb off size:Nat}(h:DrW w A F H t db lb off size)(hb:Bl w w'):DrW w' A F H t db lb off size:=
 ⟨(hb.block _ (heap_lt h.dr)).trans h.dr,h.lg.below hb,h.t,h.fd,h.fl⟩
theorem DrW.moved {t db lb off size:Nat}(h:DrW w A F H t db lb off size)(hm:HMv F F' H w w'):DrW w' A F' H t db lb off size:=by
 have h1:=heap_lt h.dr;have h2:=heap_lt h.lg;refine ⟨(hm.only.block _ h1 ?_).trans h.dr,(hm.only.block _ h2 ?_).trans h.lg,h.t,⟨?_,h.fd.2⟩,⟨?_,h.fl.2⟩⟩
 ·rintro (q|q)
  ·exact q h.fd.1
  ·exact h.fd.2 q
 ·rintro (q|q)
  ·exact q h.fl.1
  ·exact h.fl.2 q
 ·rw [hm.same _ h1];exact h.fd.1
 ·rw [hm.same _ h2];exact h.fl.1
theorem UQ (h:HW w A F L T c x H false p ex res held) {t db lb off size:Nat} (hd:DrW w A F H t db lb off size) {n kind P:Nat} (hn:1<=n/\n<=60) (hkd:1<=kind/\kind<=127) {Q:World->Prop} (hQ:∀ w1,Q w1->∃ F',HMv F F' H w w1)
 (hr:∀ w1,Bl w w1->Calls prog 88 #[.pointer (some ⟨H.hb,0,none⟩),.int .i64 t,.int .i64 n,.int .u8 kind] w1 fun e w'=>e=.returned (.tuple #[.int .u64 P,.int .i64 0])/\Q w'):
 Calls prog 36 #[.pointer (some ⟨db,0,none⟩),.int .i64 n,.int .u8 kind] w fun e w'=>e=.returned (.tuple #[.int .u64 P,.int .i64 0])/\Q w':=by
 have HAR:=zh (fun w1=>Vj (w:=w1) hd.t hn hkd);have HER:=zh (fun w1 hb=>Zs h.ar hd.t w1 hb);have HER2:=zh (fun w1 hb=>Zs h.ar h.hp.t w1 hb);have HID:=zh (fun w1 hb=>ZKp h.ar hd.t w1 hb);obtain ⟨q0,q1,q2,q3,q4,q5,q6,q7,_⟩:=Z5 h.hp.hp;obtain ⟨c0,c1,c2,_⟩:=ZY hd.dr;have HKP:=zh (fun (w1:World) (hb:Bl w w1)=>(show w1.cell? ⟨db,0,none⟩=some (.pointer (some ⟨H.hb,0,none⟩))/\w1.cell? ⟨db,1,none⟩=some (.pointer (some ⟨A.t t,0,none⟩)) from ⟨(ZY (hd.below hb).dr).1,(ZY (hd.below hb).dr).2.1⟩));have HKQ:=zh (fun (w1:World) (hq:Q w1)=>(show w1.cell? ⟨db,0,none⟩=some (.pointer (some ⟨H.hb,0,none⟩))/\w1.cell? ⟨db,1,none⟩=some (.pointer (some ⟨A.t t,0,none⟩)) from by
  obtain ⟨F',hm⟩:=hQ w1 hq;exact ⟨(ZY (hd.moved hm).dr).1,(ZY (hd.moved hm).dr).2.1⟩))
 have HRS:=zh hr;have HR1:=zh (Below.refl w.heap.size w);obtain ⟨ti,hti⟩:=xE H.t;rw [<-hti] at HER2 q0;clear h hd hn hkd hQ hr hti;go_in;go_wp2_with fail;refine (HID.o _ HR1.o).mono ?_;rintro e w' ⟨rfl,rfl⟩;go_wp2_with fail;refine (HAR.o _).mono ?_;rintro e w' ⟨rfl,rfl⟩;go_wp2_with fail;refine (HER.o _ HR1.o).mono ?_;rintro e w' ⟨rfl,rfl⟩;go_wp2_with fail;refine (HER2.o _ HR1.o).mono ?_;rintro e w' ⟨rfl,rfl⟩;go_upto_region 14 with fail
 go_region_held3 (fun w'=>w'.cell? ⟨db,0,none⟩=some (.pointer (some ⟨H.hb,0,none⟩))/\w'.cell? ⟨db,1,none⟩=some (.pointer (some ⟨A.t t,0,none⟩)))
  (first|exact HKQ.o _ hq|exact HKP.o _ (by repeat (with_reducible first|assumption|exact HR1.o|apply ZA|apply ZB)))
  (first
    |(go_at_call 87;refine (HID.o _ (by repeat (with_reducible first|assumption|exact HR1.o|apply ZA|apply ZB))).mono ?_;rintro e V1 ⟨rfl,rfl⟩)
    |(go_at_call 88;refine (HRS.o _ (by repeat (with_reducible first|assumption|exact HR1.o|apply ZA|apply ZB))).mono ?_;rintro e V1 ⟨rfl,hq⟩))
 all_goals
  go_wp2;go_returns;exact ⟨rfl,hq⟩
theorem ZJk {g:Option Addr}{n c:Nat}(hn:n<=c)(ty:TypeId)(w:World):(Builtin.append_ #[56,56] ty #[.slice g n c,.slice none 0 0]).run prog w=.ok (.slice g n c) w:=by
 have hu:=underlying56;obtain ⟨i,z,hi,hz,hsz,hby,hzs⟩:=elWrites.ex;cases g <;> simp [Builtin.append_,run_underlying hu,sizeOf,typeInfo,hi,Builtin.lenOf,Builtin.firstCells,loadCells,loadCellsFrom,hn,storeCells]
variable {A:DAd}{F F':Nat->Option ZM}{L:Nat}{T c c':Nat->Nat}{x x':Nat}{H:HAd}{lk:Bool}{p p':Nat->Plc}{ex ex':Nat}{res held res' held':Nat->Option Nat}{ch:Nat->Chk}
theorem VX {P:Program} {ops:Array Oper} {o:Oper} {a:Act} {K:Act->World->Prop} {Q:Exit->Act->World->Prop} {B:Prop} {W w':World} {t:TypeId} (hgd:o.guard=none) (s x:Operand)
 (ho:o.op=.call {callee:=.builtin .append,args:=#[s,x],argTypes:=#[t,t]}) {v xv v':Value} (hs:a.eval s=v) (hx:a.eval x=xv) (hrun:∀ ty,(Builtin.append_ #[t,t] ty #[v,xv]).run P W=.ok v' w')
 (h:K (a.put o.dst v') w'):if Region.wanted o (yielded ops a.tmps)=true then Oper.wp P o a W K Q else B:=by
 have hw:Region.wanted o (yielded ops a.tmps)=true:=by simp [Region.wanted,hgd]
 rw [ZLX hw];have hr:=hrun o.type;unfold Oper.wp;simp [execOp,ho,resolve,invoke,builtin,hs,hx,hr,Result.andThen];exact h
def AcP (w:World)(la:List (Nat×Nat))(e:Ending)(w':World):Prop:=∃ av,e=.returned (.tuple #[av,.int .i64 0])/\Wrt w' w.heap.size av la/\(la=[]->av=.slice none 0 0)/\Bl w w'
theorem ZFO {w2:World}{v av:Value}{lw la:List (Nat×Nat)}(hv:Wrs w2 v lw)(h1:1<=lw.length)(hn:lw.length+la.length<=1000){B:Nat}(ha:Wrt w2 B av la)(ha0:la=[]->av=.slice none 0 0)(W:World)(hb:Bl w2 W):
 Calls prog 57 #[v] W fun e w'=>∃ r,e=.returned r/\Bl w2 w'/\∃ r2 w8,(∀ ty,(Builtin.append_ #[56,56] ty #[r,av]).run prog w'=.ok r2 w8)/\Hd (Wrs w8 r2 (lw++la)/\Bl w2 w8):=by
 refine (ZAa (hv.below hb) h1 (by omega)).mono ?_;rintro e w' ⟨r,rfl,hw,hb2⟩;have hbe:Bl w2 w':=hb.trans (hb2.mono hb.size);refine ⟨r,rfl,hbe,?_⟩
 by_cases h0:la=[]
 ·subst h0
  rw [ha0 rfl];obtain ⟨g,cap,rfl,hs,hg⟩:=Zb hw h1;have hnc:lw.length<=cap:=by
   rcases hw.2 with ⟨e,_⟩|⟨g',cap',cur,e,_,_,hc,_⟩
   ·cases e
   ·cases e;exact hc
  exact ⟨_,_,fun ty=>ZJk hnc ty w',zh ⟨by rw [List.append_nil];exact UC hw,hbe⟩⟩
 ·have h2:1<=la.length:=List.length_pos_iff.2 h0
  obtain ⟨g,cap,rfl,hs,hg⟩:=Zb (ha.below hbe) h2;obtain ⟨g2,c2,w8,hrun,how,hgr,_⟩:=Zo elWrites hw ⟨g,0,none⟩ la.length cap (ZT la) (VT la) (fun j u hj=>by rw [Addr.add_lit];exact hs j u hj) (VU la) h2 (by unfold maxLen;omega) (by omega) hb2.size;refine ⟨_,w8,hrun,zh ⟨?_,?_⟩⟩
  ·have e1:ZT lw++ZT la=ZT (lw++la):=by simp [ZT]
   rw [e1] at how;refine UC (B:=W.heap.size) (show Wrt w8 W.heap.size _ (lw++la) from ?_);unfold Wrt;rw [ZLc];exact how
  ·obtain ⟨g3,cap3,rfl,_,hg3⟩:=Zb hw h1
   exact hbe.grown hgr hbe.size (fun k hk=>by have:g3=k:=ZLd hk;have:=hb.size;omega)
theorem VE (h:HW w A F L T c x H false p ex res held) {t db lb off size:Nat} (hd:DrW w A F H t db lb off size) (hoff:off % 8=0/\off+size<=64 * L) (hsz:size < 1000000) (hz:c (off / 8)=0) {v tv dv:Value} {lw la:List (Nat×Nat)} (hv:Wrs w v lw) (h1:1<=lw.length) (h96:(lw++la).length<=96) (hs:64+16 * (lw++la).length<=size) (hok:UP L off size (lw++la)) (hx1:x+6 * (lw++la).length+8<=x') (hx:x'<=1000000)
 (hact:∀ w1,Bl w w1->Calls prog 97 #[.pointer (some ⟨H.hb,0,none⟩),tv,dv] w1 (AcP w1 la))
 (hset:∀ F1 w1,HW w1 A F1 L T (wrs c (cmL off (cmV T (lw++la)) (lw++la)).flatten) x' H false p ex res held->HMv F F1 H w w1->Calls prog 99 #[.pointer (some ⟨H.hb,0,none⟩),tv,dv] w1 fun e w'=>e=.returned (.tuple #[])/\HW w' A F1 L T (wrs c (cmL off (cmV T (lw++la)) (lw++la)).flatten) x' H false p' ex' res' held'/\HMv F1 F1 H w1 w'):
 Calls prog 38 #[.pointer (some ⟨db,0,none⟩),v,tv,dv] w fun e w'=>e=.returned (.int .i64 0)/\ClP w A F L T (wrs c (cmL off (cmV T (lw++la)) (lw++la)).flatten) x' H false p' ex' res' held' w':=by
 have hll:(lw++la).length=lw.length+la.length:=ZLc;have hlen:lw.length+la.length<=1000:=by omega
 have hokw:UP L off size lw:=by
  refine ⟨?_,fun q hq=>hok.2 q (ZLZ.2 (.inl hq))⟩;have:=hok.1;rw [ZLs] at this;exact (ZL3.1 this).1
 have HPL:=zh (ZA1 h.ar hd.t hd.lg ⟨hoff.1,by omega⟩ hsz hz hv h1 (by omega) hokw);have HER:=zh (fun w1 hb=>Zs h.ar hd.t w1 hb);have HACT:=zh hact;have HCL:=zh (fun (w2:World) (hb:Bl w w2) (av:Value) (B:Nat) (ha:Wrt w2 B av la) (ha0:la=[]->av=.slice none 0 0)=>ZFO (hv.below hb) h1 hlen ha ha0);have HCM:=zh (fun (w1:World) (hb:Bl w w1) (r:Value) (hr:Wrs w1 r (lw++la))=>ZCR (x':=x') (h.below hb) hd.t (hd.lg.below hb) hoff hsz hz hr (by omega) h96 hs hok hx1 hx);have HSET:=zh hset;have HD:=zh hd;have HH:=zh h.hp;obtain ⟨l,hl⟩:=xE (lw++la);rw [<-hl] at HCM HSET;obtain ⟨C2,hC2⟩:=xE (wrs c (cmL off (cmV T l) l).flatten);rw [<-hC2] at HCM HSET;rw [<-hl,<-hC2];rw [<-hl] at HCL;obtain ⟨PG,hPG⟩:=xE (Ze (cmL off (cmV T lw) lw));rw [<-hPG] at HPL;obtain ⟨q0,q1,q2,q3,q4,q5,q6,q7,_⟩:=Z5 h.hp.hp;obtain ⟨c0,c1,c2,_⟩:=ZY hd.dr;have hsl:∃ a cap,v=.slice a lw.length cap:=by
  rcases hv with ⟨rfl,rfl⟩|⟨_,_,cap,rfl,_⟩
  ·exact ⟨none,0,rfl⟩
  ·exact ⟨_,cap,rfl⟩
 clear h hd hoff hsz hz hv h1 h96 hs hok hx1 hx hact hset hll hlen hokw hl hC2 hPG hsl;go_in;go_wp2_with fail;refine HPL.o.mono ?_;rintro e w1 ⟨r,rfl,_,hb⟩;have HB:=zh hb;clear hb HPL c0 c1 c2 q0 q1 q2 q3 q4 q5 q6 q7;obtain ⟨c0,c1,c2,_⟩:=ZY (HD.o.below HB.o).dr;obtain ⟨q0,q1,q2,q3,q4,q5,q6,q7,_⟩:=Z5 (HH.o.below HB.o).hp;go_wp2_with fail;refine (HER.o _ HB.o).mono ?_;rintro e w' ⟨rfl,rfl⟩;go_wp2_with fail;refine (HACT.o _ HB.o).mono ?_;rintro e w2 ⟨av,rfl,hav,hav0,hb⟩;have HB2:=zh (HB.o.trans (hb.mono HB.o.size));have HCL2:=zh (HCL.o _ HB2.o _ _ hav hav0);clear hb hav hav0 HCL HACT c0 c1 c2 q0 q1 q2 q3 q4 q5 q6 q7;have HKP:=zh (fun (w1:World) (hb:Bl w2 w1)=>(show w1.cell? ⟨db,2,none⟩=some (.pointer (some ⟨lb,0,none⟩)) from (ZY ((HD.o.below HB2.o).below hb).dr).2.2.1));have HKQ:=zh (fun (w1:World) (hq:ClP w A F L T C2 x' H false p ex res held w1)=>(show w1.cell? ⟨db,2,none⟩=some (.pointer (some ⟨lb,0,none⟩)) from by
  obtain ⟨F',_,hm⟩:=hq;exact (ZY (HD.o.moved hm).dr).2.2.1))
 have HCM2:=zh (fun (w3:World) (hb:Bl w2 w3) (r:Value) (hr:Wrs w3 r l)=>(HCM.o w3 (HB2.o.trans (hb.mono HB2.o.size)) r hr).mono (R':=fun e w'=>e=.returned (.int .i64 0)/\ClP w A F L T C2 x' H false p ex res held w') (by
  rintro e w' ⟨h1,F',h2,h3⟩;exact ⟨h1,F',h2,(HMv.of_below (F:=F) (H:=H) (HB2.o.trans (hb.mono HB2.o.size))).trans h3⟩))
 have HR1:=zh (Below.refl w2.heap.size w2);go_upto_region 14 with fail
 go_region_held3 (fun w'=>w'.cell? ⟨db,2,none⟩=some (.pointer (some ⟨lb,0,none⟩)))
  (first|exact HKQ.o _ hq|exact HKP.o _ hinf.o.2|exact HKP.o _ (by repeat (with_reducible first|assumption|exact HR1.o|apply ZA|apply ZB)))
  (first
    |(go_at_call 57;refine (HCL2.o _ (by repeat (with_reducible first|assumption|exact HR1.o|apply ZA|apply ZB))).mono ?_;rintro e V1 ⟨r1,rfl,hbv,r2,w8,hput,hinf⟩)
    |(refine VX rfl (Operand.tmp 62) (Operand.tmp 63) rfl rfl rfl hput ?_)
    |(go_at_call 98;refine (HCM2.o _ hinf.o.2 _ hinf.o.1).mono ?_;rintro e V1 ⟨rfl,hq⟩))
 all_goals
  obtain ⟨F3,hw3,hm3⟩:=hq;have HSE:=zh (HSET.o F3 _ hw3 hm3);have HM3:=zh hm3;obtain ⟨c0,c1,c2,_⟩:=ZY (HD.o.moved hm3).dr;clear hw3 hm3 HSET HKP HKQ HCM2 HCM HCL2;go_wp2_with fail;refine HSE.o.mono ?_;rintro e w9 ⟨rfl,hw4,hm4⟩;have HE:=zh (show ClP w A F L T C2 x' H false p' ex' res' held' w9 from ⟨F3,hw4,HM3.o.trans hm4⟩);clear hw4 hm4 HSE;go_wp2;go_returns;exact ⟨rfl,HE.o⟩
variable {t db lb off size:Nat}
theorem Vf (h:Ar w A F L T c)(hd:DrW w A F H t db lb off size):
 Calls prog 346 #[.pointer (some ⟨db,0,none⟩)] w fun e w'=>e=.returned (.int .i64 0)/\w=w':=by
 have HER:=zh (fun w1 hb=>Zs h hd.t w1 hb);have HR:=zh (Below.refl w.heap.size w);obtain ⟨c0,c1,c2,_⟩:=ZY hd.dr;clear h hd;go_in;go_wp2_with fail;refine (HER.o _ HR.o).mono ?_;rintro e w' ⟨rfl,rfl⟩;go_wp2;go_returns;exact ⟨rfl,rfl⟩
theorem ZFa (h:Ar w A F L T c)(hd:DrW w A F H t db lb off size):
 Calls prog 349 #[.pointer (some ⟨db,0,none⟩)] w fun e w'=>e=.returned (.int .u64 (L * 64:Nat))/\w=w':=by
 have HER:=zh (fun w1 hb=>Xp h hd.t w1 hb);have HR:=zh (Below.refl w.heap.size w);obtain ⟨c0,c1,c2,_⟩:=ZY hd.dr;clear h hd;go_in;go_wp2_with fail;refine (HER.o _ HR.o).mono ?_;rintro e w' ⟨rfl,rfl⟩;go_wp2;go_returns;exact ⟨rfl,rfl⟩
theorem JH (h:Ar w A F L T c)(hd:DrW w A F H t db lb off size){o:Nat}(h8:o % 8=0)(hL:o < 64 * L):
 Calls prog 18 #[.pointer (some ⟨db,0,none⟩),.int .u64 o] w fun e w'=>e=.returned (.int .u64 (c (o / 8)))/\w=w':=by
 have HER:=zh (fun w1 hb=>Y4 h hd.t w1 hb o h8 hL);have HR:=zh (Below.refl w.heap.size w);obtain ⟨c0,c1,c2,_⟩:=ZY hd.dr;clear h hd h8 hL;go_in;go_wp2_with fail;refine (HER.o _ HR.o).mono ?_;rintro e w' ⟨rfl,rfl⟩;go_wp2;go_returns;exact ⟨rfl,rfl⟩
theorem VC (hd:DrW w A F H t db lb off size) {P kd:Nat} {r:Int}
 (hc:Calls prog 51 #[.pointer (some ⟨H.hb,0,none⟩),.int .u64 P,.int .u8 kd] w fun e w'=>e=.returned (.int .i64 r)/\Bl w w'):
 Calls prog 16 #[.pointer (some ⟨db,0,none⟩),.int .u64 P,.int .u8 kd] w fun e w'=>e=.returned (.int .i64 r)/\Bl w w':=by
 have HC:=zh hc;obtain ⟨c0,c1,c2,_⟩:=ZY hd.dr;clear hd hc;go_in;go_wp2_with fail;refine HC.o.mono ?_;rintro e w' ⟨rfl,hb⟩;have HB:=zh hb;clear hb;go_wp2;go_returns;exact ⟨rfl,HB.o⟩
theorem ZJf (h:Ar w A F L T c)(w1:World)(hb:Bl w w1):
 Calls prog 49 #[.pointer (some ⟨A.d,0,none⟩)] w1 fun r w'=>r=.returned (.bool false)/\w1=w':=by
 obtain ⟨s,h1,h2,rfl⟩:=(h.below hb).dev;have c0:w1.cell? ⟨A.d,11,none⟩=some (.bool false):=by rw [h1.dev.cell 11 (by omega)];show some (Value.bool s.off)=_;rw [h2.off]
 clear h hb h1 h2;go_in;go_wp2;go_returns;exact ⟨rfl,rfl⟩
theorem Q4 (h:Ar w A F L T c){i:Nat}(hi:i < 8)(w1:World)(hb:Bl w w1):
 Calls prog 77 #[.pointer (some ⟨A.d,0,none⟩),.int .i64 i] w1 fun r w'=>r=.returned (.pointer (some ⟨A.t i,0,none⟩))/\w1=w':=by
 obtain ⟨s,h1,h2,rfl⟩:=(h.below hb).dev;exact Q5 h1 hi
def ckC (A:DAd)(now:Nat)(an:Nat->Nat):Array Value:=#[.pointer (some ⟨A.d,0,none⟩),.int .u64 (4480:Nat),.int .u64 now,.int .u64 (an 0),.int .u64 (an 1),.int .u64 (an 2),.int .u64 (an 3),.int .u64 (an 4),.int .u64 (an 5),.int .u64 (an 6),.int .u64 (an 7)]
def CkB (w:World)(A:DAd)(kb now:Nat)(an:Nat->Nat):Prop:=w.heap[kb]?=some (.cells (ckC A now an) 149 (0,0))
theorem CkB.below {kb now:Nat}{an:Nat->Nat}(h:CkB w A kb now an)(hb:Bl w w'):CkB w' A kb now an:=(hb.block _ (heap_lt h)).trans h
theorem CkB.three {kb now:Nat}{an:Nat->Nat}(h:CkB w A kb now an):w.cell? ⟨kb,0,none⟩=some (.pointer (some ⟨A.d,0,none⟩))/\w.cell? ⟨kb,1,none⟩=some (.int .u64 4480)/\w.cell? ⟨kb,2,none⟩=some (.int .u64 now):=⟨(ZD h).trans rfl,(ZD h).trans rfl,(ZD h).trans rfl⟩
theorem CkB.eight {kb now:Nat}{an:Nat->Nat}(h:CkB w A kb now an):w.cell? ⟨kb,3,none⟩=some (.int .u64 (an 0))/\w.cell? ⟨kb,4,none⟩=some (.int .u64 (an 1))/\w.cell? ⟨kb,5,none⟩=some (.int .u64 (an 2))/\w.cell? ⟨kb,6,none⟩=some (.int .u64 (an 3))/\w.cell? ⟨kb,7,none⟩=some (.int .u64 (an 4))/\w.cell? ⟨kb,8,none⟩=some (.int .u64 (an 5))/\w.cell? ⟨kb,9,none⟩=some (.int .u64 (an 6))/\w.cell? ⟨kb,10,none⟩=some (.int .u64 (an 7)):=by
 refine ⟨?_,?_,?_,?_,?_,?_,?_,?_⟩ <;> exact (ZD h).trans rfl
theorem CkB.at {kb now:Nat}{an:Nat->Nat}(h:CkB w A kb now an){t:Nat}(ht:t < 8):w.cell? ⟨kb,3+t,none⟩=some (.int .u64 (an t)):=by
 obtain ⟨c0,c1,c2,c3,c4,c5,c6,c7⟩:=h.eight;rcases (show t=0\/t=1\/t=2\/t=3\/t=4\/t=5\/t=6\/t=7 by omega) with rfl|rfl|rfl|rfl|rfl|rfl|rfl|rfl <;> assumption
theorem ZBN (h:Ar w A F L T c){kb now:Nat}{an:Nat->Nat}(hk:CkB w A kb now an):
 Calls prog 27 #[.pointer (some ⟨kb,0,none⟩)] w fun e w'=>e=.returned (.int .u64 now)/\w=w':=by
 have HO:=zh (fun w1 hb=>ZJf h w1 hb);have HR:=zh (Below.refl w.heap.size w);obtain ⟨c0,c1,c2⟩:=hk.three;clear h hk;go_in;go_wp2_with fail;refine (HO.o _ HR.o).mono ?_;rintro e w' ⟨rfl,rfl⟩;go_wp2;go_returns;exact ⟨rfl,rfl⟩
theorem ZJj {a:Nat}(h:a < 18446744073709551616):bits .and .u64 (a:Int) 4294967295=((a % 4294967296:Nat):Int):=by
 have e:=u64_and_nat a 4294967295 h (by omega);rw [show a &&& 4294967295=a % 4294967296 from Nat.and_two_pow_sub_one_eq_mod a 32] at e;exact e
theorem ZFL {n:Nat}(hn:1<=n/\n<=2147483647):
 Calls prog 229 #[.int .u64 ((7309464666214760448+n:Nat):Int)] w fun e w'=>e=.returned (.tuple #[.int .u64 n,.bool true])/\w=w':=by
 have e1:=ZJj (a:=7309464666214760448+n) (by omega);rw [show (7309464666214760448+n) % 4294967296=n by omega] at e1;obtain ⟨W,hW⟩:∃ W:Int,W=((7309464666214760448+n:Nat):Int):=⟨_,rfl⟩
 rw [<-hW] at e1;have e2:W / 4294967296=1701867363:=by omega
 have d1:decide ((n:Int) < 1)=false:=by simp;omega
 have d2:decide ((n:Int) > 2147483647)=false:=by simp;omega
 rw [<-hW];clear hW;go_in;go_wp2;go_returns;exact ⟨rfl,rfl⟩
theorem ZDj (h:Ar w A F L T c){kb now:Nat}{an:Nat->Nat}(hk:CkB w A kb now an)(hn:1<=now/\now<=2147483647)(hc:c 560=7309464666214760448+now)(hL:4480 < 64 * L){t:Nat}(ht:t < 8):
 Calls prog 164 #[.pointer (some ⟨kb,0,none⟩),.pointer (some ⟨A.t t,0,none⟩)] w fun e w'=>e=.returned (.tuple #[.int .u64 now,.int .i64 0])/\w=w':=by
 have HL:=zh (fun w1 hb=>Y4 h ht w1 hb 4480 (by omega) hL);rw [show 4480 / 8=560 by rfl,hc] at HL;have HE:=zh (fun w1 hb=>Zs h ht w1 hb);have HU:=zh (ZFL (w:=w) hn);have HR:=zh (Below.refl w.heap.size w);obtain ⟨W,hW⟩:∃ W:Nat,W=7309464666214760448+now:=⟨_,rfl⟩
 rw [<-hW] at HL HU;obtain ⟨c0,c1,c2⟩:=hk.three;clear h hk hn hc hW;go_in;go_wp2_with fail;refine (HL.o _ HR.o).mono ?_;rintro e w' ⟨rfl,rfl⟩;go_wp2_with fail;refine (HE.o _ HR.o).mono ?_;rintro e w' ⟨rfl,rfl⟩;go_wp2_with fail;refine HU.o.mono ?_;rintro e w' ⟨rfl,rfl⟩;go_wp2;go_returns;exact ⟨rfl,rfl⟩
theorem QU (h:Ar w A F L T c){kb now:Nat}{an:Nat->Nat}(hk:CkB w A kb now an)(hn:1<=now/\now<=2147483647)(hc:c 560=7309464666214760448+now)(hL:4480 < 64 * L){t:Nat}(ht:t < 8):
 Calls prog 102 #[.pointer (some ⟨kb,0,none⟩),.int .i64 t] w fun e w'=>e=.returned (.tuple #[.pointer (some ⟨A.t t,0,none⟩),.int .u64 now,.int .i64 0])/\w=w':=by
 have HT:=zh (fun w1 hb=>Q4 h ht w1 hb);have HE:=zh (fun w1 hb=>Zs h ht w1 hb);have HP:=zh (ZDj h hk hn hc hL ht);have HR:=zh (Below.refl w.heap.size w);obtain ⟨c0,c1,c2⟩:=hk.three;have d1:decide ((t:Int) < 0)=false:=by simp
 have d2:decide ((t:Int)>=8)=false:=by simp;omega
 have d3:(t:Int) < 8:=by omega
 clear h hk hn hc ht;go_in;go_wp2_with fail;refine (HT.o _ HR.o).mono ?_;rintro e w' ⟨rfl,rfl⟩;go_wp2_with fail;refine (HE.o _ HR.o).mono ?_;rintro e w' ⟨rfl,rfl⟩;go_wp2_with fail;refine HP.o.mono ?_;rintro e w' ⟨rfl,rfl⟩;go_wp2;go_returns;exact ⟨rfl,rfl⟩
structure Frn (F:Nat->Option ZM)(H:HAd)(b:Nat):Prop where
 f:F b=none
 o:¬ H.own b
 h:b≠H.hb/\b≠H.sb
 t:b≠1/\b≠0
theorem HMv.frn (h:HMv F F' H w w'){b:Nat}(hf:Frn F H b)(hb:b < w.heap.size):w'.heap[b]?=w.heap[b]?/\Frn F' H b:=by
 refine ⟨h.only.block b hb ?_,⟨by rw [h.same b hb];exact hf.f,hf.o,hf.h,hf.t⟩⟩;rintro (q|q)
 ·exact q hf.f
 ·exact hf.o q
theorem HW.only (h:HW w A F L T c x H lk p ex res held){G:Nat->Prop}(ho:Only G w w')(hG:∀ k,k < w.heap.size->G k->Frn F H k):HW w' A F L T c x H lk p ex res held:=by
 have hbl:∀ k,k < w.heap.size->¬ Frn F H k->w'.heap[k]?=w.heap[k]?:=fun k hk hn=>ho.block k hk fun q=>hn (hG k hk q)
 obtain ⟨s,h1,h2,h3,h4⟩:=h.aq.dev;refine ⟨h.aq.agree (fun k hk=>?_) ho.size,h.hp.agree (hbl _ (heap_lt h.hp.hp) fun q=>q.h.1 rfl),h.set.agree (hbl _ (heap_lt h.set.set) fun q=>q.h.2 rfl) (hbl _ h.set.row.lt fun q=>q.o (.inl rfl)),h.rm.kept (hbl _ h.rm.lt fun q=>q.o (.inr (.inl rfl))),h.vm.kept (hbl _ h.vm.lt fun q=>q.o (.inr (.inr rfl))),h.fh,h.fs,h.fo,h.rv,h.hn,h.nt⟩;rcases hk with hk|rfl|rfl
 ·exact hbl k (h1.lt k hk) fun q=>hk q.f
 ·exact hbl _ h.aq.nib.lt fun q=>q.t.1 rfl
 ·exact hbl _ h.aq.tab.lt fun q=>q.t.2 rfl
theorem DrW.only {t db lb off size:Nat}(h:DrW w A F H t db lb off size){G:Nat->Prop}(ho:Only G w w')(h1:¬ G db)(h2:¬ G lb):DrW w' A F H t db lb off size:=
 ⟨(ho.block _ (heap_lt h.dr) h1).trans h.dr,(ho.block _ (heap_lt h.lg) h2).trans h.lg,h.t,h.fd,h.fl⟩
structure Sup where
 V:Nat
 L:Nat
 R:Nat
 U:Nat
 D:Nat
 Q:Nat
 T:Nat
 G:Nat
def Sup.val (s:Sup):Value:=.agg #[.int .i64 s.V,.int .i64 s.L,.int .i64 s.R,.int .i64 s.U,.int .i64 s.D,.int .i64 s.Q,.int .i64 s.T,.int .u64 s.G]
def Sup.hl (s:Sup):Nat:=11+s.R+s.U+s.D+s.Q+s.T
def Sup.heap (s:Sup):Nat:=(s.L - s.hl) / 32 * 32
structure Sup.Ok (s:Sup):Prop where
 v:1<=s.V/\s.V<=65535
 l:s.L<=4096
 r:1<=s.R/\1<=s.U/\1<=s.D
 h:s.hl+32<=s.L
 g:s.G < 18446744073709551616
theorem ZA4 {w:World}{s:Sup}(h:s.Ok):Calls prog 125 #[s.val] w fun e w'=>e=.returned (.int .i64 (s.heap:Nat))/\Bl w w':=by
 obtain ⟨V,L,R,U,D,Q,T,G⟩:=s;have hh:=h.h;have hl:=h.l;unfold Sup.heap Sup.val Sup.hl at *;dsimp only at *;clear h;have b1:(L:Int)<=4096:=by omega
 have b2:(R:Int)<=4096:=by omega
 have b3:(U:Int)<=4096:=by omega
 have b4:(D:Int)<=4096:=by omega
 have b5:(Q:Int)<=4096:=by omega
 have b6:(T:Int)<=4096:=by omega
 have e:(((L - (11+R+U+D+Q+T)) / 32 * 32:Nat):Int)=((L:Int) - 2 - 8 - R - U - D - 1 - Q - T) - ((L:Int) - 2 - 8 - R - U - D - 1 - Q - T) % 32:=by omega
 rw [e];have d1:decide ((L:Int) - 2 - 8 - R - U - D - 1 - Q - T < 32)=false:=ZLh (by omega);have d2:¬ ((L:Int) - 2 - 8 - R - U - D - 1 - Q - T < 32):=by omega
 have d3:0<=(L:Int) - 2 - 8 - R - U - D - 1 - Q - T:=by omega
 clear e hh hl;go_in;go_wp2;go_returns;exact ⟨rfl,ZA bR⟩
def mx (x y:Int):Int:=if y > x then y else x
theorem ZC3 {P:Program}(ts:Array TypeId)(t:TypeId)(w:World)(a b c d e:Int):(Builtin.max_ ts t #[.int .i64 a,.int .i64 b,.int .i64 c,.int .i64 d,.int .i64 e]).run P w=.ok (.int .i64 (mx (mx (mx (mx a b) c) d) e)) w:=by
 simp [Builtin.max_,Builtin.max2,mx]
theorem VS {w:World}{s:Sup}(h:s.Ok):Calls prog 75 #[s.val] w fun e w'=>e=.returned (.bool true)/\Bl w w':=by
 have HH:=zh (fun (w1:World)=>ZA4 (w:=w1) h);have hge:32<=s.heap:=by have:=h.h;unfold Sup.heap;omega
 obtain ⟨k,hk⟩:=xE s.heap;rw [<-hk] at HH hge;obtain ⟨V,L,R,U,D,Q,T,G⟩:=s;have hh:=h.h;have hl:=h.l;have hr:=h.r;have hv:=h.v;unfold Sup.val Sup.hl at *;dsimp only at *;clear h hk;have b0:(32:Int)<=k:=by omega
 have b1:(L:Int)<=4096:=by omega
 have a0:(1:Int)<=V:=by omega
 have a1:(V:Int)<=65535:=by omega
 have a2:(1:Int)<=L:=by omega
 have m1:¬ (min (min (R:Int) U) D < 1):=by omega
 have m2:¬ (min (Q:Int) T < 0):=by omega
 have hmx:=fun (ts:Array TypeId) (t:TypeId) (w:World)=>ZC3 (P:=prog) ts t w R U D Q T
 obtain ⟨M,hM⟩:=xE (mx (mx (mx (mx (R:Int) U) D) Q) T);have m3:M<=L:=by rw [hM];unfold mx;omega
 rw [<-hM] at hmx;clear hh hl hr hv hge hM;go_in;go_wp2_with fail
 all_goals
  refine (HH.o _).mono ?_;rintro e w1 ⟨rfl,hb⟩;have HB:=zh ((ZA (Below.refl _ w)).trans (hb.mono (by simp)));clear hb;go_wp2;go_returns;exact ⟨rfl,HB.o⟩
theorem ZFv {w:World}{A:DAd}{s:DSt}{F:Nat->Option ZM}(h:Dev w A s F){i:Nat}(hi:i < 8):
 Calls prog 202 #[Xv (A.t i)] w fun e w'=>e=.returned (.int .u64 (s.L:Nat))/\w=w':=by
 have HS:=zh (ZA9 h hi);have hL:=h.ok.lines;have e1:((s.L * 64:Nat):Int) / 64=(s.L:Int):=by omega
 obtain ⟨M,hM⟩:∃ M:Int,M=((s.L * 64:Nat):Int):=⟨_,rfl⟩
 rw [<-hM] at HS e1;have b1:0<=M:=by omega
 have b2:M < 18446744073709551616:=by omega
 clear h hM;unfold Xv ptr at *;rw [<-e1];clear e1;go_in;go_wp2_with fail;refine HS.o.mono ?_;rintro e w' ⟨rfl,rfl⟩;go_wp2;go_returns;exact ⟨rfl,rfl⟩
def Sup.sizes (s:Sup):List Nat:=[2,8,s.R,s.U,s.D,1,s.Q,s.T,s.heap]
def Sup.at (s:Sup)(r:Nat):Nat:=(s.sizes.take r).sum
theorem Sup.at_succ (s:Sup){r:Nat}(h:r < 9):s.at (r+1)=s.at r+s.sizes.getD r 0:=by
 have hl:r < s.sizes.length:=h;unfold Sup.at
 rw [List.take_add_one,ZLg hl,List.sum_append];simp [List.getD,hl]
def SupAt (w:World)(b:Nat)(s:Sup):Prop:=w.cell? ⟨b,0,none⟩=some (.int .i64 s.V)/\w.cell? ⟨b,1,none⟩=some (.int .i64 s.L)/\w.cell? ⟨b,2,none⟩=some (.int .i64 s.R)/\w.cell? ⟨b,3,none⟩=some (.int .i64 s.U)/\w.cell? ⟨b,4,none⟩=some (.int .i64 s.D)/\
 w.cell? ⟨b,5,none⟩=some (.int .i64 s.Q)/\w.cell? ⟨b,6,none⟩=some (.int .i64 s.T)/\w.cell? ⟨b,7,none⟩=some (.int .u64 s.G)
theorem SupAt.below {a w:World}{b:Nat}{s:Sup}(h:SupAt a b s)(hb:Bl a w):SupAt w b s:=by
 have hl:=ZLf _ _ h.1;have k:∀ i u,a.cell? ⟨b,i,none⟩=some u->w.cell? ⟨b,i,none⟩=some u:=fun i u hu=>(hb.cell (show (Addr.mk b i none).block < _ from hl)).trans hu
 exact ⟨k _ _ h.1,k _ _ h.2.1,k _ _ h.2.2.1,k _ _ h.2.2.2.1,k _ _ h.2.2.2.2.1,k _ _ h.2.2.2.2.2.1,k _ _ h.2.2.2.2.2.2.1,k _ _ h.2.2.2.2.2.2.2⟩
theorem SupAt.new (w:World)(s:Sup):SupAt (w.alloc (.cells #[.int .i64 s.V,.int .i64 s.L,.int .i64 s.R,.int .i64 s.U,.int .i64 s.D,.int .i64 s.Q,.int .i64 s.T,.int .u64 s.G] 106)) w.heap.size s:=by
 have k:∀ i u,(#[.int .i64 s.V,.int .i64 s.L,.int .i64 s.R,.int .i64 s.U,.int .i64 s.D,.int .i64 s.Q,.int .i64 s.T,.int .u64 s.G]:Array Value)[i]?=some u->(w.alloc (.cells #[.int .i64 s.V,.int .i64 s.L,.int .i64 s.R,.int .i64 s.U,.int .i64 s.D,.int .i64 s.Q,.int .i64 s.T,.int .u64 s.G] 106)).cell? ⟨w.heap.size,i,none⟩=some u:=fun i u hk=>(ZD (ZC w _)).trans hk
 exact ⟨k _ _ rfl,k _ _ rfl,k _ _ rfl,k _ _ rfl,k _ _ rfl,k _ _ rfl,k _ _ rfl,k _ _ rfl⟩
theorem ZA8 (w:World)(c:Array Value)(e:TypeId):(w.alloc (.cells c e)).there w.heap.size 0 c.size:=fun j hj=>by
 have hn:=ZC w (.cells c e);refine ⟨?_,ZH hn⟩;rw [ZLu,ZD hn,ZL8 hj];rfl
theorem ZEU {w w':World}{b o n:Nat}(h:w.there b o n)(hl:ZGn w w')(hb:b < w.heap.size):w'.there b o n:=fun j hj=>by
 rw [hl.1 b _ hb,hl.2.1 b _ hb];exact h j hj
theorem Jw {w:World}{b:Nat}{s:Sup}(h:w.there b 0 9):∀ k,k < 9->(w.setCells b 0 [.int .i64 2,.int .i64 8,.int .i64 (s.R:Int),.int .i64 (s.U:Int),.int .i64 (s.D:Int),.int .i64 1,.int .i64 (s.Q:Int),.int .i64 (s.T:Int),.int .i64 (s.heap:Int)]).cell? ⟨b,k,none⟩=some (.int .i64 (s.sizes.getD k 0:Nat)):=by
 have e:∀ k,k < 9->([.int .i64 2,.int .i64 8,.int .i64 (s.R:Int),.int .i64 (s.U:Int),.int .i64 (s.D:Int),.int .i64 1,.int .i64 (s.Q:Int),.int .i64 (s.T:Int),.int .i64 (s.heap:Int)]:List Value)[k]?=some (.int .i64 (s.sizes.getD k 0:Nat)):=by
  intro k hk;have hk9:k=0\/k=1\/k=2\/k=3\/k=4\/k=5\/k=6\/k=7\/k=8:=by omega
  rcases hk9 with rfl|rfl|rfl|rfl|rfl|rfl|rfl|rfl|rfl <;> rfl
 have hl:([.int .i64 2,.int .i64 8,.int .i64 (s.R:Int),.int .i64 (s.U:Int),.int .i64 (s.D:Int),.int .i64 1,.int .i64 (s.Q:Int),.int .i64 (s.T:Int),.int .i64 (s.heap:Int)]:List Value).length=9:=rfl;generalize ([.int .i64 2,.int .i64 8,.int .i64 (s.R:Int),.int .i64 (s.U:Int),.int .i64 (s.D:Int),.int .i64 1,.int .i64 (s.Q:Int),.int .i64 (s.T:Int),.int .i64 (s.heap:Int)]:List Value)=l at e hl ⊢;intro k hk;have hr:=World.rangeAt_setCells_same w b 0 l (by rw [hl];exact h) k _ (e k hk);rw [ZLu] at hr;exact hr
theorem Sup.Ok.at_le {s:Sup}(h:s.Ok){k:Nat}(hk:k<=9):s.at k<=4096:=by
 have h1:=h.l;have h2:=h.h;have h3:s.heap<=s.L - s.hl:=by unfold Sup.heap;omega
 have hk9:k=0\/k=1\/k=2\/k=3\/k=4\/k=5\/k=6\/k=7\/k=8\/k=9:=by omega
 unfold Sup.at Sup.sizes;unfold Sup.hl at h2 h3;rcases hk9 with rfl|rfl|rfl|rfl|rfl|rfl|rfl|rfl|rfl|rfl <;> simp <;> omega
def ZKf (w:World)(s:Sup)(v:Value)(wc:World):Prop:=∃ b,v=.pointer (some ⟨b,0,none⟩)/\Bl w wc/\w.heap.size<=b/\∀ k,k < 9->wc.cell? ⟨b,k,none⟩=some (.int .i64 (s.sizes.getD k 0:Nat))
theorem Vt {w:World}{s:Sup}(h:s.Ok){r:Nat}(hr:r < 9):Calls prog 127 #[s.val,.int .u8 (r+1:Nat)] w fun e w'=>e=.returned (.tuple #[.int .i64 (s.at r:Nat),.int .i64 (s.sizes.getD r 0:Nat),.int .i64 (0:Nat)])/\Bl w w':=by
 have HV:=zh (fun (w1:World)=>VS (w:=w1) h);have HH:=zh (fun (w1:World)=>ZA4 (w:=w1) h);have HO:=zh h;have er:((r+1:Nat):Int)=(r:Int)+1:=by omega
 rw [er];have b1:(r:Int) < 9:=by omega
 clear h er;unfold Sup.val at *;go_in;go_wp2_with fail;refine (HV.o _).mono ?_;rintro e w1 ⟨rfl,hb⟩;have hS:=(SupAt.new w s).below hb;have HS:=zh hS;have hbw:Bl w w1:=(ZA (Below.refl _ w)).trans (hb.mono (by simp));have HB:=zh hbw;have HB1:=zh (Below.refl w1.heap.size w1);have HHB:=zh (fun (w2:World) (hb2:Bl w1 w2)=>VA (HH.o w2) hb2);obtain ⟨c0,c1,c2,c3,c4,c5,c6,c7⟩:=id hS;have hone:∀ v∈([.int .i64 2,.int .i64 8,.int .i64 (s.R:Int),.int .i64 (s.U:Int),.int .i64 (s.D:Int),.int .i64 1,.int .i64 (s.Q:Int),.int .i64 (s.T:Int),.int .i64 (s.heap:Int)]:List Value),v.oneCell'=true:=by
  intro v hv;simp only [List.mem_cons,List.not_mem_nil,or_false] at hv;rcases hv with rfl|rfl|rfl|rfl|rfl|rfl|rfl|rfl|rfl <;> rfl
 have hinf:Option.map (fun x=>x.size) (prog.info? 322)=some ([.int .i64 2,.int .i64 8,.int .i64 (s.R:Int),.int .i64 (s.U:Int),.int .i64 (s.D:Int),.int .i64 1,.int .i64 (s.Q:Int),.int .i64 (s.T:Int),.int .i64 (s.heap:Int)]:List Value).length:=by kernel_rfl
 clear hb hS hbw;go_upto_region 3 with (fail)
 go_cut [7] (fun v wc=>ZKf w s v wc)
 case first=>
  go_region_held3 (fun w'=>w'.cell? ⟨w.heap.size,0,none⟩=some (.int .i64 s.V)/\w'.cell? ⟨w.heap.size,1,none⟩=some (.int .i64 s.L)/\w'.cell? ⟨w.heap.size,2,none⟩=some (.int .i64 s.R)/\w'.cell? ⟨w.heap.size,3,none⟩=some (.int .i64 s.U)/\w'.cell? ⟨w.heap.size,4,none⟩=some (.int .i64 s.D)/\w'.cell? ⟨w.heap.size,5,none⟩=some (.int .i64 s.Q)/\w'.cell? ⟨w.heap.size,6,none⟩=some (.int .i64 s.T)/\w'.cell? ⟨w.heap.size,7,none⟩=some (.int .u64 s.G))
   (exact SupAt.below HS.o (by repeat (first|with_reducible assumption|with_reducible exact HB1.o|with_reducible apply ZA|with_reducible apply ZB|with_reducible apply ZJ|with_reducible apply ZE|with_reducible exact nR|exact Below.size (by with_reducible assumption))))
   (first
     |(go_at_call 125;refine (HHB.o _ (by repeat (first|assumption|exact HB1.o|apply ZA|apply ZB))).mono ?_;rintro e V1 ⟨rfl,hb1,hl1⟩;have htA:(V1.alloc (.cells #[.int .i64 0,.int .i64 0,.int .i64 0,.int .i64 0,.int .i64 0,.int .i64 0,.int .i64 0,.int .i64 0,.int .i64 0] 322)).there V1.heap.size 0 ([.int .i64 2,.int .i64 8,.int .i64 (s.R:Int),.int .i64 (s.U:Int),.int .i64 (s.D:Int),.int .i64 1,.int .i64 (s.Q:Int),.int .i64 (s.T:Int),.int .i64 (s.heap:Int)]:List Value).length:=ZA8 V1 _ _;(try have htB:V1.there w1.heap.size 0 ([.int .i64 2,.int .i64 8,.int .i64 (s.R:Int),.int .i64 (s.U:Int),.int .i64 (s.D:Int),.int .i64 1,.int .i64 (s.Q:Int),.int .i64 (s.T:Int),.int .i64 (s.heap:Int)]:List Value).length:=ZEU (show (w1.drew.alloc (.cells #[.int .i64 0,.int .i64 0,.int .i64 0,.int .i64 0,.int .i64 0,.int .i64 0,.int .i64 0,.int .i64 0,.int .i64 0] 322)).there w1.heap.size 0 ([.int .i64 2,.int .i64 8,.int .i64 (s.R:Int),.int .i64 (s.U:Int),.int .i64 (s.D:Int),.int .i64 1,.int .i64 (s.Q:Int),.int .i64 (s.T:Int),.int .i64 (s.heap:Int)]:List Value).length from ZA8 w1.drew _ _) hl1 (by show w1.heap.size < (w1.heap.push _).size;simp));obtain ⟨hm1,hm2,hm3,HB2⟩:=hl1))
  ·go_wp2_with fail
   go_meet;have hb9:=ZJ [.int .i64 2,.int .i64 8,.int .i64 (s.R:Int),.int .i64 (s.U:Int),.int .i64 (s.D:Int),.int .i64 1,.int .i64 (s.Q:Int),.int .i64 (s.T:Int),.int .i64 (s.heap:Int)] (i:=0) (ZA (o:=.cells #[.int .i64 0,.int .i64 0,.int .i64 0,.int .i64 0,.int .i64 0,.int .i64 0,.int .i64 0,.int .i64 0,.int .i64 0] 322) hb1) hb1.size;exact ⟨V1.heap.size,rfl,HB.o.trans (hb9.mono HB.o.size),ZLi HB.o.size hb1.size,Jw htA⟩
  ·go_wp2_with fail
   go_meet;have hb9:=ZJ [.int .i64 2,.int .i64 8,.int .i64 (s.R:Int),.int .i64 (s.U:Int),.int .i64 (s.D:Int),.int .i64 1,.int .i64 (s.Q:Int),.int .i64 (s.T:Int),.int .i64 (s.heap:Int)] (b:=w1.heap.size) (i:=0) hb1 nR;exact ⟨w1.heap.size,rfl,HB.o.trans (hb9.mono HB.o.size),HB.o.size,Jw htB⟩
 case rest=>
  obtain ⟨b,rfl,hbc,hwb,hcells⟩:=hcut;have HBC:=zh hbc;have HCE:=zh hcells;have hal:prog.arrayLen 322=9:=by kernel_rfl
  have hsl:∀ W,(Instr.sliceAt 322 (.pointer (some ⟨b,0,none⟩)) none (some (.int .i64 (r:Int))) none).run prog W=.ok (.slice (some ⟨b,0,none⟩) r 9) W:=fun W=>by
   rw [run_sliceAt_array_h W 322 ⟨b,0,none⟩ (by simp [Program.arrayLen,Program.elem,underlying322]) .i64 (r:Int) (by omega) (by rw [hal];omega)];go_simp
  have HHO:=zh (fun k (hk:k<=9)=>HO.o.at_le hk);clear hbc hcells HS HB HB1 HHB c0 c1 c2 c3 c4 c5 c6 c7;go_wp2_with fail
  go_loop [4,10,41] (fun l _ i=>∃ k:Nat,k<=r/\i=.int .i64 (k:Nat)/\l=.int .i64 (s.at k:Nat)) (fun _ _ i=>r - (intOf i).toNat)
  case atStart=>exact ⟨0,by omega,rfl,rfl⟩
  case round=>
   obtain ⟨k,hk,rfl,rfl⟩:=hrel
   by_cases hlt:k < r
   ·have hlt2:(k:Int) < r:=by omega
    have ck:wc.cell? ⟨b,k,none⟩=some (.int .i64 (s.sizes.getD k 0:Nat)):=HCE.o k (by omega);have hat:=s.at_succ (r:=k) (by omega);have hle:=HHO.o (k+1) (by omega);obtain ⟨x,hx⟩:=xE (s.at k);obtain ⟨y,hy⟩:=xE (s.sizes.getD k 0);rw [<-hy] at ck;rw [<-hx] at hat ⊢;rw [hat,<-hy] at hle;have b2:(x:Int)+y<=4096:=by omega
    have HAT:=zh (hat.trans (by rw [<-hy]));clear hat hle hx hy;go_wp2_with fail;go_round
    case rel=>exact ⟨k+1,by omega,by go_num,by rw [HAT.o];go_num⟩
    case measure=>simp [intOf];omega
   ·obtain rfl:k=r:=by omega
    have ck:wc.cell? ⟨b,k,none⟩=some (.int .i64 (s.sizes.getD k 0:Nat)):=HCE.o k hr;go_wp2_with fail
    go_region
    all_goals
     go_wp2;go_returns;exact ⟨rfl,ZB HBC.o⟩
end
end Go.Proofs.YtbpeehmepehkdaaGreatDoor.Dv
