/- Part 33. -/
import Derived.Test.YteomliechfdhhaaGreatDoorY32
set_option maxHeartbeats 8000000
set_option maxRecDepth 20000
set_option linter.all false
namespace Go.Proofs.YteomliechfdhhaaGreatDoor.Dv
open Tryz
section
open Go.RowKit Go.Proofs.YteomliechfdhhaaGreatDoor.Size
variable {w w':World}{A:DAd}{F F':Nat->Option ZK}{T c c':Nat->Nat}{x x' L:Nat}
structure LdU (w0:World)(fn:Nat)(first cap:Array Value):Prop where
 call:∀ (args:Array Value) (w:World),(callFunc fn args).run prog w=.ok (.enter fn args) w
 get:∀ (w:World) (k:Nat),k < 2->Bl w0 w->Calls prog fn (first.push (.int .u64 (3968+256 * k:Nat))++cap) w fun e w'=>e=.returned (.int .u64 1836515329)/\w=w'
theorem LdU.below {fn:Nat}{first cap:Array Value}(h:LdU w fn first cap)(hb:Bl w w'):LdU w' fn first cap:=
 {h with get:=fun w1 k hk h1=>h.get w1 k hk (hb.trans (h1.mono hb.size))}
theorem ZGp {fn k:Nat}{first cap:Array Value}(hl:LdU w fn first cap)(hk:k < 2):
 Calls prog 238 #[.agg #[.int .i64 62,.int .i64 8,.int .u64 10240],.func (.func fn) first cap,.int .u64 (3968+256 * k:Nat)] w fun e w'=>e=.returned (.tuple #[.agg #[.int .u8 1,.slice none 0 0,.slice none 0 0],.bool true])/\Bl w w':=by
 have hcall:=hl.call;have HG:=zh (fun w' hb=>hl.get w' k hk hb);clear hl hk;go_in;go_wp2_with fail;refine (HG.o _ (ZA (ZA bR))).mono ?_;rintro e w' ⟨rfl,rfl⟩;go_wp2;go_returns;exact ⟨rfl,ZA (ZA bR)⟩
theorem ZHz:(prog.info? 355).map (fun i=>(i.zero,i.size,i.bytes))=some (some (.agg #[.int .u8 0,.slice none 0 0,.slice none 0 0]),3,56):=by kernel_rfl
theorem ZJA:El prog 345 355 3 56:=El.of underlying345 ZHz rfl (by omega)
def ZCw (n:Nat):List Value:=(List.range n).flatMap fun _=>[.int .u8 1,.slice none 0 0,.slice none 0 0]
theorem ZFq (n:Nat):ZCw (n+1)=ZCw n++[.int .u8 1,.slice none 0 0,.slice none 0 0]:=by unfold ZCw;rw [ZLN,List.flatMap_append];rfl
def MaR (W:World)(v i:Value)(wr:World):Prop:=
 ∃ m:Nat,m<=2/\i=.int .i64 (m:Nat)/\wr.ownsRow W.heap.size 355 3 v m (ZCw m)/\Bl W wr
theorem ZEM {fn:Nat}{first cap:Array Value}(hl:LdU w fn first cap):
 Calls prog 200 #[.agg #[.int .i64 62,.int .i64 8,.int .u64 10240],.func (.func fn) first cap] w fun e w'=>∃ v,e=.returned (.tuple #[v,.bool true])/\w'.ownsRow w.heap.size 355 3 v 2 (ZCw 2)/\Bl w w':=by
 have HL:=zh hl;clear hl;go_in;go_wp2_with fail;refine mcount_yes.mono ?_;rintro e W ⟨rfl,hbW⟩;have HH:=zh ((hbW.block w.heap.size (by simp)).trans (ZB _ _));have HBW:=zh ((ZA (Below.refl _ w)).trans (hbW.mono (by simp)));clear hbW;go_wp2_with fail
 go_loopw [6,12] (fun v i wr=>MaR W v i wr) (fun _ i _=>2 - (intOf i).toNat)
 case atStart=>exact ⟨0,by omega,rfl,ZLD _ _ _ _,bR⟩
 case round=>
  obtain ⟨m,hm,rfl,hown,hbel⟩:=hrel;have HB:=zh hbel;have HO:=zh hown;obtain ⟨ra,rc,hv⟩:=ZR hown;subst hv;clear hown hbel
  by_cases hlt:m < 2
  ·have d0:(m:Int) < 2:=by omega
   have HLw:=zh (HL.o.below (HBW.o.trans (HB.o.mono HBW.o.size)));have HAT:=zh (fun (wx:World) (hb:Bl wr wx)=>Xs (ZEN (w:=wx) hlt) hb);have HRD:=zh (fun (wx:World) (hb:Bl wr wx)=>Xs (ZGp (HLw.o.below hb) hlt) hb);have HK:=zh (fun (wx:World) (hb:Bl wr wx)=>(show wx.cell? ⟨w.heap.size,0,none⟩=some (.int .i64 62)/\wx.cell? ⟨w.heap.size,1,none⟩=some (.int .i64 8)/\wx.cell? ⟨w.heap.size,2,none⟩=some (.int .u64 10240) from by
    obtain ⟨a0,a1,a2,_⟩:=Zb (Yn HH.o (HB.o.trans (hb.mono HB.o.size)));exact ⟨a0,a1,a2⟩))
   have HB0:=zh (Below.refl wr.heap.size wr);obtain ⟨r0,r1,r2⟩:=HK.o wr HB0.o;clear hlt;go_upto_region 5 with fail
   go_cut [8,9] (fun p o wx=>∃ b,p=.pointer (some ⟨b,0,none⟩)/\o=.bool true/\wx.heap[b]?=some (.cells #[.int .u8 1,.slice none 0 0,.slice none 0 0] 355 (0,0))/\Bl wr wx)
   case first=>
    go_region_held3 (fun wx=>wx.cell? ⟨w.heap.size,0,none⟩=some (.int .i64 62)/\wx.cell? ⟨w.heap.size,1,none⟩=some (.int .i64 8)/\wx.cell? ⟨w.heap.size,2,none⟩=some (.int .u64 10240))
     (exact HK.o _ (by repeat (first|with_reducible assumption|with_reducible exact HB0.o|with_reducible apply ZA|with_reducible apply ZD|with_reducible apply ZE|with_reducible exact nR|exact Below.size (by with_reducible assumption))))
     (first
       |(go_at_call 149;refine (HAT.o _ (by repeat (with_reducible first|assumption|exact HB0.o|apply ZA|apply ZD))).mono ?_;rintro e V1 ⟨rfl,hb1,hm1,hm2,hm3,HB1⟩)
       |(go_at_call 238;refine (HRD.o _ (by repeat (with_reducible first|assumption|exact HB0.o|apply ZA|apply ZD))).mono ?_;rintro e V2 ⟨rfl,hb2,hl1,hl2,hl3,HBB⟩))
    ·go_wp2_with fail
     go_meet;exact ⟨_,rfl,rfl,ZB _ _,ZA hb2⟩
    ·go_wp2_with fail
     go_meet;have hblk:=(HBB.o.block V1.heap.size (by simp)).trans (ZB V1 _);exact ⟨_,rfl,rfl,(ZH (ZH (ZH hblk))).trans rfl,ZE (ZE (ZE hb2 hb1.size) hb1.size) hb1.size⟩
    ·go_wp2_with fail
     go_meet;have hz:=HB1.o.size;simp at hz;have hblk:=(HBB.o.block wr.heap.size hz).trans ((HB1.o.block wr.heap.size (by simp)).trans (ZB wr _));exact ⟨_,rfl,rfl,(ZH (ZH (ZH hblk))).trans rfl,ZE (ZE (ZE hb2 nR) nR) nR⟩
   case rest=>
    obtain ⟨b,rfl,rfl,hb,hbel⟩:=hcut;obtain ⟨c0,c1,c2,_⟩:=Zb hb;have HO2:=zh (ZQ HO.o hbel);have HB2:=zh (HB.o.trans (hbel.mono HB.o.size));clear hb hbel r0 r1 r2;go_wp2_with (at_builtin;refine ZT ZJA rfl _ _ rfl HO2.o rfl rfl ?c1 rfl ?c2 ?c3 ?c4 ?c5 ?_)
    case c1=>rfl
    case c2=>first|rfl|exact ⟨rfl,rfl⟩|simp
    case c3=>unfold maxLen;omega
    case c4=>omega
    case c5=>exact HB2.o.size
    intro g4 cap4 w5 hop5 hgr5 hg5
    have G:=zh (show MaR W (.slice (some ⟨g4,0,none⟩) (m+1) cap4) (.int .i64 ((m+1:Nat):Int)) w5 from ⟨m+1,by omega,rfl,by
     rw [ZFq];exact hop5,ZN HB2.o hgr5 HB2.o.size (fun b hb=>(HO2.o.lt b hb).1)⟩)
    clear hop5 hgr5 hg5;go_wp2_with fail;go_roundw
    case rel=>simpa using G.o
    case measure=>simp [intOf];omega
  ·obtain rfl:m=2:=by omega
   clear hlt hm;go_wp2;go_returns;exact ⟨_,rfl,HO.o.mono HBW.o.size,HBW.o.trans (HB.o.mono HBW.o.size)⟩
theorem ZGB (args:Array Value)(w:World):(callFunc 34 args).run prog w=.ok (.enter 34 args) w:=by kernel_rfl
theorem ZDd (h:Ar w A F 160 T c)(h0:c 496=1836515329)(h1:c 528=1836515329):LdU w 34 #[.pointer (some ⟨A.t 0,0,none⟩)] #[] where
 call:=ZGB
 get:=fun w1 k hk hb=>by
  have hl:=Yw h (i:=0) (by omega) w1 hb (3968+256 * k) (by omega) (by omega);have hc:c ((3968+256 * k) / 8)=1836515329:=by
   rcases (show k=0\/k=1 by omega) with rfl|rfl
   ·exact h0
   ·exact h1
  rw [hc] at hl;exact hl
def O1U (a i:Value):Prop:=∃ k:Nat,k<=8/\i=.int .u64 k/\a=.int .u64 ((1836515329 % 2 ^ (8 * k):Nat):Int)
theorem unB {f:Nat->Nat}{off:Nat}(h8:off % 8=0)(hf:f (off / 8)=1836515329)(k:Nat)(hk:k < 8):Zy f (off+k)=1836515329 / 2 ^ (8 * k) % 256:=by
 unfold Zy;rw [show (off+k) / 8=off / 8 by omega,show (off+k) % 8=k by omega,hf]
theorem ZGt {cb g off:Nat}{f:Nat->Nat}(hc:w.cell? ⟨cb,0,none⟩=some (.slice (some ⟨g,0,none⟩) 10240 10240))(hrow:Row w g 5 10240 (fun x=>.int .u8 (Zy f x)))(h8:off % 8=0)(ho:off+8<=10240)(hf:f (off / 8)=1836515329):
 Calls prog 199 #[.int .u64 off,.pointer (some ⟨cb,0,none⟩)] w fun e w'=>e=.returned (.int .u64 1836515329)/\w=w':=by
 have HC:=zh (fun (k:Nat) (hk:k < 8)=>show w.cell? ⟨g,off+k,none⟩=some (.int .u8 ((1836515329 / 2 ^ (8 * k) % 256:Nat):Int)) from by
  rw [hrow.cell _ (by omega),unB h8 hf k hk])
 have b1:(off:Int)+8<=10240:=by omega
 clear hrow h8 ho hf;go_in;go_wp2_with fail
 go_loop [4,5,6] (fun a _ i=>O1U a i) (fun _ _ i=>8 - (intOf i).toNat)
 case atStart=>exact ⟨0,by omega,rfl,rfl⟩
 case round=>
  obtain ⟨k,hk,rfl,rfl⟩:=hrel;rcases (show k=0\/k=1\/k=2\/k=3\/k=4\/k=5\/k=6\/k=7\/k=8 by omega) with rfl|rfl|rfl|rfl|rfl|rfl|rfl|rfl|rfl
  case inr.inr.inr.inr.inr.inr.inr.inr=>
   go_wp2;go_returns;exact ⟨rfl,rfl⟩
  case inl=>
   have c1:=HC.o 0 (by omega);simp at c1 ⊢;go_wp2_with fail;go_round
   case rel=>exact ⟨_,_,_,⟨1,by omega,rfl,rfl⟩,congrArg _ (by decide),rfl,rfl⟩
   case measure=>simp [intOf]
  case inr.inl=>
   have c1:=HC.o 1 (by omega);simp at c1 ⊢;go_wp2_with fail;go_round
   case rel=>exact ⟨_,_,_,⟨2,by omega,rfl,rfl⟩,congrArg _ (by decide),rfl,rfl⟩
   case measure=>simp [intOf]
  case inr.inr.inl=>
   have c1:=HC.o 2 (by omega);simp at c1 ⊢;go_wp2_with fail;go_round
   case rel=>exact ⟨_,_,_,⟨3,by omega,rfl,rfl⟩,congrArg _ (by decide),rfl,rfl⟩
   case measure=>simp [intOf]
  case inr.inr.inr.inl=>
   have c1:=HC.o 3 (by omega);simp at c1 ⊢;go_wp2_with fail;go_round
   case rel=>exact ⟨_,_,_,⟨4,by omega,rfl,rfl⟩,congrArg _ (by decide),rfl,rfl⟩
   case measure=>simp [intOf]
  case inr.inr.inr.inr.inl=>
   have c1:=HC.o 4 (by omega);simp at c1 ⊢;go_wp2_with fail;go_round
   case rel=>exact ⟨_,_,_,⟨5,by omega,rfl,rfl⟩,congrArg _ (by decide),rfl,rfl⟩
   case measure=>simp [intOf]
  case inr.inr.inr.inr.inr.inl=>
   have c1:=HC.o 5 (by omega);simp at c1 ⊢;go_wp2_with fail;go_round
   case rel=>exact ⟨_,_,_,⟨6,by omega,rfl,rfl⟩,congrArg _ (by decide),rfl,rfl⟩
   case measure=>simp [intOf]
  case inr.inr.inr.inr.inr.inr.inl=>
   have c1:=HC.o 6 (by omega);simp at c1 ⊢;go_wp2_with fail;go_round
   case rel=>exact ⟨_,_,_,⟨7,by omega,rfl,rfl⟩,congrArg _ (by decide),rfl,rfl⟩
   case measure=>simp [intOf]
  case inr.inr.inr.inr.inr.inr.inr.inl=>
   have c1:=HC.o 7 (by omega);simp at c1 ⊢;go_wp2_with fail;go_round
   case rel=>exact ⟨_,_,_,⟨8,by omega,rfl,rfl⟩,congrArg _ (by decide),rfl,rfl⟩
   case measure=>simp [intOf]
theorem ZEh (args:Array Value)(w:World):(callFunc 199 args).run prog w=.ok (.enter 199 args) w:=by kernel_rfl
theorem ZGi {cb g:Nat}{f:Nat->Nat}(hc:w.cell? ⟨cb,0,none⟩=some (.slice (some ⟨g,0,none⟩) 10240 10240))(hrow:Row w g 5 10240 (fun x=>.int .u8 (Zy f x)))(h0:f 496=1836515329)(h1:f 528=1836515329):
 LdU w 199 #[] #[.pointer (some ⟨cb,0,none⟩)] where
 call:=ZEh
 get:=fun w1 k hk hb=>by
  have hlt:=ZK2 _ _ hc;refine ZGt (by rw [hb.cell hlt];exact hc) (hrow.of_block (hb.block _ hrow.lt)) (by omega) (by omega) ?_;rcases (show k=0\/k=1 by omega) with rfl|rfl
  ·exact h0
  ·exact h1
theorem ZHq (h:Ar w A F 160 T c)(w1:World)(hb:Bl w w1):Calls prog 131 #[.pointer (some ⟨A.d,0,none⟩)] w1 fun r w'=>r=.returned (.int .u64 10240)/\w1=w':=by
 obtain ⟨s,h1,h2,h3⟩:=(h.below hb).dev;have:=Uj h1;rw [h3] at this;exact this
theorem ZI7 (h:Ar w A F 160 T c)(w1:World)(hb:Bl w w1):Calls prog 198 #[.pointer (some ⟨A.d,0,none⟩)] w1 fun r w'=>∃ g,r=.returned (.slice (some ⟨g,0,none⟩) 10240 10240)/\Row w' g 5 10240 (fun x=>.int .u8 (Zy c x))/\Bl w1 w':=by
 obtain ⟨s,h1,h2,h3⟩:=(h.below hb).dev;refine (ZBt h1).mono ?_;rintro e w' ⟨v,rfl,⟨b,rfl,hr,_⟩,hb⟩;rw [h3,show s.cur=c from funext h2.cur] at hr;rw [h3];exact ⟨b,rfl,hr,hb⟩
theorem ZGa:(prog.info? 4).map (fun i=>(i.zero,i.size,i.bytes))=some (some (.bool false),1,1):=by kernel_rfl
theorem ZCK:madeCells (Value.bool false).cells 2=#[.bool false,.bool false]:=by kernel_rfl
def MpB (w:World)(A:DAd)(p z:Nat):Prop:=w.heap[p]?=some (.cells #[.pointer (some ⟨A.d,0,none⟩),.int .i64 62,.int .i64 8,.int .u64 10240,.slice (some ⟨z,0,none⟩) 2 2,.pointer none] 351 (0,0))/\w.heap[z]?=some (.cells #[.bool false,.bool false] 4 (0,0))
theorem ZFJ (h:Ar w A F 160 T c)(h0:c 496=1836515329)(h1:c 528=1836515329):
 Calls prog 158 #[.pointer (some ⟨A.d,0,none⟩),.int .i64 62,.int .i64 8] w fun e w'=>∃ p z,e=.returned (.tuple #[.pointer (some ⟨p,0,none⟩),.int .i64 0])/\MpB w' A p z/\Bl w w'/\w.heap.size<=p:=by
 have HS:=zh (ZHq h);have HCU:=zh (ZI7 h);have H0:=zh h0;have H1:=zh h1;have HR:=zh (Below.refl w.heap.size w);clear h h0 h1;go_in;go_wp2_with fail;refine (HS.o w HR.o).mono ?_;rintro e w' ⟨rfl,rfl⟩;go_wp2_with fail;refine mvalid_yes.mono ?_;rintro e w1 ⟨rfl,hb1⟩;have HB1:=zh ((ZA HR.o).trans (hb1.mono (by simp)));have HH1:=zh ((hb1.block w.heap.size (by simp)).trans (ZB _ _));clear hb1;go_wp2_with fail;refine (HCU.o w1 HB1.o).mono ?_;rintro e w2 ⟨g,rfl,hrow,hb2⟩;have HB2:=zh (HB1.o.trans (hb2.mono HB1.o.size));have HH2:=zh (Yn HH1.o hb2);have HW:=zh hrow;clear hb2 hrow;go_upto_region 8 with fail;obtain ⟨w3,hw3⟩:=xE (w2.alloc (.cells #[.slice (some ⟨g,0,none⟩) 10240 10240] 242));have HB3:=zh (show Bl w w3 by rw [hw3];exact ZA HB2.o);have h23:Bl w2 w3:=by rw [hw3];exact ZA bR
 have HH3:=zh (Yn HH2.o h23);have HL:=zh (ZGi (w:=w3) (cb:=w2.heap.size) (by rw [hw3];exact (ZC (ZB _ _)).trans rfl) (HW.o.of_block (h23.block _ HW.o.lt)) H0.o H1.o);obtain ⟨cb,hcb⟩:=xE w2.heap.size;rw [<-hcb] at HL;rw [<-hw3,<-hcb];obtain ⟨c0,c1,c2,_⟩:=Zb HH3.o;clear hw3 hcb h23;go_wp2_with fail;refine (ZEM HL.o).mono ?_;rintro e w4 ⟨v,rfl,hown,hb4⟩;obtain ⟨va,vc,hv⟩:=ZR hown;subst hv;have HB4:=zh (HB3.o.trans (hb4.mono HB3.o.size));have HH4:=zh (Yn HH3.o hb4);clear hown hb4 c0 c1 c2;go_upto_region 11 with fail;have HK:=zh (fun (wx:World) (hb:Bl w4 wx)=>(show wx.cell? ⟨w.heap.size,0,none⟩=some (.int .i64 62)/\wx.cell? ⟨w.heap.size,1,none⟩=some (.int .i64 8)/\wx.cell? ⟨w.heap.size,2,none⟩=some (.int .u64 10240) from by
  obtain ⟨a0,a1,a2,_⟩:=Zb (Yn HH4.o hb);exact ⟨a0,a1,a2⟩))
 have HMC:=zh (fun (wx:World) (hb:Bl w4 wx)=>Xs (mcount_yes (w:=wx)) hb);have HB0:=zh (Below.refl w4.heap.size w4);obtain ⟨r0,r1,r2⟩:=HK.o w4 HB0.o;obtain ⟨i,hi,hz,hsz,hby⟩:=info_parts ZGa;have hmk:=fun V=>run_make (P:=prog) V 348 4 i _ underlying348 hi hz .i64 .i64 2 2 (by omega) (Int.le_refl _) (by rw [hby];omega) (by omega)
 simp only [show (2:Int).toNat=2 from rfl,hsz,Nat.mul_one,ZCK] at hmk;clear hi hz hsz hby
 go_region_held3 (fun wx=>wx.cell? ⟨w.heap.size,0,none⟩=some (.int .i64 62)/\wx.cell? ⟨w.heap.size,1,none⟩=some (.int .i64 8)/\wx.cell? ⟨w.heap.size,2,none⟩=some (.int .u64 10240))
  (exact HK.o _ (by repeat (with_reducible first|assumption|exact HB0.o|apply ZA|apply ZD)))
  (first
    |(go_at_call 148;refine (HMC.o _ (by repeat (with_reducible first|assumption|exact HB0.o|apply ZA|apply ZD))).mono ?_;rintro e V1 ⟨rfl,hb1,hm1,hm2,hm3,HB1⟩))
 obtain ⟨V2,hV2⟩:=xE (V1.alloc (.cells #[.bool false,.bool false] 4));have hz2:V2.heap.size=V1.heap.size+1:=by rw [hV2];simp
 have HE:=zh (fun (O:Obj) (hO:O=.cells #[.pointer (some ⟨A.d,0,none⟩),.int .i64 62,.int .i64 8,.int .u64 10240,.slice (some ⟨V1.heap.size,0,none⟩) 2 2,.pointer none] 351)=>show MpB (V2.alloc O) A V2.heap.size V1.heap.size/\Bl w (V2.alloc O)/\w.heap.size<=V2.heap.size from by
  refine ⟨⟨by rw [ZB,hO],by rw [ZI (by omega),hV2];exact ZB _ _⟩,?_,by have:=ZK6 HB4.o.size hb1.size;omega⟩;rw [hV2];exact Zo (Zo (HB4.o.trans (hb1.mono HB4.o.size)) (ZK6 HB4.o.size hb1.size)) (by have:=ZK6 HB4.o.size hb1.size;simp;omega))
 rw [hz2,hV2] at HE;clear hV2 hz2;go_wp2;go_returns;exact ⟨_,_,rfl,HE.o _ rfl⟩
theorem MpB.below {p z:Nat}(h:MpB w A p z)(hb:Bl w w'):MpB w' A p z:=⟨(hb.block _ (heap_lt h.1)).trans h.1,(hb.block _ (heap_lt h.2)).trans h.2⟩
theorem ZFI {p z:Nat}(h:MpB w A p z):
 Calls prog 201 #[.pointer (some ⟨p,0,none⟩)] w fun r w'=>r=.returned (.int .i64 2)/\w=w':=by
 obtain ⟨_,_,_,_,c4,_⟩:=ZIG h.1;have HB:=zh (fun (k:Nat) (hk:k < 2)=>show w.cell? ⟨z,k,none⟩=some (.bool false) from by
  rw [ZC h.2];rcases (show k=0\/k=1 by omega) with rfl|rfl <;> rfl)
 clear h;go_in;go_wp2_with fail
 go_loop [3,13] (fun c i=>∃ k:Nat,k<=2/\i=.int .i64 (k:Nat)/\c=.int .i64 (k:Nat)) (fun _ i=>2 - (intOf i).toNat)
 case atStart=>exact ⟨0,by omega,rfl,rfl⟩
 case round=>
  obtain ⟨k,hk,rfl,rfl⟩:=hrel
  by_cases hlt:k < 2
  ·have hlt2:(k:Int) < 2:=by omega
   have c1:=HB.o k hlt;clear hk;go_wp2_with fail;go_round
   case rel=>exact ⟨k+1,by omega,rfl,rfl⟩
   case measure=>simp [intOf];omega
  ·obtain rfl:k=2:=by omega
   go_wp2;go_returns;exact ⟨rfl,rfl⟩
theorem Ux (h:Ar w A F L T c){i:Nat}(hi:i < 8)(w1:World)(hb:Bl w w1):
 Calls prog 30 #[.pointer (some ⟨A.d,0,none⟩),.int .i64 i] w1 fun r w'=>r=.returned (.pointer (some ⟨A.t i,0,none⟩))/\w1=w':=by
 obtain ⟨s,h1,h2,h3⟩:=(h.below hb).dev;exact Qh h1 hi
theorem ZHZ:∀ k,k < 2->(ZCw 2)[3 * k]?=some (.int .u8 1)/\(ZCw 2)[3 * k+1]?=some (.slice none 0 0)/\(ZCw 2)[3 * k+2]?=some (.slice none 0 0):=fun k hk=>by
 rcases (show k=0\/k=1 by omega) with rfl|rfl <;> exact ⟨rfl,rfl,rfl⟩
theorem ZCM (h:Ar w A F 160 T c)(h0:c 496=1836515329)(h1:c 528=1836515329){p z:Nat}(hm:MpB w A p z):
 Calls prog 159 #[.pointer (some ⟨p,0,none⟩),.int .i64 0] w fun e w'=>e=.returned (.tuple #[.int .i64 0,.int .i64 0])/\MpB w' A p z/\Only (fun k=>k=p) w w':=by
 have HT:=zh (Ux h (i:=0) (by omega) w bR);have HE:=zh (fun (w1:World) (hb:Bl w w1)=>Zq h (i:=0) (by omega) w1 hb);have HFR:=zh (fun (w1:World) (hb:Bl w w1)=>ZFI (hm.below hb));have HAL:=zh (fun (w1:World) (hb:Bl w w1)=>ZEM (ZDd (h.below hb) h0 h1));have HM:=zh hm;have HR:=zh (Below.refl w.heap.size w);have HK:=zh (fun (w1:World) (hb:Bl w w1)=>ZIG (hm.below hb).1);obtain ⟨c0,c1,c2,c3,c4,c5,f0,f1,f2,f3,f4,f5⟩:=ZIG hm.1;clear h h0 h1 hm;go_in;go_wp2_with fail;refine HT.o.mono ?_;rintro e w' ⟨rfl,rfl⟩;go_wp2_with fail;refine (HE.o w HR.o).mono ?_;rintro e w' ⟨rfl,rfl⟩;go_wp2_with fail
 go_quiet ((go_at_call 201;exact Zj (HFR.o _ (ZY HR.o))))
 obtain ⟨W0,hW0⟩:=xE (w.drewN nq);rw [<-hW0];have HB0:=zh (show Bl w W0 by rw [hW0];exact ZY bR);clear hW0 c0 c1 c2 c3 c4 c5 f0 f1 f2 f3 f4 f5;obtain ⟨c0,c1,c2,c3,c4,c5,f0,f1,f2,f3,f4,f5⟩:=HK.o W0 HB0.o;go_wp2_with fail;refine (HAL.o _ HB0.o).mono ?_;rintro e W ⟨v,rfl,hown,hb⟩;obtain ⟨g,cap,hv⟩:∃ g cap,v=.slice (some ⟨g,0,none⟩) 2 cap:=by
  rcases hown.2 with ⟨_,e⟩|⟨g,cap,cur,e,_⟩
  ·omega
  ·exact ⟨g,cap,e⟩
 subst hv;have HB:=zh (HB0.o.trans (hb.mono HB0.o.size));have HO:=zh (ZCg hown);clear hown hb c0 c1 c2 c3 c4 c5 f0 f1 f2 f3 f4 f5;go_wp2_with fail;refine (HE.o _ HB.o).mono ?_;rintro e w' ⟨rfl,rfl⟩;go_wp2_with fail
 go_loopw [11,64] (fun n i wr=>n=.int .i64 0/\∃ k:Nat,k<=2/\i=.int .i64 k/\Bl W wr) (fun _ i _=>2 - (intOf i).toNat)
 case atStart=>exact ⟨rfl,0,by omega,rfl,bR⟩
 case round=>
 obtain ⟨rfl,k,hk,rfl,hb⟩:=hrel;have HBR:=zh hb;have HBB:=zh (HB.o.trans (hb.mono HB.o.size));clear hb
 by_cases hlt:k < 2
 ·have hlt2:(k:Int) < 2:=by omega
  obtain ⟨q1,q2,q3⟩:=ZHZ k hlt;have hs:=HO.o.below HBR.o nR;have k1:wr.cell? ⟨g,k * 3,none⟩=some (.int .u8 1):=by have:=hs _ _ q1;rw [ZLI,Nat.mul_comm] at this;exact this
  have k2:wr.cell? ⟨g,k * 3+1,none⟩=some (.slice none 0 0):=by have:=hs _ _ q2;rw [ZLI,Nat.mul_comm] at this;exact this
  have k3:wr.cell? ⟨g,k * 3+2,none⟩=some (.slice none 0 0):=by have:=hs _ _ q3;rw [ZLI,Nat.mul_comm] at this;exact this
  have HLT:=zh hlt;clear hs q1 q2 q3 hk hlt;go_wp2_with fail;go_roundw
  case rel=>exact ⟨rfl,k+1,by have:=HLT.o;omega,rfl,ZA HBR.o⟩
  case measure=>have:=HLT.o;simp [intOf];omega
 ·obtain rfl:k=2:=by omega
  clear hk hlt;have hm2:=HM.o.below HBB.o;obtain ⟨c0,c1,c2,c3,c4,c5,f0,f1,f2,f3,f4,f5⟩:=ZIG hm2.1;have HE2:=zh (show MpB (wr.setCell ⟨p,5,none⟩ (.pointer none)) A p z/\Only (fun k=>k=p) w (wr.setCell ⟨p,5,none⟩ (.pointer none)) from by
   refine ⟨⟨(ZH hm2.1).trans rfl,?_⟩,Only.set (F:=fun k=>k=p) (Only.of_below HBB.o) (b:=p) rfl _⟩;rw [ZF (fun e=>by have:=hm2.1;rw [<-e,hm2.2] at this;simp at this)];exact hm2.2)
  clear hm2;go_wp2;go_returns;exact ⟨rfl,HE2.o⟩
theorem Ar.only {b:Nat}(h:Ar w A F L T c)(ho:Only (fun k=>k=b) w w')(hF:F b=none)(hn:b≠1/\b≠0):Ar w' A F L T c:=by
 obtain ⟨s,h1,_⟩:=h.dev;refine h.agree (fun k hk=>?_) ho.size;rcases hk with hk|rfl|rfl
 ·exact ho.block k (h1.lt k hk) (fun e=>hk (by rw [e];exact hF))
 ·exact ho.block _ h.nib.lt (fun e=>hn.1 e.symm)
 ·exact ho.block _ h.tab.lt (fun e=>hn.2 e.symm)
theorem Y9 {P:Program} {ops:Array Oper} {rest:List Oper} {o:Oper} {a:Act} {w:World} {Q:Exit->Act->World->Prop} (hgd:o.guard=none) (ty:TypeId) (x y:Operand) (ho:o.op=.store ty x y)
 (g k:Nat) (cs:Array Value) (hx:a.eval x=.pointer (some ⟨g,k,none⟩)) (hy:a.eval y=.agg cs) (ht:w.there g k cs.size)
 (hi:(P.info? ty).map (·.size)=some cs.size) (h1:cs.all (·.oneCell')=true)
 (h:wpList P ops Q rest (a.put o.dst undef) (w.setCells g k cs.toList)):wpList P ops Q (o:: rest) a w:=
 wpList_plain hgd fun K hK=>by
  unfold Oper.wp execOp;simp only [ho,hx,hy,Instr.storeAt,Instr.sureAddr,Sem.run_bind,Sem.run_pure,Result.andThen_ok,run_storeVar_mid w g k ty cs ht hi h1];exact hK _ _ h
def zrC:Array Value:=#[.int .i64 0,.int .i64 0,.int .i64 0]
def poX (A:DAd)(h r k m:Value):Array Value:=#[.pointer (some ⟨A.d,0,none⟩),.int .i64 1,.int .i64 160,.int .i64 26,.int .i64 26,.int .i64 8,.int .i64 0,.int .i64 0,.int .u64 1,h,r,k,m,.pointer none,.int .u8 0]
def PoY (w:World)(A:DAd)(pb:Nat)(h r k m:Value):Prop:=w.heap[pb]?=some (.cells (poX A h r k m) 92 (0,0))
theorem PoY.below {pb:Nat}{h r k m:Value}(hy:PoY w A pb h r k m)(hb:Bl w w'):PoY w' A pb h r k m:=(hb.block _ (heap_lt hy)).trans hy
theorem PoY.setne {pb k i:Nat}{v h r kk m:Value}(hy:PoY w A pb h r kk m)(hk:pb≠k):PoY (w.setCell ⟨k,i,none⟩ v) A pb h r kk m:=(ZF hk).trans hy
theorem PoY.psc {pb:Nat}{h r k m:Value}(hy:PoY w A pb h r k m):PsC w pb:=by
 refine ⟨?_,?_,?_,?_,?_,?_,?_,?_⟩ <;> exact (ZC hy).trans rfl
theorem PoY.cc {pb:Nat}{h r k m:Value}(hy:PoY w A pb h r k m):w.cell? ⟨pb,0,none⟩=some (.pointer (some ⟨A.d,0,none⟩))/\w.cell? ⟨pb,12,none⟩=some m/\∀ i,w.frozen? ⟨pb,i,none⟩=false:=⟨(ZC hy).trans rfl,(ZC hy).trans rfl,fun i=>ZG hy⟩
structure RcS (w:World)(A:DAd)(pb b4 b6:Nat)(m:Value)(wx:World):Prop where
 only:Only (fun k=>k=pb) w wx
 po:PoY wx A pb (.pointer none) (.pointer none) (.pointer none) m
 h4:wx.heap[b4]?=some (.cells zrC 130 (0,0))
 h6:wx.heap[b6]?=some (.cells zrC 130 (0,0))
 nw:w.heap.size<=b4/\w.heap.size<=b6/\b4≠b6/\pb < w.heap.size
variable {pb b4 b6:Nat}{m:Value}
theorem RcS.below (h:RcS w A pb b4 b6 m w'){w2:World}(hb:Bl w' w2):RcS w A pb b4 b6 m w2:=
 ⟨h.only.trans (Only.of_below (F:=fun _=>False) hb) (fun _ _ q=>q.elim),h.po.below hb,(hb.block _ (heap_lt h.h4)).trans h.h4,(hb.block _ (heap_lt h.h6)).trans h.h6,h.nw⟩
theorem RcS.set6 (h:RcS w A pb b4 b6 m w'){i:Nat}(hi:i < 3):RcS w A pb b4 b6 m (w'.setCell ⟨b6,i,none⟩ (.int .i64 0)):=by
 obtain ⟨n1,n2,n3,n4⟩:=h.nw;refine ⟨⟨h.only.os,h.only.tape,h.only.output,by simpa [World.setCell] using h.only.size,fun k hk hn=>(ZF (by omega)).trans (h.only.block k hk hn)⟩,(ZF (by omega)).trans h.po,(ZF n3).trans h.h4,?_,h.nw⟩;rw [ZH h.h6];rcases (show i=0\/i=1\/i=2 by omega) with rfl|rfl|rfl <;> rfl
theorem RcS.set4 (h:RcS w A pb b4 b6 m w'):RcS w A pb b4 b6 m (w'.setCells b4 0 #[.int .i64 0,.int .i64 0,.int .i64 0].toList):=by
 obtain ⟨n1,n2,n3,n4⟩:=h.nw;have e:∀ k,k≠b4->(w'.setCells b4 0 #[.int .i64 0,.int .i64 0,.int .i64 0].toList).heap[k]?=w'.heap[k]?:=fun k hk=>(ZF hk).trans ((ZF hk).trans (ZF hk))
 refine ⟨⟨h.only.os,h.only.tape,h.only.output,by simpa [World.setCells,World.setCell] using h.only.size,fun k hk hn=>(e k (by omega)).trans (h.only.block k hk hn)⟩,(e _ (by omega)).trans h.po,?_,(e _ (fun e=>n3 e.symm)).trans h.h6,h.nw⟩;exact ZH (ZH (ZH h.h4))
theorem RcS.set12 (h:RcS w A pb b4 b6 m w')(m':Value):RcS w A pb b4 b6 m' (w'.setCell ⟨pb,12,none⟩ m'):=by
 obtain ⟨n1,n2,n3,n4⟩:=h.nw;exact ⟨h.only.set rfl _,(ZH h.po).trans rfl,(ZF (by omega)).trans h.h4,(ZF (by omega)).trans h.h6,h.nw⟩
theorem RcS.f6 (h:RcS w A pb b4 b6 m w'):(∀ i,w'.frozen? ⟨b6,i,none⟩=false)/\(∀ i,w'.frozen? ⟨b4,i,none⟩=false):=⟨fun i=>ZG h.h6,fun i=>ZG h.h4⟩
theorem ZBS (h:Ar w A F 160 T c)(h0:c 496=1836515329)(h1:c 528=1836515329)(hz:c 80=0)(hu:c 288=0)(hF:F pb=none)(hn:pb≠1/\pb≠0)(hp:PoY w A pb (.pointer none) (.pointer none) (.pointer none) (.pointer none)):
 Calls prog 99 #[.pointer (some ⟨pb,0,none⟩),.pointer (some ⟨A.t 0,0,none⟩)] w fun e w'=>e=.returned (.tuple #[.agg zrC,.int .i64 0])/\∃ mb z,MpB w' A mb z/\PoY w' A pb (.pointer none) (.pointer none) (.pointer none) (.pointer (some ⟨mb,0,none⟩))/\Only (fun k=>k=pb) w w':=by
 have HA:=zh (fun (wx:World) (b4 b6:Nat) (m:Value) (hs:RcS w A pb b4 b6 m wx)=>h.only hs.only hF hn);have HST:=zh (show RcS w A pb w.heap.size (w.heap.size+1) (.pointer none) ((w.alloc (.cells zrC 130)).alloc (.cells zrC 130)) from by
  have hlt:=heap_lt hp;have e:(w.alloc (.cells zrC 130)).heap.size=w.heap.size+1:=by simp
  refine ⟨Only.of_below (ZA (ZA bR)),(ZI (by rw [e];omega)).trans ((ZI hlt).trans hp),(ZI (by rw [e];omega)).trans (ZB _ _),?_,⟨nR,Nat.le_succ _,by omega,hlt⟩⟩;rw [<-e];exact ZB _ _)
 have HF:=zh hF;have H0:=zh h0;have H1:=zh h1;have HZ:=zh hz;have HU:=zh hu;clear h h0 h1 hz hu hF hn hp;unfold zrC at *;go_in;go_upto_region 2 with fail;obtain ⟨w1,hw1⟩:=xE ((w.alloc (.cells #[.int .i64 0,.int .i64 0,.int .i64 0] 130)).alloc (.cells #[.int .i64 0,.int .i64 0,.int .i64 0] 130));obtain ⟨b6,hb6⟩:=xE (w.heap.size+1);obtain ⟨b4,hb4⟩:=xE w.heap.size;rw [<-hw1,<-hb6] at HST;have HB6:=zh hb6;have HB4:=zh hb4;rw [<-hw1,<-hb6];have HS1:=zh (show RcS w A pb b4 b6 (.pointer none) w1 by rw [hb4];exact HST.o);rw [<-hb4];clear hw1 hb6 hb4 HST;go_wp2_with fail;refine (ZFU (HA.o _ _ _ _ HS1.o) HS1.o.po.psc).mono ?_;rintro e w2 ⟨lg,rfl,hlg,hb2⟩;have HS2:=zh (HS1.o.below hb2);have HLG:=zh hlg;clear hlg hb2 HS1;go_wp2_with fail;refine (Q2 (HA.o _ _ _ _ HS2.o) HZ.o HLG.o).mono ?_;rintro e w3 ⟨rfl,hb3⟩;have HS3:=zh (HS2.o.below hb3);clear hb3 HS2 HLG;obtain ⟨r0,r1,r2,f0,f1,f2⟩:=Zb HS3.o.h6;go_upto_region 8 with fail;have HS4:=zh (HS3.o.set6 (i:=0) (by omega));obtain ⟨w4,hw4⟩:=xE (w3.setCell ⟨b6,0,none⟩ (.int .i64 0));rw [<-hw4] at HS4 ⊢;clear hw4 HS3 r0 r1 r2 f0 f1 f2;go_wp2_with fail;refine (ZFW (HA.o _ _ _ _ HS4.o) HS4.o.po.psc).mono ?_;rintro e w5 ⟨ul,rfl,hul,hb5⟩;have HS5:=zh (HS4.o.below hb5);have HUL:=zh hul;clear hul hb5 HS4;go_wp2_with fail;refine (ZCx (HA.o _ _ _ _ HS5.o) HU.o HUL.o).mono ?_;rintro e w6 ⟨rfl,hb6⟩;have HS6:=zh (HS5.o.below hb6);clear hb6 HS5 HUL;obtain ⟨r0,r1,r2,f0,f1,f2⟩:=Zb HS6.o.h6;go_upto_region 14 with fail;have HS7:=zh (HS6.o.set6 (i:=1) (by omega));obtain ⟨w7,hw7⟩:=xE (w6.setCell ⟨b6,1,none⟩ (.int .i64 0));rw [<-hw7] at HS7 ⊢;clear hw7 HS6 r0 r1 r2 f0 f1 f2;obtain ⟨p1,p2,p3,p4,p5,p6,p7,p8⟩:=HS7.o.po.psc;have HRG:=zh (ZEV (w:=w7) (r:=4) (a:=62) (b:=8) (by omega) rfl rfl);unfold sup0 Sup.val at HRG;go_wp2_with fail;refine HRG.o.mono ?_;rintro e w8 ⟨rfl,hb8⟩;have HS8:=zh (HS7.o.below hb8);clear hb8 HS7 p1 p2 p3 p4 p5 p6 p7 p8 HRG;obtain ⟨q0,q12,qf⟩:=HS8.o.po.cc;go_wp2_with fail;refine (ZFJ (HA.o _ _ _ _ HS8.o) H0.o H1.o).mono ?_;rintro e w9 ⟨mb,z,rfl,hm,hb9,hmn⟩;have HS9:=zh (HS8.o.below hb9);have HM9:=zh hm;have HMN:=zh (ZK6 HS8.o.only.size hmn);clear hb9 hm hmn HS8 q0 q12 qf;obtain ⟨q0,q12,qf⟩:=HS9.o.po.cc;have q12f:=qf 12;go_upto_region 18 with fail;have hne:mb≠pb:=fun e=>by have h1:=HM9.o.1;rw [e,HS9.o.po] at h1;simp [poX] at h1
 have hne2:z≠pb:=fun e=>by have h1:=HM9.o.2;rw [e,HS9.o.po] at h1;simp [poX] at h1
 have HS10:=zh (HS9.o.set12 (.pointer (some ⟨mb,0,none⟩)));have HM10:=zh (show MpB (w9.setCell ⟨pb,12,none⟩ (.pointer (some ⟨mb,0,none⟩))) A mb z from ⟨(ZF hne).trans HM9.o.1,(ZF hne2).trans HM9.o.2⟩);obtain ⟨w10,hw10⟩:=xE (w9.setCell ⟨pb,12,none⟩ (.pointer (some ⟨mb,0,none⟩)));rw [<-hw10] at HS10 HM10 ⊢;clear hw10 HS9 HM9 q0 q12 qf q12f hne hne2;have HAW:=zh (HA.o _ _ _ _ HS10.o);have HID:=zh (fun (wx:World) (hb:Bl w10 wx)=>ZJ2 HAW.o (i:=0) (by omega) wx hb);have hmb:mb≠pb/\mb≠b4/\mb≠b6/\mb < w10.heap.size:=by
  refine ⟨fun e=>?_,fun e=>?_,fun e=>?_,heap_lt HM10.o.1⟩ <;> have h1:=HM10.o.1 <;> rw [e] at h1
  ·rw [HS10.o.po] at h1;simp [poX] at h1
  ·rw [HS10.o.h4] at h1;simp [zrC] at h1
  ·rw [HS10.o.h6] at h1;simp [zrC] at h1
 have HMR:=zh (fun (wx:World) (hb:Bl w10 wx)=>(ZCM (HAW.o.below hb) H0.o H1.o (HM10.o.below hb)).mono (R':=fun e w'=>e=.returned (.tuple #[.int .i64 0,.int .i64 0])/\MpB w' A mb z/\Only (fun k=>k=mb) w10 w'/\PoY w' A pb (.pointer none) (.pointer none) (.pointer none) (.pointer (some ⟨mb,0,none⟩))/\w'.heap[b6]?=some (.cells zrC 130 (0,0))) fun e w' ⟨h1,h2,h3⟩=>⟨h1,h2,(Only.of_below (F:=fun k=>k=mb) hb).trans h3 (fun _ _ q=>q),(h3.block _ (heap_lt (HS10.o.below hb).po) (fun e=>hmb.1 e.symm)).trans (HS10.o.below hb).po,(h3.block _ (heap_lt (HS10.o.below hb).h6) (fun e=>hmb.2.2.1 e.symm)).trans (HS10.o.below hb).h6⟩);have hbz:z≠b6/\z≠b4:=by
  refine ⟨fun e=>?_,fun e=>?_⟩ <;> have h1:=HM10.o.2 <;> rw [e] at h1
  ·rw [HS10.o.h6] at h1;simp [zrC] at h1
  ·rw [HS10.o.h4] at h1;simp [zrC] at h1
 have HBZ:=zh hbz;clear hbz;have HMB:=zh hmb;have HNB:=zh (show pb≠b6 from by have:=HS10.o.nw;omega);clear hmb;have HKP:=zh (fun (wx:World) (hb:Bl w10 wx)=>show wx.cell? ⟨pb,12,none⟩=some (.pointer (some ⟨mb,0,none⟩)) from (HS10.o.below hb).po.cc.2.1);have HR:=zh (Below.refl w10.heap.size w10);have q12:=HKP.o _ HR.o;obtain ⟨r0,r1,r2,f0,f1,f2⟩:=Zb HS10.o.h6
 go_region_held3 (fun wx=>wx.cell? ⟨pb,12,none⟩=some (.pointer (some ⟨mb,0,none⟩)))
  (first|exact hq.cc.2.1|exact (hq.setne HNB.o).cc.2.1|exact HKP.o _ (by repeat (with_reducible first|assumption|exact HR.o|apply ZA|apply ZD)))
  (first
    |(go_at_call 55;refine (HID.o _ (by repeat (with_reducible first|assumption|exact HR.o|apply ZA|apply ZD))).mono ?_;rintro e V1 ⟨rfl,rfl⟩)
    |(go_at_call 159;refine (HMR.o _ (by repeat (with_reducible first|assumption|exact HR.o|apply ZA|apply ZD))).mono ?_;rintro e V1 ⟨rfl,hm1,ho1,hq,hz6⟩;obtain ⟨r0,r1,r2,f0,f1,f2⟩:=Zb hz6))
 all_goals
  have HW1:=zh (show RcS w A pb b4 b6 (.pointer (some ⟨mb,0,none⟩)) V1 from ⟨HS10.o.only.trans ho1 (fun k hk q=>by have:=HMN.o;omega),hq,(ho1.block _ (heap_lt HS10.o.h4) (fun e=>HMB.o.2.1 e.symm)).trans HS10.o.h4,hz6,HS10.o.nw⟩);have HM1:=zh (show MpB (V1.setCell ⟨b6,2,none⟩ (.int .i64 0)) A mb z from ⟨(ZF HMB.o.2.2.1).trans hm1.1,(ZF HBZ.o.1).trans hm1.2⟩);have HW2:=zh (HW1.o.set6 (i:=2) (by omega));clear hm1 ho1 hq hz6 r0 r1 r2 f0 f1 f2 q12 HW1;obtain ⟨w11,hw11⟩:=xE (V1.setCell ⟨b6,2,none⟩ (.int .i64 0));rw [<-hw11] at HW2 HM1 ⊢;clear hw11;obtain ⟨r0,r1,r2,f0,f1,f2⟩:=Zb HW2.o.h6;obtain ⟨s0,s1,s2,g0,g1,g2⟩:=Zb HW2.o.h4;have HL:=zh (show ∀ j v,#[Value.int .i64 0,.int .i64 0,.int .i64 0].toList[j]?=some v->w11.cell? ⟨b6,0+j,none⟩=some v from fun j v hv=>by
   rw [ZLI];exact (ZC HW2.o.h6).trans ((ZLS (xs:=#[Value.int .i64 0,.int .i64 0,.int .i64 0])▸hv)))
  have HT:=zh (show w11.there b4 0 3 from fun j hj=>by
   rw [ZLI];rcases (show j=0\/j=1\/j=2 by omega) with rfl|rfl|rfl
   ·exact ⟨by rw [s0];rfl,g0⟩
   ·exact ⟨by rw [s1];rfl,g1⟩
   ·exact ⟨by rw [s2];rfl,g2⟩)
  have HW3:=zh (HW2.o.set4);have HM3:=zh (show MpB (w11.setCells b4 0 #[.int .i64 0,.int .i64 0,.int .i64 0].toList) A mb z from ⟨(ZF HMB.o.2.1).trans ((ZF HMB.o.2.1).trans ((ZF HMB.o.2.1).trans HM1.o.1)),(ZF HBZ.o.2).trans ((ZF HBZ.o.2).trans ((ZF HBZ.o.2).trans HM1.o.2))⟩);go_wp2_with (first|refine Qn rfl 130 _ rfl b6 0 rfl #[.int .i64 0,.int .i64 0,.int .i64 0] _ HL.o underlying130 rfl (by kernel_rfl) ?_|refine Y9 rfl 130 _ _ rfl b4 0 #[.int .i64 0,.int .i64 0,.int .i64 0] (by rfl) (by rfl) HT.o (by kernel_rfl) (by kernel_rfl) ?_);refine bodyPost_ret (X7 rfl _ _ b4 130 #[.int .i64 0,.int .i64 0,.int .i64 0] (0,0) _ rfl HW3.o.h4 underlying130 rfl (by kernel_rfl)) rfl ?_
  first|exact ⟨rfl,mb,z,HM3.o,HW3.o.po,HW3.o.only⟩|exact ⟨rfl,mb,⟨z,HM3.o⟩,HW3.o.po,HW3.o.only⟩
end
end Go.Proofs.YteomliechfdhhaaGreatDoor.Dv
