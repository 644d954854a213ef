/- Part 30. -/
import Derived.Test.YteomliechfdhhaaGreatDoorY29
set_option maxHeartbeats 8000000
set_option maxRecDepth 20000
set_option linter.all false
namespace Go.Proofs.YteomliechfdhhaaGreatDoor.Dv
open Tryz
section
open Go.RowKit Go.Proofs.YteomliechfdhhaaGreatDoor.Size
variable {w w':World}{A:DAd}{F F':Nat->Option ZK}{T c c':Nat->Nat}{x x' L:Nat}
def Yq (s0 s1:Sup)(g0 g1:Bool):Array Value:=#[.int .i64 s0.V,.int .i64 s0.L,.int .i64 s0.R,.int .i64 s0.U,.int .i64 s0.D,.int .i64 s0.Q,.int .i64 s0.T,.int .u64 s0.G,
 .int .i64 s1.V,.int .i64 s1.L,.int .i64 s1.R,.int .i64 s1.U,.int .i64 s1.D,.int .i64 s1.Q,.int .i64 s1.T,.int .u64 s1.G,.bool g0,.bool g1]
def wdC (c:Nat->Nat)(b m:Nat):Nat->Value:=fun y=>if y < m then .int .u64 (c (b+y):Nat) else .int .u64 0
theorem ZBN (h:Ar w A F L T c)(w1:World)(hb:Bl w w1):Calls prog 151 #[.iface 97 (.pointer (some ⟨A.t 0,0,none⟩))] w1 fun e w'=>e=.returned (.int .u64 (L:Nat))/\w1=w':=by
 obtain ⟨s,h1,h2,rfl⟩:=(h.below hb).dev;exact ZFE h1 (by omega)
theorem ZAi (h:Ar w A F L T c)(hL:2<=L){s0 s1:Sup}{g0 g1:Bool}(hd0:Dec T L [c 0,c 1,c 2,c 3,c 4,c 5,c 6,c 7] s0 g0)(hd1:Dec T L [c 8,c 9,c 10,c 11,c 12,c 13,c 14,c 15] s1 g1):
 Calls prog 143 #[.iface 97 (.pointer (some ⟨A.t 0,0,none⟩))] w fun e w'=>e=.returned (.tuple #[.agg (Yq s0 s1 g0 g1),.int .i64 0])/\Bl w w':=by
 have hL2:=h.lines;have HLO:=zh (ZBN h);have HER:=zh (fun (w1:World) (hb:Bl w w1)=>Zq h (i:=0) (by omega) w1 hb);have HLD:=zh (fun (w1:World) (hb:Bl w w1) (k:Nat) (hk:k < 16)=>show Calls prog 34 #[.pointer (some ⟨A.t 0,0,none⟩),.int .u64 (8 * k:Nat)] w1 (fun r w'=>r=.returned (.int .u64 (c k:Nat))/\w1=w') from by
  have:=Yw h (i:=0) (by omega) w1 hb (8 * k) (by omega) (by omega);rw [show 8 * k / 8=k by omega] at this;exact this)
 have HD0:=zh (fun (w1:World) (hb:Bl w w1)=>QI (w:=w1) (h.nib.below hb nR) hL2.2 hd0);have HD1:=zh (fun (w1:World) (hb:Bl w w1)=>QI (w:=w1) (h.nib.below hb nR) hL2.2 hd1);simp only [List.map_cons,List.map_nil] at HD0 HD1;unfold u64 Sup.val at HD0 HD1;have HB0:=zh (Below.refl w.heap.size w);clear h hd0 hd1 hL hL2;go_in;go_upto_region 2 with fail;obtain ⟨b2,hb2⟩:=xE w.heap.size;obtain ⟨b4,hb4⟩:=xE (w.heap.size+1);obtain ⟨w1,hw1⟩:=xE ((w.alloc (.cells #[.int .i64 0,.int .i64 0,.int .i64 0,.int .i64 0,.int .i64 0,.int .i64 0,.int .i64 0,.int .u64 0,.int .i64 0,.int .i64 0,.int .i64 0,.int .i64 0,.int .i64 0,.int .i64 0,.int .i64 0,.int .u64 0,.bool false,.bool false] 275)).alloc (.cells #[.int .i64 0,.int .i64 0,.int .i64 0,.int .i64 0,.int .i64 0,.int .i64 0,.int .i64 0,.int .u64 0,.int .i64 0,.int .i64 0,.int .i64 0,.int .i64 0,.int .i64 0,.int .i64 0,.int .i64 0,.int .u64 0,.bool false,.bool false] 275));have HB1:=zh (show Bl w w1 by rw [hw1];exact ZA (ZA bR));have HX4:=zh (show w1.heap[b4]?=some (.cells (Yq ⟨0,0,0,0,0,0,0,0⟩ ⟨0,0,0,0,0,0,0,0⟩ false false) 275 (0,0)) by
  rw [hw1,hb4];have:=ZB (w.alloc (.cells #[.int .i64 0,.int .i64 0,.int .i64 0,.int .i64 0,.int .i64 0,.int .i64 0,.int .i64 0,.int .u64 0,.int .i64 0,.int .i64 0,.int .i64 0,.int .i64 0,.int .i64 0,.int .i64 0,.int .i64 0,.int .u64 0,.bool false,.bool false] 275)) (.cells #[.int .i64 0,.int .i64 0,.int .i64 0,.int .i64 0,.int .i64 0,.int .i64 0,.int .i64 0,.int .u64 0,.int .i64 0,.int .i64 0,.int .i64 0,.int .i64 0,.int .i64 0,.int .i64 0,.int .i64 0,.int .u64 0,.bool false,.bool false] 275);rw [show (w.alloc (.cells #[.int .i64 0,.int .i64 0,.int .i64 0,.int .i64 0,.int .i64 0,.int .i64 0,.int .i64 0,.int .u64 0,.int .i64 0,.int .i64 0,.int .i64 0,.int .i64 0,.int .i64 0,.int .i64 0,.int .i64 0,.int .u64 0,.bool false,.bool false] 275)).heap.size=w.heap.size+1 by simp] at this;exact this)
 have HX2:=zh (show w1.heap[b2]?=some (.cells #[.int .i64 0,.int .i64 0,.int .i64 0,.int .i64 0,.int .i64 0,.int .i64 0,.int .i64 0,.int .u64 0,.int .i64 0,.int .i64 0,.int .i64 0,.int .i64 0,.int .i64 0,.int .i64 0,.int .i64 0,.int .u64 0,.bool false,.bool false] 275 (0,0)) by rw [hw1,hb2,ZI (by simp)];exact ZB w _);have HBB:=zh (show w.heap.size<=b2/\b2≠b4/\w.heap.size<=b4 by omega);rw [<-hw1,<-hb4,<-hb2];clear hw1 hb2 hb4;go_wp2_with fail;refine (HLO.o _ HB1.o).mono ?_;rintro e w' ⟨rfl,rfl⟩;go_wp2_with fail
 go_loopw [11] (fun i wr=>∃ k:Nat,k<=2/\i=.int .i64 k/\Bl w wr/\wr.heap[b2]?=some (.cells #[.int .i64 0,.int .i64 0,.int .i64 0,.int .i64 0,.int .i64 0,.int .i64 0,.int .i64 0,.int .u64 0,.int .i64 0,.int .i64 0,.int .i64 0,.int .i64 0,.int .i64 0,.int .i64 0,.int .i64 0,.int .u64 0,.bool false,.bool false] 275 (0,0))/\wr.heap[b4]?=some (.cells (if k=0 then Yq ⟨0,0,0,0,0,0,0,0⟩ ⟨0,0,0,0,0,0,0,0⟩ false false else if k=1 then Yq s0 ⟨0,0,0,0,0,0,0,0⟩ g0 false else Yq s0 s1 g0 g1) 275 (0,0))) (fun i _=>2 - (intOf i).toNat)
 case atStart=>exact ⟨0,by omega,rfl,HB1.o,HX2.o,HX4.o⟩
 case round=>
 obtain ⟨k,hk,rfl,hb,h2,h4⟩:=hrel;obtain ⟨V,hV⟩:=xE wr;rw [<-hV] at hb h2 h4 ⊢;have HB2:=zh hb;have HY2:=zh h2;have HY4:=zh h4;clear hb h2 h4 hV;rcases (show k=0\/k=1\/k=2 by omega) with rfl|rfl|rfl
 ·go_upto_region 7 with fail
  obtain ⟨w5,hw5⟩:=xE (V.alloc (.cells #[.int .u64 0,.int .u64 0,.int .u64 0,.int .u64 0,.int .u64 0,.int .u64 0,.int .u64 0,.int .u64 0] 285));obtain ⟨b7,hb7⟩:=xE V.heap.size;have HB5:=zh (show Bl V w5 by rw [hw5];exact ZA bR);have HR5:=zh (show Row w5 b7 285 8 (wdC c 0 0) by
   rw [hw5,hb7];refine ⟨_,ZB V _,Nat.le_refl 8,fun y hy=>?_⟩;rcases (show y=0\/y=1\/y=2\/y=3\/y=4\/y=5\/y=6\/y=7 by omega) with rfl|rfl|rfl|rfl|rfl|rfl|rfl|rfl <;> rfl)
  have HB7:=zh (show V.heap.size<=b7 by omega);rw [<-hw5,<-hb7];clear hw5 hb7;go_wp2_with fail
  go_loopw [14] (fun j wq=>∃ m:Nat,m<=8/\j=.int .i64 m/\Bl V wq/\Row wq b7 285 8 (wdC c 0 m)) (fun j _=>8 - (intOf j).toNat)
  case atStart=>exact ⟨0,by omega,rfl,HB5.o,HR5.o⟩
  case round=>
  obtain ⟨m,hm,rfl,hb,hr⟩:=hrel;have HB6:=zh hb;have HR6:=zh hr;have HBW:=zh (HB2.o.trans (hb.mono HB2.o.size));clear hb hr
  by_cases hlt:m < 8
  ·have b8:(m:Int) < 8:=by omega
   have HM:=zh hlt;have HL2:=zh (show Calls prog 34 #[.pointer (some ⟨A.t 0,0,none⟩),.int .u64 ((m:Int) * 8)] wr (fun r w'=>r=.returned (.int .u64 (c (0+m):Nat))/\wr=w') from by
    have:=HLD.o _ HBW.o (0+m) (by omega);rw [show ((8 * (0+m):Nat):Int)=((m:Int) * 8) by omega] at this;exact this)
   have z7:=HR6.o.cell m (by omega);have f7:=HR6.o.free m;have hcv:IntKind.u64.wrap (((m:Int) * 8))=((m:Int) * 8):=by
    show (((m:Int) * 8)) % 18446744073709551616=((m:Int) * 8);omega
   obtain ⟨cv,hcvv⟩:=xE (c (0+m));rw [<-hcvv] at HL2;have HCV:=zh hcvv;clear hlt hm hcvv;go_wp2_with (first|(go_invoke;go_simp;go_at_call 34;refine HL2.o.mono ?_;rintro e' V1 ⟨rfl,rfl⟩));have HE:=zh (show Row (wr.setCell ⟨b7,m,none⟩ (.int .u64 (cv:Nat))) b7 285 8 (wdC c 0 (m+1)) from (HR6.o.set m _).congr fun y hy=>by
    unfold wdC
    by_cases e:y=m
    ·rw [ZKv e,ZKv (by omega),HCV.o,e]
    ·rw [ZKu e]
     by_cases e2:y < m
     ·rw [ZKv (by omega),ZKv e2]
     ·rw [ZKu (by omega),ZKu e2])
   go_wp2_with fail;exact ⟨⟨m+1,by have:=HM.o;omega,rfl,ZE HB6.o HB7.o,HE.o⟩,by have:=HM.o;simp [intOf];omega⟩
  ·obtain rfl:m=8:=by omega
   clear hlt hm;have z0:=HR6.o.cell 0 (by omega);have z1:=HR6.o.cell 1 (by omega);have z2:=HR6.o.cell 2 (by omega);have z3:=HR6.o.cell 3 (by omega);have z4:=HR6.o.cell 4 (by omega);have z5:=HR6.o.cell 5 (by omega);have z6:=HR6.o.cell 6 (by omega);have z7:=HR6.o.cell 7 (by omega);simp only [wdC] at z0 z1 z2 z3 z4 z5 z6 z7;go_wp2_with fail;refine (HD0.o _ HBW.o).mono ?_;rintro e w9 ⟨rfl,hb9⟩;have hx9:w9.heap[b4]?=some (.cells (Yq ⟨0,0,0,0,0,0,0,0⟩ ⟨0,0,0,0,0,0,0,0⟩ false false) 275 (0,0)):=((HB6.o.trans (hb9.mono HB6.o.size)).block b4 (heap_lt HY4.o)).trans HY4.o;have hy9:w9.heap[b2]?=_:=((HB6.o.trans (hb9.mono HB6.o.size)).block b2 (heap_lt HY2.o)).trans HY2.o;have hb9:Bl w w9:=HBW.o.trans (hb9.mono HBW.o.size);have D0:w9.cell? ⟨b4,0,none⟩=some (.int .i64 0):=(ZC hx9).trans rfl;have D1:w9.cell? ⟨b4,1,none⟩=some (.int .i64 0):=(ZC hx9).trans rfl;have D2:w9.cell? ⟨b4,2,none⟩=some (.int .i64 0):=(ZC hx9).trans rfl;have D3:w9.cell? ⟨b4,3,none⟩=some (.int .i64 0):=(ZC hx9).trans rfl;have D4:w9.cell? ⟨b4,4,none⟩=some (.int .i64 0):=(ZC hx9).trans rfl;have D5:w9.cell? ⟨b4,5,none⟩=some (.int .i64 0):=(ZC hx9).trans rfl;have D6:w9.cell? ⟨b4,6,none⟩=some (.int .i64 0):=(ZC hx9).trans rfl;have D7:w9.cell? ⟨b4,7,none⟩=some (.int .u64 0):=(ZC hx9).trans rfl;have D16:w9.cell? ⟨b4,16,none⟩=some (.bool false):=(ZC hx9).trans rfl;have E0:w9.frozen? ⟨b4,0,none⟩=false:=ZG hx9;have E1:w9.frozen? ⟨b4,1,none⟩=false:=ZG hx9;have E2:w9.frozen? ⟨b4,2,none⟩=false:=ZG hx9;have E3:w9.frozen? ⟨b4,3,none⟩=false:=ZG hx9;have E4:w9.frozen? ⟨b4,4,none⟩=false:=ZG hx9;have E5:w9.frozen? ⟨b4,5,none⟩=false:=ZG hx9;have E6:w9.frozen? ⟨b4,6,none⟩=false:=ZG hx9;have E7:w9.frozen? ⟨b4,7,none⟩=false:=ZG hx9;have E16:w9.frozen? ⟨b4,16,none⟩=false:=ZG hx9;obtain ⟨w10,hw10⟩:=xE ((((((((((w9).setCell ⟨b4,0,none⟩ (.int .i64 s0.V)).setCell ⟨b4,1,none⟩ (.int .i64 s0.L)).setCell ⟨b4,2,none⟩ (.int .i64 s0.R)).setCell ⟨b4,3,none⟩ (.int .i64 s0.U)).setCell ⟨b4,4,none⟩ (.int .i64 s0.D)).setCell ⟨b4,5,none⟩ (.int .i64 s0.Q)).setCell ⟨b4,6,none⟩ (.int .i64 s0.T)).setCell ⟨b4,7,none⟩ (.int .u64 s0.G)).setCell ⟨b4,16,none⟩ (.bool g0));have HE:=zh (show Bl w w10/\w10.heap[b2]?=some (.cells #[.int .i64 0,.int .i64 0,.int .i64 0,.int .i64 0,.int .i64 0,.int .i64 0,.int .i64 0,.int .u64 0,.int .i64 0,.int .i64 0,.int .i64 0,.int .i64 0,.int .i64 0,.int .i64 0,.int .i64 0,.int .u64 0,.bool false,.bool false] 275 (0,0))/\w10.heap[b4]?=some (.cells (Yq s0 ⟨0,0,0,0,0,0,0,0⟩ g0 false) 275 (0,0)) from by
    rw [hw10];exact ⟨ZE (ZE (ZE (ZE (ZE (ZE (ZE (ZE (ZE (hb9) HBB.o.2.2) HBB.o.2.2) HBB.o.2.2) HBB.o.2.2) HBB.o.2.2) HBB.o.2.2) HBB.o.2.2) HBB.o.2.2) HBB.o.2.2,(ZF HBB.o.2.1).trans ((ZF HBB.o.2.1).trans ((ZF HBB.o.2.1).trans ((ZF HBB.o.2.1).trans ((ZF HBB.o.2.1).trans ((ZF HBB.o.2.1).trans ((ZF HBB.o.2.1).trans ((ZF HBB.o.2.1).trans ((ZF HBB.o.2.1).trans (hy9))))))))),(ZH (ZH (ZH (ZH (ZH (ZH (ZH (ZH (ZH (hx9)))))))))).trans (congrArg (fun z=>some (Obj.cells z 275 (0,0))) (by kernel_rfl))⟩)
   clear hb9 hx9 hy9 z0 z1 z2 z3 z4 z5 z6 z7;go_wp2_with fail;rw [<-hw10];exact ⟨⟨1,by omega,rfl,HE.o.1,HE.o.2.1,HE.o.2.2⟩,by simp [intOf]⟩
 ·go_upto_region 7 with fail
  obtain ⟨w5,hw5⟩:=xE (V.alloc (.cells #[.int .u64 0,.int .u64 0,.int .u64 0,.int .u64 0,.int .u64 0,.int .u64 0,.int .u64 0,.int .u64 0] 285));obtain ⟨b7,hb7⟩:=xE V.heap.size;have HB5:=zh (show Bl V w5 by rw [hw5];exact ZA bR);have HR5:=zh (show Row w5 b7 285 8 (wdC c 8 0) by
   rw [hw5,hb7];refine ⟨_,ZB V _,Nat.le_refl 8,fun y hy=>?_⟩;rcases (show y=0\/y=1\/y=2\/y=3\/y=4\/y=5\/y=6\/y=7 by omega) with rfl|rfl|rfl|rfl|rfl|rfl|rfl|rfl <;> rfl)
  have HB7:=zh (show V.heap.size<=b7 by omega);rw [<-hw5,<-hb7];clear hw5 hb7;go_wp2_with fail
  go_loopw [14] (fun j wq=>∃ m:Nat,m<=8/\j=.int .i64 m/\Bl V wq/\Row wq b7 285 8 (wdC c 8 m)) (fun j _=>8 - (intOf j).toNat)
  case atStart=>exact ⟨0,by omega,rfl,HB5.o,HR5.o⟩
  case round=>
  obtain ⟨m,hm,rfl,hb,hr⟩:=hrel;have HB6:=zh hb;have HR6:=zh hr;have HBW:=zh (HB2.o.trans (hb.mono HB2.o.size));clear hb hr
  by_cases hlt:m < 8
  ·have b8:(m:Int) < 8:=by omega
   have HM:=zh hlt;have HL2:=zh (show Calls prog 34 #[.pointer (some ⟨A.t 0,0,none⟩),.int .u64 (64+(m:Int) * 8)] wr (fun r w'=>r=.returned (.int .u64 (c (8+m):Nat))/\wr=w') from by
    have:=HLD.o _ HBW.o (8+m) (by omega);rw [show ((8 * (8+m):Nat):Int)=(64+(m:Int) * 8) by omega] at this;exact this)
   have z7:=HR6.o.cell m (by omega);have f7:=HR6.o.free m;have hcv:IntKind.u64.wrap ((64+(m:Int) * 8))=(64+(m:Int) * 8):=by
    show ((64+(m:Int) * 8)) % 18446744073709551616=(64+(m:Int) * 8);omega
   obtain ⟨cv,hcvv⟩:=xE (c (8+m));rw [<-hcvv] at HL2;have HCV:=zh hcvv;clear hlt hm hcvv;go_wp2_with (first|(go_invoke;go_simp;go_at_call 34;refine HL2.o.mono ?_;rintro e' V1 ⟨rfl,rfl⟩));have HE:=zh (show Row (wr.setCell ⟨b7,m,none⟩ (.int .u64 (cv:Nat))) b7 285 8 (wdC c 8 (m+1)) from (HR6.o.set m _).congr fun y hy=>by
    unfold wdC
    by_cases e:y=m
    ·rw [ZKv e,ZKv (by omega),HCV.o,e]
    ·rw [ZKu e]
     by_cases e2:y < m
     ·rw [ZKv (by omega),ZKv e2]
     ·rw [ZKu (by omega),ZKu e2])
   go_wp2_with fail;exact ⟨⟨m+1,by have:=HM.o;omega,rfl,ZE HB6.o HB7.o,HE.o⟩,by have:=HM.o;simp [intOf];omega⟩
  ·obtain rfl:m=8:=by omega
   clear hlt hm;have z0:=HR6.o.cell 0 (by omega);have z1:=HR6.o.cell 1 (by omega);have z2:=HR6.o.cell 2 (by omega);have z3:=HR6.o.cell 3 (by omega);have z4:=HR6.o.cell 4 (by omega);have z5:=HR6.o.cell 5 (by omega);have z6:=HR6.o.cell 6 (by omega);have z7:=HR6.o.cell 7 (by omega);simp only [wdC] at z0 z1 z2 z3 z4 z5 z6 z7;go_wp2_with fail;refine (HD1.o _ HBW.o).mono ?_;rintro e w9 ⟨rfl,hb9⟩;have hx9:w9.heap[b4]?=some (.cells (Yq s0 ⟨0,0,0,0,0,0,0,0⟩ g0 false) 275 (0,0)):=((HB6.o.trans (hb9.mono HB6.o.size)).block b4 (heap_lt HY4.o)).trans HY4.o;have hy9:w9.heap[b2]?=_:=((HB6.o.trans (hb9.mono HB6.o.size)).block b2 (heap_lt HY2.o)).trans HY2.o;have hb9:Bl w w9:=HBW.o.trans (hb9.mono HBW.o.size);have D8:w9.cell? ⟨b4,8,none⟩=some (.int .i64 0):=(ZC hx9).trans rfl;have D9:w9.cell? ⟨b4,9,none⟩=some (.int .i64 0):=(ZC hx9).trans rfl;have D10:w9.cell? ⟨b4,10,none⟩=some (.int .i64 0):=(ZC hx9).trans rfl;have D11:w9.cell? ⟨b4,11,none⟩=some (.int .i64 0):=(ZC hx9).trans rfl;have D12:w9.cell? ⟨b4,12,none⟩=some (.int .i64 0):=(ZC hx9).trans rfl;have D13:w9.cell? ⟨b4,13,none⟩=some (.int .i64 0):=(ZC hx9).trans rfl;have D14:w9.cell? ⟨b4,14,none⟩=some (.int .i64 0):=(ZC hx9).trans rfl;have D15:w9.cell? ⟨b4,15,none⟩=some (.int .u64 0):=(ZC hx9).trans rfl;have D17:w9.cell? ⟨b4,17,none⟩=some (.bool false):=(ZC hx9).trans rfl;have E8:w9.frozen? ⟨b4,8,none⟩=false:=ZG hx9;have E9:w9.frozen? ⟨b4,9,none⟩=false:=ZG hx9;have E10:w9.frozen? ⟨b4,10,none⟩=false:=ZG hx9;have E11:w9.frozen? ⟨b4,11,none⟩=false:=ZG hx9;have E12:w9.frozen? ⟨b4,12,none⟩=false:=ZG hx9;have E13:w9.frozen? ⟨b4,13,none⟩=false:=ZG hx9;have E14:w9.frozen? ⟨b4,14,none⟩=false:=ZG hx9;have E15:w9.frozen? ⟨b4,15,none⟩=false:=ZG hx9;have E17:w9.frozen? ⟨b4,17,none⟩=false:=ZG hx9;obtain ⟨w10,hw10⟩:=xE ((((((((((w9).setCell ⟨b4,8,none⟩ (.int .i64 s1.V)).setCell ⟨b4,9,none⟩ (.int .i64 s1.L)).setCell ⟨b4,10,none⟩ (.int .i64 s1.R)).setCell ⟨b4,11,none⟩ (.int .i64 s1.U)).setCell ⟨b4,12,none⟩ (.int .i64 s1.D)).setCell ⟨b4,13,none⟩ (.int .i64 s1.Q)).setCell ⟨b4,14,none⟩ (.int .i64 s1.T)).setCell ⟨b4,15,none⟩ (.int .u64 s1.G)).setCell ⟨b4,17,none⟩ (.bool g1));have HE:=zh (show Bl w w10/\w10.heap[b2]?=some (.cells #[.int .i64 0,.int .i64 0,.int .i64 0,.int .i64 0,.int .i64 0,.int .i64 0,.int .i64 0,.int .u64 0,.int .i64 0,.int .i64 0,.int .i64 0,.int .i64 0,.int .i64 0,.int .i64 0,.int .i64 0,.int .u64 0,.bool false,.bool false] 275 (0,0))/\w10.heap[b4]?=some (.cells (Yq s0 s1 g0 g1) 275 (0,0)) from by
    rw [hw10];exact ⟨ZE (ZE (ZE (ZE (ZE (ZE (ZE (ZE (ZE (hb9) HBB.o.2.2) HBB.o.2.2) HBB.o.2.2) HBB.o.2.2) HBB.o.2.2) HBB.o.2.2) HBB.o.2.2) HBB.o.2.2) HBB.o.2.2,(ZF HBB.o.2.1).trans ((ZF HBB.o.2.1).trans ((ZF HBB.o.2.1).trans ((ZF HBB.o.2.1).trans ((ZF HBB.o.2.1).trans ((ZF HBB.o.2.1).trans ((ZF HBB.o.2.1).trans ((ZF HBB.o.2.1).trans ((ZF HBB.o.2.1).trans (hy9))))))))),(ZH (ZH (ZH (ZH (ZH (ZH (ZH (ZH (ZH (hx9)))))))))).trans (congrArg (fun z=>some (Obj.cells z 275 (0,0))) (by kernel_rfl))⟩)
   clear hb9 hx9 hy9 z0 z1 z2 z3 z4 z5 z6 z7;go_wp2_with fail;rw [<-hw10];exact ⟨⟨2,by omega,rfl,HE.o.1,HE.o.2.1,HE.o.2.2⟩,by simp [intOf]⟩
 ·have hy4:V.heap[b4]?=some (.cells (Yq s0 s1 g0 g1) 275 (0,0)):=HY4.o
  go_upto_region 14 with fail;obtain ⟨CS,hCS⟩:=xE (Yq s0 s1 g0 g1);have HCS:=zh hCS;have HCZ:=zh (show CS.size=18 by rw [hCS];rfl);rw [<-hCS] at hy4;have HS0:=zh (show Bl w V.drew/\∀ j v,CS.toList[j]?=some v->V.drew.cell? ⟨b4,0+j,none⟩=some v from ⟨ZD HB2.o,fun j v hj=>by
   rw [ZLI,show V.drew.cell? ⟨b4,j,none⟩=V.cell? ⟨b4,j,none⟩ from rfl,ZC hy4,<-ZLS];exact hj⟩)
  have hall:CS.all (·.oneCell')=true:=by rw [hCS];simp [Yq,Value.oneCell']
  clear hCS;refine Z8 4 (fun wx=>Bl w wx/\∀ j v,CS.toList[j]?=some v->wx.cell? ⟨b4,0+j,none⟩=some v) (by kernel_rfl) ?_;refine YC (i:=0) (z:=4) (v:=.agg CS) (by decide) rfl (by kernel_rfl) (by kernel_rfl) (by kernel_rfl) (by kernel_rfl) (by kernel_rfl) (fun _ _ _ h=>h) HS0.o (Or.inl ⟨by rfl,fun w' hc=>?_⟩) ?_
  ·have hl:=Yo (P:=prog) w' b4 0 275 CS _ hc.2 underlying275 rfl (by rw [HCZ.o];kernel_rfl);simp [execOp,Act.eval,Instr.loadAt,Instr.sureAddr,hl]
  (try simp only [Act.put,ZK3,ZKy,ZK0,ZKt,ZKw,ZKx])
  refine YC (i:=1) (z:=4) (v:=.iface 97 (.pointer (some ⟨A.t 0,0,none⟩))) (by decide) rfl (by kernel_rfl) (by kernel_rfl) (by kernel_rfl) (by kernel_rfl) (by kernel_rfl) (fun _ _ _ h=>h) HS0.o (Or.inl ⟨by rfl,fun w' hc=>?_⟩) ?_
  ·go_simp
  (try simp only [Act.put,ZK3,ZKy,ZK0,ZKt,ZKw,ZKx])
  refine YZ (j:=2) (z:=4) (by kernel_rfl) rfl (fun K hK=>?_);refine XN rfl (HER.o _ HS0.o.1) (by kernel_rfl) ?_;rintro e6 w6 ⟨rfl,rfl⟩;refine ⟨_,rfl,hK _ _ HS0.o ?_⟩;clear hK K
  (try simp only [Act.put,ZK3,ZKy,ZK0,ZKt,ZKw,ZKx])
  refine YZ (j:=3) (z:=4) (by kernel_rfl) rfl (fun K hK=>?_);have hgg:V.drew.heap[b2]?=some (.cells #[.int .i64 0,.int .i64 0,.int .i64 0,.int .i64 0,.int .i64 0,.int .i64 0,.int .i64 0,.int .u64 0,.int .i64 0,.int .i64 0,.int .i64 0,.int .i64 0,.int .i64 0,.int .i64 0,.int .i64 0,.int .u64 0,.bool false,.bool false] 275 (0,0)):=HY2.o;refine XO rfl 275 (.tmp 2) (.tmp 41) rfl b2 CS rfl rfl 275 _ hgg (by rw [HCZ.o];kernel_rfl) (by rw [HCZ.o];rfl) hall ?_;have HW9:=zh (show Bl w (V.drew.setRow b2 CS)/\(V.drew.setRow b2 CS).heap[b2]?=some (.cells CS 275 (0,0)) from ⟨Ye HS0.o.1 HBB.o.1 CS,setRow_heap _ _ _ _ _ _ hgg⟩);refine hK _ _ ⟨HW9.o.1,fun j v hj=>?_⟩ ?_
  ·have hne:b4≠b2:=fun e=>HBB.o.2.1 e.symm
   rw [cell_setRow_other _ _ _ _ hne];exact HS0.o.2 j v hj
  clear hK K hgg;obtain ⟨w9,hw9⟩:=xE (V.drew.setRow b2 CS);rw [<-hw9] at HW9 ⊢;clear hw9 HS0
  (try simp only [Act.put,ZK3,ZKy,ZK0,ZKt,ZKw,ZKx])
  refine UY (z:=4) (by kernel_rfl) rfl (by kernel_rfl) (by kernel_rfl) (fun K hK=>?_);go_simp;refine hK _ _ ?_;clear hK K;go_wp2_with fail;refine bodyPost_ret (X7 rfl _ _ b2 275 CS (0,0) _ rfl HW9.o.2 underlying275 rfl (by rw [HCZ.o];kernel_rfl)) rfl ?_;refine ⟨?_,HW9.o.1⟩;rw [HCS.o];rfl
theorem ZCy (h:Ar w A F L T c)(hL:2<=L)(w1:World)(hb:Bl w w1):Calls prog 142 #[.iface 97 (.pointer (some ⟨A.t 0,0,none⟩))] w1 fun e w'=>e=.returned (.int .i64 0)/\w1=w':=by
 have HS:=zh (ZBN h w1 hb);have HE:=zh (Zq h (i:=0) (by omega) w1 hb);have hL2:(2:Int)<=L:=by omega
 clear h hb hL;go_in;go_wp2_with fail;refine HS.o.mono ?_;rintro e w' ⟨rfl,rfl⟩;go_wp2_with (first|(go_invoke;go_simp;go_at_call 31;refine HE.o.mono ?_;rintro e w' ⟨rfl,rfl⟩));go_returns;exact ⟨rfl,rfl⟩
theorem ZIa {s0 s1:Sup}:Calls prog 154 #[.agg (Yq s0 s1 true false)] w fun e w'=>e=.returned (.tuple #[.int .i64 0,.bool true])/\Bl w w':=by
 unfold Yq;have HB:=zh (Below.refl w.heap.size w);go_in;go_wp2_with fail
 go_region
 go_wp2;go_returns;exact ⟨rfl,by repeat (with_reducible first|exact HB.o|apply ZA|apply ZD)⟩
theorem ZIX:Calls prog 144 #[.bool false] w fun e w'=>e=.returned (.int .i64 10)/\w=w':=by
 go_in;go_wp2;go_returns;exact ⟨rfl,rfl⟩
theorem ZFc (h:Ar w A F L T c)(hL:2<=L)(hz:∀ y,y < 16->c y=0):
 Calls prog 88 #[.iface 97 (.pointer (some ⟨A.t 0,0,none⟩))] w fun e w'=>e=.returned (.tuple #[.int .i64 10,.int .i64 10])/\Bl w w':=by
 have HU:=zh (ZCy h hL);have HS:=zh (ZAi (s0:=Sup.zero) (s1:=Sup.zero) (g0:=false) (g1:=false) h hL (.inl ⟨by simp [hz],rfl,rfl⟩) (.inl ⟨by simp [hz],rfl,rfl⟩));have HC:=zh (fun (wx:World)=>ZIX (w:=wx));have HB:=zh (Below.refl w.heap.size w);unfold Yq at HS;clear h hL hz;go_in;go_wp2_with fail;refine (HU.o _ HB.o).mono ?_;rintro e w' ⟨rfl,rfl⟩;go_wp2_with fail;refine HS.o.mono ?_;rintro e w1 ⟨rfl,hb1⟩;have HB1:=zh hb1;clear hb1;obtain ⟨CP,hCP⟩:∃ CP:Array Value,CP=#[.int .i64 (Sup.zero.V:Nat),.int .i64 (Sup.zero.L:Nat),.int .i64 (Sup.zero.R:Nat),.int .i64 (Sup.zero.U:Nat),.int .i64 (Sup.zero.D:Nat),.int .i64 (Sup.zero.Q:Nat),.int .i64 (Sup.zero.T:Nat),.int .u64 (Sup.zero.G:Nat),.int .i64 (Sup.zero.V:Nat),.int .i64 (Sup.zero.L:Nat),.int .i64 (Sup.zero.R:Nat),.int .i64 (Sup.zero.U:Nat),.int .i64 (Sup.zero.D:Nat),.int .i64 (Sup.zero.Q:Nat),.int .i64 (Sup.zero.T:Nat),.int .u64 (Sup.zero.G:Nat),.bool false,.bool false]:=⟨_,rfl⟩
 go_upto_region 8 with fail;rw [<-hCP];obtain ⟨w2,hw2⟩:=xE (w1.alloc (.cells CP 275));have hx2:w2.heap[w1.heap.size]?=some (.cells CP 275 (0,0)):=by rw [hw2];exact ZB _ _
 obtain ⟨cb,hcb⟩:=xE w1.heap.size;have HB2:=zh (show Bl w w2 by rw [hw2];exact ZA HB1.o);have c16:w2.cell? ⟨w1.heap.size,16,none⟩=some (.bool false):=by rw [ZC hx2,hCP];rfl
 have c17:w2.cell? ⟨w1.heap.size,17,none⟩=some (.bool false):=by rw [ZC hx2,hCP];rfl
 rw [<-hcb] at c16 c17;rw [<-hw2,<-hcb];clear hw2 hcb hx2 hCP
 go_region_held3 (fun wx=>wx.cell? ⟨cb,16,none⟩=some (.bool false)/\wx.cell? ⟨cb,17,none⟩=some (.bool false))
  (first|assumption|exact ⟨c16,c17⟩)
  (first
    |(go_at_call 144;refine (HC.o _).mono ?_;rintro e' V2 ⟨rfl,rfl⟩))
 go_wp2;go_returns;exact ⟨rfl,ZD HB2.o⟩
theorem Aq.new (h:Aq w A F L T c x){g:Nat}(hg:w.heap.size<=g):F g=none:=by
 obtain ⟨s,h1,_⟩:=h.dev;cases e:F g with
 |none=>rfl
 |some r=>exact absurd (h1.lt g (by rw [e];simp)) (by omega)
theorem X6 (h:Aq w A F L T c x) {ls:List (List (Nat×Nat))} (h0:0 < (Za ls).length)
 (hl:∀ l∈ls,∀ q∈l,q.1 % 8=0/\q.1 < 64 * L/\q.2 < 18446744073709551616) (hn:x+Zn ls<=x') (hx:x'<=1000000)
 (w1:World)(hb:Bl w w1){v:Value}{B:Nat}(hp:Prg w1 B v (Za ls))(hB:w.heap.size<=B):
 Calls prog 76 #[v,.iface 97 (.pointer (some ⟨A.t 0,0,none⟩))] w1 fun e w'=>e=.returned (.int .i64 0)/\∃ F',Aq w' A F' L T (wrs c ls.flatten) x'/\Moved F F' w w':=by
 obtain ⟨g,cap,rfl,hs,hg⟩:=Zi hp h0;refine (ZBV (t:=0) (k:=cap) (h.below hb) (by omega) hs (h.new (by omega)) hl (by omega)).mono ?_;rintro e w' ⟨rfl,F',h1,h2⟩;exact ⟨rfl,F',h1.mono (by omega),Moved.trans ⟨Only.of_below hb,fun _ _=>rfl⟩ h2⟩
theorem Qd (ha:Ar w A F 160 T c):Calls prog 145 #[.iface 97 (.pointer (some ⟨A.t 0,0,none⟩)),.int .i64 2] w fun e w'=>e=.returned (.bool false)/\w=w':=by
 have HS:=zh (XZ ha (i:=0) (by omega) w bR);rw [show ((160 * 64:Nat):Int)=10240 by rfl] at HS;clear ha;go_in;go_wp2_with fail;refine HS.o.mono ?_;rintro e w' ⟨rfl,rfl⟩;go_wp2;go_returns;exact ⟨rfl,rfl⟩
def Xm (n:Nat):List (Nat×Nat):=(List.range n).map fun e=>(8 * (16+(e * 4+3)),0)
theorem ZDp (n:Nat):Xm (n+1)=Xm n++[(8 * (16+(n * 4+3)),0)]:=by unfold Xm;rw [ZLN,ZLH];rfl
def RfR (W:World)(v i:Value)(wr:World):Prop:=
 ∃ m:Nat,m<=16/\i=.int .i64 (m:Nat)/\wr.ownsRow W.heap.size 155 2 v m (ZP (Xm m))/\Bl W wr
theorem ZCa (h:Aq w A F 160 T c x)(hx:x+40<=1000000):
 Calls prog 90 #[.iface 97 (.pointer (some ⟨A.t 0,0,none⟩)),.int .i64 2] w fun e w'=>e=.returned (.int .i64 0)/\∃ F',Aq w' A F' 160 T (wrs c (Xm 16)) (x+40)/\Moved F F' w w':=by
 have HLK:=zh (Qd h.ar);have HER:=zh (Zq h.ar (i:=0) (by omega) w bR);have HAT:=zh (fun (w1:World) (rb:Nat) (hr:RtB w1 A rb) (i:Nat) (hi:i < 16)=>ZBT hr hi (show 3 < 4 by omega))
 have HRUN:=zh (fun (w1:World) (hb:Bl w w1) (v:Value) (B:Nat) (hB:w.heap.size<=B) (hp:Prg w1 B v (Za [Xm 16]))=>
  X6 h (ls:=[Xm 16]) (x':=x+40) (by decide) (by decide) (Nat.add_le_add_left (show Zn [Xm 16]<=40 by decide) x) hx w1 hb hp hB)
 have hflat:[Xm 16].flatten=Xm 16:=by simp
 rw [hflat,Zs] at HRUN;have HOB:=zh (show ∀ y∈Xm 16,y.1 < 18446744073709551616 by decide);clear h hx hflat;go_in;go_wp2_with fail;refine HLK.o.mono ?_;rintro e w' ⟨rfl,rfl⟩;have hne:=YP;go_wp2_with fail;refine HER.o.mono ?_;rintro e w' ⟨rfl,rfl⟩;go_upto_region 8 with fail;obtain ⟨w1,hw1⟩:=xE (w.alloc (.cells #[.iface 97 (.pointer (some ⟨A.t 0,0,none⟩)),.int .u64 128] 148));have HR:=zh (show RtB w1 A w.heap.size by rw [hw1];exact ZB _ _);have HB1:=zh (show Bl w w1 by rw [hw1];exact ZA bR);rw [<-hw1];obtain ⟨rb,hrb⟩:=xE w.heap.size;rw [<-hrb] at HR ⊢;have HS1:=zh (show w.heap.size<=w1.heap.size from HB1.o.size);clear hw1 hrb;go_wp2_with fail
 go_loopw [7,23] (fun v i wr=>RfR w1 v i wr) (fun _ i _=>16 - (intOf i).toNat)
 case atStart=>exact ⟨0,by omega,rfl,ZLD _ _ _ _,bR⟩
 case round=>
  obtain ⟨m,hm,rfl,hown,hbel⟩:=hrel;have HB:=zh hbel;have HO:=zh hown;obtain ⟨ra,rc,hv⟩:=ZR hown;subst hv;clear hown hbel
  by_cases hlt:m < 16
  ·have d0:(m:Int) < 16:=by omega
   have HA:=zh (HAT.o _ _ (HR.o.below HB.o) m hlt);clear hlt;go_wp2_with fail;refine HA.o.mono ?_;rintro e w' ⟨rfl,rfl⟩;go_wp2_with (at_builtin;refine ZT elWrites rfl _ _ rfl HO.o rfl rfl ?c1 rfl ?c2 ?c3 ?c4 ?c5 ?_)
   case c1=>rfl
   case c2=>exact ⟨rfl,rfl⟩
   case c3=>unfold maxLen;omega
   case c4=>omega
   case c5=>exact HB.o.size
   intro g4 cap4 w5 hop5 hgr5 hg5
   have G:=zh (show RfR w1 (.slice (some ⟨g4,0,none⟩) (m+1) cap4) (.int .i64 ((m+1:Nat):Int)) w5 from ⟨m+1,by omega,rfl,by
    rw [ZDp,Zk];exact hop5,ZN HB.o hgr5 HB.o.size (fun b hb=>(HO.o.lt b hb).1)⟩)
   clear hop5 hgr5 hg5;go_wp2_with fail;go_roundw
   case rel=>simpa using G.o
   case measure=>simp [intOf];omega
  ·obtain rfl:m=16:=by omega
   have HST:=zh (YV (l:=Xm 16) HO.o (by decide) (by decide) HOB.o);have HBB:=zh (HB1.o.trans (HB.o.mono HS1.o));clear hlt hm;go_wp2_with fail;refine (HST.o wr bR).mono ?_;rintro e w' ⟨rv,rfl,hp1,hb1⟩;go_wp2_with fail;refine (HRUN.o w' (HBB.o.trans (hb1.mono HBB.o.size)) _ _ HBB.o.size hp1).mono ?_;rintro e w2 ⟨rfl,hcl⟩;go_wp2;go_returns;exact ⟨rfl,hcl⟩
theorem ZBU (h:Aq w A F 160 T c x)(hx:x+10<=1000000):
 Calls prog 91 #[.iface 97 (.pointer (some ⟨A.t 0,0,none⟩)),.int .i64 10,.int .i64 26] w fun e w'=>e=.returned (.int .i64 0)/\∃ F',Aq w' A F' 160 T (wrs c [(640,0)]) (x+10)/\Moved F F' w w':=by
 have HH:=zh (Je h.ar (t:=0) (by omega));have HER:=zh (Zq h.ar (i:=0) (by omega))
 have HRUN:=zh (fun (w1:World) (hb:Bl w w1) (v:Value) (B:Nat) (hB:w.heap.size<=B) (hp:Prg w1 B v (Za [[(640,0)]]))=>
  X6 h (ls:=[[(640,0)]]) (x':=x+10) (by decide) (by decide) (Nat.add_le_add_left (show Zn [[(640,0)]]<=10 by decide) x) hx w1 hb hp hB)
 have hflat:[[(640,0)]].flatten=[((640:Nat),(0:Nat))]:=rfl;rw [hflat,Zs] at HRUN;clear h hx hflat;go_in;go_wp2_with fail;refine HH.o.mono ?_;rintro e w1 ⟨rfl,hw1⟩;have HB1:=zh (show Bl w w1 by rw [hw1];exact ZA bR);have HM:=zh (JK (w:=w1) (b:=w.heap.size) (A:=A) (t:=0) (off:=640) (size:=1664) (v:=0) (by rw [hw1];exact ZB _ _) (by omega));have hne:=YP;clear hw1;go_wp2_with fail;refine (HER.o w1 HB1.o).mono ?_;rintro e w' ⟨rfl,rfl⟩;go_wp2_with fail;refine HM.o.mono ?_;rintro e w2 ⟨rv,rfl,hp1,hb1⟩;go_wp2_with fail;refine (HRUN.o w2 (HB1.o.trans (hb1.mono HB1.o.size)) _ _ HB1.o.size hp1).mono ?_;rintro e w3 ⟨rfl,hcl⟩;go_wp2;go_returns;exact ⟨rfl,hcl⟩
theorem mvalid_yes:Calls prog 147 #[.agg #[.int .i64 62,.int .i64 8,.int .u64 10240]] w fun e w'=>e=.returned (.bool true)/\Bl w w':=by
 go_in;go_wp2;go_returns;exact ⟨rfl,ZA bR⟩
theorem mcount_yes:Calls prog 148 #[.agg #[.int .i64 62,.int .i64 8,.int .u64 10240]] w fun e w'=>e=.returned (.int .i64 2)/\Bl w w':=by
 go_in;go_wp2;go_returns;exact ⟨rfl,ZA bR⟩
theorem ZEN {k:Nat}(hk:k < 2):Calls prog 149 #[.agg #[.int .i64 62,.int .i64 8,.int .u64 10240],.int .i64 k] w fun e w'=>e=.returned (.int .u64 (3968+256 * k:Nat))/\Bl w w':=by
 have b1:(k:Int) < 2:=by omega
 clear hk;go_in;go_wp2;go_returns;refine ⟨by rw [show ((3968+256 * k:Nat):Int)=(62+(k:Int) * 4) * 64 by omega];rfl,ZA bR⟩
def Xf (n:Nat):List (Nat×Nat):=(List.range n).map fun k=>(3968+256 * k,1836515329)
theorem ZDN (n:Nat):Xf (n+1)=Xf n++[(3968+256 * n,1836515329)]:=by unfold Xf;rw [ZLN,ZLH];rfl
def MfR (W:World)(v i:Value)(wr:World):Prop:=
 ∃ m:Nat,m<=2/\i=.int .i64 (m:Nat)/\wr.ownsRow W.heap.size 155 2 v m (ZP (Xf m))/\Bl W wr
theorem Yn {w w1:World}{b:Nat}{t:TypeId}{cs:Array Value}(h:w1.heap[b]?=some (.cells cs t (0,0)))(hb:Bl w1 w):w.heap[b]?=some (.cells cs t (0,0)):=(hb.block _ (heap_lt h)).trans h
theorem ZCL (h:Aq w A F 160 T c x)(hx:x+10<=1000000):
 Calls prog 92 #[.iface 97 (.pointer (some ⟨A.t 0,0,none⟩)),.int .i64 62,.int .i64 8] w fun e w'=>e=.returned (.int .i64 0)/\∃ F',Aq w' A F' 160 T (wrs c (Xf 2)) (x+10)/\Moved F F' w w':=by
 have HS:=zh (XZ h.ar (i:=0) (by omega));have HER:=zh (Zq h.ar (i:=0) (by omega))
 have HRUN:=zh (fun (w1:World) (hb:Bl w w1) (v:Value) (B:Nat) (hB:w.heap.size<=B) (hp:Prg w1 B v (Za [Xf 2]))=>
  X6 h (ls:=[Xf 2]) (x':=x+10) (by decide) (by decide) (Nat.add_le_add_left (show Zn [Xf 2]<=10 by decide) x) hx w1 hb hp hB)
 have hflat:[Xf 2].flatten=Xf 2:=by simp
 rw [hflat,Zs] at HRUN;have HOB:=zh (show ∀ y∈Xf 2,y.1 < 18446744073709551616 by decide);have HR0:=zh (Below.refl w.heap.size w);rw [show ((160 * 64:Nat):Int)=10240 by rfl] at HS;clear h hx hflat;go_in;have hne:=YP;go_wp2_with fail;refine (HS.o w HR0.o).mono ?_;rintro e w' ⟨rfl,rfl⟩;go_upto_region 4 with fail;obtain ⟨w1,hw1⟩:=xE (w.alloc (.cells #[.int .i64 62,.int .i64 8,.int .u64 10240] 282));obtain ⟨rb,hrb⟩:=xE w.heap.size;have HG:=zh (show w1.heap[rb]?=some (.cells #[.int .i64 62,.int .i64 8,.int .u64 10240] 282 (0,0)) by rw [hw1,hrb];exact ZB _ _);have HB1:=zh (show Bl w w1 by rw [hw1];exact ZA bR);have HGX:=zh (fun (wx:World) (hb:Bl w1 wx)=>Zb (Yn HG.o hb));rw [<-hw1,<-hrb];clear hw1 hrb;obtain ⟨c0,c1,c2,_⟩:=Zb HG.o;go_wp2_with fail;refine mvalid_yes.mono ?_;rintro e w2 ⟨rfl,hb2⟩;have HB2:=zh (HB1.o.trans (hb2.mono HB1.o.size));have hb2':=zh hb2;clear hb2 c0 c1 c2;go_wp2_with fail;refine (HER.o w2 HB2.o).mono ?_;rintro e w' ⟨rfl,rfl⟩;obtain ⟨c0,c1,c2,_⟩:=HGX.o w2 hb2'.o;go_wp2_with fail;refine mcount_yes.mono ?_;rintro e w3 ⟨rfl,hb3⟩;have HB3:=zh (hb2'.o.trans (hb3.mono hb2'.o.size));have HBB3:=zh (HB1.o.trans (HB3.o.mono HB1.o.size));clear hb3 c0 c1 c2;go_wp2_with fail
 go_loopw [9,28] (fun v i wr=>MfR w3 v i wr) (fun _ i _=>2 - (intOf i).toNat)
 case atStart=>exact ⟨0,by omega,rfl,ZLD _ _ _ _,bR⟩
 case round=>
  obtain ⟨m,hm,rfl,hown,hbel⟩:=hrel;have HB:=zh hbel;have HO:=zh hown;obtain ⟨ra,rc,hv⟩:=ZR hown;subst hv;clear hown hbel
  by_cases hlt:m < 2
  ·have d0:(m:Int) < 2:=by omega
   have HA:=zh (fun (wx:World)=>ZEN (w:=wx) hlt);obtain ⟨c0,c1,c2,_⟩:=HGX.o wr (HB3.o.trans (HB.o.mono HB3.o.size));clear hlt;go_wp2_with fail;refine (HA.o _).mono ?_;rintro e w4 ⟨rfl,hb4⟩;have HO4:=zh (ZQ HO.o hb4);have HB4:=zh (HB.o.trans (hb4.mono HB.o.size));clear hb4 c0 c1 c2;go_wp2_with (at_builtin;refine ZT elWrites rfl _ _ rfl HO4.o rfl rfl ?c1 rfl ?c2 ?c3 ?c4 ?c5 ?_)
   case c1=>rfl
   case c2=>exact ⟨rfl,rfl⟩
   case c3=>unfold maxLen;omega
   case c4=>omega
   case c5=>exact HB4.o.size
   intro g4 cap4 w5 hop5 hgr5 hg5
   have G:=zh (show MfR w3 (.slice (some ⟨g4,0,none⟩) (m+1) cap4) (.int .i64 ((m+1:Nat):Int)) w5 from ⟨m+1,by omega,rfl,by
    rw [ZDN,Zk];exact hop5,ZN HB4.o hgr5 HB4.o.size (fun b hb=>(HO4.o.lt b hb).1)⟩)
   clear hop5 hgr5 hg5;go_wp2_with fail;go_roundw
   case rel=>simpa using G.o
   case measure=>simp [intOf];omega
  ·obtain rfl:m=2:=by omega
   have HST:=zh (YV (l:=Xf 2) HO.o (by decide) (by decide) HOB.o);have HBB:=zh (HBB3.o.trans (HB.o.mono HBB3.o.size));clear hlt hm;go_wp2_with fail;refine (HST.o wr bR).mono ?_;rintro e w' ⟨rv,rfl,hp1,hb1⟩;go_wp2_with fail;refine (HRUN.o w' (HBB.o.trans (hb1.mono HBB.o.size)) _ _ HBB.o.size hp1).mono ?_;rintro e w2 ⟨rfl,hcl⟩;go_wp2;go_returns;exact ⟨rfl,hcl⟩
theorem epack1:Calls prog 75 #[.int .u64 1] w fun e w'=>e=.returned (.int .u64 7309464666214760449)/\w=w':=by
 go_in;go_wp2;go_returns;exact ⟨rfl,rfl⟩
def V8 (n:Nat):List (Nat×Nat):=(4480,7309464666214760449):: (List.range n).map fun k=>(4480+8 * (k+1),0)
theorem ZE1 (n:Nat):V8 (n+1)=V8 n++[(4480+8 * (n+1),0)]:=by unfold V8;rw [ZLN,ZLH];rfl
def EfR (W:World)(v i:Value)(wr:World):Prop:=
 ∃ m:Nat,m<=7/\i=.int .u64 ((m+1:Nat):Int)/\wr.ownsRow W.heap.size 155 2 v (m+1) (ZP (V8 m))/\Bl W wr
theorem ZB3 (h:Aq w A F 160 T c x)(hx:x+20<=1000000):
 Calls prog 93 #[.iface 97 (.pointer (some ⟨A.t 0,0,none⟩)),.int .i64 70] w fun e w'=>e=.returned (.int .i64 0)/\∃ F',Aq w' A F' 160 T (wrs c (V8 7)) (x+20)/\Moved F F' w w':=by
 have HS:=zh (XZ h.ar (i:=0) (by omega));have HER:=zh (Zq h.ar (i:=0) (by omega))
 have HRUN:=zh (fun (w1:World) (hb:Bl w w1) (v:Value) (B:Nat) (hB:w.heap.size<=B) (hp:Prg w1 B v (Za [V8 7]))=>
  X6 h (ls:=[V8 7]) (x':=x+20) (by decide) (by decide) (Nat.add_le_add_left (show Zn [V8 7]<=20 by decide) x) hx w1 hb hp hB)
 have hflat:[V8 7].flatten=V8 7:=by simp
 rw [hflat,Zs] at HRUN;have HOB:=zh (show ∀ y∈V8 7,y.1 < 18446744073709551616 by decide);have HR0:=zh (Below.refl w.heap.size w);rw [show ((160 * 64:Nat):Int)=10240 by rfl] at HS;clear h hx hflat;go_in;have hne:=YP;go_wp2_with fail;refine (HS.o w HR0.o).mono ?_;rintro e w' ⟨rfl,rfl⟩;go_wp2_with fail;refine (HER.o w HR0.o).mono ?_;rintro e w' ⟨rfl,rfl⟩;go_wp2_with fail;refine epack1.mono ?_;rintro e w' ⟨rfl,rfl⟩;go_upto_region 8 with fail;obtain ⟨w1,hw1⟩:=xE (w.alloc (.cells #[.int .u64 4480,.int .u64 7309464666214760449] 155));have HO1:=zh (show EfR w (.slice (some ⟨w.heap.size,0,none⟩) 1 1) (.int .u64 1) w1 from by rw [hw1];exact ⟨0,by omega,rfl,⟨rfl,.inr ⟨_,1,_,rfl,nR,ZB _ _,by omega,by decide,rfl,rfl⟩⟩,ZA bR⟩);rw [<-hw1];clear hw1;go_wp2_with fail
 go_loopw [7,8] (fun v i wr=>EfR w v i wr) (fun _ i _=>8 - (intOf i).toNat)
 case atStart=>exact HO1.o
 case round=>
  obtain ⟨m,hm,rfl,hown,hbel⟩:=hrel;have HB:=zh hbel;have HO:=zh hown;obtain ⟨ra,rc,hv⟩:=ZR hown;subst hv;clear hown hbel
  by_cases hlt:m < 7
  ·obtain ⟨q,hq⟩:=xE (m+1)
   have HQ:=zh hq;rw [<-hq] at HO ⊢;have d0:(q:Int) < 8:=by omega
   clear hq hlt;go_wp2_with (at_builtin;refine ZT elWrites rfl _ _ rfl HO.o rfl rfl ?c1 rfl ?c2 ?c3 ?c4 ?c5 ?_)
   case c1=>rfl
   case c2=>exact ⟨rfl,rfl⟩
   case c3=>unfold maxLen;omega
   case c4=>omega
   case c5=>exact HB.o.size
   intro g4 cap4 w5 hop5 hgr5 hg5
   have G:=zh (show EfR w (.slice (some ⟨g4,0,none⟩) (q+1) cap4) (.int .u64 ((q+1:Nat):Int)) w5 from ⟨q,by omega,rfl,by
    have e1:(4480+(q:Int) * 8)=((4480+8 * (m+1):Nat):Int):=by have:=HQ.o;omega
    rw [e1] at hop5;rw [show V8 q=V8 m++[(4480+8 * (m+1),0)] by rw [HQ.o];exact ZE1 m,Zk];exact hop5,ZN HB.o hgr5 HB.o.size (fun b hb=>(HO.o.lt b hb).1)⟩)
   clear hop5 hgr5 hg5;go_wp2_with fail;go_roundw
   case rel=>simpa using G.o
   case measure=>simp [intOf];omega
  ·obtain rfl:m=7:=by omega
   have HST:=zh (YV (l:=V8 7) HO.o (by decide) (by decide) HOB.o);clear hlt hm;go_wp2_with fail;refine (HST.o wr bR).mono ?_;rintro e w' ⟨rv,rfl,hp1,hb1⟩;go_wp2_with fail;refine (HRUN.o w' (HB.o.trans (hb1.mono HB.o.size)) _ _ HB.o.size hp1).mono ?_;rintro e w2 ⟨rfl,hcl⟩;go_wp2;go_returns;exact ⟨rfl,hcl⟩
theorem J6 (ha:Ar w A F 160 T c):Calls prog 191 #[.iface 97 (.pointer (some ⟨A.t 0,0,none⟩)),.int .i64 71,.int .i64 64] w fun e w'=>e=.returned (.bool true)/\w=w':=by
 have HS:=zh (XZ ha (i:=0) (by omega) w bR);rw [show ((160 * 64:Nat):Int)=10240 by rfl] at HS;clear ha;go_in;go_wp2_with fail;refine HS.o.mono ?_;rintro e w' ⟨rfl,rfl⟩;go_wp2;go_returns;exact ⟨rfl,rfl⟩
end
end Go.Proofs.YteomliechfdhhaaGreatDoor.Dv
