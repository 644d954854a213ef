/- Part 31. -/
import Derived.Test.YteomliechfdhhaaGreatDoorY30
import Derived.Test.YteomliechfdhhaaGreatDoorY1
import Derived.Laws.IdiomStrings
set_option maxHeartbeats 8000000
set_option maxRecDepth 20000
set_option linter.all false
namespace Go.Proofs.YteomliechfdhhaaGreatDoor.Dv
open Tryz
section
open Go.RowKit Go.Proofs.YteomliechfdhhaaGreatDoor.Size
variable {w w':World}{A:DAd}{F F':Nat->Option ZK}{T c c':Nat->Nat}{x x' L:Nat}
def chk0:Chk:=⟨-1,-1,1,fun _=>⟨0,0,0⟩⟩
theorem chk0_head:chk0.Head:=⟨by decide,.inl ⟨rfl,rfl⟩⟩
theorem ZEn (hT:NTab w T){line:Nat}(hl:line<=4064):
 Calls prog 192 #[.int .i64 line,.int .u16 1] w fun e w'=>∃ v,e=.returned (.tuple #[v,.int .i64 0])/\Prg w' w.heap.size v (Zf [(line * 64,ZX T chk0.info)])/\Bl w w':=by
 have HPO:=zh (fun w1=>Ud (w:=w1) hl);have HST:=zh (fun w1=>Yf (w:=w1) (line:=line) (by omega));have HHW:=zh (fun w1 (hb:Bl w w1)=>ZAN (hT.below hb nR) chk0_head);obtain ⟨S2,hS2⟩:=xE (ZX T chk0.info);rw [<-hS2] at HHW ⊢;obtain ⟨M,hM⟩:∃ M:Nat,M=line * 64:=⟨_,rfl⟩
 rw [<-hM] at HST ⊢;have b1:(M:Int)<=262144:=by omega
 unfold hdV chk0 at HHW;clear hT hl hM hS2;go_in;go_wp2_with fail;refine (HPO.o _).mono ?_;rintro e w' ⟨rfl,rfl⟩;go_upto_region 4 with fail;obtain ⟨wr,hwr⟩:=xE (w.alloc (.cells #[.int .i64 (-1),.int .i64 (-1),.int .u16 1] 193));have HH4:=zh (show wr.heap[w.heap.size]?=some (.cells #[.int .i64 (-1),.int .i64 (-1),.int .u16 1] 193 (0,0)) by rw [hwr];exact ZB _ _);have HB4:=zh (show Bl w wr by rw [hwr];exact ZA bR);rw [<-hwr];clear hwr;have HHW1:=zh (XR HB4.o HHW.o);have HSS1:=zh (Yg HB4.o (M:=M) (S:=S2) (by omega));have HR0:=zh (Below.refl wr.heap.size wr);have HK:=zh (fun (wx:World) (hb:Bl wr wx)=>(show wx.cell? ⟨w.heap.size,0,none⟩=some (.int .i64 (-1))/\wx.cell? ⟨w.heap.size,1,none⟩=some (.int .i64 (-1))/\wx.cell? ⟨w.heap.size,2,none⟩=some (.int .u16 1) from by obtain ⟨a0,a1,a2,_⟩:=Zb (Yn HH4.o hb);exact ⟨a0,a1,a2⟩));obtain ⟨a0,a1,a2,_⟩:=Zb HH4.o;clear HHW
 go_region_held3 (fun wx=>wx.cell? ⟨w.heap.size,0,none⟩=some (.int .i64 (-1))/\wx.cell? ⟨w.heap.size,1,none⟩=some (.int .i64 (-1))/\wx.cell? ⟨w.heap.size,2,none⟩=some (.int .u16 1))
  (first|(refine ⟨?_,?_,?_⟩ <;> assumption)|exact HK.o _ (by repeat (with_reducible first|assumption|exact HR0.o|apply ZA|apply ZD)))
  (first
    |(go_at_call 185;refine (HST.o _).mono ?_;rintro e V1 ⟨rfl,rfl⟩)
    |(go_at_call 210;refine (HHW1.o _ (by repeat (with_reducible first|assumption|exact HR0.o|apply ZA|apply ZD))).mono ?_;rintro e V2 ⟨rfl,hb2⟩)
    |(go_at_call 74;refine (HSS1.o _ (by repeat (with_reducible first|assumption|exact HR0.o|apply ZA|apply ZD))).mono ?_;rintro e V3 ⟨r,rfl,hp3,hb3⟩))
 all_goals
  go_wp2;go_returns;exact ⟨_,rfl,hp3.mono HB4.o.size,HB4.o.trans (hb3.mono HB4.o.size)⟩
def ZDG (T:Nat->Nat)(n:Nat):List (Nat×Nat):=(List.range n).map fun i=>((71+32 * i) * 64,ZX T chk0.info)
theorem ZEp (T:Nat->Nat)(n:Nat):ZDG T (n+1)=ZDG T n++[((71+32 * n) * 64,ZX T chk0.info)]:=by unfold ZDG;rw [ZLN,ZLH];rfl
def AfR (W:World)(A:DAd)(F:Nat->Option ZK)(T c:Nat->Nat)(x:Nat)(i:Value)(wr:World):Prop:=
 ∃ m:Nat,m<=2/\i=.int .i64 (m:Nat)/\∃ F',Aq wr A F' 160 T (wrs c (ZDG T m)) (x+4 * m)/\Moved F F' W wr
theorem ZBg (h:Aq w A F 160 T c x)(hx:x+10<=1000000):
 Calls prog 150 #[.iface 97 (.pointer (some ⟨A.t 0,0,none⟩)),.int .i64 71,.int .i64 64] w fun e w'=>e=.returned (.int .i64 0)/\∃ F',Aq w' A F' 160 T (wrs c (ZDG T 2)) (x+10)/\Moved F F' w w':=by
 have HV:=zh (J6 h.ar);have HER:=zh (Zq h.ar (i:=0) (by omega) w bR);have H:=zh h;have HX:=zh hx;clear h hx;go_in;have hne:=YP;go_wp2_with fail;refine HV.o.mono ?_;rintro e w' ⟨rfl,rfl⟩;go_wp2_with fail;refine HER.o.mono ?_;rintro e w' ⟨rfl,rfl⟩;go_wp2_with fail
 go_loopw [24] (fun i wr=>AfR w A F T c x i wr) (fun i _=>2 - (intOf i).toNat)
 case atStart=>exact ⟨0,by omega,rfl,F,H.o,Moved.refl _ _⟩
 case round=>
  obtain ⟨m,hm,rfl,F1,ha,hmv⟩:=hrel;have HA:=zh ha;have HM:=zh hmv;clear ha hmv
  by_cases hlt:m < 2
  ·have d0:(m:Int) < 2:=by omega
   obtain ⟨ln,hln⟩:=xE (71+32 * m);have HC:=zh (ZEn (line:=ln) HA.o.nib (by omega))
   have HRUN:=zh (fun (w1:World) (hb:Bl wr w1) (v:Value) (hp:Prg w1 wr.heap.size v (Za [[(ln * 64,ZX T chk0.info)]]))=>
    X6 HA.o (ls:=[[(ln * 64,ZX T chk0.info)]]) (x':=x+4 * (m+1)) (by have:=Zl [(ln * 64,ZX T chk0.info)];rw [Zs];exact this) (fun l hl y hy=>by
     rw [ZLL.1 hl] at hy;rw [ZLL.1 hy];have:=XL HA.o.nib chk0_head.info_lt;exact ⟨by simp only;omega,by simp only;omega,this⟩) (by simp only [Zn,List.length_cons,List.length_nil];omega) (by have:=HX.o;omega) w1 hb hp nR)
   rw [Zs] at HRUN;have HLN:=zh hln;have e1:(71+(m:Int) * 32)=ln:=by omega
   rw [<-e1] at HC;clear hlt e1 hln;go_wp2_with fail;refine HC.o.mono ?_;rintro e w1 ⟨v,rfl,hp,hb⟩;go_wp2_with fail;refine (HRUN.o w1 hb v hp).mono ?_;rintro e w2 ⟨rfl,F2,h1,h2⟩
   have G:=zh (show AfR w A F T c x (.int .i64 ((m+1:Nat):Int)) w2 from ⟨m+1,by omega,rfl,F2,by
    rw [ZEp,YA,<-HLN.o];exact h1,HM.o.trans h2⟩)
   clear h1 h2 hp hb;go_wp2_with fail;go_roundw
   case rel=>simpa using G.o
   case measure=>simp [intOf];omega
  ·obtain rfl:m=2:=by omega
   have HE2:=zh (Zq HA.o.ar (i:=0) (by omega) wr bR);clear hlt hm;go_wp2_with fail;refine HE2.o.mono ?_;rintro e w' ⟨rfl,rfl⟩;go_wp2;go_returns;exact ⟨rfl,F1,HA.o.mono (by omega),HM.o⟩
theorem ZAs (h:Aq w A F 160 T c x)(hx:x+10<=1000000):
 Calls prog 94 #[.iface 97 (.pointer (some ⟨A.t 0,0,none⟩)),.int .i64 71,.int .i64 64] w fun e w'=>e=.returned (.int .i64 0)/\∃ F',Aq w' A F' 160 T (wrs c (ZDG T 2)) (x+10)/\Moved F F' w w':=by
 have HC:=zh (ZBg h hx);clear h hx;go_in;go_wp2_with fail;refine HC.o.mono ?_;rintro e w1 ⟨rfl,h1⟩;go_wp2;go_returns;exact ⟨rfl,h1⟩
def ZE7 (n:Nat):List (Nat×Nat):=(List.range n).map fun i=>(64 * i+56,0)
theorem ZE8 (n:Nat):ZE7 (n+1)=ZE7 n++[(64 * n+56,0)]:=by unfold ZE7;rw [ZLN,ZLH];rfl
def IvR (W:World)(A:DAd)(F:Nat->Option ZK)(T c:Nat->Nat)(x:Nat)(i:Value)(wr:World):Prop:=
 ∃ m:Nat,m<=2/\i=.int .i64 (m:Nat)/\∃ F',Aq wr A F' 160 T (wrs c (ZE7 m)) (x+4 * m)/\Moved F F' W wr
theorem YH {w w':World}{b:Nat}{o:Obj}(h:Moved F F' w w')(hF:F b=none)(hb:w.heap[b]?=some o):w'.heap[b]?=some o:=
 (h.only.block _ (heap_lt hb) (by simp [hF])).trans hb
theorem ZH0 (h:Aq w A F 160 T c x)(hx:x+10<=1000000)(hz:∀ y,y < 16->c y=0):
 Calls prog 47 #[.pointer (some ⟨A.t 0,0,none⟩)] w fun e w'=>e=.returned (.int .i64 0)/\∃ F',Aq w' A F' 160 T (wrs c (ZE7 2)) (x+10)/\Moved F F' w w':=by
 have HC:=zh (ZFc h.ar (by omega) hz);have H:=zh h;have HX:=zh hx;clear h hx hz;go_in;go_wp2_with fail;refine HC.o.mono ?_;rintro e w1 ⟨rfl,hb1⟩;have HB1:=zh hb1;clear hb1;go_upto_region 6 with fail;obtain ⟨w2,hw2⟩:=xE (w1.alloc (.cells #[.int .u64 0,.int .u64 64] 29));obtain ⟨sb,hsb⟩:=xE w1.heap.size;have HS:=zh (show w2.heap[sb]?=some (.cells #[.int .u64 0,.int .u64 64] 29 (0,0)) by rw [hw2,hsb];exact ZB _ _);have HB2:=zh (show Bl w w2 by rw [hw2];exact ZA HB1.o);have HSN:=zh (show F sb=none from H.o.new (by rw [hsb];exact HB1.o.size));have HA2:=zh (H.o.below HB2.o);rw [<-hw2,<-hsb];clear hw2 hsb
 go_loopw [35] (fun i wr=>IvR w2 A F T c x i wr) (fun i _=>2 - (intOf i).toNat)
 case atStart=>exact ⟨0,by omega,rfl,F,HA2.o,Moved.refl _ _⟩
 case round=>
  obtain ⟨m,hm,rfl,F1,ha,hmv⟩:=hrel;have HA:=zh ha;have HM:=zh hmv;clear ha hmv
  by_cases hlt:m < 2
  ·have d0:(m:Int) < 2:=by omega
   obtain ⟨O,hO⟩:=xE (64 * m);have hOb:(O:Int) < 1000:=by omega
   have c0:wr.cell? ⟨sb,m,none⟩=some (.int .u64 (O:Nat)):=by
    rw [ZC (YH HM.o HSN.o HS.o),hO]
    match m,hlt with
    |0,_=>rfl
    |1,_=>rfl
   have HST:=zh (Yg (Below.refl wr.heap.size wr) (M:=O+56) (S:=0) (by omega) wr (Below.refl wr.heap.size wr));rw [show ((O+56:Nat):Int)=(O:Int)+56 by omega] at HST
   have HRUN:=zh (fun (w1:World) (hb:Bl wr w1) (v:Value) (hp:Prg w1 wr.heap.size v (Za [[(O+56,0)]]))=>
    X6 HA.o (ls:=[[(O+56,0)]]) (x':=x+4 * (m+1)) (by have:=Zl [(O+56,0)];rw [Zs];exact this) (fun l hl y hy=>by
     rw [ZLL.1 hl] at hy;rw [ZLL.1 hy];exact ⟨by simp only;omega,by simp only;omega,by simp only;omega⟩) (by simp only [Zn,List.length_cons,List.length_nil];omega) (by have:=HX.o;omega) w1 hb hp nR)
   rw [Zs] at HRUN;have HO:=zh hO;clear hlt hO;go_wp2_with fail;refine HST.o.mono ?_;rintro e w3 ⟨v,rfl,hp,hb⟩;have HP:=zh hp;have HB:=zh hb;clear c0 hp hb;go_wp2_with fail;refine (HRUN.o w3 HB.o v HP.o).mono ?_;rintro e w4 ⟨rfl,F2,h1,h2⟩
   have G:=zh (show IvR w2 A F T c x (.int .i64 ((m+1:Nat):Int)) w4 from ⟨m+1,by omega,rfl,F2,by
    rw [ZE8,YA,<-HO.o];exact h1,HM.o.trans h2⟩)
   clear h1 h2;go_wp2_with fail;go_roundw
   case rel=>simpa using G.o
   case measure=>simp [intOf];omega
  ·obtain rfl:m=2:=by omega
   clear hlt hm;go_wp2;go_returns;exact ⟨rfl,F1,HA.o.mono (by omega),Moved.trans ⟨Only.of_below HB2.o,fun _ _=>rfl⟩ HM.o⟩
def supz:Sup:=⟨1,160,26,26,8,0,0,0⟩
theorem ZBa:supz.Ok:=⟨by decide,by decide,by decide,by decide,by decide⟩
theorem ZE9 (w:World):(isAgg 29).run prog w=.ok false w:=by kernel_rfl
theorem ZHS (w:World):(sizeOf 29).run prog w=.ok 1 w:=by kernel_rfl
theorem ZKd {cs:Array Value}{m:Nat}{v:Value}(hm:m < 8)(hg:cs[m]?=some v)(w:World):(Instr.index 285 (.agg cs) (.int .i64 (m:Int))).run prog w=.ok v w:=by
 unfold Instr.index;have hm':(0:Int)<=m/\(m:Int) < (8:Nat):=by omega
 simp only [Sem.run_bind,asIntOf,Sem.run_pure,Result.andThen_ok,run_underlying underlying285];rw [ZKv hm'];simp only [Sem.run_bind,ZHS,Result.andThen_ok,part,ZE9,Int.toNat_natCast,Nat.mul_one,hg];rfl
def ZCq (T:Nat->Nat):List Nat:=[7738151121853964849,1,7318461074112513,8,0,0,0,4294967296+Vq T [7738151121853964849,1,7318461074112513,8,0,0,0]]
theorem ZEX (T:Nat->Nat):sup0.words T=ZCq T:=by rfl
def JG (T:Nat->Nat)(n:Nat):List (Nat×Nat):=(56,0):: (List.range n).map fun k=>(8 * k,(ZCq T).getD k 0)
theorem ZFV (T:Nat->Nat)(n:Nat):JG T (n+1)=JG T n++[(8 * n,(ZCq T).getD n 0)]:=by unfold JG;rw [ZLN,ZLH];rfl
theorem Y6 (T:Nat->Nat)(n:Nat):(JG T n).length=n+1:=by simp [JG]
def PgR (W:World)(T:Nat->Nat)(v i:Value)(wr:World):Prop:=
 ∃ m:Nat,m<=8/\i=.int .i64 (m:Nat)/\wr.ownsRow W.heap.size 155 2 v (m+1) (ZP (JG T m))/\Bl W wr
theorem ZFl (hT:NTab w T):
 Calls prog 97 #[sup0.val,.int .i64 0] w fun e w'=>∃ v,e=.returned v/\Prg w' w.heap.size v (Zf (JG T 8))/\Bl w w':=by
 have HEN:=zh (fun (w1:World) (hb:Bl w w1)=>QK (hT.below hb nR) J0);obtain ⟨K,hK⟩:=xE (4294967296+Vq T [7738151121853964849,1,7318461074112513,8,0,0,0]);have HK:=zh (show ((sup0.words T).map u64).toArray=#[.int .u64 7738151121853964849,.int .u64 1,.int .u64 7318461074112513,.int .u64 8,.int .u64 0,.int .u64 0,.int .u64 0,.int .u64 K] by rw [ZEX,hK];rfl);rw [HK.o] at HEN;have HG:=zh (fun (k:Nat) (hk:k < 8)=>show (#[.int .u64 7738151121853964849,.int .u64 1,.int .u64 7318461074112513,.int .u64 8,.int .u64 0,.int .u64 0,.int .u64 0,.int .u64 K]:Array Value)[k]?=some (.int .u64 ((ZCq T).getD k 0:Nat)) from by
  match k,hk with
  |0,_=>rfl
  |1,_=>rfl
  |2,_=>rfl
  |3,_=>rfl
  |4,_=>rfl
  |5,_=>rfl
  |6,_=>rfl
  |7,_=>rw [hK];rfl)
 have HLT:=zh (show ∀ y∈JG T 8,y.1 < 18446744073709551616 by simp [JG,ZLN]);have hb8:(K:Int) < 18446744073709551616:=by have:=Xu hT [7738151121853964849,1,7318461074112513,8,0,0,0];omega
 have HR0:=zh (Below.refl w.heap.size w);unfold sup0 Sup.val at *;clear hT hK;go_in;go_wp2_with fail;refine (HEN.o _ (ZA HR0.o)).mono ?_;rintro e w1 ⟨rfl,hb1⟩;have HB1:=zh ((ZA HR0.o).trans (hb1.mono (by simp)));clear hb1 HEN;go_upto_region 5 with fail;obtain ⟨w2,hw2⟩:=xE ((w1.alloc (.cells #[.int .u64 7738151121853964849,.int .u64 1,.int .u64 7318461074112513,.int .u64 8,.int .u64 0,.int .u64 0,.int .u64 0,.int .u64 K] 285)).alloc (.cells #[.int .u64 56,.int .u64 0] 155));have HS2:=zh (show PgR w T (.slice (some ⟨w1.heap.size+1,0,none⟩) 1 1) (.int .i64 0) w2 from by
  rw [hw2];exact ⟨0,by omega,rfl,⟨rfl,.inr ⟨_,1,#[.int .u64 56,.int .u64 0],rfl,by have:=HB1.o.size;omega,Y3 (by simp),by omega,by decide,rfl,rfl⟩⟩,ZA (ZA HB1.o)⟩)
 obtain ⟨sb,hsb⟩:=xE w1.heap.size;rw [<-hw2,<-hsb];rw [<-hsb] at HS2;clear hw2 hsb
 go_loopw [7,20] (fun v i wr=>PgR w T v i wr) (fun _ i _=>8 - (intOf i).toNat)
 case atStart=>exact HS2.o
 case round=>
  obtain ⟨m,hm,rfl,hown,hbel⟩:=hrel;have HB:=zh hbel;have HO:=zh hown;obtain ⟨ra,rc,hv⟩:=ZR hown;subst hv;clear hown hbel
  by_cases hlt:m < 8
  ·have d0:(m:Int) < 8:=by omega
   have hix:=fun wx=>ZKd (w:=wx) hlt (HG.o m hlt)
   obtain ⟨V,hV⟩:=xE ((ZCq T).getD m 0);have HV:=zh hV;rw [<-hV] at hix;clear hlt hV;go_wp2_with (at_builtin;refine ZT elWrites rfl _ _ rfl HO.o rfl rfl ?c1 rfl ?c2 ?c3 ?c4 ?c5 ?_)
   case c1=>rfl
   case c2=>exact ⟨rfl,rfl⟩
   case c3=>unfold maxLen;omega
   case c4=>omega
   case c5=>exact HB.o.size
   intro g4 cap4 w5 hop5 hgr5 hg5
   have G:=zh (show PgR w T (.slice (some ⟨g4,0,none⟩) (m+1+1) cap4) (.int .i64 ((m+1:Nat):Int)) w5 from ⟨m+1,by omega,rfl,by
    rw [ZFV,Zk,<-HV.o,show 8 * m=m * 8 by omega];simpa [u64] using hop5,ZN HB.o hgr5 HB.o.size (fun b hb=>(HO.o.lt b hb).1)⟩)
   clear hop5 hgr5 hg5;go_wp2_with fail;go_roundw
   case rel=>simpa using G.o
   case measure=>simp [intOf];omega
  ·obtain rfl:m=8:=by omega
   have HST:=zh (YV (l:=JG T 8) (by unfold Wrt;rw [Y6];exact HO.o) (by rw [Y6];omega) (by rw [Y6];omega) HLT.o wr bR);clear hlt hm;go_wp2_with fail;refine HST.o.mono ?_;rintro e w3 ⟨r,rfl,hp1,hb1⟩;go_wp2;go_returns;exact ⟨r,rfl,hp1.mono HB.o.size,HB.o.trans (hb1.mono HB.o.size)⟩
def SzC (w:World)(b:Nat):Prop:=w.cell? ⟨b,0,none⟩=some (.int .i64 1)/\w.cell? ⟨b,1,none⟩=some (.int .i64 160)/\w.cell? ⟨b,2,none⟩=some (.int .i64 26)/\w.cell? ⟨b,3,none⟩=some (.int .i64 26)/\w.cell? ⟨b,4,none⟩=some (.int .i64 8)/\w.cell? ⟨b,5,none⟩=some (.int .i64 0)/\w.cell? ⟨b,6,none⟩=some (.int .i64 0)/\w.cell? ⟨b,7,none⟩=some (.int .u64 0)
theorem SzC.of {b:Nat}{fz:Nat×Nat}(h:w.heap[b]?=some (.cells #[.int .i64 1,.int .i64 160,.int .i64 26,.int .i64 26,.int .i64 8,.int .i64 0,.int .i64 0,.int .u64 0] 86 fz)):SzC w b:=by
 refine ⟨?_,?_,?_,?_,?_,?_,?_,?_⟩ <;> exact (ZC h).trans rfl
theorem ZCz (h:Ar w A F 160 T c):Calls prog 95 #[.iface 97 (.pointer (some ⟨A.t 0,0,none⟩)),supz.val] w fun e w'=>e=.returned (.int .i64 0)/\Bl w w':=by
 have HS:=zh (fun (w1:World) (hb:Bl w w1)=>ZBN h w1 hb);have HV:=zh (fun (w1:World)=>VA (w:=w1) ZBa);have HE:=zh (fun (w1:World) (hb:Bl w w1)=>Zq h (i:=0) (by omega) w1 hb);clear h;unfold supz Sup.val at *;go_in;go_upto_region 1 with fail;obtain ⟨w1,hw1⟩:=xE (w.alloc (.cells #[.int .i64 1,.int .i64 160,.int .i64 26,.int .i64 26,.int .i64 8,.int .i64 0,.int .i64 0,.int .u64 0] 86));have HH:=zh (show w1.heap[w.heap.size]?=some (.cells #[.int .i64 1,.int .i64 160,.int .i64 26,.int .i64 26,.int .i64 8,.int .i64 0,.int .i64 0,.int .u64 0] 86 (0,0)) by rw [hw1];exact ZB _ _);have HB1:=zh (show Bl w w1 by rw [hw1];exact ZA bR);rw [<-hw1];clear hw1;have HR:=zh (Below.refl w1.heap.size w1);have HS1:=zh (ZAy HB1.o HS.o);have HV1:=zh (fun (V:World) (hb:Bl w1 V)=>Xs (HV.o V) hb);have HK:=zh (fun (wx:World) (hb:Bl w1 wx)=>SzC.of (Yn HH.o hb));unfold SzC at HK
 go_region_held3 (fun wx=>wx.cell? ⟨w.heap.size,0,none⟩=some (.int .i64 1)/\wx.cell? ⟨w.heap.size,1,none⟩=some (.int .i64 160)/\wx.cell? ⟨w.heap.size,2,none⟩=some (.int .i64 26)/\wx.cell? ⟨w.heap.size,3,none⟩=some (.int .i64 26)/\wx.cell? ⟨w.heap.size,4,none⟩=some (.int .i64 8)/\wx.cell? ⟨w.heap.size,5,none⟩=some (.int .i64 0)/\wx.cell? ⟨w.heap.size,6,none⟩=some (.int .i64 0)/\wx.cell? ⟨w.heap.size,7,none⟩=some (.int .u64 0))
  (exact HK.o _ (by repeat (with_reducible first|assumption|exact HR.o|apply ZA|apply ZD)))
  (first
    |(go_at_call 151;refine (HS1.o _ (by repeat (with_reducible first|assumption|exact HR.o|apply ZA|apply ZD))).mono ?_;rintro e V1 ⟨rfl,rfl⟩)
    |(go_at_call 45;refine (HV1.o _ (by repeat (with_reducible first|assumption|exact HR.o|apply ZA|apply ZD))).mono ?_;rintro e V2 ⟨rfl,hb2,hl2⟩))
 rw [show IntKind.u64.wrap 160=160 by decide];have HB2:=zh (HB1.o.trans (hb2.mono HB1.o.size));have hne:=YP;clear hb2 hl2;go_wp2_with fail;refine (HE.o _ HB2.o).mono ?_;rintro e w' ⟨rfl,rfl⟩;go_wp2;go_returns;exact ⟨rfl,HB2.o⟩
def ZDS (T:Nat->Nat):List (List (Nat×Nat)):=[[(56,0),(120,0)],JG T 8]
theorem ZCj (h:Aq w A F 160 T c x)(hx:x+40<=1000000):
 Calls prog 49 #[.iface 97 (.pointer (some ⟨A.t 0,0,none⟩)),supz.val] w fun e w'=>e=.returned (.int .i64 0)/\∃ F',Aq w' A F' 160 T (wrs c (ZDS T).flatten) (x+40)/\Moved F F' w w':=by
 have HU:=zh (fun (w1:World) (hb:Bl w w1)=>ZCz (h.ar.below hb));have HP:=zh (fun (w1:World) (hb:Bl w w1)=>ZFl (h.nib.below hb nR));have H:=zh h;have HX:=zh hx;have HR:=zh (Below.refl w.heap.size w);clear h hx;unfold supz sup0 Sup.val at *;go_in;go_wp2_with fail;refine (HU.o _ (ZA HR.o)).mono ?_;rintro e w1 ⟨rfl,hb1⟩;have HB1:=zh ((ZA HR.o).trans (hb1.mono (by simp)));have HH:=zh (show w1.heap[w.heap.size]?=some (.cells #[.int .i64 1,.int .i64 160,.int .i64 26,.int .i64 26,.int .i64 8,.int .i64 0,.int .i64 0,.int .u64 0] 86 (0,0)) from (hb1.block _ (by simp)).trans (ZB _ _));clear hb1;obtain ⟨c0,c1,c2,c3,c4,c5,c6,c7⟩:=SzC.of HH.o;have f7:=ZG (i:=7) HH.o;go_upto_region 5 with fail;obtain ⟨w2,hw2⟩:=xE (w1.setCell ⟨w.heap.size,7,none⟩ (.int .u64 1));have HH2:=zh (show w2.heap[w.heap.size]?=some (.cells #[.int .i64 1,.int .i64 160,.int .i64 26,.int .i64 26,.int .i64 8,.int .i64 0,.int .i64 0,.int .u64 1] 86 (0,0)) by rw [hw2];exact ZH HH.o);have HB2:=zh (show Bl w w2 by rw [hw2];exact ZE HB1.o nR);rw [<-hw2];clear hw2 c0 c1 c2 c3 c4 c5 c6 c7 f7;have HS:=zh (X9 (w:=w2.alloc (.cells #[.int .u64 56,.int .u64 0,.int .u64 120,.int .u64 0] 155)) (b:=w2.heap.size) (o:=0) (c:=2) (l:=[(56,0),(120,0)]) (ZCf _ _ _ (fun j u hj=>by rw [<-ZLS];exact hj)) (by decide) (by decide) (by decide));go_wp2_with fail;refine HS.o.mono ?_;rintro e w3 ⟨g,cap,rfl,hp,hb⟩;have hb23:Bl w2 w3:=(ZA bR).trans (hb.mono (by simp));have HB3:=zh (HB2.o.trans (hb23.mono HB2.o.size));have HH3:=zh (Yn HH2.o hb23);have HP3:=zh (show Prg w3 (w2.alloc (.cells #[.int .u64 56,.int .u64 0,.int .u64 120,.int .u64 0] 155)).heap.size _ (Zf [(56,0),(120,0)]) from hp);clear hp hb hb23 HS;obtain ⟨c0,c1,c2,c3,c4,c5,c6,c7⟩:w3.cell? ⟨w.heap.size,0,none⟩=some (.int .i64 1)/\w3.cell? ⟨w.heap.size,1,none⟩=some (.int .i64 160)/\w3.cell? ⟨w.heap.size,2,none⟩=some (.int .i64 26)/\w3.cell? ⟨w.heap.size,3,none⟩=some (.int .i64 26)/\w3.cell? ⟨w.heap.size,4,none⟩=some (.int .i64 8)/\w3.cell? ⟨w.heap.size,5,none⟩=some (.int .i64 0)/\w3.cell? ⟨w.heap.size,6,none⟩=some (.int .i64 0)/\w3.cell? ⟨w.heap.size,7,none⟩=some (.int .u64 1):=by
  refine ⟨?_,?_,?_,?_,?_,?_,?_,?_⟩ <;> exact (ZC HH3.o).trans rfl
 go_wp2_with fail;refine (HP.o w3 HB3.o).mono ?_;rintro e w4 ⟨v,rfl,hp4,hb4⟩;have HB4:=zh (HB3.o.trans (hb4.mono HB3.o.size));have HT:=zh (Vb (w:=w4) (HP3.o.below hb4) hp4 (Zl _) (Zl _) (by have h1:=Ym [((56:Nat),(0:Nat)),(120,0)];have h2:=Ym (JG T 8);rw [Y6] at h2;simp only [List.length_cons,List.length_nil] at h1;omega) w4 bR);clear c0 c1 c2 c3 c4 c5 c6 c7 hp4 hb4;go_wp2_with fail;refine HT.o.mono ?_;rintro e w5 ⟨r,rfl,hp5,hb5⟩;have HB5:=zh (HB4.o.trans (hb5.mono HB4.o.size))
 have HRUN:=zh (X6 H.o (ls:=ZDS T) (x':=x+40) (by have:=Zl [((56:Nat),(0:Nat)),(120,0)];simp only [ZDS,Za,ZK4];omega) (by
  intro l hl y hy;have hk:=Xu H.o.nib [7738151121853964849,1,7318461074112513,8,0,0,0];simp only [ZDS,List.mem_cons,List.not_mem_nil,or_false] at hl;rcases hl with rfl|rfl
  ·revert y;decide
  ·obtain ⟨K,hK⟩:=xE (Vq T [7738151121853964849,1,7318461074112513,8,0,0,0])
   simp only [JG,ZCq,ZLN,List.range_zero,<-hK] at hy;rw [<-hK] at hk;simp at hy;rcases hy with rfl|rfl|rfl|rfl|rfl|rfl|rfl|rfl|rfl <;> exact ⟨by simp,by simp,by simp;try omega⟩) (by simp only [ZDS,Zn,Y6,List.length_cons,List.length_nil];omega) HX.o w5 HB5.o (B:=w4.heap.size) (v:=r) (by unfold ZDS Za Za Za;rw [List.append_nil];exact hp5) HB4.o.size)
 clear hp5 hb5;go_wp2_with fail;refine HRUN.o.mono ?_;rintro e w6 ⟨rfl,hcl⟩;go_wp2;go_returns;exact ⟨rfl,hcl⟩
def RS (w0:World)(A:DAd)(F:Nat->Option ZK)(sb:Nat)(T c:Nat->Nat)(x:Nat)(w:World):Prop:=
 ∃ F',Aq w A F' 160 T c x/\Moved F F' w0 w/\F' sb=none/\w.heap[sb]?=some (.cells #[.int .i64 1,.int .i64 160,.int .i64 26,.int .i64 26,.int .i64 8,.int .i64 0,.int .i64 0,.int .u64 0] 86 (0,0))
variable {w0:World}{sb:Nat}
theorem RS.below (h:RS w0 A F sb T c x w)(hb:Bl w w'):RS w0 A F sb T c x w':=by
 obtain ⟨F',h1,h2,h3,h4⟩:=h;exact ⟨F',h1.below hb,h2.trans ⟨Only.of_below hb,fun _ _=>rfl⟩,h3,(hb.block _ (heap_lt h4)).trans h4⟩
theorem RS.run (h:RS w0 A F sb T c x w) {w1:World} {f:FuncId} {args:Array Value} {R:Ending} {l:List (Nat×Nat)} {d:Nat}
 (hc:∀ F',Aq w A F' 160 T c x->Calls prog f args w1 fun e w'=>e=R/\∃ F2,Aq w' A F2 160 T (wrs c l) (x+d)/\Moved F' F2 w w'):
 Calls prog f args w1 fun e w'=>e=R/\RS w0 A F sb T (wrs c l) (x+d) w':=by
 obtain ⟨F',h1,h2,h3,h4⟩:=h;refine (hc F' h1).mono ?_;rintro e w' ⟨rfl,F2,k1,k2⟩;exact ⟨rfl,F2,k1,h2.trans k2,(k2.same _ (heap_lt h4)).trans h3,YH k2 h3 h4⟩
theorem RS.cells (h:RS w0 A F sb T c x w):SzC w sb:=by
 obtain ⟨F',h1,h2,h3,h4⟩:=h;exact SzC.of h4
def ZJa (T:Nat->Nat):List (Nat×Nat):=Xm 16++([(640,0)]++([(2304,0)]++(Xf 2++(V8 7++ZDG T 2))))
theorem ZAk {w:World}{r a b:Nat}(hr:r < 9)(ha:supz.at r=a)(hb:supz.sizes.getD r 0=b):Calls prog 89 #[supz.val,.int .u8 (r+1:Nat)] w fun e w'=>e=.returned (.tuple #[.int .i64 (a:Nat),.int .i64 (b:Nat),.int .i64 0])/\Bl w w':=by
 have:=Va (w:=w) ZBa hr;rw [ha,hb] at this;exact this
theorem ZJE (h:RS w0 A F sb T c x w){w1:World}(hb:Bl w w1)(hx:x+10<=1000000){v:Value}(hp:Prg w1 w.heap.size v (Zf [(2304,0)])):
 Calls prog 76 #[v,.iface 97 (.pointer (some ⟨A.t 0,0,none⟩))] w1 fun e w'=>e=.returned (.int .i64 0)/\RS w0 A F sb T (wrs c [(2304,0)]) (x+10) w':=
 h.run (fun F' ha=>X6 ha (ls:=[[(2304,0)]]) (x':=x+10) (by decide) (by decide) (Nat.add_le_add_left (show Zn [[(2304,0)]]<=10 by decide) x) hx w1 hb (B:=w.heap.size) (by rw [Zs];exact hp) nR)
theorem ZCX (h:Aq w A F 160 T c x)(hx:x+130<=1000000):
 Calls prog 48 #[.pointer (some ⟨A.t 0,0,none⟩),supz.val] w fun e w'=>e=.returned (.int .i64 0)/\∃ F',Aq w' A F' 160 T (wrs c (ZJa T)) (x+130)/\Moved F F' w w':=by
 have H:=zh h;have HX:=zh hx;have HR1:=zh (fun (wx:World)=>ZAk (w:=wx) (r:=1) (a:=2) (b:=8) (by omega) rfl rfl);have HR2:=zh (fun (wx:World)=>ZAk (w:=wx) (r:=2) (a:=10) (b:=26) (by omega) rfl rfl);have HR3:=zh (fun (wx:World)=>ZAk (w:=wx) (r:=3) (a:=36) (b:=26) (by omega) rfl rfl);have HR4:=zh (fun (wx:World)=>ZAk (w:=wx) (r:=4) (a:=62) (b:=8) (by omega) rfl rfl);have HR5:=zh (fun (wx:World)=>ZAk (w:=wx) (r:=5) (a:=70) (b:=1) (by omega) rfl rfl);have HR8:=zh (fun (wx:World)=>ZAk (w:=wx) (r:=8) (a:=71) (b:=64) (by omega) rfl rfl);clear h hx;unfold supz Sup.val at *;go_in;go_upto_region 1 with fail
 have hS:RS w A F w.heap.size T c x (w.alloc (.cells #[.int .i64 1,.int .i64 160,.int .i64 26,.int .i64 26,.int .i64 8,.int .i64 0,.int .i64 0,.int .u64 0] 86)):=
  ⟨F,H.o.below (ZA bR),⟨Only.of_below (ZA bR),fun _ _=>rfl⟩,H.o.new nR,ZB _ _⟩
 obtain ⟨w1,hw1⟩:=xE (w.alloc (.cells #[.int .i64 1,.int .i64 160,.int .i64 26,.int .i64 26,.int .i64 8,.int .i64 0,.int .i64 0,.int .u64 0] 86));obtain ⟨sb,hsb⟩:=xE w.heap.size;rw [<-hw1,<-hsb] at hS;rw [<-hw1,<-hsb];have HS:=zh hS;clear hw1 hsb hS;obtain ⟨c0,c1,c2,c3,c4,c5,c6,c7⟩:=HS.o.cells;go_wp2_with fail;refine (HR1.o _).mono ?_;rintro e w2 ⟨rfl,hb2⟩;have HT:=zh (HS.o.below hb2);clear c0 c1 c2 c3 c4 c5 c6 c7 HS hb2;have HC:=zh (HT.o.run (fun F' ha=>ZCa ha (by have:=HX.o;omega)));go_wp2_with fail;refine HC.o.mono ?_;rintro e w4 ⟨rfl,hS⟩;have HS:=zh hS;clear HT HC hS;obtain ⟨c0,c1,c2,c3,c4,c5,c6,c7⟩:=HS.o.cells;go_wp2_with fail;refine (HR2.o _).mono ?_;rintro e w2 ⟨rfl,hb2⟩;have HT:=zh (HS.o.below hb2);clear c0 c1 c2 c3 c4 c5 c6 c7 HS hb2;have HC:=zh (HT.o.run (fun F' ha=>ZBU ha (by have:=HX.o;omega)));go_wp2_with fail;refine HC.o.mono ?_;rintro e w4 ⟨rfl,hS⟩;have HS:=zh hS;clear HT HC hS;obtain ⟨c0,c1,c2,c3,c4,c5,c6,c7⟩:=HS.o.cells;go_wp2_with fail;refine (HR3.o _).mono ?_;rintro e w2 ⟨rfl,hb2⟩;have HT:=zh (HS.o.below hb2);clear c0 c1 c2 c3 c4 c5 c6 c7 HS hb2;have HST:=zh (Yg (Below.refl w2.heap.size w2) (M:=2304) (S:=0) (by omega) w2 (Below.refl w2.heap.size w2));go_wp2_with fail;refine HST.o.mono ?_;rintro e w3 ⟨v,rfl,hp,hb⟩;have HC:=zh (ZJE HT.o hb (by have:=HX.o;omega) hp);clear hp hb;go_wp2_with fail;refine HC.o.mono ?_;rintro e w4 ⟨rfl,hS⟩;have HS:=zh hS;clear HT HC hS;obtain ⟨c0,c1,c2,c3,c4,c5,c6,c7⟩:=HS.o.cells;go_wp2_with fail;refine (HR4.o _).mono ?_;rintro e w2 ⟨rfl,hb2⟩;have HT:=zh (HS.o.below hb2);clear c0 c1 c2 c3 c4 c5 c6 c7 HS hb2;have HC:=zh (HT.o.run (fun F' ha=>ZCL ha (by have:=HX.o;omega)));go_wp2_with fail;refine HC.o.mono ?_;rintro e w4 ⟨rfl,hS⟩;have HS:=zh hS;clear HT HC hS;obtain ⟨c0,c1,c2,c3,c4,c5,c6,c7⟩:=HS.o.cells;go_wp2_with fail;refine (HR5.o _).mono ?_;rintro e w2 ⟨rfl,hb2⟩;have HT:=zh (HS.o.below hb2);clear c0 c1 c2 c3 c4 c5 c6 c7 HS hb2;have HC:=zh (HT.o.run (fun F' ha=>ZB3 ha (by have:=HX.o;omega)));go_wp2_with fail;refine HC.o.mono ?_;rintro e w4 ⟨rfl,hS⟩;have HS:=zh hS;clear HT HC hS;obtain ⟨c0,c1,c2,c3,c4,c5,c6,c7⟩:=HS.o.cells;go_wp2_with fail;refine (HR8.o _).mono ?_;rintro e w2 ⟨rfl,hb2⟩;have HT:=zh (HS.o.below hb2);clear c0 c1 c2 c3 c4 c5 c6 c7 HS hb2;have HC:=zh (HT.o.run (fun F' ha=>ZAs ha (by have:=HX.o;omega)));go_wp2_with fail;refine HC.o.mono ?_;rintro e w4 ⟨rfl,hS⟩;have HS:=zh hS;clear HT HC hS;go_wp2;go_returns;obtain ⟨F',h1,h2,_⟩:=HS.o;refine ⟨rfl,F',?_,h2⟩;unfold ZJa;simp only [YA];exact h1.mono (by omega)
theorem ZHK {w:World}{e:TypeId}{v:Value}{n:Nat}{f:Nat->Value}(hv:v.cells=#[v])(hf:∀ x,x < n->f x=v):Row (w.alloc (.cells (madeCells v.cells n) e)) w.heap.size e n f:=by
 refine ⟨_,ZB _ _,?_,fun x hx=>?_⟩
 ·unfold madeCells;simp [hv]
 ·unfold madeCells
  rw [Array.getElem?_map,Array.getElem?_range,ZKv (by simpa [hv] using hx),hf x hx];simp [hv,Nat.mod_one]
theorem ZC3 (N:Nat)(w:World)(h:N<=100000):
 Calls prog 215 #[.int .i64 ((8 * N:Nat):Int)] w fun e w'=>e=.returned (.int .i64 (N:Int))/\w=w':=by
 obtain ⟨M,hM⟩:∃ M:Int,M=((8 * N:Nat):Int):=⟨_,rfl⟩
 rw [<-hM];have h1:M<=800000:=by omega
 have h2:0<=M:=by omega
 have d:(M % 8 != 0)=false:=by simp;omega
 have d':(M.tmod 8 != 0)=false:=by rw [Int.tmod_eq_emod_of_nonneg h2];exact d
 have e:M / 8=(N:Int):=by omega
 have H:=zh e;clear hM h e;go_in;go_wp2;go_returns;exact ⟨by rw [H.o];rfl,rfl⟩
theorem ZD2 {w:World}{b o N cap:Nat}{g:Nat->Nat}(hb:b < w.heap.size)(hrow:∀ x,x < N->w.cell? ⟨b,o+x,none⟩=some (.int .u64 (g x:Nat)))(hN:N<=100000)(hN1:1<=N)(hg:∀ x,g x < 18446744073709551616):
 Calls prog 172 #[.slice (some ⟨b,o,none⟩) N cap,.int .i64 ((8 * N:Nat):Int)] w fun r w'=>∃ B,w.heap.size<=B/\r=.returned (.tuple #[.slice (some ⟨B,0,none⟩) (8 * N) (8 * N),.int .i64 0])/\Row w' B 5 (8 * N) (fun x=>.int .u8 (Zy g x:Nat))/\Below w.heap.size w w':=by
 obtain ⟨i,hi,hz,hsz,hby⟩:=info_parts ZCB;have hmk:=run_make (P:=prog) w 242 5 i _ underlying242 hi hz .i64 .i64 (((8 * N:Nat):Int)) (((8 * N:Nat):Int)) (by omega) (Int.le_refl _) (by rw [hby];omega) (by omega);have e:((8 * N:Nat):Int).toNat=8 * N:=by omega
 rw [e,hsz,Nat.mul_one] at hmk;obtain ⟨W,hW⟩:=xE (w.alloc (.cells (madeCells (Value.int .u8 0).cells (8 * N)) 5));have hst:Up w N g w.heap.size (.int .i64 (0:Nat)) W:=by
  refine ⟨0,by omega,rfl,?_,by rw [hW];exact bR.alloc nR _⟩;rw [hW];exact ZHK rfl (fun x hx=>by simp)
 rw [<-hW] at hmk;have HS:=zh hst;have HR:=zh hrow;have HG:=zh hg;have HL:=zh hb;have HWO:=zh (ZC3 N w hN);have b1:(N:Int)<=100000:=by omega
 have b3:1<=(N:Int):=by omega
 have hne:((N:Int) != (N:Int))=false:=by simp
 obtain ⟨B,hB⟩:=xE w.heap.size;rw [<-hB] at HS hmk ⊢;have HB:=zh hB;obtain ⟨M,hM⟩:=xE (8 * N);rw [<-hM] at hmk HWO ⊢;have HM:=zh hM;have b2:(M:Int)<=800000:=by omega
 have dneg:decide ((M:Int) < 0)=false:=by simp
 have d8:((M:Int) % 8 != 0)=false:=by simp;omega
 clear hst hrow hg hW e hi hz hsz hby hB hM hb;go_in;go_wp2_with fail;refine HWO.o.mono ?_;rintro e w' ⟨rfl,rfl⟩;go_wp2_with fail
 go_loopw [36] (fun i wr=>Up w N g B i wr) (fun i _=>M - (intOf i).toNat)
 case atStart=>exact HS.o
 case round=>
  obtain ⟨k,hk,rfl,hr,hbel⟩:=hrel
  by_cases hlt:k < M
  ·have hlt2:(k:Int) < M:=by omega
   have hk8:k / 8 < N:=by have:=HM.o;omega
   have c1:wr.cell? ⟨b,o+k / 8,none⟩=some (.int .u64 (g (k / 8))):=by
    rw [hbel.cell HL.o];exact HR.o _ hk8
   have c2:=hr.cell k (by have:=HM.o;omega);have f2:=hr.free k;have bk:(k:Int) / 8 < N:=by omega
   have hgk:=HG.o (k / 8);have G:=zh (show Up w N g B (.int .i64 ((k+1:Nat):Int)) (wr.setCell ⟨B,k,none⟩ (.int .u8 (Zy g k))) from ⟨k+1,by have:=HM.o;omega,rfl,(hr.set k (.int .u8 (Zy g k))).congr (fun x hx=>by
    by_cases e:x=k
    ·rw [ZKv e,ZKv (by omega),e]
    ·rw [ZKu e]
     by_cases e2:x < k
     ·rw [ZKv e2,ZKv (by omega)]
     ·rw [ZKu e2,ZKu (by omega)]),hbel.setCell (by rw [<-HB.o];exact nR) _⟩)
   clear hr hbel hk;obtain ⟨x,hx⟩:=xE (g (k / 8));rw [<-hx] at c1 hgk;have HX:=zh hx;clear hx;go_wp2_with fail;go_roundw
   case rel=>
    have h:=G.o;have e:((Zy g k:Nat):Int)=(x:Int) / 2 ^ (k % 8 * 8) % 256:=by
     unfold Zy;rw [<-HX.o,Nat.mul_comm 8];simp
    rw [e] at h;simpa using h
   case measure=>simp [intOf];omega
  ·obtain rfl:k=M:=by have:=HM.o;omega
   have G:=zh (show Row wr B 5 k (fun x=>.int .u8 (Zy g x:Nat)) from by
    have hr':=hr;rw [<-HM.o] at hr';exact hr'.congr (fun x hx=>by rw [ZKv hx]))
   have G2:=zh hbel;have hBB:w.heap.size<=B:=by rw [<-HB.o];exact nR
   have G3:=zh hBB;rw [<-HB.o] at G2 G3;clear hr hbel hk hlt hBB;go_wp2;go_returns;exact ⟨B,G3.o,rfl,G.o,G2.o⟩
def g2 (a b:Nat):Nat->Nat:=fun x=>if x=0 then a else if x=1 then b else 0
def nmB (a b:Nat):List UInt8:=(List.range 16).map fun i=>UInt8.ofNat (Zy (g2 a b) i)
def nmS (a b:Nat):ByteArray:=⟨(Lib.trimRightB (nmB a b) 0).toArray⟩
theorem ZBP (a b:Nat):(nmB a b).length=16:=by simp [nmB]
theorem ZAo {b cap x y:Nat}(hb:b < w.heap.size)(h0:w.cell? ⟨b,0,none⟩=some (.int .u64 (x:Nat)))(h1:w.cell? ⟨b,1,none⟩=some (.int .u64 (y:Nat)))(hx:x < 18446744073709551616)(hy:y < 18446744073709551616):
 Calls prog 172 #[.slice (some ⟨b,0,none⟩) 2 cap,.int .i64 16] w fun r w'=>∃ B,r=.returned (.tuple #[.slice (some ⟨B,0,none⟩) 16 16,.int .i64 0])/\Row w' B 5 16 (fun z=>.int .u8 (Zy (g2 x y) z:Nat))/\Bl w w':=by
 refine (ZD2 (w:=w) (b:=b) (o:=0) (N:=2) (cap:=cap) (g:=g2 x y) hb (fun z hz=>?_) (by omega) (by omega) (fun z=>?_)).mono ?_
 ·rcases (show z=0\/z=1 by omega) with rfl|rfl
  ·exact h0
  ·exact h1
 ·unfold g2;split
  ·exact hx
  ·split
   ·exact hy
   ·omega
 ·rintro e w' ⟨B,hB,rfl,hr,hbel⟩
  exact ⟨B,rfl,hr,hbel⟩
theorem ZIf (s:ByteArray)(hs:s.size<=1000):Calls prog 173 #[.string s,.string {data:=#[0]}] w fun e w'=>e=.returned (.string ⟨(Lib.trimRightB s.data.toList 0).toArray⟩)/\w'=w:=
 Any.strings_TrimRight_one lays162 s 0 (by decide) w (by omega)
theorem ZHc {x y p:Nat}(hx:x < 18446744073709551616)(hy:y < 18446744073709551616):
 Calls prog 113 #[.agg #[.int .u64 x,.int .u64 y,.int .u64 p,.int .u64 0]] w fun e w'=>e=.returned (.tuple #[.string .empty,.bool false])/\Bl w w':=by
 obtain ⟨w1,hw1⟩:=xE (w.alloc (.cells #[.int .u64 x,.int .u64 y,.int .u64 p,.int .u64 0] 94));have HX:=zh (show w1.heap[w.heap.size]?=some (.cells #[.int .u64 x,.int .u64 y,.int .u64 p,.int .u64 0] 94 (0,0)) by rw [hw1];exact ZB _ _);have HB1:=zh (show Bl w w1 by rw [hw1];exact ZA bR);have HU:=zh (fun (cap:Nat)=>ZAo (w:=w1) (cap:=cap) (heap_lt HX.o) (YS HX.o).1 (YS HX.o).2.1 hx hy);clear hx hy;go_in;go_upto_region 1 with fail;rw [<-hw1];clear hw1;go_wp2_with fail;refine (HU.o _).mono ?_;rintro e w2 ⟨B,rfl,hr,hb2⟩;have HB2:=zh (HB1.o.trans (hb2.mono HB1.o.size));obtain ⟨c0,c1,c2,c3,_⟩:=YS ((hb2.block _ (heap_lt HX.o)).trans HX.o);clear hr hb2;go_wp2;go_returns;exact ⟨rfl,HB2.o⟩
theorem ZFs {x y p t:Nat}(hx:x < 18446744073709551616)(hy:y < 18446744073709551616)(ht:t≠0):
 Calls prog 113 #[.agg #[.int .u64 x,.int .u64 y,.int .u64 p,.int .u64 t]] w fun e w'=>e=.returned (.tuple #[.string (nmS x y),.bool true])/\Bl w w':=by
 obtain ⟨w1,hw1⟩:=xE (w.alloc (.cells #[.int .u64 x,.int .u64 y,.int .u64 p,.int .u64 t] 94));have HX:=zh (show w1.heap[w.heap.size]?=some (.cells #[.int .u64 x,.int .u64 y,.int .u64 p,.int .u64 t] 94 (0,0)) by rw [hw1];exact ZB _ _);have HB1:=zh (show Bl w w1 by rw [hw1];exact ZA bR);have HU:=zh (fun (cap:Nat)=>ZAo (w:=w1) (cap:=cap) (heap_lt HX.o) (YS HX.o).1 (YS HX.o).2.1 hx hy);have HT:=zh (fun (wx:World)=>ZIf (w:=wx) ⟨(nmB x y).toArray⟩ (by show (nmB x y).toArray.size<=1000;simp [nmB]));have d0:((t:Int) == 0)=false:=by simp;exact ht
 have d1:¬ (t:Int)=0:=by omega
 clear hx hy ht;go_in;go_upto_region 1 with fail;rw [<-hw1];clear hw1;go_wp2_with fail;refine (HU.o _).mono ?_;rintro e w2 ⟨B,rfl,hr,hb2⟩;have HB2:=zh (HB1.o.trans (hb2.mono HB1.o.size));obtain ⟨c0,c1,c2,c3,_⟩:=YS ((hb2.block _ (heap_lt HX.o)).trans HX.o);have hcv:=run_convert_bytes_back (P:=prog) w2 242 9 5 ⟨B,0,none⟩ 16 (nmB x y) underlying242 underlying5 underlying9 (fun j hj=>by
  rw [ZBP] at hj;rw [Addr.add_lit,ZLI,hr.cell j hj];have e:(nmB x y)[j]'(by rw [ZBP];exact hj)=UInt8.ofNat (Zy (g2 x y) j):=by unfold nmB;simp
  rw [e,UInt8.toNat_ofNat_of_lt' (ZEg _ _)])
 rw [ZBP] at hcv;clear hr hb2;go_wp2_with fail;refine (HT.o _).mono ?_;rintro e w' ⟨rfl,rfl⟩;go_wp2;go_returns;exact ⟨rfl,HB2.o⟩
end
end Go.Proofs.YteomliechfdhhaaGreatDoor.Dv
