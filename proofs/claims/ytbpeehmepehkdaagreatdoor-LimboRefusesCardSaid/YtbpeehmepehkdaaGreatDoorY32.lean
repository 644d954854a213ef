/- Part 32. -/
import Derived.Test.YtbpeehmepehkdaaGreatDoorY31
import Derived.Laws.IdiomCopy
set_option maxHeartbeats 8000000
set_option maxRecDepth 20000
set_option linter.all false
namespace Go.Proofs.YtbpeehmepehkdaaGreatDoor.Dv
open Tryz
section
open Go.RowKit Go.Proofs.YtbpeehmepehkdaaGreatDoor.Size
variable {w w':World}{A:DAd}{F F':Nat->Option ZM}{T c c':Nat->Nat}{x x' L:Nat}
def supz:Sup:=⟨1,160,26,26,8,0,0,0⟩
theorem ZBx:supz.Ok:=⟨by decide,by decide,by decide,by decide,by decide⟩
theorem ZFm (w:World):(isAgg 31).run prog w=.ok false w:=by kernel_rfl
theorem ZID (w:World):(sizeOf 31).run prog w=.ok 1 w:=by kernel_rfl
theorem ZLJ {cs:Array Value}{m:Nat}{v:Value}(hm:m < 8)(hg:cs[m]?=some v)(w:World):(Instr.index 328 (.agg cs) (.int .i64 (m:Int))).run prog w=.ok v w:=by
 unfold Instr.index;have hm':(0:Int)<=m/\(m:Int) < (8:Nat):=by omega
 simp only [Sem.run_bind,asIntOf,Sem.run_pure,Result.andThen_ok,run_underlying underlying328];rw [ZLX hm'];simp only [Sem.run_bind,ZID,Result.andThen_ok,part,ZFm,Int.toNat_natCast,Nat.mul_one,hg];rfl
def ZDH (T:Nat->Nat):List Nat:=[7738151121853964849,1,7318461074112513,8,0,0,0,4294967296+UE T [7738151121853964849,1,7318461074112513,8,0,0,0]]
theorem ZE6 (T:Nat->Nat):sup0.words T=ZDH T:=by rfl
def JS (T:Nat->Nat)(n:Nat):List (Nat×Nat):=(56,0):: (List.range n).map fun k=>(8 * k,(ZDH T).getD k 0)
theorem ZGE (T:Nat->Nat)(n:Nat):JS T (n+1)=JS T n++[(8 * n,(ZDH T).getD n 0)]:=by unfold JS;rw [ZLy,ZLs];rfl
theorem XI (T:Nat->Nat)(n:Nat):(JS T n).length=n+1:=by simp [JS]
def PgR (W:World)(T:Nat->Nat)(v i:Value)(wr:World):Prop:=
 ∃ m:Nat,m<=8/\i=.int .i64 (m:Nat)/\wr.ownsRow W.heap.size 138 2 v (m+1) (ZT (JS T m))/\Bl W wr
theorem ZGX (hT:NTab w T):
 Calls prog 135 #[sup0.val,.int .i64 0] w fun e w'=>∃ v,e=.returned v/\Prg w' w.heap.size v (Zk (JS T 8))/\Bl w w':=by
 have HEN:=zh (fun (w1:World) (hb:Bl w w1)=>Qc (hT.below hb nR) QI);obtain ⟨K,hK⟩:=xE (4294967296+UE T [7738151121853964849,1,7318461074112513,8,0,0,0]);have HK:=zh (show ((sup0.words T).map u64).toArray=#[.int .u64 7738151121853964849,.int .u64 1,.int .u64 7318461074112513,.int .u64 8,.int .u64 0,.int .u64 0,.int .u64 0,.int .u64 K] by rw [ZE6,hK];rfl);rw [HK.o] at HEN;have HG:=zh (fun (k:Nat) (hk:k < 8)=>show (#[.int .u64 7738151121853964849,.int .u64 1,.int .u64 7318461074112513,.int .u64 8,.int .u64 0,.int .u64 0,.int .u64 0,.int .u64 K]:Array Value)[k]?=some (.int .u64 ((ZDH T).getD k 0:Nat)) from by
  match k,hk with
  |0,_=>rfl
  |1,_=>rfl
  |2,_=>rfl
  |3,_=>rfl
  |4,_=>rfl
  |5,_=>rfl
  |6,_=>rfl
  |7,_=>rw [hK];rfl)
 have HLT:=zh (show ∀ y∈JS T 8,y.1 < 18446744073709551616 by simp [JS,ZLy]);have hb8:(K:Int) < 18446744073709551616:=by have:=VB hT [7738151121853964849,1,7318461074112513,8,0,0,0];omega
 have HR0:=zh (Below.refl w.heap.size w);unfold sup0 Sup.val at *;clear hT hK;go_in;go_wp2_with fail;refine (HEN.o _ (ZA HR0.o)).mono ?_;rintro e w1 ⟨rfl,hb1⟩;have HB1:=zh ((ZA HR0.o).trans (hb1.mono (by simp)));clear hb1 HEN;go_upto_region 5 with fail;obtain ⟨w2,hw2⟩:=xE ((w1.alloc (.cells #[.int .u64 7738151121853964849,.int .u64 1,.int .u64 7318461074112513,.int .u64 8,.int .u64 0,.int .u64 0,.int .u64 0,.int .u64 K] 328)).alloc (.cells #[.int .u64 56,.int .u64 0] 138));have HS2:=zh (show PgR w T (.slice (some ⟨w1.heap.size+1,0,none⟩) 1 1) (.int .i64 0) w2 from by
  rw [hw2];exact ⟨0,by omega,rfl,⟨rfl,.inr ⟨_,1,#[.int .u64 56,.int .u64 0],rfl,by have:=HB1.o.size;omega,XD (by simp),by omega,by decide,rfl,rfl⟩⟩,ZA (ZA HB1.o)⟩)
 obtain ⟨sb,hsb⟩:=xE w1.heap.size;rw [<-hw2,<-hsb];rw [<-hsb] at HS2;clear hw2 hsb
 go_loopw [7,20] (fun v i wr=>PgR w T v i wr) (fun _ i _=>8 - (intOf i).toNat)
 case atStart=>exact HS2.o
 case round=>
  obtain ⟨m,hm,rfl,hown,hbel⟩:=hrel;have HB:=zh hbel;have HO:=zh hown;obtain ⟨ra,rc,hv⟩:=ZN hown;subst hv;clear hown hbel
  by_cases hlt:m < 8
  ·have d0:(m:Int) < 8:=by omega
   have hix:=fun wx=>ZLJ (w:=wx) hlt (HG.o m hlt)
   obtain ⟨V,hV⟩:=xE ((ZDH T).getD m 0);have HV:=zh hV;rw [<-hV] at hix;clear hlt hV;go_wp2_with (at_builtin;refine ZS elWrites rfl _ _ rfl HO.o rfl rfl ?c1 rfl ?c2 ?c3 ?c4 ?c5 ?_)
   case c1=>rfl
   case c2=>exact ⟨rfl,rfl⟩
   case c3=>unfold maxLen;omega
   case c4=>omega
   case c5=>exact HB.o.size
   intro g4 cap4 w5 hop5 hgr5 hg5
   have G:=zh (show PgR w T (.slice (some ⟨g4,0,none⟩) (m+1+1) cap4) (.int .i64 ((m+1:Nat):Int)) w5 from ⟨m+1,by omega,rfl,by
    rw [ZGE,Zm,<-HV.o,show 8 * m=m * 8 by omega];simpa [u64] using hop5,ZL HB.o hgr5 HB.o.size (fun b hb=>(HO.o.lt b hb).1)⟩)
   clear hop5 hgr5 hg5;go_wp2_with fail;go_roundw
   case rel=>simpa using G.o
   case measure=>simp [intOf];omega
  ·obtain rfl:m=8:=by omega
   have HST:=zh (YZ (l:=JS T 8) (by unfold Wrt;rw [XI];exact HO.o) (by rw [XI];omega) (by rw [XI];omega) HLT.o wr bR);clear hlt hm;go_wp2_with fail;refine HST.o.mono ?_;rintro e w3 ⟨r,rfl,hp1,hb1⟩;go_wp2;go_returns;exact ⟨r,rfl,hp1.mono HB.o.size,HB.o.trans (hb1.mono HB.o.size)⟩
def SzC (w:World)(b:Nat):Prop:=w.cell? ⟨b,0,none⟩=some (.int .i64 1)/\w.cell? ⟨b,1,none⟩=some (.int .i64 160)/\w.cell? ⟨b,2,none⟩=some (.int .i64 26)/\w.cell? ⟨b,3,none⟩=some (.int .i64 26)/\w.cell? ⟨b,4,none⟩=some (.int .i64 8)/\w.cell? ⟨b,5,none⟩=some (.int .i64 0)/\w.cell? ⟨b,6,none⟩=some (.int .i64 0)/\w.cell? ⟨b,7,none⟩=some (.int .u64 0)
theorem SzC.of {b:Nat}{fz:Nat×Nat}(h:w.heap[b]?=some (.cells #[.int .i64 1,.int .i64 160,.int .i64 26,.int .i64 26,.int .i64 8,.int .i64 0,.int .i64 0,.int .u64 0] 106 fz)):SzC w b:=by
 refine ⟨?_,?_,?_,?_,?_,?_,?_,?_⟩ <;> exact (ZD h).trans rfl
theorem ZDP (h:Ar w A F 160 T c):Calls prog 133 #[.iface 116 (.pointer (some ⟨A.t 0,0,none⟩)),supz.val] w fun e w'=>e=.returned (.int .i64 0)/\Bl w w':=by
 have HS:=zh (fun (w1:World) (hb:Bl w w1)=>ZBh h w1 hb);have HV:=zh (fun (w1:World)=>VS (w:=w1) ZBx);have HE:=zh (fun (w1:World) (hb:Bl w w1)=>Zs h (i:=0) (by omega) w1 hb);clear h;unfold supz Sup.val at *;go_in;go_upto_region 1 with fail;obtain ⟨w1,hw1⟩:=xE (w.alloc (.cells #[.int .i64 1,.int .i64 160,.int .i64 26,.int .i64 26,.int .i64 8,.int .i64 0,.int .i64 0,.int .u64 0] 106));have HH:=zh (show w1.heap[w.heap.size]?=some (.cells #[.int .i64 1,.int .i64 160,.int .i64 26,.int .i64 26,.int .i64 8,.int .i64 0,.int .i64 0,.int .u64 0] 106 (0,0)) by rw [hw1];exact ZC _ _);have HB1:=zh (show Bl w w1 by rw [hw1];exact ZA bR);rw [<-hw1];clear hw1;have HR:=zh (Below.refl w1.heap.size w1);have HS1:=zh (ZBJ HB1.o HS.o);have HV1:=zh (fun (V:World) (hb:Bl w1 V)=>VA (HV.o V) hb);have HK:=zh (fun (wx:World) (hb:Bl w1 wx)=>SzC.of (Yt HH.o hb));unfold SzC at HK
 go_region_held3 (fun wx=>wx.cell? ⟨w.heap.size,0,none⟩=some (.int .i64 1)/\wx.cell? ⟨w.heap.size,1,none⟩=some (.int .i64 160)/\wx.cell? ⟨w.heap.size,2,none⟩=some (.int .i64 26)/\wx.cell? ⟨w.heap.size,3,none⟩=some (.int .i64 26)/\wx.cell? ⟨w.heap.size,4,none⟩=some (.int .i64 8)/\wx.cell? ⟨w.heap.size,5,none⟩=some (.int .i64 0)/\wx.cell? ⟨w.heap.size,6,none⟩=some (.int .i64 0)/\wx.cell? ⟨w.heap.size,7,none⟩=some (.int .u64 0))
  (exact HK.o _ (by repeat (with_reducible first|assumption|exact HR.o|apply ZA|apply ZB)))
  (first
    |(go_at_call 202;refine (HS1.o _ (by repeat (with_reducible first|assumption|exact HR.o|apply ZA|apply ZB))).mono ?_;rintro e V1 ⟨rfl,rfl⟩)
    |(go_at_call 75;refine (HV1.o _ (by repeat (with_reducible first|assumption|exact HR.o|apply ZA|apply ZB))).mono ?_;rintro e V2 ⟨rfl,hb2,hl2⟩))
 rw [show IntKind.u64.wrap 160=160 by decide];have HB2:=zh (HB1.o.trans (hb2.mono HB1.o.size));have hne:=YT;clear hb2 hl2;go_wp2_with fail;refine (HE.o _ HB2.o).mono ?_;rintro e w' ⟨rfl,rfl⟩;go_wp2;go_returns;exact ⟨rfl,HB2.o⟩
def ZDu (T:Nat->Nat):List (List (Nat×Nat)):=[[(56,0),(120,0)],JS T 8]
theorem ZDC (h:Aq w A F 160 T c x)(hx:x+40<=1000000):
 Calls prog 81 #[.iface 116 (.pointer (some ⟨A.t 0,0,none⟩)),supz.val] w fun e w'=>e=.returned (.int .i64 0)/\∃ F',Aq w' A F' 160 T (wrs c (ZDu T).flatten) (x+40)/\Moved F F' w w':=by
 have HU:=zh (fun (w1:World) (hb:Bl w w1)=>ZDP (h.ar.below hb));have HP:=zh (fun (w1:World) (hb:Bl w w1)=>ZGX (h.nib.below hb nR));have H:=zh h;have HX:=zh hx;have HR:=zh (Below.refl w.heap.size w);clear h hx;unfold supz sup0 Sup.val at *;go_in;go_wp2_with fail;refine (HU.o _ (ZA HR.o)).mono ?_;rintro e w1 ⟨rfl,hb1⟩;have HB1:=zh ((ZA HR.o).trans (hb1.mono (by simp)));have HH:=zh (show w1.heap[w.heap.size]?=some (.cells #[.int .i64 1,.int .i64 160,.int .i64 26,.int .i64 26,.int .i64 8,.int .i64 0,.int .i64 0,.int .u64 0] 106 (0,0)) from (hb1.block _ (by simp)).trans (ZC _ _));clear hb1;obtain ⟨c0,c1,c2,c3,c4,c5,c6,c7⟩:=SzC.of HH.o;have f7:=ZH (i:=7) HH.o;go_upto_region 5 with fail;obtain ⟨w2,hw2⟩:=xE (w1.setCell ⟨w.heap.size,7,none⟩ (.int .u64 1));have HH2:=zh (show w2.heap[w.heap.size]?=some (.cells #[.int .i64 1,.int .i64 160,.int .i64 26,.int .i64 26,.int .i64 8,.int .i64 0,.int .i64 0,.int .u64 1] 106 (0,0)) by rw [hw2];exact ZI HH.o);have HB2:=zh (show Bl w w2 by rw [hw2];exact ZE HB1.o nR);rw [<-hw2];clear hw2 c0 c1 c2 c3 c4 c5 c6 c7 f7;have HS:=zh (Uc (w:=w2.alloc (.cells #[.int .u64 56,.int .u64 0,.int .u64 120,.int .u64 0] 138)) (b:=w2.heap.size) (o:=0) (c:=2) (l:=[(56,0),(120,0)]) (ZC8 _ _ _ (fun j u hj=>by rw [<-ZLx];exact hj)) (by decide) (by decide) (by decide));go_wp2_with fail;refine HS.o.mono ?_;rintro e w3 ⟨g,cap,rfl,hp,hb⟩;have hb23:Bl w2 w3:=(ZA bR).trans (hb.mono (by simp));have HB3:=zh (HB2.o.trans (hb23.mono HB2.o.size));have HH3:=zh (Yt HH2.o hb23);have HP3:=zh (show Prg w3 (w2.alloc (.cells #[.int .u64 56,.int .u64 0,.int .u64 120,.int .u64 0] 138)).heap.size _ (Zk [(56,0),(120,0)]) from hp);clear hp hb hb23 HS;obtain ⟨c0,c1,c2,c3,c4,c5,c6,c7⟩:w3.cell? ⟨w.heap.size,0,none⟩=some (.int .i64 1)/\w3.cell? ⟨w.heap.size,1,none⟩=some (.int .i64 160)/\w3.cell? ⟨w.heap.size,2,none⟩=some (.int .i64 26)/\w3.cell? ⟨w.heap.size,3,none⟩=some (.int .i64 26)/\w3.cell? ⟨w.heap.size,4,none⟩=some (.int .i64 8)/\w3.cell? ⟨w.heap.size,5,none⟩=some (.int .i64 0)/\w3.cell? ⟨w.heap.size,6,none⟩=some (.int .i64 0)/\w3.cell? ⟨w.heap.size,7,none⟩=some (.int .u64 1):=by
  refine ⟨?_,?_,?_,?_,?_,?_,?_,?_⟩ <;> exact (ZD HH3.o).trans rfl
 go_wp2_with fail;refine (HP.o w3 HB3.o).mono ?_;rintro e w4 ⟨v,rfl,hp4,hb4⟩;have HB4:=zh (HB3.o.trans (hb4.mono HB3.o.size));have HT:=zh (Vu (w:=w4) (HP3.o.below hb4) hp4 (Zq _) (Zq _) (by have h1:=Ys [((56:Nat),(0:Nat)),(120,0)];have h2:=Ys (JS T 8);rw [XI] at h2;simp only [List.length_cons,List.length_nil] at h1;omega) w4 bR);clear c0 c1 c2 c3 c4 c5 c6 c7 hp4 hb4;go_wp2_with fail;refine HT.o.mono ?_;rintro e w5 ⟨r,rfl,hp5,hb5⟩;have HB5:=zh (HB4.o.trans (hb5.mono HB4.o.size))
 have HRUN:=zh (VO H.o (ls:=ZDu T) (x':=x+40) (by have:=Zq [((56:Nat),(0:Nat)),(120,0)];simp only [ZDu,Ze,ZLc];omega) (by
  intro l hl y hy;have hk:=VB H.o.nib [7738151121853964849,1,7318461074112513,8,0,0,0];simp only [ZDu,List.mem_cons,List.not_mem_nil,or_false] at hl;rcases hl with rfl|rfl
  ·revert y;decide
  ·obtain ⟨K,hK⟩:=xE (UE T [7738151121853964849,1,7318461074112513,8,0,0,0])
   simp only [JS,ZDH,ZLy,List.range_zero,<-hK] at hy;rw [<-hK] at hk;simp at hy;rcases hy with rfl|rfl|rfl|rfl|rfl|rfl|rfl|rfl|rfl <;> exact ⟨by simp,by simp,by simp;try omega⟩) (by simp only [ZDu,Zw,XI,List.length_cons,List.length_nil];omega) HX.o w5 HB5.o (B:=w4.heap.size) (v:=r) (by unfold ZDu Ze Ze Ze;rw [List.append_nil];exact hp5) HB4.o.size)
 clear hp5 hb5;go_wp2_with fail;refine HRUN.o.mono ?_;rintro e w6 ⟨rfl,hcl⟩;go_wp2;go_returns;exact ⟨rfl,hcl⟩
def RS (w0:World)(A:DAd)(F:Nat->Option ZM)(sb:Nat)(T c:Nat->Nat)(x:Nat)(w:World):Prop:=
 ∃ F',Aq w A F' 160 T c x/\Moved F F' w0 w/\F' sb=none/\w.heap[sb]?=some (.cells #[.int .i64 1,.int .i64 160,.int .i64 26,.int .i64 26,.int .i64 8,.int .i64 0,.int .i64 0,.int .u64 0] 106 (0,0))
variable {w0:World}{sb:Nat}
theorem RS.below (h:RS w0 A F sb T c x w)(hb:Bl w w'):RS w0 A F sb T c x w':=by
 obtain ⟨F',h1,h2,h3,h4⟩:=h;exact ⟨F',h1.below hb,h2.trans ⟨Only.of_below hb,fun _ _=>rfl⟩,h3,(hb.block _ (heap_lt h4)).trans h4⟩
theorem RS.run (h:RS w0 A F sb T c x w) {w1:World} {f:FuncId} {args:Array Value} {R:Ending} {l:List (Nat×Nat)} {d:Nat}
 (hc:∀ F',Aq w A F' 160 T c x->Calls prog f args w1 fun e w'=>e=R/\∃ F2,Aq w' A F2 160 T (wrs c l) (x+d)/\Moved F' F2 w w'):
 Calls prog f args w1 fun e w'=>e=R/\RS w0 A F sb T (wrs c l) (x+d) w':=by
 obtain ⟨F',h1,h2,h3,h4⟩:=h;refine (hc F' h1).mono ?_;rintro e w' ⟨rfl,F2,k1,k2⟩;exact ⟨rfl,F2,k1,h2.trans k2,(k2.same _ (heap_lt h4)).trans h3,YL k2 h3 h4⟩
theorem RS.cells (h:RS w0 A F sb T c x w):SzC w sb:=by
 obtain ⟨F',h1,h2,h3,h4⟩:=h;exact SzC.of h4
def ZKJ (T:Nat->Nat):List (Nat×Nat):=X4 16++([(640,0)]++([(2304,0)]++(Xt 2++(UR 7++ZDk T 2))))
theorem ZA6 {w:World}{r a b:Nat}(hr:r < 9)(ha:supz.at r=a)(hb:supz.sizes.getD r 0=b):Calls prog 127 #[supz.val,.int .u8 (r+1:Nat)] w fun e w'=>e=.returned (.tuple #[.int .i64 (a:Nat),.int .i64 (b:Nat),.int .i64 0])/\Bl w w':=by
 have:=Vt (w:=w) ZBx hr;rw [ha,hb] at this;exact this
theorem ZJ0 (h:RS w0 A F sb T c x w){w1:World}(hb:Bl w w1)(hx:x+10<=1000000){v:Value}(hp:Prg w1 w.heap.size v (Zk [(2304,0)])):
 Calls prog 112 #[v,.iface 116 (.pointer (some ⟨A.t 0,0,none⟩))] w1 fun e w'=>e=.returned (.int .i64 0)/\RS w0 A F sb T (wrs c [(2304,0)]) (x+10) w':=
 h.run (fun F' ha=>VO ha (ls:=[[(2304,0)]]) (x':=x+10) (by decide) (by decide) (Nat.add_le_add_left (show Zw [[(2304,0)]]<=10 by decide) x) hx w1 hb (B:=w.heap.size) (by rw [Z2];exact hp) nR)
theorem ZCy (h:Aq w A F 160 T c x)(hx:x+130<=1000000):
 Calls prog 80 #[.pointer (some ⟨A.t 0,0,none⟩),supz.val] w fun e w'=>e=.returned (.int .i64 0)/\∃ F',Aq w' A F' 160 T (wrs c (ZKJ T)) (x+130)/\Moved F F' w w':=by
 have H:=zh h;have HX:=zh hx;have HR1:=zh (fun (wx:World)=>ZA6 (w:=wx) (r:=1) (a:=2) (b:=8) (by omega) rfl rfl);have HR2:=zh (fun (wx:World)=>ZA6 (w:=wx) (r:=2) (a:=10) (b:=26) (by omega) rfl rfl);have HR3:=zh (fun (wx:World)=>ZA6 (w:=wx) (r:=3) (a:=36) (b:=26) (by omega) rfl rfl);have HR4:=zh (fun (wx:World)=>ZA6 (w:=wx) (r:=4) (a:=62) (b:=8) (by omega) rfl rfl);have HR5:=zh (fun (wx:World)=>ZA6 (w:=wx) (r:=5) (a:=70) (b:=1) (by omega) rfl rfl);have HR8:=zh (fun (wx:World)=>ZA6 (w:=wx) (r:=8) (a:=71) (b:=64) (by omega) rfl rfl);clear h hx;unfold supz Sup.val at *;go_in;go_upto_region 1 with fail
 have hS:RS w A F w.heap.size T c x (w.alloc (.cells #[.int .i64 1,.int .i64 160,.int .i64 26,.int .i64 26,.int .i64 8,.int .i64 0,.int .i64 0,.int .u64 0] 106)):=
  ⟨F,H.o.below (ZA bR),⟨Only.of_below (ZA bR),fun _ _=>rfl⟩,H.o.new nR,ZC _ _⟩
 obtain ⟨w1,hw1⟩:=xE (w.alloc (.cells #[.int .i64 1,.int .i64 160,.int .i64 26,.int .i64 26,.int .i64 8,.int .i64 0,.int .i64 0,.int .u64 0] 106));obtain ⟨sb,hsb⟩:=xE w.heap.size;rw [<-hw1,<-hsb] at hS;rw [<-hw1,<-hsb];have HS:=zh hS;clear hw1 hsb hS;obtain ⟨c0,c1,c2,c3,c4,c5,c6,c7⟩:=HS.o.cells;go_wp2_with fail;refine (HR1.o _).mono ?_;rintro e w2 ⟨rfl,hb2⟩;have HT:=zh (HS.o.below hb2);clear c0 c1 c2 c3 c4 c5 c6 c7 HS hb2;have HC:=zh (HT.o.run (fun F' ha=>ZC1 ha (by have:=HX.o;omega)));go_wp2_with fail;refine HC.o.mono ?_;rintro e w4 ⟨rfl,hS⟩;have HS:=zh hS;clear HT HC hS;obtain ⟨c0,c1,c2,c3,c4,c5,c6,c7⟩:=HS.o.cells;go_wp2_with fail;refine (HR2.o _).mono ?_;rintro e w2 ⟨rfl,hb2⟩;have HT:=zh (HS.o.below hb2);clear c0 c1 c2 c3 c4 c5 c6 c7 HS hb2;have HC:=zh (HT.o.run (fun F' ha=>ZBr ha (by have:=HX.o;omega)));go_wp2_with fail;refine HC.o.mono ?_;rintro e w4 ⟨rfl,hS⟩;have HS:=zh hS;clear HT HC hS;obtain ⟨c0,c1,c2,c3,c4,c5,c6,c7⟩:=HS.o.cells;go_wp2_with fail;refine (HR3.o _).mono ?_;rintro e w2 ⟨rfl,hb2⟩;have HT:=zh (HS.o.below hb2);clear c0 c1 c2 c3 c4 c5 c6 c7 HS hb2;have HST:=zh (Yl (Below.refl w2.heap.size w2) (M:=2304) (S:=0) (by omega) w2 (Below.refl w2.heap.size w2));go_wp2_with fail;refine HST.o.mono ?_;rintro e w3 ⟨v,rfl,hp,hb⟩;have HC:=zh (ZJ0 HT.o hb (by have:=HX.o;omega) hp);clear hp hb;go_wp2_with fail;refine HC.o.mono ?_;rintro e w4 ⟨rfl,hS⟩;have HS:=zh hS;clear HT HC hS;obtain ⟨c0,c1,c2,c3,c4,c5,c6,c7⟩:=HS.o.cells;go_wp2_with fail;refine (HR4.o _).mono ?_;rintro e w2 ⟨rfl,hb2⟩;have HT:=zh (HS.o.below hb2);clear c0 c1 c2 c3 c4 c5 c6 c7 HS hb2;have HC:=zh (HT.o.run (fun F' ha=>ZCk ha (by have:=HX.o;omega)));go_wp2_with fail;refine HC.o.mono ?_;rintro e w4 ⟨rfl,hS⟩;have HS:=zh hS;clear HT HC hS;obtain ⟨c0,c1,c2,c3,c4,c5,c6,c7⟩:=HS.o.cells;go_wp2_with fail;refine (HR5.o _).mono ?_;rintro e w2 ⟨rfl,hb2⟩;have HT:=zh (HS.o.below hb2);clear c0 c1 c2 c3 c4 c5 c6 c7 HS hb2;have HC:=zh (HT.o.run (fun F' ha=>ZCN ha (by have:=HX.o;omega)));go_wp2_with fail;refine HC.o.mono ?_;rintro e w4 ⟨rfl,hS⟩;have HS:=zh hS;clear HT HC hS;obtain ⟨c0,c1,c2,c3,c4,c5,c6,c7⟩:=HS.o.cells;go_wp2_with fail;refine (HR8.o _).mono ?_;rintro e w2 ⟨rfl,hb2⟩;have HT:=zh (HS.o.below hb2);clear c0 c1 c2 c3 c4 c5 c6 c7 HS hb2;have HC:=zh (HT.o.run (fun F' ha=>ZBD ha (by have:=HX.o;omega)));go_wp2_with fail;refine HC.o.mono ?_;rintro e w4 ⟨rfl,hS⟩;have HS:=zh hS;clear HT HC hS;go_wp2;go_returns;obtain ⟨F',h1,h2,_⟩:=HS.o;refine ⟨rfl,F',?_,h2⟩;unfold ZKJ;simp only [YF];exact h1.mono (by omega)
def JG (T:Nat->Nat)(e a P:Nat):List (Nat×Nat):=[(128+32 * e,a),(136+32 * e,0),(144+32 * e,P),(152+32 * e,4294967296+UE T [a,0])]
theorem UO {n:Nat}(h1:1<=n)(h2:n<=7):Calls prog 261 #[.int .i64 n] w fun e w'=>e=.returned (.int .i64 1)/\w=w':=by
 rcases (show n=1\/n=2\/n=3\/n=4\/n=5\/n=6\/n=7 by omega) with rfl|rfl|rfl|rfl|rfl|rfl|rfl
 all_goals
  clear h1 h2;go_in;go_wp2;go_returns;exact ⟨rfl,rfl⟩
theorem Xr {P:Program} {ops:Array Oper} {o:Oper} {a:Act} {w:World} {K:Act->World->Prop} {Q:Exit->Act->World->Prop} {B:Prop} (hgd:o.guard=none) (d s:Operand) (t t':TypeId)
 (ho:o.op=.call {callee:=.builtin .copy,args:=#[d,s],argTypes:=#[t,t']}){v1 v2 r:Value}{w':World}(hd:a.eval d=v1)(hs:a.eval s=v2)(hr:∀ ty,(Builtin.copy_ #[t,t'] ty #[v1,v2]).run P w=.ok r w')(h:K (a.put o.dst r) w'):
 if Region.wanted o (yielded ops a.tmps)=true then Oper.wp P o a w K Q else B:=by
 have hw:Region.wanted o (yielded ops a.tmps)=true:=by simp [Region.wanted,hgd]
 rw [ZLX hw];have hr:=hr o.type;unfold Oper.wp;simp [execOp,ho,resolve,invoke,builtin,hs,hd,hr,Result.andThen];exact h
def byL:List Nat:=[108,105,109,98,111]
def wkL:List Nat:=[0,108,26988,7170412,1651337580,478392707436]
theorem ZJV {g cap:Nat}(hg:g < w.heap.size)(hc:∀ j,j < 5->w.cell? ⟨g,j,none⟩=some (.int .u8 (byL.getD j 0:Nat))):
 Calls prog 222 #[.slice (some ⟨g,0,none⟩) 5 cap] w fun e w'=>∃ B,e=.returned (.slice (some ⟨B,0,none⟩) 1 1)/\w'.heap[B]?=some (.cells #[.int .u64 478392707436] 31 (0,0))/\Bl w w':=by
 have HC:=zh (fun (wx:World) (hb:Bl w wx) (j:Nat) (hj:j < 5)=>(hb.cell (p:=⟨g,j,none⟩) hg).trans (hc j hj));have HWO:=zh (UO (w:=w) (n:=5) (by omega) (by omega));obtain ⟨i,hi,hz,hsz,hby⟩:=info_parts UA;have hmk:=run_make (P:=prog) w 166 31 i _ underlying166 hi hz .i64 .i64 1 1 (by omega) (Int.le_refl _) (by rw [hby];omega) (by omega);simp only [show (1:Int).toNat=1 from rfl,hsz,Nat.mul_one] at hmk;rw [show madeCells (Value.int .u64 0).cells 1=#[.int .u64 0] by kernel_rfl] at hmk;clear hi hz hsz hby hg hc;go_in;go_wp2_with fail;refine HWO.o.mono ?_;rintro e w' ⟨rfl,rfl⟩;go_upto_region 2 with fail;obtain ⟨w1,hw1⟩:=xE (w.alloc (.cells #[.int .u64 0] 31));obtain ⟨B,hB⟩:=xE w.heap.size;have HX:=zh (show w1.heap[B]?=some (.cells #[.int .u64 (wkL.getD 0 0:Nat)] 31 (0,0)) by rw [hw1,hB];exact ZC _ _);have HB1:=zh (show Bl w w1 by rw [hw1];exact ZA bR);have HBN:=zh (show w.heap.size<=B by omega);rw [<-hw1,<-hB];clear hw1 hB hmk;go_wp2_with fail
 go_loopw [12] (fun i wr=>∃ m:Nat,m<=5/\i=.int .i64 m/\wr.heap[B]?=some (.cells #[.int .u64 (wkL.getD m 0:Nat)] 31 (0,0))/\Bl w wr) (fun i _=>5 - (intOf i).toNat)
 case atStart=>exact ⟨0,by omega,rfl,HX.o,HB1.o⟩
 case round=>
 obtain ⟨m,hm,rfl,hx,hb⟩:=hrel;have HB:=zh hb
 by_cases hlt:m < 5
 ·have c1:=HC.o wr hb m hlt
  clear hm hb;rcases (show m=0\/m=1\/m=2\/m=3\/m=4 by omega) with rfl|rfl|rfl|rfl|rfl
  all_goals
   obtain ⟨c0,f0⟩:=Uu hx;have hs:=fun v=>(ZI (v:=v) (i:=0) hx)
   simp [byL,wkL] at c0 c1 hs;clear hx hlt;go_wp2_with fail;go_roundw
   case rel=>exact ⟨_,(by decide:_+1<=5),rfl,(hs _).trans rfl,ZE HB.o HBN.o⟩
   case measure=>simp [intOf]
 ·obtain rfl:m=5:=by omega
  clear hm hlt hb;go_wp2;go_returns;exact ⟨B,rfl,hx,HB.o⟩
def byA:List Nat:=[97,110,99,104,111,114]
def wkA:List Nat:=[0,97,28257,6516321,1751346785,478492716641,125822818283105]
theorem ZJU {g cap:Nat}(hg:g < w.heap.size)(hc:∀ j,j < 6->w.cell? ⟨g,j,none⟩=some (.int .u8 (byA.getD j 0:Nat))):
 Calls prog 222 #[.slice (some ⟨g,0,none⟩) 6 cap] w fun e w'=>∃ B,e=.returned (.slice (some ⟨B,0,none⟩) 1 1)/\w'.heap[B]?=some (.cells #[.int .u64 125822818283105] 31 (0,0))/\Bl w w':=by
 have HC:=zh (fun (wx:World) (hb:Bl w wx) (j:Nat) (hj:j < 6)=>(hb.cell (p:=⟨g,j,none⟩) hg).trans (hc j hj));have HWO:=zh (UO (w:=w) (n:=6) (by omega) (by omega));obtain ⟨i,hi,hz,hsz,hby⟩:=info_parts UA;have hmk:=run_make (P:=prog) w 166 31 i _ underlying166 hi hz .i64 .i64 1 1 (by omega) (Int.le_refl _) (by rw [hby];omega) (by omega);simp only [show (1:Int).toNat=1 from rfl,hsz,Nat.mul_one] at hmk;rw [show madeCells (Value.int .u64 0).cells 1=#[.int .u64 0] by kernel_rfl] at hmk;clear hi hz hsz hby hg hc;go_in;go_wp2_with fail;refine HWO.o.mono ?_;rintro e w' ⟨rfl,rfl⟩;go_upto_region 2 with fail;obtain ⟨w1,hw1⟩:=xE (w.alloc (.cells #[.int .u64 0] 31));obtain ⟨B,hB⟩:=xE w.heap.size;have HX:=zh (show w1.heap[B]?=some (.cells #[.int .u64 (wkA.getD 0 0:Nat)] 31 (0,0)) by rw [hw1,hB];exact ZC _ _);have HB1:=zh (show Bl w w1 by rw [hw1];exact ZA bR);have HBN:=zh (show w.heap.size<=B by omega);rw [<-hw1,<-hB];clear hw1 hB hmk;go_wp2_with fail
 go_loopw [12] (fun i wr=>∃ m:Nat,m<=6/\i=.int .i64 m/\wr.heap[B]?=some (.cells #[.int .u64 (wkA.getD m 0:Nat)] 31 (0,0))/\Bl w wr) (fun i _=>6 - (intOf i).toNat)
 case atStart=>exact ⟨0,by omega,rfl,HX.o,HB1.o⟩
 case round=>
 obtain ⟨m,hm,rfl,hx,hb⟩:=hrel;have HB:=zh hb
 by_cases hlt:m < 6
 ·have c1:=HC.o wr hb m hlt
  clear hm hb;rcases (show m=0\/m=1\/m=2\/m=3\/m=4\/m=5 by omega) with rfl|rfl|rfl|rfl|rfl|rfl
  all_goals
   obtain ⟨c0,f0⟩:=Uu hx;have hs:=fun v=>(ZI (v:=v) (i:=0) hx)
   simp [byA,wkA] at c0 c1 hs;clear hx hlt;go_wp2_with fail;go_roundw
   case rel=>exact ⟨_,(by decide:_+1<=6),rfl,(hs _).trans rfl,ZE HB.o HBN.o⟩
   case measure=>simp [intOf]
 ·obtain rfl:m=6:=by omega
  clear hm hlt hb;go_wp2;go_returns;exact ⟨B,rfl,hx,HB.o⟩
theorem ZH7 (hT:NTab w T){a b p q:Nat}(ha:a < 18446744073709551616)(hb:b < 18446744073709551616):
 Calls prog 152 #[.agg #[.int .u64 a,.int .u64 b,.int .u64 p,.int .u64 q]] w fun e w'=>e=.returned (.int .u64 (4294967296+UE T [a,b]:Nat))/\Bl w w':=by
 obtain ⟨w1,hw1⟩:=xE (w.alloc (.cells #[.int .u64 a,.int .u64 b,.int .u64 p,.int .u64 q] 113));have HX:=(show w1.heap[w.heap.size]?=some (.cells #[.int .u64 a,.int .u64 b,.int .u64 p,.int .u64 q] 113 (0,0)) by rw [hw1];exact ZC _ _)
 have HB1:=zh (show Bl w w1 by rw [hw1];exact ZA bR);have HW:=zh (fun (cap:Nat)=>words_any (hT.below HB1.o nR) (b:=w.heap.size) (o:=0) (c:=cap) (l:=[a,b]) (fun j u hj=>by
  rcases j with _|_|j
  ·cases hj;exact (ZD HX).trans rfl
  ·cases hj;exact (ZD HX).trans rfl
  ·simp at hj) (by simp;exact ⟨ha,hb⟩) (by simp))
 have hk:=VB hT [a,b];obtain ⟨K,hK⟩:=xE (UE T [a,b]);rw [<-hK] at HW hk ⊢;have bk:(K:Int) < 4294967296:=by omega
 clear HX hT ha hb hK;go_in;go_upto_region 1 with fail;rw [<-hw1];clear hw1;go_wp2_with fail;refine (HW.o _).mono ?_;rintro e w' ⟨rfl,rfl⟩;go_wp2;go_returns;exact ⟨by simp,HB1.o⟩
theorem ZJG:Calls prog 151 #[.string {data:=#[108,105,109,98,111]}] w fun e w'=>e=.returned (.agg #[.int .u64 478392707436,.int .u64 0])/\Bl w w':=by
 obtain ⟨w1,hw1⟩:=xE ((w.alloc (.cells #[.int .u64 0,.int .u64 0] 268)).alloc (.cells #[.int .u64 0,.int .u64 0] 268));have e1:(w.alloc (.cells #[.int .u64 0,.int .u64 0] 268)).heap.size=w.heap.size+1:=by simp
 have HA:=zh (show w1.heap[w.heap.size]?=some (.cells #[.int .u64 0,.int .u64 0] 268 (0,0)) by rw [hw1];exact (ZK (by simp)).trans (ZC _ _));have HX:=zh (show w1.heap[w.heap.size+1]?=some (.cells #[.int .u64 0,.int .u64 0] 268 (0,0)) by rw [hw1,<-e1];exact ZC _ _);have HB1:=zh (show Bl w w1 by rw [hw1];exact ZA (ZA bR));obtain ⟨g,hg⟩:=xE (w.heap.size+1);rw [<-hg] at HX;have HGN:=zh hg;go_in;go_upto_region 2 with fail;rw [<-hw1,<-hg];clear hw1 e1 hg;obtain ⟨w2,hw2⟩:=xE w1.drew;have HS0:=zh (show Bl w w2/\w2.heap[g]?=some (.cells #[.int .u64 0,.int .u64 0] 268 (0,0))/\w2.heap[w.heap.size]?=some (.cells #[.int .u64 0,.int .u64 0] 268 (0,0)) by rw [hw2];exact ⟨ZB HB1.o,HX.o,HA.o⟩);refine Zy 4 (fun wx=>Bl w wx/\wx.heap[g]?=some (.cells #[.int .u64 0,.int .u64 0] 268 (0,0))/\wx.heap[w.heap.size]?=some (.cells #[.int .u64 0,.int .u64 0] 268 (0,0))) (by kernel_rfl) ?_;rw [<-hw2];clear hw2 HA HX HB1;refine Y0 (i:=0) (z:=4) (v:=.slice (some ⟨g,0,none⟩) 2 2) rfl (by kernel_rfl) (fun _ _ _ h=>h) HS0.o rfl (fun w' hc=>by go_simp) ?_
 (try simp only [Act.put,ZLe,ZLY,ZLa,ZLT,ZLV,ZLW])
 refine YA (j:=1) (z:=4) (by kernel_rfl) rfl (fun K hK=>?_);go_simp;refine hK _ _ HS0.o ?_;clear hK K
 (try simp only [Act.put,ZLe,ZLY,ZLa,ZLT,ZLV,ZLW])
 refine YA (j:=2) (z:=4) (by kernel_rfl) rfl (fun K hK=>?_);have hcv:=run_bytes_of_string (P:=prog) w2 9 277 5 {data:=#[108,105,109,98,111]} underlying9 underlying277 underlying5;generalize grownCap w2 _ 0 5=cp at hcv;go_simp;clear hcv;obtain ⟨w3,hw3⟩:=xE ((w2.alloc (Obj.cells (bytesRow {data:=#[108,105,109,98,111]} cp) 5 ((bytesRow {data:=#[108,105,109,98,111]} cp).size,(bytesRow {data:=#[108,105,109,98,111]} cp).size+1))).drew);have h23:Bl w2 w3:=by rw [hw3];exact ZB (ZA bR)
 have HS1:=zh (show Bl w w3/\w3.heap[g]?=_/\w3.heap[w.heap.size]?=_ from ⟨HS0.o.1.trans (h23.mono HS0.o.1.size),(h23.block _ (heap_lt HS0.o.2.1)).trans HS0.o.2.1,(h23.block _ (heap_lt HS0.o.2.2)).trans HS0.o.2.2⟩);have hpk:=ZJV (w:=w3) (g:=w2.heap.size) (cap:=cp) (by rw [hw3];show w2.heap.size < (w2.alloc _).heap.size;simp) (fun j hj=>by
  rw [hw3];show (w2.alloc _).cell? _=_;rw [ZD (ZC _ _)];unfold bytesRow;rw [Array.getElem?_append_left (by rw [Array.size_map];exact hj)];rcases (show j=0\/j=1\/j=2\/j=3\/j=4 by omega) with rfl|rfl|rfl|rfl|rfl <;> kernel_rfl)
 rw [<-hw3];refine hK _ _ HS1.o ?_;have HPK:=zh hpk;clear hK K hw3 h23 hpk
 (try simp only [Act.put,ZLe,ZLY,ZLa,ZLT,ZLV,ZLW])
 refine YA (j:=3) (z:=4) (by kernel_rfl) rfl (fun K hK=>?_);refine ZF rfl func222 rfl rfl rfl HPK.o (by first|(simp [Act.eval];done)|(simp [Act.eval];rfl)) ?_;rintro e' w4 ⟨B,rfl,hB,hb4⟩;have HS4:=zh (show Bl w w4/\w4.heap[g]?=_/\w4.heap[w.heap.size]?=_ from ⟨HS1.o.1.trans (hb4.mono HS1.o.1.size),(hb4.block _ (heap_lt HS1.o.2.1)).trans HS1.o.2.1,(hb4.block _ (heap_lt HS1.o.2.2)).trans HS1.o.2.2⟩);refine ⟨_,rfl,hK _ _ HS4.o ?_⟩;clear hK K hb4 HPK HS1 HS0
 (try simp only [Act.put,ZLe,ZLY,ZLa,ZLT,ZLV,ZLW])
 refine Vm (z:=4) (by kernel_rfl) rfl (by kernel_rfl) (by kernel_rfl) (fun K hK=>?_);have hcp:=fun ty=>run_copy_cells (P:=prog) w4 166 166 ty 31 g 0 2 2 ⟨B,0,none⟩ 1 1 [.int .u64 478392707436] underlying166 (by kernel_rfl) rfl (fun j v hj=>by
  rcases j with _|j
  ·cases hj;rw [Addr.add_lit];exact (ZD hB).trans rfl
  ·simp at hj) (fun j hj=>by rw [ZD HS4.o.2.1];have:j=0:=by simpa using hj
                             subst this;rfl) (fun j hj=>ZH HS4.o.2.1) (by simp [Value.oneCell'])
 refine Xr rfl (.tmp 4) (.tmp 7) _ _ rfl rfl rfl hcp ?_;refine hK _ _ ?_;clear hK K hcp hB;simp only [World.setCells];obtain ⟨w5,hw5⟩:=xE (w4.setCell ⟨g,0,none⟩ (.int .u64 478392707436));have HX5:=zh (show w5.heap[g]?=some (.cells #[.int .u64 478392707436,.int .u64 0] 268 (0,0)) by rw [hw5];exact (ZI HS4.o.2.1).trans rfl);have HA5:=zh (show w5.heap[w.heap.size]?=some (.cells #[.int .u64 0,.int .u64 0] 268 (0,0)) by rw [hw5];exact (ZG (by have:=HGN.o;omega)).trans HS4.o.2.2);have HB5:=zh (show Bl w w5 by rw [hw5];exact ZE HS4.o.1 (by have:=HGN.o;omega));rw [<-hw5];clear hw5 HS4;obtain ⟨c0,c1,_⟩:=Yd HX5.o;obtain ⟨a0,a1,f0,f1⟩:=Yd HA5.o
 (try simp only [Act.put,ZLe,ZLY,ZLa,ZLT,ZLV,ZLW])
 go_wp2_with fail;have hr:=(show ((w5.setCell ⟨w.heap.size,0,none⟩ (.int .u64 478392707436)).setCell ⟨w.heap.size,1,none⟩ (.int .u64 0)).heap[w.heap.size]?=some (.cells #[.int .u64 478392707436,.int .u64 0] 268 (0,0)) from (ZI (ZI HA5.o)).trans rfl)
 refine bodyPost_ret (results_cell_row rfl _ _ w.heap.size 268 _ (0,0) _ rfl hr underlying268 rfl (by kernel_rfl)) rfl ?_;exact ⟨rfl,ZE (ZE HB5.o nR) nR⟩
theorem ZJF:Calls prog 151 #[.string {data:=#[97,110,99,104,111,114]}] w fun e w'=>e=.returned (.agg #[.int .u64 125822818283105,.int .u64 0])/\Bl w w':=by
 obtain ⟨w1,hw1⟩:=xE ((w.alloc (.cells #[.int .u64 0,.int .u64 0] 268)).alloc (.cells #[.int .u64 0,.int .u64 0] 268));have e1:(w.alloc (.cells #[.int .u64 0,.int .u64 0] 268)).heap.size=w.heap.size+1:=by simp
 have HA:=zh (show w1.heap[w.heap.size]?=some (.cells #[.int .u64 0,.int .u64 0] 268 (0,0)) by rw [hw1];exact (ZK (by simp)).trans (ZC _ _));have HX:=zh (show w1.heap[w.heap.size+1]?=some (.cells #[.int .u64 0,.int .u64 0] 268 (0,0)) by rw [hw1,<-e1];exact ZC _ _);have HB1:=zh (show Bl w w1 by rw [hw1];exact ZA (ZA bR));obtain ⟨g,hg⟩:=xE (w.heap.size+1);rw [<-hg] at HX;have HGN:=zh hg;go_in;go_upto_region 2 with fail;rw [<-hw1,<-hg];clear hw1 e1 hg;obtain ⟨w2,hw2⟩:=xE w1.drew;have HS0:=zh (show Bl w w2/\w2.heap[g]?=some (.cells #[.int .u64 0,.int .u64 0] 268 (0,0))/\w2.heap[w.heap.size]?=some (.cells #[.int .u64 0,.int .u64 0] 268 (0,0)) by rw [hw2];exact ⟨ZB HB1.o,HX.o,HA.o⟩);refine Zy 4 (fun wx=>Bl w wx/\wx.heap[g]?=some (.cells #[.int .u64 0,.int .u64 0] 268 (0,0))/\wx.heap[w.heap.size]?=some (.cells #[.int .u64 0,.int .u64 0] 268 (0,0))) (by kernel_rfl) ?_;rw [<-hw2];clear hw2 HA HX HB1;refine Y0 (i:=0) (z:=4) (v:=.slice (some ⟨g,0,none⟩) 2 2) rfl (by kernel_rfl) (fun _ _ _ h=>h) HS0.o rfl (fun w' hc=>by go_simp) ?_
 (try simp only [Act.put,ZLe,ZLY,ZLa,ZLT,ZLV,ZLW])
 refine YA (j:=1) (z:=4) (by kernel_rfl) rfl (fun K hK=>?_);go_simp;refine hK _ _ HS0.o ?_;clear hK K
 (try simp only [Act.put,ZLe,ZLY,ZLa,ZLT,ZLV,ZLW])
 refine YA (j:=2) (z:=4) (by kernel_rfl) rfl (fun K hK=>?_);have hcv:=run_bytes_of_string (P:=prog) w2 9 277 5 {data:=#[97,110,99,104,111,114]} underlying9 underlying277 underlying5;generalize grownCap w2 _ 0 5=cp at hcv;go_simp;clear hcv;obtain ⟨w3,hw3⟩:=xE ((w2.alloc (Obj.cells (bytesRow {data:=#[97,110,99,104,111,114]} cp) 5 ((bytesRow {data:=#[97,110,99,104,111,114]} cp).size,(bytesRow {data:=#[97,110,99,104,111,114]} cp).size+1))).drew);have h23:Bl w2 w3:=by rw [hw3];exact ZB (ZA bR)
 have HS1:=zh (show Bl w w3/\w3.heap[g]?=_/\w3.heap[w.heap.size]?=_ from ⟨HS0.o.1.trans (h23.mono HS0.o.1.size),(h23.block _ (heap_lt HS0.o.2.1)).trans HS0.o.2.1,(h23.block _ (heap_lt HS0.o.2.2)).trans HS0.o.2.2⟩);have hpk:=ZJU (w:=w3) (g:=w2.heap.size) (cap:=cp) (by rw [hw3];show w2.heap.size < (w2.alloc _).heap.size;simp) (fun j hj=>by
  rw [hw3];show (w2.alloc _).cell? _=_;rw [ZD (ZC _ _)];unfold bytesRow;rw [Array.getElem?_append_left (by rw [Array.size_map];exact hj)];rcases (show j=0\/j=1\/j=2\/j=3\/j=4\/j=5 by omega) with rfl|rfl|rfl|rfl|rfl|rfl <;> kernel_rfl)
 rw [<-hw3];refine hK _ _ HS1.o ?_;have HPK:=zh hpk;clear hK K hw3 h23 hpk
 (try simp only [Act.put,ZLe,ZLY,ZLa,ZLT,ZLV,ZLW])
 refine YA (j:=3) (z:=4) (by kernel_rfl) rfl (fun K hK=>?_);refine ZF rfl func222 rfl rfl rfl HPK.o (by first|(simp [Act.eval];done)|(simp [Act.eval];rfl)) ?_;rintro e' w4 ⟨B,rfl,hB,hb4⟩;have HS4:=zh (show Bl w w4/\w4.heap[g]?=_/\w4.heap[w.heap.size]?=_ from ⟨HS1.o.1.trans (hb4.mono HS1.o.1.size),(hb4.block _ (heap_lt HS1.o.2.1)).trans HS1.o.2.1,(hb4.block _ (heap_lt HS1.o.2.2)).trans HS1.o.2.2⟩);refine ⟨_,rfl,hK _ _ HS4.o ?_⟩;clear hK K hb4 HPK HS1 HS0
 (try simp only [Act.put,ZLe,ZLY,ZLa,ZLT,ZLV,ZLW])
 refine Vm (z:=4) (by kernel_rfl) rfl (by kernel_rfl) (by kernel_rfl) (fun K hK=>?_);have hcp:=fun ty=>run_copy_cells (P:=prog) w4 166 166 ty 31 g 0 2 2 ⟨B,0,none⟩ 1 1 [.int .u64 125822818283105] underlying166 (by kernel_rfl) rfl (fun j v hj=>by
  rcases j with _|j
  ·cases hj;rw [Addr.add_lit];exact (ZD hB).trans rfl
  ·simp at hj) (fun j hj=>by rw [ZD HS4.o.2.1];have:j=0:=by simpa using hj
                             subst this;rfl) (fun j hj=>ZH HS4.o.2.1) (by simp [Value.oneCell'])
 refine Xr rfl (.tmp 4) (.tmp 7) _ _ rfl rfl rfl hcp ?_;refine hK _ _ ?_;clear hK K hcp hB;simp only [World.setCells];obtain ⟨w5,hw5⟩:=xE (w4.setCell ⟨g,0,none⟩ (.int .u64 125822818283105));have HX5:=zh (show w5.heap[g]?=some (.cells #[.int .u64 125822818283105,.int .u64 0] 268 (0,0)) by rw [hw5];exact (ZI HS4.o.2.1).trans rfl);have HA5:=zh (show w5.heap[w.heap.size]?=some (.cells #[.int .u64 0,.int .u64 0] 268 (0,0)) by rw [hw5];exact (ZG (by have:=HGN.o;omega)).trans HS4.o.2.2);have HB5:=zh (show Bl w w5 by rw [hw5];exact ZE HS4.o.1 (by have:=HGN.o;omega));rw [<-hw5];clear hw5 HS4;obtain ⟨c0,c1,_⟩:=Yd HX5.o;obtain ⟨a0,a1,f0,f1⟩:=Yd HA5.o
 (try simp only [Act.put,ZLe,ZLY,ZLa,ZLT,ZLV,ZLW])
 go_wp2_with fail;have hr:=(show ((w5.setCell ⟨w.heap.size,0,none⟩ (.int .u64 125822818283105)).setCell ⟨w.heap.size,1,none⟩ (.int .u64 0)).heap[w.heap.size]?=some (.cells #[.int .u64 125822818283105,.int .u64 0] 268 (0,0)) from (ZI (ZI HA5.o)).trans rfl)
 refine bodyPost_ret (results_cell_row rfl _ _ w.heap.size 268 _ (0,0) _ rfl hr underlying268 rfl (by kernel_rfl)) rfl ?_;exact ⟨rfl,ZE (ZE HB5.o nR) nR⟩
theorem ZGS (h:Ar w A F 160 T c)(h0:[c 0,c 1,c 2,c 3,c 4,c 5,c 6,c 7]=ZDH T)(h1:[c 8,c 9,c 10,c 11,c 12,c 13,c 14,c 15]=[0,0,0,0,0,0,0,0]):
 Calls prog 136 #[.iface 116 (.pointer (some ⟨A.t 0,0,none⟩))] w fun e w'=>e=.returned (.tuple #[sup0.val,.int .i64 0])/\Bl w w':=by
 have HU:=zh (ZDO h (by omega));have HL:=zh (fun (w1:World) (hb:Bl w w1)=>ZA5 (s0:=sup0) (s1:=Sup.zero) (g0:=true) (g1:=false) (h.below hb) (by omega) (.inr ⟨h0.trans (ZE6 T).symm,QI,by decide,rfl⟩) (.inl ⟨h1,rfl,rfl⟩));have HN:=zh (fun (w1:World)=>ZJN (s0:=sup0) (s1:=Sup.zero) (w:=w1));have HB:=zh (Below.refl w.heap.size w);clear h h0 h1;obtain ⟨CP,hCP⟩:=xE (Yz sup0 Sup.zero true false);rw [<-hCP] at HL HN;have HCP:=zh hCP;have HCZ:=zh (show CP.size=18 by rw [hCP];rfl);have HALL:=zh (show CP.all (·.oneCell')=true by rw [hCP];simp [Yz,Value.oneCell']);clear hCP;unfold Sup.val sup0;go_in;go_wp2_with fail;refine (HU.o _ (ZA HB.o)).mono ?_;rintro e w' ⟨rfl,rfl⟩;go_wp2_with fail;refine (HL.o _ (ZA HB.o)).mono ?_;rintro e w2 ⟨rfl,hb2⟩;have HB2:=zh ((ZA HB.o).trans (hb2.mono (by simp)));have HH2:=zh ((hb2.block w.heap.size (by simp)).trans (ZC _ _));clear hb2 HU HL;go_upto_region 7 with (refine wpList_store_row rfl 318 (.tmp 5) (.tmp 18) rfl w2.heap.size CP rfl rfl 318 _ (ZC _ _) (by rw [HCZ.o];kernel_rfl) (by rw [HCZ.o];rfl) HALL.o ?_)
 generalize hold:(Obj.cells _ 318 (0,0))=OB;obtain ⟨w3,hw3⟩:=xE ((w2.alloc OB).setRow w2.heap.size CP);have HX3:=zh (show w3.heap[w2.heap.size]?=some (.cells CP 318 (0,0)) by rw [hw3,<-hold];exact setRow_heap _ _ _ _ _ _ (ZC _ _));have HB3:=zh (show Bl w2 w3 by rw [hw3];exact Yi (ZA bR) nR CP);rw [<-hw3];clear hw3 hold OB HALL;obtain ⟨g,hg⟩:=xE w2.heap.size;rw [<-hg] at HX3 ⊢;clear hg;go_wp2_with (refine wpList_load_row rfl 318 (.tmp 5) rfl g rfl 318 CP (0,0) _ HX3.o underlying318 rfl (by rw [HCZ.o];kernel_rfl) ?_);refine (HN.o _).mono ?_;rintro e w4 ⟨rfl,hb4⟩;have HB4:=zh (HB3.o.trans (hb4.mono HB3.o.size));have HX4:=zh ((hb4.block _ (heap_lt HX3.o)).trans HX3.o);have HH4:=zh ((HB4.o.block _ (heap_lt HH2.o)).trans HH2.o);have HBB:=zh (HB2.o.trans (HB4.o.mono HB2.o.size));have k:∀ i u,(Yz sup0 Sup.zero true false)[i]?=some u->w4.cell? ⟨g,i,none⟩=some u:=fun i u hu=>by
  rw [ZD HX4.o,HCP.o];exact hu
 obtain ⟨c0,c1,c2,c3,c4,c5,c6,c7⟩:w4.cell? ⟨g,0,none⟩=some (.int .i64 1)/\w4.cell? ⟨g,1,none⟩=some (.int .i64 160)/\w4.cell? ⟨g,2,none⟩=some (.int .i64 26)/\w4.cell? ⟨g,3,none⟩=some (.int .i64 26)/\w4.cell? ⟨g,4,none⟩=some (.int .i64 8)/\w4.cell? ⟨g,5,none⟩=some (.int .i64 0)/\w4.cell? ⟨g,6,none⟩=some (.int .i64 0)/\w4.cell? ⟨g,7,none⟩=some (.int .u64 1):=
  ⟨k _ _ rfl,k _ _ rfl,k _ _ rfl,k _ _ rfl,k _ _ rfl,k _ _ rfl,k _ _ rfl,k _ _ rfl⟩
 clear k hb4 HB3 HX3 HB2 HH2 HN;go_wp2_with (refine wpList_store_row rfl 106 (.tmp 2) (.tmp 35) rfl w.heap.size #[.int .i64 1,.int .i64 160,.int .i64 26,.int .i64 26,.int .i64 8,.int .i64 0,.int .i64 0,.int .u64 1] rfl rfl 106 _ HH4.o (by kernel_rfl) rfl (by simp [Value.oneCell']) ?_);obtain ⟨w5,hw5⟩:=xE (w4.setRow w.heap.size #[.int .i64 1,.int .i64 160,.int .i64 26,.int .i64 26,.int .i64 8,.int .i64 0,.int .i64 0,.int .u64 1]);have HX5:=zh (show w5.heap[w.heap.size]?=some (.cells #[.int .i64 1,.int .i64 160,.int .i64 26,.int .i64 26,.int .i64 8,.int .i64 0,.int .i64 0,.int .u64 1] 106 (0,0)) by rw [hw5];exact setRow_heap _ _ _ _ _ _ HH4.o);have HB5:=zh (show Bl w w5 by rw [hw5];exact Yi HBB.o nR _);rw [<-hw5];clear hw5 c0 c1 c2 c3 c4 c5 c6 c7;go_wp2_with fail;refine bodyPost_ret (VQ rfl _ _ w.heap.size 106 #[.int .i64 1,.int .i64 160,.int .i64 26,.int .i64 26,.int .i64 8,.int .i64 0,.int .i64 0,.int .u64 1] (0,0) _ rfl HX5.o underlying106 rfl (by kernel_rfl)) rfl ?_;exact ⟨rfl,HB5.o⟩
theorem ZEK (h:Ar w A F 160 T c)(hz:c 80=0){b:Nat}(hg:Lg w b A 0 640 1664):
 Calls prog 246 #[.pointer (some ⟨b,0,none⟩)] w fun e w'=>e=.returned (.tuple #[.int .u8 1,.slice none 0 0])/\Bl w w':=by
 have HL:=zh (fun (w1:World) (hb:Bl w w1)=>show Calls prog 52 #[.pointer (some ⟨A.t 0,0,none⟩),.int .u64 640] w1 (fun r w'=>r=.returned (.int .u64 0)/\w1=w') from by
  have:=Y4 h (i:=0) (by omega) w1 hb 640 (by omega) (by omega);rw [show 640 / 8=80 by rfl,hz] at this;exact this)
 have HB:=zh (Below.refl w.heap.size w);have HD:=zh (fun (wx:World) (hb:Bl w wx)=>(ZY (hg.below hb)).2.1);obtain ⟨c0,c1,c2,_⟩:=ZY hg;have hnl:=Y5;clear h hz hg;go_in;go_upto_region 2 with fail
 go_region_held3 (fun wx=>wx.cell? ⟨b,1,none⟩=some (.int .u64 640))
  (first|exact HD.o _ (by repeat (with_reducible first|assumption|exact HB.o|apply ZA|apply ZB)))
  (first
    |(rw [Y5];exact ⟨rfl,rfl⟩)
    |(go_invoke;go_simp;go_at_call 52;refine (HL.o _ (by repeat (with_reducible first|exact HB.o|apply ZB))).mono ?_;rintro e' V1 ⟨rfl,rfl⟩))
 all_goals
  go_wp2;go_returns;exact ⟨rfl,ZB HB.o⟩
theorem ZAP (h:Ar w A F 160 T c)(hz:c 80=0){b:Nat}(hg:Lg w b A 0 640 1664):
 Calls prog 206 #[.pointer (some ⟨b,0,none⟩)] w fun e w'=>e=.returned (.tuple #[.int .i64 0,.int .i64 0])/\Bl w w':=by
 have HE:=zh (fun (w1:World) (hb:Bl w w1)=>Zs h (i:=0) (by omega) w1 hb);have HL:=zh (ZEK h hz hg);have HD:=zh (fun (wx:World) (hb:Bl w wx)=>(ZY (hg.below hb)).1);have HB:=zh (Below.refl w.heap.size w);have c0:=HD.o w HB.o;have hne:=YT;clear h hz hg;go_in;go_wp2_with fail;refine (HE.o w HB.o).mono ?_;rintro e w' ⟨rfl,rfl⟩;go_wp2_with fail;refine HL.o.mono ?_;rintro e w1 ⟨rfl,hb1⟩;have HB1:=zh hb1;clear hb1 c0;have c0:=HD.o w1 HB1.o;go_wp2_with fail;refine (HE.o w1 HB1.o).mono ?_;rintro e w' ⟨rfl,rfl⟩;go_wp2;go_returns;exact ⟨rfl,HB1.o⟩
end
end Go.Proofs.YtbpeehmepehkdaaGreatDoor.Dv
