/- Part 46. -/
import Derived.Test.YtbpeehmepehkdaaGreatDoorY45
import Derived.Test.YtbpeehmepehkdaaGreatDoorY34
set_option maxHeartbeats 8000000
set_option maxRecDepth 20000
set_option linter.all false
namespace Go.Proofs.YtbpeehmepehkdaaGreatDoor.Dv
open Tryz
section
open Go.RowKit Go.Proofs.YtbpeehmepehkdaaGreatDoor.Size
variable {w w':World}{A:DAd}{F F':Nat->Option ZM}{T c c' c0:Nat->Nat}{x x':Nat}{H:HAd}{ex n:Nat}{s:LS}{B:WAd}{fv iv:Value}
theorem GetR.below {rb P:Nat}{nm:ByteArray}(h:GetR w rb nm P)(hb:Bl w w'):GetR w' rb nm P:=fun wx hx=>h wx (hb.trans (hx.mono hb.size))
theorem ZGB {pb hb rb kb mb:Nat}(h:PoB w A pb hb rb kb mb):Calls prog 48 #[.pointer (some ⟨pb,0,none⟩)] w fun e w'=>e=.returned (.pointer (some ⟨A.d,0,none⟩))/\w=w':=by
 obtain ⟨c0,c1,c2,c3⟩:=h.parts;clear h;go_in;go_wp2;go_returns;exact ⟨rfl,rfl⟩
theorem ZJW {l y:Nat}:wwC {B with lib:=l} s fv iv y=if y=2 then .pointer (some ⟨l,0,none⟩) else wwC B s fv iv y:=by
 by_cases e:y=2
 ·subst e;rfl
 ·rw [ZLU e];unfold wwC
  split;rfl;split;rfl;rfl
theorem do6 (h:WC w A F T c x H ex B c0 s)(hr:WR w F H B s fv iv)(hi:s.Inv n)(hn:n<=50)(hg1:GetR w B.rb {data:=#[108,105,109,98,111]} pL)(hg2:GetR w B.rb {data:=#[97,110,99,104,111,114]} pA){a b d:Int}(hk:ZX a 7=6):
 Calls prog 11 #[.pointer (some ⟨B.wb,0,none⟩),.agg #[.int .i64 a,.int .i64 b,.int .i64 d]] w fun e w'=>e=.returned (.bool true)/\∃ lib',DoP A T H {B with lib:=lib'} c0 x ex s w':=by
 have HM1:=zh (fun (w1:World)=>show Calls _ _ _ w1 _ from (Zh (w:=w1) (a:=b) (n:=40) (by omega)));have HM2:=zh (fun (w1:World)=>show Calls _ _ _ w1 _ from (Zh (w:=w1) (a:=d) (n:=8) (by omega)));have HM3:=zh (fun (w1:World)=>show Calls _ _ _ w1 _ from (Zh (w:=w1) (a:=a) (n:=7) (by omega)));rw [hk] at HM3;obtain ⟨i,hie⟩:=xE (ZX b 40);obtain ⟨t,hte⟩:=xE (ZX d 8);rw [<-hie] at HM1;rw [<-hte] at HM2;have HAG:=zh (fun (wx:World) (hb:Bl w wx)=>ZFA (h.below hb) hi (by omega) (hg1.below hb) (hg2.below hb));have HPD:=zh (fun (wx:World) (hb:Bl w wx)=>ZGB (h.po.below hb));have HOF:=zh (fun (wx:World) (hb:Bl w wx)=>ZJf h.ar wx hb);have HH:=zh h;have HR:=zh hr;clear hi hn hk hie hte h hr hg1 hg2;go_in;go_upto_region 1 with fail;obtain ⟨w0,hw0⟩:=xE (w.alloc (.cells #[.int .i64 a,.int .i64 b,.int .i64 d] 28));have hb0:Bl w w0:=by rw [hw0];exact ZA bR
 have hx0:w0.heap[w.heap.size]?=some (.cells #[.int .i64 a,.int .i64 b,.int .i64 d] 28 (0,0)):=by rw [hw0];exact ZC _ _
 rw [<-hw0];obtain ⟨a0,a1,a2,_⟩:=ZY hx0;clear hw0;have HR0:=zh (Below.refl w0.heap.size w0)
 go_region_held3 (fun wx=>wx.cell? ⟨w.heap.size,1,none⟩=some (.int .i64 b)/\wx.cell? ⟨w.heap.size,2,none⟩=some (.int .i64 d))
  (first|assumption|exact ⟨a1,a2⟩)
  (first
    |(refine ZF rfl func26 rfl rfl rfl (HM1.o _) (by first|(simp [Act.eval];done)|(simp [Act.eval];rfl)) ?_;rintro e' V2 ⟨rfl,rfl⟩;refine ⟨_,rfl,?_⟩)
    |(refine ZF rfl func26 rfl rfl rfl (HM2.o _) (by first|(simp [Act.eval];done)|(simp [Act.eval];rfl)) ?_;rintro e' V2 ⟨rfl,rfl⟩;refine ⟨_,rfl,?_⟩))
 have hb1:Bl w w0.drew:=ZB hb0;have hx1:w0.drew.heap[w.heap.size]?=_:=hx0;obtain ⟨w1,hw1⟩:=xE w0.drew;rw [<-hw1] at hb1 hx1 ⊢;clear hw1 a0 a1 a2 hx0 hb0;obtain ⟨a0,a1,a2,_⟩:=ZY hx1;go_wp2_with fail;refine (HM3.o _).mono ?_;rintro e w' ⟨rfl,rfl⟩;have HB1:=zh hb1;have z0:=(HR.o.below hb1).zero;clear hb1 hx1 a0 a1 a2;go_wp2_with fail;refine (HAG.o _ HB1.o).mono ?_;rintro e w2 ⟨lib,db2,rfl,hlib,hli,hb2⟩;have HB2:=zh (HB1.o.trans (hb2.mono HB1.o.size));have HC2:=zh ((HH.o.below HB2.o).relist hli (HH.o.hw.newf (ZLi HB1.o.size hlib)));have HR2:=zh (HR.o.below HB2.o);clear hlib hli hb2 z0;have z0:=HR2.o.zero;have z2:=HR2.o.two;have f:=HR2.o.free;go_wp2_with fail;refine (HPD.o _ HB2.o).mono ?_;rintro e w' ⟨rfl,rfl⟩;go_wp2_with fail;refine (HOF.o _ HB2.o).mono ?_;rintro e w' ⟨rfl,rfl⟩
 have HE:=zh (show DoP A T H {B with lib:=lib} c0 x ex s (w2.setCell ⟨B.wb,2,none⟩ (.pointer (some ⟨lib,0,none⟩))) from
  ⟨F,c,x,ex,fv,iv,by omega,by omega,HC2.o.setw HR2.o.row HR2.o.fw _,HR2.o.put 2 _ rfl (fun y hy=>ZJW) HR2.o.fre HR2.o.ite⟩)
 go_wp2;go_returns;exact ⟨rfl,lib,HE.o⟩
theorem ZJv (h:WC w A F T c x H ex B c0 s)(hr:WR w F H B s fv iv)(hi:s.Inv n)(hn:n<=50)(hx:x<=900000)(hex:ex<=900000)(hg1:GetR w B.rb {data:=#[108,105,109,98,111]} pL)(hg2:GetR w B.rb {data:=#[97,110,99,104,111,114]} pA){a b d:Int}:
 Calls prog 11 #[.pointer (some ⟨B.wb,0,none⟩),.agg #[.int .i64 a,.int .i64 b,.int .i64 d]] w fun e w'=>e=.returned (.bool true)/\∃ lib',DoP A T H {B with lib:=lib'} c0 x ex (s.stp (ZX a 7) (ZX b 40) (ZX d 8)) w':=by
 by_cases hk:ZX a 7=6
 ·rw [hk,show s.stp 6 (ZX b 40) (ZX d 8)=s by unfold LS.stp;rw [ZLU (by omega),ZLU (by omega),ZLU (by omega),ZLU (by omega),ZLU (by omega),ZLU (by omega)]]
  exact do6 h hr hi hn hg1 hg2 hk
 ·exact (ZHA h hr hi hn hx hex hk).mono fun e w' hq=>⟨hq.1,B.lib,hq.2⟩
variable {L:Nat}
theorem Jr {P:Program} {fn:Func} {o p q:Tmp} {ty:TypeId} (h:fn.results=#[.tmp o,.cell p ty,.tmp q]) (tmps:Array Value) (w:World) (g:Nat) (t:TypeId) (cs:Array Value) (fr:Nat×Nat) (d:TypeDesc)
 (hp:tmps.getD p undef=.pointer (some ⟨g,0,none⟩)) (hg:w.heap[g]?=some (.cells cs t fr))
 (hu:P.underlying ty=some d)(hd:(match d with|.struct _|.array _ _=>true|_=>false)=true)(hi:(P.info? ty).map (·.size)=some cs.size):
 (results fn tmps).run P w=.ok (.tuple #[tmps.getD o undef,.agg cs,tmps.getD q undef]) w:=by
 have hp':tmps[p]?.getD undef=.pointer (some ⟨g,0,none⟩):=by simpa using hp
 simp [results,h,hp',asAddr,run_loadVar_row w g t ty cs fr d hg hu hd hi]
theorem ZEI (h:Ar w A F L T c) (hL:80<=8 * L) {rb:Nat} (hr:RtB w A rb) {nm:ByteArray} {k:Nat} (hk:k=0\/k=1)
 (hfd:∀ CS:Array Value,CS.size=64->(∀ y,y < 64->CS[y]?=some (.int .u64 (c (16+y):Nat)))->∀ wx,Bl w wx->Calls prog 93 #[.agg CS,.string nm] wx fun e w'=>e=.returned (.int .i64 k)/\Bl wx w'):
 Calls prog 50 #[.pointer (some ⟨rb,0,none⟩),.string nm] w fun e w'=>e=.returned (.tuple #[.int .i64 k,.agg #[.int .u64 (c (16+4 * k):Nat),.int .u64 (c (16+4 * k+1):Nat),.int .u64 (c (16+4 * k+2):Nat),.int .u64 (c (16+4 * k+3):Nat)],.int .i64 0])/\Bl w w':=by
 have HNO:=zh (fun (wx:World) (hb:Bl w wx)=>ZAz (hr.below hb));have HLD:=zh (fun (wx:World) (hb:Bl w wx)=>JW (h.below hb) hL (hr.below hb));have HFD:=zh hfd;have HK:=zh hk;have HB0:=zh (Below.refl w.heap.size w);clear h hL hr hfd hk;go_in;go_wp2_with fail;obtain ⟨w1,hw1⟩:=xE (w.alloc (.cells #[.int .u64 0,.int .u64 0,.int .u64 0,.int .u64 0] 113));have HB1:=zh (show Bl w w1 by rw [hw1];exact ZA HB0.o);have HX1:=zh (show w1.heap[w.heap.size]?=some (.cells #[.int .u64 0,.int .u64 0,.int .u64 0,.int .u64 0] 113 (0,0)) by rw [hw1];exact ZC _ _);rw [<-hw1];clear hw1;obtain ⟨rb1,hrb1⟩:=xE w.heap.size;have HRB:=zh hrb1;refine (HNO.o _ HB1.o).mono ?_;rintro e w' ⟨rfl,rfl⟩;go_wp2_with fail;refine (HLD.o _ HB1.o).mono ?_;rintro e w2 ⟨CS,rfl,hcs,hcg,hb2⟩;have HB2:=zh (HB1.o.trans (hb2.mono HB1.o.size));have HX2:=zh ((hb2.block _ (heap_lt HX1.o)).trans HX1.o);have HCZ:=zh hcs;have HCG:=zh hcg;clear hb2 hcs hcg;have hall:CS.all (·.oneCell')=true:=by
  refine Array.all_eq_true_iff_forall_mem.2 fun v hv=>?_
  obtain ⟨j,hj,e⟩:=Array.getElem_of_mem hv;have hj64:j < 64:=by rw [HCZ.o] at hj;exact hj
  have:=HCG.o j hj64;rw [ZL8 hj,e] at this;cases this;rfl
 have HALL:=zh hall;clear hall;go_upto_region 6 with (refine wpList_store_row rfl 184 (.tmp 7) (.tmp 16) rfl w2.heap.size CS rfl rfl 184 _ (ZC _ _) (by rw [HCZ.o];kernel_rfl) (by rw [HCZ.o];rfl) HALL.o ?_)
 generalize hold:(Obj.cells _ 184 (0,0))=OB;obtain ⟨w3,hw3⟩:=xE ((w2.alloc OB).setRow w2.heap.size CS);have HX3:=zh (show w3.heap[w2.heap.size]?=some (.cells CS 184 (0,0)) by rw [hw3,<-hold];exact setRow_heap _ _ _ _ _ _ (ZC _ _));have HB3:=zh (show Bl w2 w3 by rw [hw3];exact Yi (ZA bR) nR CS);rw [<-hw3];clear hw3 hold OB HALL;obtain ⟨g,hg⟩:=xE w2.heap.size;have HG:=zh hg;rw [<-hg] at HX3 ⊢;clear hg;have HB4:=zh (HB2.o.trans (HB3.o.mono HB2.o.size));have HX4:=zh ((HB3.o.block _ (heap_lt HX2.o)).trans HX2.o);go_wp2_with (refine wpList_load_row rfl 184 (.tmp 7) rfl g rfl 184 CS (0,0) _ HX3.o underlying184 rfl (by rw [HCZ.o];kernel_rfl) ?_);refine (HFD.o CS HCZ.o HCG.o _ HB4.o).mono ?_;rintro e w5 ⟨rfl,hb5⟩;have HB5:=zh (HB4.o.trans (hb5.mono HB4.o.size));have hx5:=(hb5.block _ (heap_lt HX4.o)).trans HX4.o;have hc5:=(hb5.block _ (heap_lt HX3.o)).trans HX3.o;have z:∀ j,j < 64->w5.cell? ⟨g,j,none⟩=some (.int .u64 (c (16+j):Nat)):=fun j hj=>(ZD hc5).trans (HCG.o j hj)
 have f:∀ i,w5.frozen? ⟨w.heap.size,i,none⟩=false:=fun i=>ZH hx5
 obtain ⟨r0,r1,r2,r3,_⟩:=Ya hx5;clear hb5 hc5 HX1 HX2 HX3 HX4 HB1 HB2 HB3 HB4 HCZ HCG HFD HLD HNO;rcases HK.o with hk|hk
 ·subst hk
  have z0:=z 0 (by omega);have z1:=z 1 (by omega);have z2:=z 2 (by omega);have z3:=z 3 (by omega);clear z;go_wp2_with fail;have f0:=f 0;have f1:=f 1;have f2:=f 2;have f3:=f 3
  go_region
  obtain ⟨w6,hw6⟩:=xE (((((w5.setCell ⟨w.heap.size,0,none⟩ (.int .u64 (c 16:Nat))).setCell ⟨w.heap.size,1,none⟩ (.int .u64 (c 17:Nat))).setCell ⟨w.heap.size,2,none⟩ (.int .u64 (c 18:Nat))).setCell ⟨w.heap.size,3,none⟩ (.int .u64 (c 19:Nat))).drew);have HX6:=zh (show w6.heap[w.heap.size]?=some (.cells #[.int .u64 (c 16:Nat),.int .u64 (c 17:Nat),.int .u64 (c 18:Nat),.int .u64 (c 19:Nat)] 113 (0,0)) by
   rw [hw6];exact ZI (ZI (ZI (ZI hx5))))
  have HB6:=zh (show Bl w w6 by
   rw [hw6];exact ZB (ZE (ZE (ZE (ZE HB5.o nR) nR) nR) nR))
  rw [<-hw6];clear hw6 z0 z1 z2 z3 f0 f1 f2 f3 f r0 r1 r2 r3 hx5;go_wp2_with fail;refine bodyPost_ret (Jr rfl _ _ w.heap.size 113 _ (0,0) _ rfl HX6.o underlying113 rfl (by kernel_rfl)) rfl ?_;exact ⟨rfl,HB6.o⟩
 ·subst hk
  have z0:=z 4 (by omega);have z1:=z 5 (by omega);have z2:=z 6 (by omega);have z3:=z 7 (by omega);clear z;go_wp2_with fail;have f0:=f 0;have f1:=f 1;have f2:=f 2;have f3:=f 3
  go_region
  obtain ⟨w6,hw6⟩:=xE (((((w5.setCell ⟨w.heap.size,0,none⟩ (.int .u64 (c 20:Nat))).setCell ⟨w.heap.size,1,none⟩ (.int .u64 (c 21:Nat))).setCell ⟨w.heap.size,2,none⟩ (.int .u64 (c 22:Nat))).setCell ⟨w.heap.size,3,none⟩ (.int .u64 (c 23:Nat))).drew);have HX6:=zh (show w6.heap[w.heap.size]?=some (.cells #[.int .u64 (c 20:Nat),.int .u64 (c 21:Nat),.int .u64 (c 22:Nat),.int .u64 (c 23:Nat)] 113 (0,0)) by
   rw [hw6];exact ZI (ZI (ZI (ZI hx5))))
  have HB6:=zh (show Bl w w6 by
   rw [hw6];exact ZB (ZE (ZE (ZE (ZE HB5.o nR) nR) nR) nR))
  rw [<-hw6];clear hw6 z0 z1 z2 z3 f0 f1 f2 f3 f r0 r1 r2 r3 hx5;go_wp2_with fail;refine bodyPost_ret (Jr rfl _ _ w.heap.size 113 _ (0,0) _ rfl HX6.o underlying113 rfl (by kernel_rfl)) rfl ?_;exact ⟨rfl,HB6.o⟩
theorem ZC2 (h:Ar w A F L T c) (hL:80<=8 * L) {rb:Nat} (hr:RtB w A rb) {nm:ByteArray} {k:Nat} (hk:k=0\/k=1)
 (hfd:∀ CS:Array Value,CS.size=64->(∀ y,y < 64->CS[y]?=some (.int .u64 (c (16+y):Nat)))->∀ wx,Bl w wx->Calls prog 93 #[.agg CS,.string nm] wx fun e w'=>e=.returned (.int .i64 k)/\Bl wx w'):
 Calls prog 14 #[.pointer (some ⟨rb,0,none⟩),.string nm] w fun e w'=>e=.returned (.tuple #[.int .u64 (c (16+4 * k+2):Nat),.int .i64 0])/\Bl w w':=by
 have HEN:=zh (ZEI h hL hr hk hfd);clear h hL hr hk hfd;go_in;go_wp2_with fail;refine HEN.o.mono ?_;rintro e w1 ⟨rfl,hb1⟩;have HB1:=zh hb1;clear hb1;go_wp2;go_returns;exact ⟨rfl,by repeat (with_reducible first|exact HB1.o|apply ZA|refine ZE ?_ HB1.o.size)⟩
def JA (n:Nat)(f:Nat->Bool):Bool:=@Nat.rec (fun _=>Bool) true (fun k ih=>match f k with
 |true=>ih
 |false=>false) n
theorem Z6 {f:Nat->Bool}:∀ {n:Nat},JA n f=true->∀ i,i < n->f i=true
 |0,_,i,hi=>by omega
 |n+1,h,i,hi=>by
  have h:(match f n with
   |true=>JA n f
   |false=>false)=true:=h
  split at h
  ·by_cases e:i=n
   ·rw [e];assumption
   ·exact Z6 h i (by omega)
  ·cases h
def cz (_:Nat):Nat:=0
def cF (T:Nat->Nat):Nat->Nat:=wrs (wrs (wrs cz (ZFj 2)) (ZKJ T)) (ZDu T).flatten
def cO (T:Nat->Nat):Nat->Nat:=wrs (cF T) [(4480,7309464666214760450)]
def kM:Chk:=Chk.made 4 0 1
def cC (T:Nat->Nat):Nat->Nat:=wrs (wrs (cO T) (YP T 71 kM)) (Yh (ZP pL) 60)
def cA (T:Nat->Nat):Nat->Nat:=wrs (cC T) (Yh (ZP pA) 60)
def l1 (T:Nat->Nat):List (Nat×Nat):=JG T 0 478392707436 pL++ZR T 71 kM [(0,12)] []
def cP (T:Nat->Nat):Nat->Nat:=wrs (cA T) (cmL 640 (cmV T (l1 T)) (l1 T)).flatten
def kN:Chk:=kM.after [(0,12)] []
def l2 (T:Nat->Nat):List (Nat×Nat):=JG T 1 125822818283105 pA++ZR T 71 kN [(1,64)] []
def cB (T:Nat->Nat):Nat->Nat:=wrs (cP T) (cmL 640 (cmV T (l2 T)) (l2 T)).flatten
def cw0:Nat->Nat:=cB T0
theorem ZK6:[cF T0 0,cF T0 1,cF T0 2,cF T0 3,cF T0 4,cF T0 5,cF T0 6,cF T0 7]=ZDH T0:=by kernel_rfl
theorem ZK5:[cF T0 8,cF T0 9,cF T0 10,cF T0 11,cF T0 12,cF T0 13,cF T0 14,cF T0 15]=[0,0,0,0,0,0,0,0]:=by kernel_rfl
theorem ZCx:cF T0 80=0/\cF T0 288=0/\cF T0 496=1836515329/\cF T0 528=1836515329/\cF T0 560=7309464666214760449:=⟨by kernel_rfl,by kernel_rfl,by kernel_rfl,by kernel_rfl,by kernel_rfl⟩
theorem ZK3:JA 7 (fun k=>Nat.beq (cF T0 (561+k)) 0)=true:=by kernel_rfl
theorem ZK2:JA 64 (fun y=>Nat.beq (cO T0 (16+y)) 0)=true:=by kernel_rfl
theorem ZHx:cO T0 80=0/\cA T0 80=0/\cP T0 80=0:=⟨by kernel_rfl,by kernel_rfl,by kernel_rfl⟩
theorem ZKG:cO T0 568=Zc T0 kF.info:=by kernel_rfl
theorem ZK4:cO T0 824=Zc T0 kF.info:=by kernel_rfl
theorem ZIw:kF.Head:=⟨by decide,.inl (by decide)⟩
theorem ZEJ {c:Nat->Nat}{B:Nat}(h:c B=Zc T0 kF.info):CRep T0 c B kF where
 head:=ZIw
 w0:=h
 bits:=fun h=>absurd h (by decide)
 rest:=fun h=>absurd h (by decide)
 good:=fun h=>absurd h (by decide)
 blk:=fun h=>absurd h (by decide)
def s00:LS:=⟨kF,fun _=>0,[],[],[],2,fun _=>0,0,0⟩
theorem ZLR:cw0 568=Zc T0 k0.info:=by kernel_rfl
theorem ZLS:cw0 824=Zc T0 kF.info:=by kernel_rfl
theorem ZKQ:cw0 569=Zi k0.used (perN k0):=by kernel_rfl
theorem ZKR:JA 8 (fun a=>match Nat.ble 2 a with
 |true=>Nat.beq (cw0 (568+a)) 0
 |false=>true)=true:=by kernel_rfl
theorem ZK9:JA 4 (fun i=>Nat.beq (cw0 (568+hdN k0 i)) (Zc T0 (k0.blk i).info))=true:=by kernel_rfl
theorem ZLB:JA 29 (fun i=>Nat.beq (cw0 (579+2 * i)) 0)=true:=by kernel_rfl
theorem ZLA:JA 40 (fun i=>Nat.beq (cw0 (638+i)) 0)=true:=by kernel_rfl
theorem ZIv:k0.Head:=⟨by decide,.inr (by decide)⟩
theorem ZIu:∀ i,i < 4->(k0.blk i).Good:=fun i hi=>by
 rcases (show i=0\/i=1\/i=2\/i=3 by omega) with rfl|rfl|rfl|rfl
 ·exact ⟨by decide,.inr (.inl (by decide))⟩
 ·exact ⟨by decide,.inr (.inl (by decide))⟩
 ·exact ⟨by decide,.inl (by decide)⟩
 ·exact ⟨by decide,.inl (by decide)⟩
theorem ZH3:CRep T0 cw0 568 k0 where
 head:=ZIv
 w0:=ZLR
 bits:=fun _=>ZKQ
 rest:=fun _ a h2 h8=>by
  have h:=Z6 ZKR a h8;rw [Nat.ble_eq_true_of_le h2] at h;exact ZL2 h
 good:=fun _ i hi=>ZIu i (by rw [QH] at hi;exact hi)
 blk:=fun _ i hi=>ZL2 (Z6 ZK9 i (by rw [QH] at hi;exact hi))
theorem rep_00:s00.Rep T0 cw0 cw0 where
 rep:=fun k hk=>by
  rcases (show k=0\/k=1 by omega) with rfl|rfl
  ·exact ZH3
  ·exact ZEJ ZLS
 log:=by kernel_rfl
 nxt:=by kernel_rfl
 num:=by kernel_rfl
 ptr:=fun i hi=>ZL2 (Z6 ZLB i hi)
 epo:=fun i hi=>absurd hi (Nat.not_lt_zero _)
 lnk:=fun i hi=>ZL2 (Z6 ZLA i hi)
 clk:=by kernel_rfl
 rts:=fun _ _ _=>rfl
 n29:=by decide
theorem ZDz:s00.Inv 0 where
 ok:={
  cl:=.inl ⟨rfl,rfl⟩
  blk:=fun j _=>.inl rfl
  gen:=fun j=>⟨nR,nR⟩
  liv:=fun P hP=>by
   have h:s00.live=[]:=by kernel_rfl
   rw [h] at hP;cases hP
  nd:=by
   have h:s00.live=[]:=by kernel_rfl
   rw [h];exact List.nodup_nil
  use:=fun j _ h=>by
   have h:(176:Nat)=177:=h;omega
  its:=List.Pairwise.nil
  per:=.refl _
  ep:=fun x hx=>by cases hx
  fm:=.inl rfl
  fr:=fun P hP=>by cases hP
  now:=nR
  ann:=fun t=>Nat.zero_le _
  cnt:=by kernel_rfl
  len:=nR
  fl:=nR}
 k1:=fun _=>rfl
 cnt:=nR
 now:=nR
def ZCJ (m:Nat):Nat×Nat:=if m=0 then (478392707436,0) else (125822818283105,0)
theorem ZKu:nmS 478392707436 0={data:=#[108,105,109,98,111]}:=by kernel_rfl
theorem ZLL:nmS 125822818283105 0={data:=#[97,110,99,104,111,114]}:=by kernel_rfl
theorem ZFX {n:Nat}(h:Ar w A F 160 T c)(h0:∀ m,m < 16->n<=m->c (16+(4 * m+3))=0)(h1:∀ m,m < n->c (16+4 * m)=(ZCJ m).1/\c (16+(4 * m+1))=(ZCJ m).2/\c (16+(4 * m+3))≠0):NmT (fun y=>c (16+y)) fun m=>if m < n then some (nmS (ZCJ m).1 (ZCJ m).2) else none:=
 NmT.of (f:=fun y=>c (16+y)) (fun y=>h.word_lt _) h0 h1
theorem ZJt:cw0 16=478392707436/\cw0 17=0/\cw0 18=pL/\Nat.beq (cw0 19) 0=false/\cw0 20=125822818283105/\cw0 21=0/\cw0 22=pA/\Nat.beq (cw0 23) 0=false:=⟨by kernel_rfl,by kernel_rfl,by kernel_rfl,by kernel_rfl,by kernel_rfl,by kernel_rfl,by kernel_rfl,by kernel_rfl⟩
theorem ZLF:JA 16 (fun m=>match Nat.ble 2 m with
 |true=>Nat.beq (cw0 (16+(4 * m+3))) 0
 |false=>true)=true:=by kernel_rfl
theorem ZDQ (h:WC w A F T c x H ex B cw0 s):NmT (fun y=>c (16+y)) fun m=>if m < 2 then some (nmS (ZCJ m).1 (ZCJ m).2) else none:=by
 obtain ⟨d0,d1,d2,d3,d4,d5,d6,d7⟩:=ZJt;refine ZFX h.ar (fun m hm h2=>?_) (fun m hm=>?_)
 ·have hq:=Z6 ZLF m hm
  rw [Nat.ble_eq_true_of_le h2] at hq;rw [h.rep.rts _ (by omega) (by omega)];exact ZL2 hq
 ·rw [h.rep.rts _ (by omega) (by omega),h.rep.rts _ (by omega) (by omega),h.rep.rts _ (by omega) (by omega)]
  rcases (show m=0\/m=1 by omega) with rfl|rfl
  ·exact ⟨d0,d1,fun e=>by rw [show 16+(4 * 0+3)=19 from rfl] at e;rw [e] at d3;cases d3⟩
  ·exact ⟨d4,d5,fun e=>by rw [show 16+(4 * 1+3)=23 from rfl] at e;rw [e] at d7;cases d7⟩
theorem sLA:(({data:=#[108,105,109,98,111]}:ByteArray).toList == ({data:=#[97,110,99,104,111,114]}:ByteArray).toList)=false:=by kernel_rfl
theorem ZAj (h:WC w A F T c x H ex B cw0 s):GetR w B.rb {data:=#[108,105,109,98,111]} pL:=fun wx hb=>by
 have:=ZC2 (nm:={data:=#[108,105,109,98,111]}) (h.below hb).ar (by omega) (h.below hb).rt (k:=0) (.inl rfl) (fun CS hz hc w1 hb1=>JV (w:=w1) hz hc (ZDQ h) (.inr ⟨0,by omega,rfl,by rw [ZLX (by omega)];exact congrArg some ZKu,fun m hm=>by omega⟩));rw [show c (16+4 * 0+2)=pL from (h.rep.rts 18 (by omega) (by omega)).trans ZJt.2.2.1] at this;exact this
theorem ZDw (h:WC w A F T c x H ex B cw0 s):GetR w B.rb {data:=#[97,110,99,104,111,114]} pA:=fun wx hb=>by
 have:=ZC2 (nm:={data:=#[97,110,99,104,111,114]}) (h.below hb).ar (by omega) (h.below hb).rt (k:=1) (.inr rfl) (fun CS hz hc w1 hb1=>JV (w:=w1) hz hc (ZDQ h) (.inr ⟨1,by omega,rfl,by rw [ZLX (by omega)];exact congrArg some ZLL,fun m hm=>by
  obtain rfl:m=0:=by omega
  intro t ht;dsimp only at ht;rw [ZLX (by omega)] at ht;cases ht;rw [show nmS (ZCJ 0).1 (ZCJ 0).2=_ from ZKu];exact sLA⟩))
 rw [show c (16+4 * 1+2)=pA from (h.rep.rts 22 (by omega) (by omega)).trans ZJt.2.2.2.2.2.2.1] at this;exact this
theorem ZIp:(prog.info? 233).map (fun i=>(i.zero,i.size,i.bytes))=some (some (.agg #[.int .i64 0,.int .i64 0,.int .i64 0,.bool false]),4,32):=by kernel_rfl
theorem ZKo:El prog 229 233 4 32:=El.of underlying229 ZIp rfl (by omega)
def pF:Nat->Plc:=fun j=>if j=0 then ⟨71,-1,-1,false⟩ else plc kF j
def plL (n:Nat):List Value:=(List.range n).flatMap fun m=>[.int .i64 ((71+32 * m:Nat):Int),.int .i64 (-1),.int .i64 (-1),.bool false]
theorem ZHp (n:Nat):plL (n+1)=plL n++[.int .i64 ((71+32 * n:Nat):Int),.int .i64 (-1),.int .i64 (-1),.bool false]:=by unfold plL;rw [ZLy,List.flatMap_append];rfl
def ZJL (A:DAd)(v:Value):Obj:=.cells #[.iface 116 (.pointer (some ⟨A.t 0,0,none⟩)),v] 231 (0,0)
def AoR (W:World)(A:DAd)(sb:Nat)(i:Value)(wr:World):Prop:=
 ∃ m v,m<=2/\i=.int .i64 (m:Nat)/\wr.heap[sb]?=some (ZJL A v)/\wr.ownsRow W.heap.size 233 4 v m (plL m)/\Bl W wr
theorem ZFC (h:Ar w A F 160 T c)(h0:CRep T c 568 kF)(h1:CRep T c 824 kF):
 Calls prog 211 #[.iface 116 (.pointer (some ⟨A.t 0,0,none⟩)),.int .i64 71,.int .i64 64] w fun e w'=>∃ sb pb cap,e=.returned (.tuple #[.pointer (some ⟨sb,0,none⟩),.int .i64 0])/\SetW w' sb pb 0 A 2 cap pF/\Bl w w'/\w.heap.size<=sb/\w.heap.size<=pb:=by
 have HV:=zh (QN h);have HE:=zh (fun (w1:World) (hb:Bl w w1)=>Zs h (i:=0) (by omega) w1 hb);have HLK:=zh (fun (m:Nat) (hm:m < 2) (wx:World) (hb:Bl w wx)=>show Calls prog 166 #[.iface 116 (.pointer (some ⟨A.t 0,0,none⟩)),.int .i64 ((71+32 * m:Nat):Int)] wx (fun e w'=>e=.returned (.tuple #[.agg #[.int .i64 (-1),.int .i64 (-1),.int .u16 1],.int .i64 0])/\Bl wx w') from by
  have:=Qm (h.below hb) (i:=0) (by omega) (line:=71+32 * m) (by omega) (k:=kF) (by
   rcases (show m=0\/m=1 by omega) with rfl|rfl
   ·exact h0
   ·exact h1)
  exact this)
 have HR:=zh (Below.refl w.heap.size w);have hne:=YT;clear h h0 h1;go_in;go_wp2_with fail;refine HV.o.mono ?_;rintro e w' ⟨rfl,rfl⟩;go_wp2_with fail;refine (HE.o w HR.o).mono ?_;rintro e w' ⟨rfl,rfl⟩;go_upto_region 7 with fail;obtain ⟨w2,hw2⟩:=xE (w.alloc (ZJL A (.slice none 0 0)));obtain ⟨sb,hsb⟩:=xE w.heap.size;have HST:=zh (show AoR w A sb (.int .i64 (0:Nat)) w2 from ⟨0,.slice none 0 0,by omega,rfl,by rw [hw2,hsb];exact ZC _ _,ZLn _ _ _ _,by rw [hw2];exact ZA HR.o⟩);have HSB:=zh (show w.heap.size<=sb by rw [hsb];exact nR);unfold ZJL at hw2;rw [<-hw2,<-hsb];clear hw2 hsb;go_wp2_with fail
 go_loopw [29] (fun i wr=>AoR w A sb i wr) (fun i _=>2 - (intOf i).toNat)
 case atStart=>exact HST.o
 case round=>
 obtain ⟨m,v,hm,rfl,hset,hown,hb⟩:=hrel
 by_cases hlt:m < 2
 ·have d0:(m:Int) < 2:=by omega
  have HL:=zh (HLK.o m hlt);have HW:=zh hb;have HSE:=zh hset;have HO:=zh hown;have HM:=zh hlt;clear hset hown hb hm hlt;rw [show (((71+32 * m:Nat):Int))=71+(m:Int) * 32 by omega] at HL;go_wp2_with fail;refine (HL.o _ HW.o).mono ?_;rintro e w3 ⟨rfl,hb3⟩;have HB3:=zh (HW.o.trans (hb3.mono HW.o.size));have HS3:=zh ((hb3.block _ (heap_lt HSE.o)).trans HSE.o);have HO3:=zh (ZO HO.o hb3);clear hb3;go_upto_region 14 with fail;unfold ZJL at HS3;obtain ⟨w4,hw4⟩:=xE (w3.alloc (.cells #[.int .i64 (-1),.int .i64 (-1),.int .u16 1] 209));obtain ⟨hd,hhb⟩:=xE w3.heap.size;have h34:Bl w3 w4:=by rw [hw4];exact ZA bR
  have HB4:=zh (HB3.o.trans (h34.mono HB3.o.size));have HS4:=zh ((h34.block _ (heap_lt HS3.o)).trans HS3.o);have HO4:=zh (ZO HO3.o h34);have HH4:=zh (show w4.heap[hd]?=some (.cells #[.int .i64 (-1),.int .i64 (-1),.int .u16 1] 209 (0,0)) by rw [hw4,hhb];exact ZC _ _);rw [<-hw4,<-hhb];clear hw4 hhb h34;obtain ⟨ln,hln⟩:∃ ln:Int,ln=71+(m:Int) * 32:=⟨_,rfl⟩
  have HLN:=zh (show (.int .i64 ln:Value)=.int .i64 ((71+32 * m:Nat):Int) by rw [hln];congr 1;omega);rw [<-hln];clear hln;obtain ⟨w5,hw5⟩:=xE w4.drew;have HB5:=zh (show Bl w w5 by rw [hw5];exact ZB HB4.o);have HS5:=zh (show w5.heap[sb]?=some (.cells #[.iface 116 (.pointer (some ⟨A.t 0,0,none⟩)),v] 231 (0,0)) by rw [hw5];exact HS4.o);have HH5:=zh (show w5.heap[hd]?=some (.cells #[.int .i64 (-1),.int .i64 (-1),.int .u16 1] 209 (0,0)) by rw [hw5];exact HH4.o);have HO5:=zh (show w5.ownsRow w.heap.size 233 4 v m (plL m) by rw [hw5];exact ZO HO4.o (ZB bR));have HS0:=zh (show Bl w w5/\w5.heap[sb]?=some (.cells #[.iface 116 (.pointer (some ⟨A.t 0,0,none⟩)),v] 231 (0,0))/\w5.heap[hd]?=some (.cells #[.int .i64 (-1),.int .i64 (-1),.int .u16 1] 209 (0,0)) from ⟨HB5.o,HS5.o,HH5.o⟩);have HS1:=zh (fun o=>show Bl w (w5.alloc o)/\(w5.alloc o).heap[sb]?=some (.cells #[.iface 116 (.pointer (some ⟨A.t 0,0,none⟩)),v] 231 (0,0))/\(w5.alloc o).heap[hd]?=some (.cells #[.int .i64 (-1),.int .i64 (-1),.int .u16 1] 209 (0,0)) from ⟨ZA HB5.o,(ZK (heap_lt HS5.o)).trans HS5.o,(ZK (heap_lt HH5.o)).trans HH5.o⟩);refine Zy 15 (fun wx=>Bl w wx/\wx.heap[sb]?=some (.cells #[.iface 116 (.pointer (some ⟨A.t 0,0,none⟩)),v] 231 (0,0))/\wx.heap[hd]?=some (.cells #[.int .i64 (-1),.int .i64 (-1),.int .u16 1] 209 (0,0))) (by kernel_rfl) ?_;rw [<-hw5];clear hw5;refine Y0 (i:=0) (z:=15) (v:=.pointer (some ⟨sb,0,none⟩)) rfl (by kernel_rfl) (fun _ _ _ h=>h) HS0.o rfl (fun w' hc=>by go_simp) ?_
  (try simp only [Act.put,ZLe,ZLY,ZLa,ZLT,ZLV,ZLW])
  refine Y0 (i:=1) (z:=15) (v:=.pointer (some ⟨sb,0,none⟩)) rfl (by kernel_rfl) (fun _ _ _ h=>h) HS0.o rfl (fun w' hc=>by go_simp) ?_
  (try simp only [Act.put,ZLe,ZLY,ZLa,ZLT,ZLV,ZLW])
  refine Y0 (i:=2) (z:=15) (v:=.pointer (some ⟨sb,0,none⟩)) rfl (by kernel_rfl) (fun _ _ _ h=>h) HS0.o rfl (fun w' hc=>by go_simp) ?_
  (try simp only [Act.put,ZLe,ZLY,ZLa,ZLT,ZLV,ZLW])
  refine Y0 (i:=3) (z:=15) (v:=.pointer (some ⟨sb,1,none⟩)) rfl (by kernel_rfl) (fun _ _ _ h=>h) HS0.o rfl (fun w' hc=>by go_simp) ?_
  (try simp only [Act.put,ZLe,ZLY,ZLa,ZLT,ZLV,ZLW])
  refine Y0 (i:=4) (z:=15) (v:=v) rfl (by kernel_rfl) (fun _ _ _ h=>h) HS0.o rfl (fun w' hc=>by have z:=(Yd hc.2.1).2.1;go_simp) ?_
  (try simp only [Act.put,ZLe,ZLY,ZLa,ZLT,ZLV,ZLW])
  refine Y0 (i:=5) (z:=15) (v:=.int .i64 ln) rfl (by kernel_rfl) (fun _ _ _ h=>h) HS0.o rfl (fun w' hc=>by go_simp) ?_
  (try simp only [Act.put,ZLe,ZLY,ZLa,ZLT,ZLV,ZLW])
  refine Y0 (i:=6) (z:=15) (v:=.pointer (some ⟨hd,0,none⟩)) rfl (by kernel_rfl) (fun _ _ _ h=>h) HS0.o rfl (fun w' hc=>by go_simp) ?_
  (try simp only [Act.put,ZLe,ZLY,ZLa,ZLT,ZLV,ZLW])
  refine Y0 (i:=7) (z:=15) (v:=.int .i64 (-1)) rfl (by kernel_rfl) (fun _ _ _ h=>h) HS0.o rfl (fun w' hc=>by have z:=(ZY hc.2.2).1;go_simp) ?_
  (try simp only [Act.put,ZLe,ZLY,ZLa,ZLT,ZLV,ZLW])
  refine Y0 (i:=8) (z:=15) (v:=.pointer (some ⟨hd,1,none⟩)) rfl (by kernel_rfl) (fun _ _ _ h=>h) HS0.o rfl (fun w' hc=>by go_simp) ?_
  (try simp only [Act.put,ZLe,ZLY,ZLa,ZLT,ZLV,ZLW])
  refine Y0 (i:=9) (z:=15) (v:=.int .i64 (-1)) rfl (by kernel_rfl) (fun _ _ _ h=>h) HS0.o rfl (fun w' hc=>by have z:=(ZY hc.2.2).2.1;go_simp) ?_
  (try simp only [Act.put,ZLe,ZLY,ZLa,ZLT,ZLV,ZLW])
  refine Y0 (i:=10) (z:=15) (v:=.agg #[.int .i64 ln,.int .i64 (-1),.int .i64 (-1),.bool false]) rfl (by kernel_rfl) (fun _ _ _ h=>h) HS0.o rfl (fun w' hc=>by go_simp) ?_
  (try simp only [Act.put,ZLe,ZLY,ZLa,ZLT,ZLV,ZLW])
  refine YA (j:=11) (z:=15) (by kernel_rfl) rfl (fun K hK=>?_);go_simp;refine hK _ _ (HS1.o _) ?_;clear hK K
  (try simp only [Act.put,ZLe,ZLY,ZLa,ZLT,ZLV,ZLW])
  refine YA (j:=12) (z:=15) (by kernel_rfl) rfl (fun K hK=>?_);refine XT ZKo rfl _ _ rfl (cs:=#[.int .i64 ln,.int .i64 (-1),.int .i64 (-1),.bool false]) HO5.o rfl rfl rfl rfl (by intro u hu;simp at hu;rcases hu with rfl|rfl|rfl|rfl <;> rfl) (by unfold maxLen;have:=HM.o;omega) (by have:=HM.o;omega) HB5.o.size (fun g cap w7 how hgr=>?_);have hx7:Bl w w7:=ZL HB5.o hgr HB5.o.size (fun k hk=>(HO5.o.lt k hk).1);have hs7:w7.heap[sb]?=some (.cells #[.iface 116 (.pointer (some ⟨A.t 0,0,none⟩)),v] 231 (0,0)):=(hgr.block sb (heap_lt HS5.o) (fun e=>Zt HO5.o HS5.o (by decide) e.symm)).trans HS5.o;have hh7:w7.heap[hd]?=some (.cells #[.int .i64 (-1),.int .i64 (-1),.int .u16 1] 209 (0,0)):=(hgr.block hd (heap_lt HH5.o) (fun e=>Zt HO5.o HH5.o (by decide) e.symm)).trans HH5.o;have n7:=(Yd hs7).2.2.2;have m7:=(Yd hs7).2.1;refine hK _ _ ⟨hx7,hs7,hh7⟩ ?_;clear hK K
  (try simp only [Act.put,ZLe,ZLY,ZLa,ZLT,ZLV,ZLW])
  refine YA (j:=13) (z:=15) (by kernel_rfl) rfl (fun K hK=>?_);go_simp;refine hK _ _ ⟨hx7,hs7,hh7⟩ ?_;clear hK K
  (try simp only [Act.put,ZLe,ZLY,ZLa,ZLT,ZLV,ZLW])
  refine YA (j:=14) (z:=15) (by kernel_rfl) rfl (fun K hK=>?_);go_simp;refine hK _ _ ⟨hx7,hs7,hh7⟩ ?_;clear hK K
  (try simp only [Act.put,ZLe,ZLY,ZLa,ZLT,ZLV,ZLW])
  refine Vm (z:=15) (by kernel_rfl) rfl (by kernel_rfl) (by kernel_rfl) (fun K hK=>?_);go_simp;refine hK _ _ ?_;clear hK K
  have HF:=zh (show AoR w A sb (.int .i64 ((m+1:Nat):Int)) (w7.setCell ⟨sb,1,none⟩ (.slice (some ⟨g,0,none⟩) (m+1) cap)) from ⟨m+1,_,by have:=HM.o;omega,rfl,(ZI hs7).trans rfl,by
   rw [ZHp];exact XH (HLN.o▸how) ((Only.refl (fun k=>k=sb) w7).set (F:=fun k=>k=sb) rfl _) (fun k hk q=>Zt how hs7 (by decide) (q▸hk)),ZE hx7 HSB.o⟩)
  clear how hgr hx7 hs7 hh7 n7 m7;have hM:=HM.o;go_wp2_with fail;exact ⟨by simpa using HF.o,by simp [intOf];omega⟩
 ·obtain rfl:m=2:=by omega
  have HE2:=zh (show ∃ pb cap,SetW wr sb pb 0 A 2 cap pF/\Bl w wr/\w.heap.size<=sb/\w.heap.size<=pb from by
   rcases hown.2 with ⟨_,e⟩|⟨g,cap,cur,rfl,hg,hbk,hn,hc,hz,ht⟩
   ·omega
   ·refine ⟨g,cap,⟨hset,⟨cur,hbk,by omega,fun y hy=>?_⟩,by omega⟩,hb,HSB.o,hg⟩
    have e:cur[y]?=(plL 2)[y]?:=by
     rw [<-ht,List.getElem?_take_of_lt (by omega),ZLx]
    rw [e];rcases (show y=0\/y=1\/y=2\/y=3\/y=4\/y=5\/y=6\/y=7 by omega) with rfl|rfl|rfl|rfl|rfl|rfl|rfl|rfl <;> rfl)
  clear hset hown hb hm hlt;go_wp2;go_returns;obtain ⟨pb,cap,h1⟩:=HE2.o;exact ⟨sb,pb,cap,rfl,h1⟩
theorem ZES {sb pb cap:Nat}(h:SetW w sb pb 0 A 2 cap pF){m:Nat}(hm:m < 2):
 Calls prog 212 #[.pointer (some ⟨sb,0,none⟩),.int .i64 ((71+32 * m:Nat):Int)] w fun e w'=>e=.returned (.int .i64 (-1))/\w=w':=by
 have hl:∀ k,k < 2->(pF k).line=71+32 * k/\(pF k).ow=-1:=fun k hk=>by
  rcases (show k=0\/k=1 by omega) with rfl|rfl <;> exact ⟨rfl,rfl⟩
 have HFI:=zh (show Calls prog 219 #[.pointer (some ⟨sb,0,none⟩),.int .i64 ((71+32 * m:Nat):Int)] w (fun e w'=>e=.returned (.pointer (some ⟨pb,m * 4,none⟩))/\w=w') from by
  have:=ZA3 h hm (fun k hk=>by rw [(hl k (by omega)).1,(hl m hm).1];omega);rw [(hl m hm).1] at this;exact this)
 have c2:=(h.at hm).2.2.1;rw [(hl m hm).2] at c2;clear h hl hm;go_in;go_wp2_with fail;refine HFI.o.mono ?_;rintro e w' ⟨rfl,rfl⟩;go_wp2;go_returns;exact ⟨rfl,rfl⟩
def lnL (n:Nat):List Nat:=(List.range n).map fun m=>71+32 * m
theorem ZHV (n:Nat):lnL (n+1)=lnL n++[71+32 * n]:=by unfold lnL;rw [ZLy,ZLs];rfl
theorem QE (n:Nat):(lnL n).length=n:=by simp [lnL]
def LnR (W:World)(v i:Value)(wr:World):Prop:=
 ∃ m:Nat,m<=2/\i=.int .i64 (m:Nat)/\wr.ownsRow W.heap.size 3 1 v m ((lnL m).map fun (n:Nat)=>Value.int .i64 (n:Int))/\Bl W wr
theorem ZER {sb pb cap:Nat}(h:SetW w sb pb 0 A 2 cap pF):
 Calls prog 69 #[.pointer (some ⟨sb,0,none⟩)] w fun e w'=>∃ v,e=.returned v/\Nats w' v (lnL 2)/\Bl w w':=by
 have hl:∀ k,k < 2->(pF k).line=71+32 * k:=fun k hk=>by
  rcases (show k=0\/k=1 by omega) with rfl|rfl <;> rfl
 have HS:=zh (fun (wx:World) (hb:Bl w wx) (m:Nat) (hm:m < 2)=>show wx.cell? ⟨pb,m * 4,none⟩=some (.int .i64 ((71+32 * m:Nat):Int))/\∃ a b z,wx.cell? ⟨pb,m * 4+1,none⟩=some (.int .i64 a)/\wx.cell? ⟨pb,m * 4+2,none⟩=some (.int .i64 b)/\wx.cell? ⟨pb,m * 4+3,none⟩=some (.bool z) from by
  have ha:=(h.below hb).at hm;rw [hl m hm] at ha;exact ⟨ha.1,_,_,_,ha.2.1,ha.2.2.1,ha.2.2.2⟩)
 obtain ⟨c0,c1⟩:=h.cells;clear h hl;go_in;go_wp2_with fail
 go_loopw [3,13] (fun v i wr=>LnR w v i wr) (fun _ i _=>2 - (intOf i).toNat)
 case atStart=>exact ⟨0,by omega,rfl,ZLn _ _ _ _,bR⟩
 case round=>
  obtain ⟨m,hm,rfl,hown,hbel⟩:=hrel;have HB:=zh hbel;have HO:=zh hown;obtain ⟨ra,rc,hv⟩:=ZN hown;subst hv;clear hbel hown c0 c1
  by_cases hlt:m < 2
  ·have d0:(m:Int) < 2:=by omega
   obtain ⟨a0,va,vb,vz,a1,a2,a3⟩:=HS.o _ HB.o m hlt;have HM:=zh hlt;obtain ⟨ln,hln⟩:∃ ln:Int,ln=((71+32 * m:Nat):Int):=⟨_,rfl⟩
   rw [<-hln] at a0;have HLN:=zh hln;clear hm hlt hln;go_wp2_with (at_builtin;refine ZS ZBV rfl _ _ rfl (HO.o.alloc _) rfl rfl ?c1 rfl ?c2 ?c3 ?c4 ?c5 ?_)
   case c1=>simp
   case c2=>first|rfl|simp [Value.oneCell']
   case c3=>unfold maxLen;have:=HM.o;omega
   case c4=>have:=HM.o;omega
   case c5=>have:=HB.o.size;simp;omega
   intro g4 cap4 w5 hop5 hgr5 hg5
   have G:=zh (show LnR w (.slice (some ⟨g4,0,none⟩) (m+1) cap4) (.int .i64 ((m+1:Nat):Int)) w5 from ⟨m+1,by have:=HM.o;omega,rfl,by
    rw [ZHV,ZLs,List.map_cons,List.map_nil,<-HLN.o];exact hop5,ZL (Zr HB.o HB.o.size) hgr5 (by have:=HB.o.size;simp;omega) (fun b hb=>(HO.o.lt b hb).1)⟩)
   clear hop5 hgr5 hg5 a0 a1 a2 a3;have hM:=HM.o;go_wp2_with fail;go_roundw
   case rel=>simpa using G.o
   case measure=>simp [intOf];omega
  ·obtain rfl:m=2:=by omega
   clear hm hlt;go_wp2;go_returns;exact ⟨_,rfl,Qp HO.o,HB.o⟩
theorem ZFh (h:Aq w A F 160 T c x)(h0:CRep T c 568 kF)(h1:CRep T c 824 kF)(x0:Nat):
 Calls prog 139 #[.iface 116 (.pointer (some ⟨A.t 0,0,none⟩)),.int .i64 71,.int .i64 64] w fun e w'=>∃ H:HAd,e=.returned (.tuple #[.pointer (some ⟨H.hb,0,none⟩),.int .i64 0])/\(H.l0=71/\H.ls=64/\H.t=0/\H.x0=x0)/\HW w' A F 160 T c x H false pF 0 (fun _=>none) (fun _=>none)/\Bl w w'/\w.heap.size<=H.hb/\w.heap.size<=H.sb/\∀ k,H.own k->w.heap.size<=k:=by
 have HAO:=zh (ZFC h.ar h0 h1);have HLN:=zh (fun (wx:World) (sb pb cap:Nat) (hs:SetW wx sb pb 0 A 2 cap pF)=>ZER hs);have HOW:=zh (fun (wx:World) (sb pb cap:Nat) (hs:SetW wx sb pb 0 A 2 cap pF) (m:Nat) (hm:m < 2)=>ZES hs hm);have H0:=zh h;have hmm:=@run_makeMap prog;clear h h0 h1;go_in;go_wp2_with fail;refine HAO.o.mono ?_;rintro e w1 ⟨sb,pb,cap,rfl,hset,hb1,hsb,hpb⟩;have HS1:=zh hset;have HB1:=zh hb1;have HSZ:=zh (show w.heap.size<=sb/\w.heap.size<=pb from ⟨hsb,hpb⟩);clear hset hb1 hsb hpb HAO;go_wp2_with fail;refine (HLN.o _ _ _ _ HS1.o).mono ?_;rintro e w2 ⟨v,rfl,hnats,hb2⟩;have HB2:=zh (HB1.o.trans (hb2.mono HB1.o.size));have HS2:=zh (HS1.o.below hb2);have HNT:=zh hnats;obtain ⟨va,vc,hv⟩:=hnats.len;rw [QE] at hv;subst hv;clear hnats hb2 HLN;go_wp2_with fail
 go_loopw [28] (fun i wr=>∃ m:Nat,m<=2/\i=.int .i64 (m:Nat)/\wr=w2) (fun i _=>2 - (intOf i).toNat)
 case atStart=>exact ⟨0,by omega,rfl,rfl⟩
 case round=>
  obtain ⟨m,hm,rfl,hwr⟩:=hrel;subst hwr
  by_cases hlt:m < 2
  ·have d0:(m:Int) < 2:=by omega
   obtain ⟨b2,o2,r2,g2,k2⟩:=HNT.o.at (n:=m) (by rw [QE];exact hlt)
   rw [QE] at g2;cases g2;have hg:(lnL 2)[m]'(by rw [QE];exact hlt)=71+32 * m:=by unfold lnL;simp
   rw [hg] at k2;have HO:=zh (HOW.o _ _ _ _ HS2.o m hlt);obtain ⟨ln,hln⟩:∃ ln:Int,ln=((71+32 * m:Nat):Int):=⟨_,rfl⟩
   rw [<-hln] at k2 HO;have HM:=zh hlt;clear hm hlt hg hln;go_wp2_with fail;refine HO.o.mono ?_;rintro e w' ⟨rfl,rfl⟩;have hM:=HM.o;go_wp2_with fail;go_roundw
   case rel=>exact ⟨m+1,by omega,by first|trivial|(go_num;done)|simp,by first|trivial|rfl⟩
   case measure=>simp [intOf];omega
  ·obtain rfl:m=2:=by omega
   clear hm hlt;obtain ⟨w3,hw3⟩:=xE (wr.alloc (.map #[] 0));have hr3:QJ w3 wr.heap.size 0 (fun _=>none):=by rw [hw3];exact UMap.made _ _ _ _ _
   have h23:Bl wr w3:=by rw [hw3];exact ZA bR
   have e3:w3.heap.size=wr.heap.size+1:=by rw [hw3];simp
   obtain ⟨w4,hw4⟩:=xE (w3.alloc (.map #[] 0));have hv4:ZB1 w4 w3.heap.size 0 (fun _=>none):=by rw [hw4];exact UMap.made _ _ _ _ _
   have h34:Bl w3 w4:=by rw [hw4];exact ZA bR
   have e4:w4.heap.size=wr.heap.size+2:=by rw [hw4];simp [e3]
   obtain ⟨O,hO⟩:∃ O:Obj,O=.cells #[.iface 116 (.pointer (some ⟨A.t 0,0,none⟩)),.int .i64 71,.int .i64 64,.pointer (some ⟨sb,0,none⟩),.map (some wr.heap.size),.map (some w3.heap.size),.map none,.bool false] 158:=⟨_,rfl⟩
   obtain ⟨w5,hw5⟩:=xE (w4.alloc O);have h45:Bl w4 w5:=by rw [hw5];exact ZA bR
   have h24:=h23.trans (h34.mono h23.size);have h25:=h24.trans (h45.mono h24.size);have hB:=HB2.o.trans (h25.mono HB2.o.size);have z1:=HB2.o.size;have z2:=HSZ.o;have hlt:=heap_lt HS2.o.set;have hlt2:=HS2.o.row.lt;have nw:∀ k,w.heap.size<=k->F k=none:=fun k hk=>H0.o.new hk
   have hn1:=H0.o.nib.lt;have hn2:=H0.o.tab.lt;have HE:=zh (show ∃ H:HAd,Ending.returned (.tuple #[.pointer (some ⟨w4.heap.size,0,none⟩),.int .i64 0])=.returned (.tuple #[.pointer (some ⟨H.hb,0,none⟩),.int .i64 0])/\(H.l0=71/\H.ls=64/\H.t=0/\H.x0=x0)/\HW w5 A F 160 T c x H false pF 0 (fun _=>none) (fun _=>none)/\Bl w w5/\w.heap.size<=H.hb/\w.heap.size<=H.sb/\∀ k,H.own k->w.heap.size<=k from by
    refine ⟨⟨w4.heap.size,sb,pb,wr.heap.size,w3.heap.size,0,71,64,cap,x0⟩,rfl,⟨rfl,rfl,rfl,rfl⟩,⟨H0.o.below hB,⟨by rw [hw5,hO];exact ZC _ _,by show (0:Nat) < 8;omega,by show 71+64<=4096;omega⟩,by have hs9:=HS2.o.below h25;first|(show SetW w5 sb pb 0 A (64 / 32) cap pF;exact hs9)|(simp only [HAd.n];exact hs9),(hr3.kept (h34.block _ hr3.lt)).kept (h45.block _ (by omega)),hv4.kept (h45.block _ hv4.lt),nw _ (by show w.heap.size<=w4.heap.size;omega),nw _ z2.1,?_,by show wr.heap.size≠w3.heap.size;omega,by show w4.heap.size≠pb;omega,?_⟩,hB,by show w.heap.size<=w4.heap.size;omega,z2.1,?_⟩
    ·intro k hk
     refine nw _ ?_;rcases hk with e|e|e
     ·have e:k=pb:=e;rw [e];exact z2.2
     ·have e:k=wr.heap.size:=e;rw [e];exact z1
     ·have e:k=w3.heap.size:=e;omega
    ·intro k hk
     rcases hk with e|e|e
     ·have e:k=pb:=e;exact ⟨by omega,by omega⟩
     ·have e:k=wr.heap.size:=e;exact ⟨by omega,by omega⟩
     ·have e:k=w3.heap.size:=e;exact ⟨by omega,by omega⟩
    ·intro k hk
     rcases hk with e|e|e
     ·have e:k=pb:=e;rw [e];exact z2.2
     ·have e:k=wr.heap.size:=e;rw [e];exact z1
     ·have e:k=w3.heap.size:=e;omega)
   rw [hO] at hw5;rw [hw5,e4,hw4,e3,hw3] at HE;clear hr3 h23 e3 hv4 h34 e4 hO hw5 h45 h24 h25 hB z1 z2 hlt hlt2 nw hn1 hn2 hw3 hw4;go_wp2;go_returns;exact HE.o
end
end Go.Proofs.YtbpeehmepehkdaaGreatDoor.Dv
