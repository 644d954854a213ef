/- Part 15. -/
import Derived.Test.YtbpeehmepehkdaaGreatDoorY14
import Derived.Deep.DrawnRows
import Derived.Deep.RegionHeld3
set_option maxHeartbeats 8000000
set_option maxRecDepth 20000
set_option linter.all false
namespace Go.Proofs.YtbpeehmepehkdaaGreatDoor.Dv
open Tryz
section
open Go.RowKit Go.Proofs.YtbpeehmepehkdaaGreatDoor.Size
variable {w:World}{A:DAd}{F:Nat->Option ZM}{L:Nat}{T c:Nat->Nat}
def bkV (b:Blk):Value:=.agg #[.int .u16 b.gen,.int .u8 b.kind,.int .u8 b.st]
theorem ZEP (h:Ar w A F L T c){b:Blk}(hb:b.Good):Calls prog 233 #[.int .u64 (Zc T b.info)] w fun e w'=>e=.returned (.tuple #[bkV b,.bool true])/\Bl w w':=by
 have:=ZEO h.nib (v:=Zc T b.info) (Xe h.nib hb.info_lt);obtain ⟨p1,p2,p3⟩:=hb.parts;rw [ZGO h.nib hb.info_lt,ZLX rfl,Jb h.nib hb.info_lt] at this;unfold ZJl at this;rw [p1,p2,p3] at this;exact this
def CBox (w:World)(b:Nat)(A:DAd)(i line:Nat)(k:Chk):Prop:=
 w.cell? ⟨b,0,none⟩=some (.iface 116 (.pointer (some ⟨A.t i,0,none⟩)))/\w.cell? ⟨b,1,none⟩=some (.int .i64 line)/\w.cell? ⟨b,2,none⟩=some (.int .i64 k.cl)/\w.cell? ⟨b,3,none⟩=some (.int .i64 k.ow)/\w.cell? ⟨b,4,none⟩=some (.int .u16 k.gen)
theorem CBox.below {w w':World}{b:Nat}{A:DAd}{i line:Nat}{k:Chk}(h:CBox w b A i line k)(hb:Bl w w'):CBox w' b A i line k:=by
 obtain ⟨h0,h1,h2,h3,h4⟩:=h;exact ⟨(hb.cell (ZLf _ _ h0)).trans h0,(hb.cell (ZLf _ _ h1)).trans h1,(hb.cell (ZLf _ _ h2)).trans h2,(hb.cell (ZLf _ _ h3)).trans h3,(hb.cell (ZLf _ _ h4)).trans h4⟩
theorem CBox.setc {w:World}{b b' x:Nat}{v:Value}{A:DAd}{i line:Nat}{k:Chk}(h:CBox w b A i line k)(hb:b'≠b):CBox (w.setCell ⟨b',x,none⟩ v) b A i line k:=by
 obtain ⟨h0,h1,h2,h3,h4⟩:=h;exact ⟨(World.cell?_setCell_far _ _ _ _ hb).trans h0,(World.cell?_setCell_far _ _ _ _ hb).trans h1,(World.cell?_setCell_far _ _ _ _ hb).trans h2,(World.cell?_setCell_far _ _ _ _ hb).trans h3,(World.cell?_setCell_far _ _ _ _ hb).trans h4⟩
theorem CBox.new {w:World}{A:DAd}{i line:Nat}{k:Chk}:CBox (w.alloc (.cells #[.iface 116 (.pointer (some ⟨A.t i,0,none⟩)),.int .i64 line,.int .i64 k.cl,.int .i64 k.ow,.int .u16 k.gen] 211)) w.heap.size A i line k:=by
 obtain ⟨a0,a1,a2,a3,a4,_⟩:=ZCp (ZC w (.cells #[.iface 116 (.pointer (some ⟨A.t i,0,none⟩)),.int .i64 line,.int .i64 k.cl,.int .i64 k.ow,.int .u16 k.gen] 211));exact ⟨a0,a1,a2,a3,a4⟩
theorem JF (h:Ar w A F L T c){i:Nat}(hi:i < 8){line:Nat}(hl:line+32<=L){k:Chk}(hR:CRep T c (8 * line) k)(hk:0<=k.cl){j:Nat}(hj:j < perN k):
 Calls prog 168 #[chV A i line k,.int .i64 j] w fun e w'=>e=.returned (.tuple #[bkV (k.blk j),.bool true,.bool (k.used j)])/\Bl w w':=by
 have hL:=h.lines;have hle:=YI hR.head hj;have hj62:perN k<=62:=hR.head.sizes.2.2.1;have hst:=hR.head.sizes.2.2.2.1;have HB:=zh (fun w1 (hb:Bl w w1)=>JC (h.below hb) hi hl (k:=k));have HAT:=zh (fun w1 (hb:Bl w w1)=>ZBK (i:=i) (h.below hb) hl hR.head hj);have HLD:=zh (fun w1 hb=>Y4 h hi w1 hb ((8 * line+hdN k j) * 8) (by omega) (by omega));have HSL:=zh (fun w1 (hb:Bl w w1)=>ZEP (h.below hb) (hR.good hk j hj));rw [show (8 * line+hdN k j) * 8 / 8=8 * line+hdN k j by omega,hR.blk hk j hj] at HLD;rw [hR.bits hk] at HB;have hbit:=Y1 k.used hj;have hblt:=Ym k.used (perN k);obtain ⟨X,hX⟩:=xE (Zi k.used (perN k));rw [<-hX] at HB hbit hblt;have hX64:X < 18446744073709551616:=ZLq hblt (ZLi (Nat.pow_le_pow_right (by omega) hj62) (by decide));have hd:(bits .and .u64 ((X:Int) / 2 ^ j) 1 == 1)=k.used j:=by
  have e:(X:Int) / 2 ^ j=((X / 2 ^ j:Nat):Int):=by simp
  have e2:=u64_and_nat (X / 2 ^ j) 1 (Nat.lt_of_le_of_lt (Nat.div_le_self _ _) hX64) (by omega);rw [Nat.and_one_is_mod,hbit,show ((1:Nat):Int)=1 from rfl] at e2;rw [e,e2];cases k.used j <;> simp
 have HD:=zh hd;obtain ⟨N,hN⟩:=xE ((8 * line+hdN k j) * 8);rw [<-hN] at HAT HLD;have hj2:(j:Int) < 64:=by omega
 unfold chV bkV at *;obtain ⟨S,hS⟩:=xE (Zc T (k.blk j).info);rw [<-hS] at HLD HSL;clear h hR hl hL hle hst hX hN hS hbit hblt hX64 hd hj62 hj hk hi;go_in;go_wp2_with fail;refine (HB.o _ (by repeat (with_reducible first|exact Below.refl _ w|apply ZA))).mono ?_;rintro e w1 ⟨rfl,hb⟩;have hs:CBox w1 w.heap.size A i line k:=(CBox.new.below (ZA bR)).below hb;have hq:w1.heap[w.heap.size+1]?=some (.cells #[.int .u16 0,.int .u8 0,.int .u8 0] 291 (0,0)):=by
  rw [hb.block (w.heap.size+1) (by simp)];have h1:=ZC (w.alloc (.cells #[.iface 116 (.pointer (some ⟨A.t i,0,none⟩)),.int .i64 line,.int .i64 k.cl,.int .i64 k.ow,.int .u16 k.gen] 211)) (.cells #[.int .u16 0,.int .u8 0,.int .u8 0] 291);simp only [World.size_alloc] at h1;exact h1
 have hbw:Bl w w1:=(ZA (ZA (Below.refl _ w))).trans (hb.mono (by simp;omega));have HS:=zh hs;have HBW:=zh hbw;have HQ:=zh hq;have HR0:=zh (Below.refl w1.heap.size w1);clear hb hs hbw HB hq;go_upto_region 2 with fail;have HAT1:=zh (Xi HBW.o HAT.o);have HSL1:=zh (Xi HBW.o HSL.o);have HLD1:=zh (ZBJ HBW.o HLD.o);clear HAT HSL HLD
 go_cut [5] (fun v wx=>v=.bool true/\wx.heap[w.heap.size+1]?=some (.cells #[.int .u16 (k.blk j).gen,.int .u8 (k.blk j).kind,.int .u8 (k.blk j).st] 291 (0,0))/\Bl w wx)
 ·obtain ⟨s0,s1,s2,s3,s4⟩:=id HS.o
  go_region_held3 (fun w'=>w'.cell? ⟨w.heap.size,0,none⟩=some (.iface 116 (.pointer (some ⟨A.t i,0,none⟩)))/\w'.cell? ⟨w.heap.size,1,none⟩=some (.int .i64 line)/\w'.cell? ⟨w.heap.size,2,none⟩=some (.int .i64 k.cl)/\w'.cell? ⟨w.heap.size,3,none⟩=some (.int .i64 k.ow)/\w'.cell? ⟨w.heap.size,4,none⟩=some (.int .u16 k.gen))
   ((show CBox _ w.heap.size A i line k;first|(with_reducible refine CBox.setc (CBox.setc (CBox.setc (CBox.below HS.o ?_) (Nat.succ_ne_self _)) (Nat.succ_ne_self _)) (Nat.succ_ne_self _);repeat (with_reducible first|assumption|exact HR0.o|apply ZA|apply ZB))|exact CBox.below HS.o (by repeat (with_reducible first|assumption|exact HR0.o|apply ZA|apply ZB))))
   (first
     |(go_at_call 191;refine (HAT1.o _ (by repeat (with_reducible first|assumption|exact HR0.o|apply ZA|apply ZB))).mono ?_;rintro e V1 ⟨rfl,hb1⟩)
     |(go_at_call 52;refine (HLD1.o _ (by repeat (with_reducible first|assumption|exact HR0.o|apply ZA|apply ZB))).mono ?_;rintro e V2 ⟨rfl,rfl⟩)
     |(go_at_call 233;refine (HSL1.o _ (by repeat (with_reducible first|assumption|exact HR0.o|apply ZA|apply ZB))).mono ?_;rintro e V3 ⟨rfl,hb3⟩;obtain ⟨q0,q1,q2,q3,q4,q5⟩:=ZY ((hb3.block _ (heap_lt HQ.o)).trans HQ.o)))
  go_wp2_with fail;go_meet;refine ⟨rfl,ZI (ZI (ZI ((hb3.block _ (heap_lt HQ.o)).trans HQ.o))),?_⟩;have hb4:=HBW.o.trans (hb3.mono HBW.o.size);exact ZE (ZE (ZE hb4 (Nat.le_succ _)) (Nat.le_succ _)) (Nat.le_succ _)
 ·obtain ⟨rfl,hq,hbel⟩:=hcut
  obtain ⟨c0,c1,c2,f0,f1,f2⟩:=ZY hq;rw [HD.o];have HBE:=zh hbel;clear hbel hq HAT1 HSL1 HLD1;go_wp2_with fail
  (try simp only [Exit.inBlock,Exit.then])
  refine bodyPost_ret (by simp [results,results168,go_sem,c0,c1,c2];try rfl) rfl ?_;exact ⟨rfl,ZE (ZE (ZE HBE.o (Nat.le_succ _)) (Nat.le_succ _)) (Nat.le_succ _)⟩
theorem ZAZ {b:Blk}(hb:b.Good):Calls prog 189 #[bkV b] w fun e w'=>e=.returned (.bool true)/\Bl w w':=by
 have hg:=hb.gen;have hs:=hb.st;obtain ⟨g,k,s⟩:=b;have d1:((g:Int) != 0)=true:=by simp at hg ⊢;omega
 unfold bkV;simp only at hs hg;clear hb;rcases hs with ⟨rfl,rfl⟩|⟨rfl,h1,h2⟩|⟨rfl,rfl,rfl⟩
 ·clear hg
  go_in;go_wp2;go_returns;exact ⟨rfl,ZA bR⟩
 ·have d2:((k:Int) != 0)=true:=by simp;omega
  have d3:(k:Int)<=127:=by omega
  clear hg h1 h2;go_in;go_wp2_with fail
  all_goals (go_returns;exact ⟨rfl,ZA bR⟩)
 ·clear hg d1
  go_in;go_wp2;go_returns;exact ⟨rfl,ZA bR⟩
def ZDv (f:Nat->Bool):Nat->Nat->Int
 |0,_=>-1
 |d+1,i=>if f i then ZDv f d (i+1) else i
theorem ZAi (f:Nat->Bool):∀ (d i:Nat),(ZDv f d i=-1/\∀ j,i<=j->j < i+d->f j=true)\/∃ j:Nat,ZDv f d i=j/\i<=j/\j < i+d/\f j=false/\∀ m,i<=m->m < j->f m=true
 |0,i=>.inl ⟨rfl,fun j h1 h2=>by omega⟩
 |d+1,i=>by
  unfold ZDv;cases hf:f i with
  |false=>exact .inr ⟨i,by simp,by omega,by omega,hf,fun m h1 h2=>by omega⟩
  |true=>
   rw [ZLX rfl];rcases ZAi f d (i+1) with ⟨h1,h2⟩|⟨j,h1,h2,h3,h4,h5⟩
   ·refine .inl ⟨h1,fun j h3 h4=>?_⟩
    by_cases e:j=i
    ·rw [e];exact hf
    ·exact h2 j (by omega) (by omega)
   ·refine .inr ⟨j,h1,by omega,by omega,h4,fun m h6 h7=>?_⟩
    by_cases e:m=i
    ·rw [e];exact hf
    ·exact h5 m (by omega) h7
def Chk.free (k:Chk)(i:Nat):Int:=ZDv k.used (perN k - i) i
theorem Chk.free_step (k:Chk){i:Nat}(hi:i < perN k):k.free i=if k.used i then k.free (i+1) else i:=by
 unfold Chk.free;rw [show perN k - i=(perN k - (i+1))+1 by omega,ZDv]
theorem Chk.free_end (k:Chk){i:Nat}(hi:perN k<=i):k.free i=-1:=by
 unfold Chk.free;rw [show perN k - i=0 by omega,ZDv]
def ZKc (w wr:World)(A:DAd)(i line:Nat)(k:Chk)(m:Nat)(v:Value):Prop:=
 ∃ j:Nat,m<=j/\j<=perN k/\v=.int .i64 (j:Nat)/\k.free m=k.free j/\Bl w wr/\CBox wr w.heap.size A i line k
theorem V7 (h:Ar w A F L T c){i:Nat}(hi:i < 8){line:Nat}(hl:line+32<=L){k:Chk}(hR:CRep T c (8 * line) k)(hk:0<=k.cl)(m:Nat)(hm:m<=62):
 Calls prog 218 #[chV A i line k,.int .i64 m] w fun e w'=>e=.returned (.int .i64 (k.free m))/\Bl w w':=by
 have hp62:=hR.head.sizes.2.2.1;have HH:=zh (fun w1 (hb:Bl w w1)=>QS (A:=A) (i:=i) (line:=line) (h.below hb).tab hR.head m);have HBK:=zh (fun w1 (hb:Bl w w1)=>Ji (A:=A) (i:=i) (line:=line) (h.below hb).tab hR.head);have HBI:=zh (fun w1 (hb:Bl w w1)=>JC (h.below hb) hi hl (k:=k));rw [hR.bits hk] at HBI;have hblt:=Ym k.used (perN k);have HBT:=zh (fun j (hj:j < perN k)=>Y1 k.used hj);obtain ⟨X,hX⟩:=xE (Zi k.used (perN k));rw [<-hX] at HBI HBT hblt;have hX64:X < 18446744073709551616:=ZLq hblt (ZLi (Nat.pow_le_pow_right (by omega) hp62) (by decide));have HX:=zh hX64;have hm0:¬ (m:Int) < 0:=by omega
 by_cases hm2:m < perN k
 ·rw [ZLp (show 0<=(m:Int)/\(m:Int) < perN k by omega)] at HH
  have HM:=zh hm2;have HP:=zh hp62;unfold chV at *;clear h hR hl hi hk hX hX64 hblt hm hm2 hp62;go_in;go_wp2_with fail;refine (HH.o _ (ZA (Below.refl _ w))).mono ?_;rintro e w1 ⟨rfl,hb⟩;have HB:=zh ((ZA (Below.refl _ w)).trans (hb.mono (by simp)));have HC:=zh (CBox.new.below hb);obtain ⟨c0,c1,c2,c3,c4⟩:=id HC.o;clear hb HH;go_wp2_with fail;refine (HBI.o _ HB.o).mono ?_;rintro e w2 ⟨rfl,hb⟩;have HB2:=zh (HB.o.trans (hb.mono HB.o.size));have HC2:=zh (HC.o.below hb);clear hb HBI c0 c1 c2 c3 c4 HB HC;go_wp2_with fail
  go_loopw [6] (fun v wr=>ZKc w wr A i line k m v) (fun v _=>perN k - (intOf v).toNat)
  case atStart=>exact ⟨m,nR,by have:=HM.o;omega,rfl,rfl,HB2.o,HC2.o⟩
  case round=>
   obtain ⟨j,h1,h2,rfl,h3,h4,h5⟩:=hrel;have HB3:=zh h4;have HC3:=zh h5;have HF:=zh h3;obtain ⟨c0,c1,c2,c3,c4⟩:=h5;clear h4 h3;go_wp2_with fail;refine (HBK.o _ HB3.o).mono ?_;rintro e w3 ⟨rfl,hb⟩;have HB4:=zh (HB3.o.trans (hb.mono HB3.o.size));have HC4:=zh (HC3.o.below hb);clear hb c0 c1 c2 c3 c4
   by_cases hj:j < perN k
   ·have d1:(j:Int) < perN k:=by omega
    have d2:(j:Int) < 64:=by have:=HP.o;omega
    have e0:(X:Int) / 2 ^ j=((X / 2 ^ j:Nat):Int):=by simp
    have e1:=u64_and_nat (X / 2 ^ j) 1 (Nat.lt_of_le_of_lt (Nat.div_le_self _ _) HX.o) (by omega);rw [Nat.and_one_is_mod,HBT.o j hj,show ((1:Nat):Int)=1 from rfl,<-e0] at e1;have hst:=k.free_step hj;cases hu:k.used j with
    |true=>
     rw [hu,ZLX rfl] at hst;have e2:(bits .and .u64 ((X:Int) / 2 ^ j) 1 == 0)=false:=by rw [e1,hu];rfl
     have G:=zh (show ZKc w w3 A i line k m (.int .i64 ((j+1:Nat):Int)) from ⟨j+1,by omega,by omega,rfl,HF.o.trans hst,HB4.o,HC4.o⟩);clear e0 e1 hst hu hj h1 h2;go_wp2_with fail;go_roundw
     case rel=>exact G.o
     case measure=>simp [intOf];omega
    |false=>
     rw [hu,ZLU (by simp)] at hst;have e2:(bits .and .u64 ((X:Int) / 2 ^ j) 1 == 0)=true:=by rw [e1,hu];rfl
     have HE:=zh (HF.o.trans hst);clear e0 e1 hst hu hj h1 h2;go_wp2;go_returns;exact ⟨congrArg (fun z=>Ending.returned (.int .i64 z)) HE.o.symm,HB4.o⟩
   ·have d1:¬ (j:Int) < perN k:=by omega
    have HE:=zh (HF.o.trans (k.free_end (by omega)));clear hj h1 h2;go_wp2;go_returns;exact ⟨congrArg (fun z=>Ending.returned (.int .i64 z)) HE.o.symm,HB4.o⟩
 ·rw [ZLh (show ¬ (0<=(m:Int)/\(m:Int) < perN k) by omega)] at HH
  rw [k.free_end (by omega)];unfold chV at *;clear h hR hl hi hk hX hX64 hblt hm hm2 hp62;go_in;go_wp2_with fail;refine (HH.o _ (ZA (Below.refl _ w))).mono ?_;rintro e w1 ⟨rfl,hb⟩;have HB:=zh ((ZA (Below.refl _ w)).trans (hb.mono (by simp)));clear hb HH;go_wp2;go_returns;exact ⟨rfl,HB.o⟩
def ZP (p:Nat):Nat:=p % 4294967296 * 8
def UF (p:Nat):Nat:=p / 4294967296 % 65536
def Z9 (p:Nat):Nat:=p / 281474976710656 % 256
def Yr (off gen kind:Nat):Nat:=off / 8+gen * 4294967296+kind * 281474976710656
theorem VL (p:Nat):ZP p < 34359738368:=by unfold ZP;omega
theorem Jo {off gen kind:Nat}(h8:off % 8=0)(ho:off < 34359738368)(hg:gen < 65536)(hk:kind < 256):ZP (Yr off gen kind)=off/\UF (Yr off gen kind)=gen/\Z9 (Yr off gen kind)=kind:=by
 unfold ZP UF Z9 Yr;refine ⟨by omega,by omega,by omega⟩
theorem YJ {w:World}{p:Nat}(hp:p < 18446744073709551616):Calls prog 53 #[.int .u64 p] w fun e w'=>e=.returned (.int .u64 (ZP p:Nat))/\w=w':=by
 have e:((ZP p:Nat):Int)=(p:Int) % 4294967296 * 8:=by unfold ZP;omega
 rw [e];have b1:(p:Int) < 18446744073709551616:=by omega
 clear e;go_in;go_wp2;go_returns;exact ⟨rfl,rfl⟩
theorem ZCw {w:World}{p:Nat}(hp:p < 18446744073709551616):Calls prog 169 #[.int .u64 p] w fun e w'=>e=.returned (.int .u16 (UF p:Nat))/\w=w':=by
 have e:((UF p:Nat):Int)=(p:Int) / 4294967296 % 65536:=by unfold UF;omega
 rw [e];have b1:(p:Int) < 18446744073709551616:=by omega
 clear e;go_in;go_wp2;go_returns;exact ⟨rfl,rfl⟩
theorem Xz {w:World}{p:Nat}(hp:p < 18446744073709551616):Calls prog 17 #[.int .u64 p] w fun e w'=>e=.returned (.int .u8 (Z9 p:Nat))/\w=w':=by
 have e:((Z9 p:Nat):Int)=(p:Int) / 281474976710656 % 256:=by unfold Z9;omega
 rw [e];have b1:(p:Int) < 18446744073709551616:=by omega
 clear e;go_in;go_wp2;go_returns;exact ⟨rfl,rfl⟩
theorem Zd {w:World}{p:Nat}:Calls prog 15 #[.int .u64 p] w fun e w'=>e=.returned (.bool (decide (p=0)))/\w=w':=by
 have e:((p:Int) == 0)=decide (p=0):=by
  by_cases h:p=0
  ·subst h;rfl
  ·rw [ZLh h];exact beq_eq_false_iff_ne.2 (by omega)
 go_in;go_wp2;go_returns;exact ⟨by first|rfl|rw [e],rfl⟩
theorem XE {w:World}{p k:Nat}(hp:p < 18446744073709551616)(h0:p≠0)(hk:k < 60):Calls prog 19 #[.int .u64 p,.int .i64 k] w fun e w'=>e=.returned (.int .u64 (ZP p+8 * k:Nat))/\w=w':=by
 have HN:=zh (fun (w1:World)=>show Calls prog 15 #[.int .u64 p] w1 (fun e w'=>e=.returned (.bool false)/\w1=w') from by
  have:=Zd (w:=w1) (p:=p);rw [ZLh h0] at this;exact this)
 have HO:=zh (fun (w1:World)=>YJ (w:=w1) hp);have hl:=VL p;obtain ⟨o,ho⟩:=xE (ZP p);rw [<-ho] at HO hl ⊢;have e:((o+8 * k:Nat):Int)=(o:Int)+8 * k:=by omega
 rw [e];have b1:(o:Int) < 34359738368:=by omega
 have b2:(k:Int) < 60:=by omega
 have d1:decide ((k:Int) < 0)=false:=by simp
 have d2:decide (60<=(k:Int))=false:=by simp;omega
 clear e ho hl hp h0 hk;go_in;go_wp2_with fail;refine (HN.o _).mono ?_;rintro e w' ⟨rfl,rfl⟩;go_wp2_with fail;refine (HO.o _).mono ?_;rintro e w' ⟨rfl,rfl⟩;go_wp2;go_returns;exact ⟨rfl,rfl⟩
theorem XW {a b k:Nat}(ha:a < 2 ^ k):a ||| b * 2 ^ k=a+b * 2 ^ k:=by
 rw [Nat.or_comm,Nat.mul_comm,<-Nat.two_pow_add_eq_or_of_lt ha,Nat.add_comm]
theorem ZF8 {off gen kind:Nat}(h8:off % 8=0)(h0:0 < off)(ho:off < 34359738368)(hg:1<=gen/\gen < 65536)(hk:1<=kind/\kind<=127):
 Calls prog 190 #[.int .u64 off,.int .u16 gen,.int .u8 kind] w fun e w'=>e=.returned (.tuple #[.int .u64 (Yr off gen kind),.int .i64 0])/\w=w':=by
 have d1:((off:Int) == 0)=false:=by simp;omega
 have d2:(Int.tmod (off:Int) 8 != 0)=false:=by rw [Int.tmod_eq_emod_of_nonneg (by omega)];simp;omega
 have d2':((off:Int) % 8 != 0)=false:=by simp;omega
 have d3:((gen:Int) == 0)=false:=by simp;omega
 have d4:((kind:Int) == 0)=false:=by simp;omega
 have d5:¬ (kind:Int) > 127:=by omega
 have d6:¬ (off:Int) > 34359738360:=by omega
 have e1:bits .or .u64 ((off:Int) / 8) ((gen:Int) * 4294967296)=((off / 8+gen * 4294967296:Nat):Int):=by
  have:=u64_or_nat (off / 8) (gen * 2 ^ 32) (by omega) (by omega);rw [XW (by omega)] at this;rw [<-this];congr 1
 have e2:bits .or .u64 ((off / 8+gen * 4294967296:Nat):Int) ((kind:Int) * 281474976710656)=((Yr off gen kind:Nat):Int):=by
  have:=u64_or_nat (off / 8+gen * 4294967296) (kind * 2 ^ 48) (by omega) (by omega);rw [XW (by omega)] at this;unfold Yr;rw [<-this];congr 1
 have b1:(gen:Int) < 65536:=by omega
 have b2:(kind:Int)<=127:=by omega
 have b3:(off:Int) < 34359738368:=by omega
 rw [<-e2,<-e1];clear h8 h0 ho hg hk e1 e2;go_in;go_wp2;go_returns;exact ⟨rfl,rfl⟩
def Chk.find (k:Chk)(line off:Nat):Int×Bool:=if off < 64 * line\/2048<=off - 64 * line then (0,false) else fnd k.cl (((off - 64 * line) / 8:Nat):Int)
theorem Chk.find_ok {k:Chk}(hk:k.Head){line off:Nat}(h:(k.find line off).2=true):∃ j:Nat,j < perN k/\(k.find line off).1=j/\off / 8=8 * line+hdN k j+1:=by
 obtain ⟨e1,e2,_,h4,_,_⟩:=hk.sizes;unfold Chk.find at h ⊢;split at h
 ·cases h
 rename_i hn;rw [ZLU hn];unfold fnd at h ⊢;rw [e1,e2] at h ⊢;split at h
 ·cases h
 rename_i h1;split at h
 ·cases h
 rename_i h2;rw [ZLU h1,ZLU h2];obtain ⟨x,hx⟩:=xE ((off - 64 * line) / 8);rw [<-hx] at h1 h2 ⊢;have hx9:9<=x:=by omega
 have e3:((x:Int) - 8 - 1)=((x - 9:Nat):Int):=by omega
 rw [e3] at h2 ⊢;have e4:(((x - 9:Nat):Int) % (Zu k:Int))=(((x - 9) % Zu k:Nat):Int):=rfl;have e5:(((x - 9:Nat):Int) / (Zu k:Int))=(((x - 9) / Zu k:Nat):Int):=rfl;rw [e4,e5] at h2;rw [e5];refine ⟨(x - 9) / Zu k,by omega,rfl,?_⟩;have hm:(x - 9) % Zu k=0:=by omega
 have hd:=Nat.div_add_mod (x - 9) (Zu k);rw [hm,Nat.mul_comm] at hd;unfold hdN;omega
theorem ZFK (hT:Tab w){i line off:Nat}(hl:line+32<=4096){k:Chk}(ho:off < 18446744073709551616):
 Calls prog 167 #[chV A i line k,.int .u64 off] w fun e w'=>e=.returned (.tuple #[.int .i64 (k.find line off).1,.bool (k.find line off).2])/\Bl w w':=by
 have HST:=zh (fun w1=>Yj (w:=w1) (line:=line) (by omega));have HF:=zh (fun (x:Int) w1 (hb:Bl w w1)=>find_any k.cl x w1 (hT.below hb));obtain ⟨M,hM⟩:=xE (line * 64);rw [<-hM] at HST;unfold Chk.find;rw [show 64 * line=M by omega];have b1:(M:Int)<=262144:=by omega
 have b2:(off:Int) < 18446744073709551616:=by omega
 unfold chV;clear hT hl hM ho
 by_cases h1:off < M
 ·rw [ZLX (.inl h1)]
  have d1:(off:Int) < M:=by omega
  clear h1;go_in;go_wp2_with fail;refine (HST.o _).mono ?_;rintro e w' ⟨rfl,rfl⟩;go_wp2;go_returns;exact ⟨rfl,ZA bR⟩
 ·obtain ⟨N,rfl⟩:∃ N,off=M+N:=⟨off - M,by omega⟩
  rw [Nat.add_sub_cancel_left];rw [Int.natCast_add] at b2 ⊢;have d1:decide ((M:Int)+N < M)=false:=ZLh (by omega);have e0:(M:Int)+N - M=N:=by omega
  have b3:(N:Int) < 18446744073709551616:=by omega
  by_cases h2:2048<=N
  ·rw [ZLX (.inr h2)]
   have d2:decide ((2048:Int)<=N)=true:=ZLp (by omega);clear h1 h2;go_in;go_wp2_with fail;refine (HST.o _).mono ?_;rintro e w' ⟨rfl,rfl⟩;go_wp2;go_returns;exact ⟨rfl,ZA bR⟩
  ·rw [ZLU (by omega)]
   have d2:decide ((2048:Int)<=N)=false:=ZLh (by omega);have e1:((N / 8:Nat):Int)=(N:Int) / 8:=by omega
   rw [e1];clear h1 h2 e1;go_in;go_wp2_with fail;refine (HST.o _).mono ?_;rintro e w' ⟨rfl,rfl⟩;go_wp2_with fail;refine (HF.o _ _ (ZA (Below.refl _ w))).mono ?_;rintro e w' ⟨rfl,rfl⟩;go_wp2;go_returns;exact ⟨rfl,ZA bR⟩
structure BW (w:World) where
 v:World
 h:Bl w v
instance (w:World):Inhabited (BW w):=⟨⟨w,Below.refl _ w⟩⟩
theorem Zv {P:Program} {id:Nat} {Q:Exit->Act->World->Prop} {a:Act} {w:World} {l:List Oper} (hm:P.follows .mixedOrders=true) (hB:Region.lexB .any l.toArray=true)
 (h:wpQuiet P l.toArray (fun w'=>∃ p:BW w,w'=p.v) (fun a'=>∀ w',(∃ p:BW w,w'=p.v)->Q .normal a' w') l a):(Code.region id l.toArray true).wp P Q a w:=
 wp_region_quiet (C:=fun w'=>∃ p:BW w,w'=p.v) hm hB ⟨⟨w.drew,ZB (Below.refl _ w)⟩,rfl⟩ (by simpa using h)
theorem ZW {w:World}{a:Addr}{v:Value}(h:w.cell? a=some v)(p:BW w):p.v.cell? a=some v:=(p.h.cell (ZLf _ _ h)).trans h
theorem Vb {P:Program}{f:FuncId}{args:Array Value}{w:World}{p:BW w}{v:Value}(h:Calls P f args p.v fun e w'=>e=.returned v/\Below p.v.heap.size p.v w'):
 Calls P f args p.v fun e w''=>e=.returned v/\∃ p':BW w,w''=p'.v:=
 h.mono fun _ w' ⟨he,hb⟩=>⟨he,⟨w',p.h.trans (hb.mono p.h.size)⟩,rfl⟩
theorem Y2 {P:Program}{f:FuncId}{args:Array Value}{w:World}{p:BW w}{v:Value}(h:Calls P f args p.v fun e w'=>e=.returned v/\p.v=w'):
 Calls P f args p.v fun e w''=>e=.returned v/\∃ p':BW w,w''=p'.v:=
 h.mono fun _ w' ⟨he,hb⟩=>⟨he,p,hb.symm⟩
theorem CBox.bw {b:Nat}{i line:Nat}{k:Chk}(h:CBox w b A i line k)(p:BW w):CBox p.v b A i line k:=h.below p.h
def Chk.pay (k:Chk)(line j:Nat):Nat:=(8 * line+hdN k j+1) * 8
def Chk.ptr (k:Chk)(line j kind:Nat):Nat:=Yr (k.pay line j) (k.blk j).gen kind
theorem Xk (h:Ar w A F L T c){i:Nat}(hi:i < 8){line:Nat}(hl:line+32<=L){k:Chk}(hR:CRep T c (8 * line) k)(hk:0<=k.cl){j:Nat}(hj:j < perN k)(hu:k.used j=false){kind:Nat}(hkd:1<=kind/\kind<=127):
 Calls prog 120 #[chV A i line k,.int .i64 j,.int .u8 kind] w fun e w'=>e=.returned (.tuple #[.int .u64 (k.ptr line j kind),.int .i64 0])/\Bl w w':=by
 have hL:=h.lines;have hle:=YI hR.head hj;have hst:=hR.head.sizes.2.2.2.1;have hgd:=hR.good hk j hj;have HH:=zh (fun w1 (hb:Bl w w1)=>QS (A:=A) (i:=i) (line:=line) (h.below hb).tab hR.head j);rw [ZLp (show 0<=(j:Int)/\(j:Int) < perN k by omega)] at HH;have HER:=zh (fun w1 hb=>Zs h hi w1 hb);have HR:=zh (fun w1 (hb:Bl w w1)=>JF (h.below hb) hi hl hR hk hj);rw [hu] at HR;have HG:=zh (fun w1=>ZAZ (w:=w1) hgd);have HAT:=zh (fun w1 (hb:Bl w w1)=>ZBK (i:=i) (h.below hb) hl hR.head hj);have HM:=zh (fun w1=>ZF8 (w:=w1) (off:=k.pay line j) (gen:=(k.blk j).gen) (kind:=kind) (by unfold Chk.pay;omega) (by unfold Chk.pay;omega) (by unfold Chk.pay;omega) hgd.gen hkd);have hs:(k.blk j).st=176:=by unfold Chk.used at hu;simpa using hu
 unfold Chk.ptr;have hpay:k.pay line j=(8 * line+hdN k j) * 8+8:=by unfold Chk.pay;omega
 obtain ⟨P,hP⟩:=xE (Yr (k.pay line j) (k.blk j).gen kind);rw [<-hP] at HM ⊢;rw [hpay] at HM;obtain ⟨N,hN⟩:=xE ((8 * line+hdN k j) * 8);rw [<-hN] at HM HAT;have b1:(N:Int)<=1000000:=by omega
 have HE2:=zh (show IntKind.u64.wrap ((N:Int)+8)=((N+8:Nat):Int) by rw [IntWalk.u64_in] <;> omega);obtain ⟨b,hb⟩:=xE (k.blk j);rw [<-hb] at HR HG HM hs;have d1:((kind:Int) == 0)=false:=by simp;omega
 have d2:¬ (kind:Int) > 127:=by omega
 unfold chV bkV at *;rw [hs] at HR HG;clear h hR hl hL hle hst hgd hu hP hN hb hs hj hk hpay hkd hi;go_in;go_wp2_with fail;refine (HH.o _ (ZA (Below.refl _ w))).mono ?_;rintro e w1 ⟨rfl,hb⟩;have HB:=zh ((ZA (Below.refl _ w)).trans (hb.mono (by simp)));have HC:=zh (CBox.new.below hb);obtain ⟨c0,c1,c2,c3,c4⟩:=id HC.o;clear hb HH;go_wp2_with fail;refine (HER.o _ HB.o).mono ?_;rintro e w' ⟨rfl,rfl⟩;go_wp2_with fail;refine (HR.o _ HB.o).mono ?_;rintro e w2 ⟨rfl,hb⟩;have HB2:=zh (ZA (o:=.cells #[.int .u16 b.gen,.int .u8 b.kind,.int .u8 176] 291) (HB.o.trans (hb.mono HB.o.size)));have HC2:=zh ((HC.o.below hb).below (ZA (o:=.cells #[.int .u16 b.gen,.int .u8 b.kind,.int .u8 176] 291) (Below.refl w2.heap.size w2)));have HN:=zh (ZC w2 (.cells #[.int .u16 b.gen,.int .u8 b.kind,.int .u8 176] 291));clear hb HR HB HC c0 c1 c2 c3 c4;obtain ⟨c0,c1,c2,c3,c4⟩:=id HC2.o;go_wp2_with fail;refine (HER.o _ HB2.o).mono ?_;rintro e w' ⟨rfl,rfl⟩;obtain ⟨w3,hw3⟩:=xE (w2.alloc (.cells #[.int .u16 b.gen,.int .u8 b.kind,.int .u8 176] 291));rw [<-hw3] at HB2 HC2 HN ⊢;clear c0 c1 c2 c3 c4 hw3 HER;obtain ⟨c0,c1,c2,c3,c4⟩:=id HC2.o;obtain ⟨b0,b1,b2,_⟩:=ZY HN.o;go_wp2_with fail;refine (HG.o _).mono ?_;rintro e w4 ⟨rfl,hb⟩;have HB4:=zh (HB2.o.trans (hb.mono HB2.o.size));have HC4:=zh (HC2.o.below hb);have HN4:=zh ((hb.block _ (heap_lt HN.o)).trans HN.o);clear hb c0 c1 c2 c3 c4 b0 b1 b2 HC2 HN HB2 HG;obtain ⟨c0,c1,c2,c3,c4⟩:=id HC4.o;obtain ⟨b0,b1,b2,_⟩:=ZY HN4.o;go_wp2_with fail;have k0:=fun p:BW w4=>ZW c0 p
 have k1:=fun p:BW w4=>ZW c1 p
 have k2:=fun p:BW w4=>ZW c2 p
 have k3:=fun p:BW w4=>ZW c3 p
 have k4:=fun p:BW w4=>ZW c4 p
 have k5:=fun p:BW w4=>ZW b0 p
 have HAT4:=zh (fun p:BW w4=>Vb (HAT.o p.v (HB4.o.trans (p.h.mono HB4.o.size))));have HM4:=zh (fun p:BW w4=>Y2 (HM.o p.v));clear HAT HM c0 c1 c2 c3 c4 b0 b1 b2;refine Zv (by kernel_rfl) (by kernel_rfl) ?_
 repeat (quiet_step (first
  |(go_at_call 191;exact HAT4.o _)
  |(go_at_call 190;rw [HE2.o];exact HM4.o _)))
 refine wpQuiet_nil ?_;rintro _ ⟨p,rfl⟩;have HB5:=zh (HB4.o.trans (p.h.mono HB4.o.size));go_wp2;go_returns;exact ⟨rfl,HB5.o⟩
def Chk.block (k:Chk)(line p:Nat):Int×Int:=
 if p=0 then (0,1) else if (k.find line (ZP p)).2=false\/p / 72057594037927936≠0 then (0,2)
 else if (k.blk (k.find line (ZP p)).1.toNat).st≠177\/(k.blk (k.find line (ZP p)).1.toNat).gen≠UF p then (0,12)
 else if (k.blk (k.find line (ZP p)).1.toNat).kind≠Z9 p then (0,13) else ((k.find line (ZP p)).1,0)
theorem ZDf (h:Ar w A F L T c){i:Nat}(hi:i < 8){line:Nat}(hl:line+32<=L){k:Chk}(hR:CRep T c (8 * line) k)(hk:0<=k.cl){p:Nat}(hp:p < 18446744073709551616):
 Calls prog 106 #[chV A i line k,.int .u64 p] w fun e w'=>e=.returned (.tuple #[.int .i64 (k.block line p).1,.int .i64 (k.block line p).2])/\Bl w w':=by
 have hL:=h.lines;have HNI:=zh (fun w1=>Zd (w:=w1) (p:=p));have HOF:=zh (fun w1=>YJ (w:=w1) hp);have HGE:=zh (fun w1=>ZCw (w:=w1) hp);have HKI:=zh (fun w1=>Xz (w:=w1) hp);have hof:=VL p;have HFI:=zh (fun w1 (hb:Bl w w1)=>ZFK (A:=A) (i:=i) (line:=line) (k:=k) (h.below hb).tab (by omega) (show ZP p < 18446744073709551616 by omega));have HER:=zh (fun w1 hb=>Zs h hi w1 hb);have HRD:=zh (fun (j:Nat) (hj:j < perN k) w1 (hb:Bl w w1)=>JF (h.below hb) hi hl hR hk hj);have HFO:=zh (fun q=>Chk.find_ok (line:=line) (off:=ZP p) hR.head q);have HGD:=zh (fun (j:Nat) (hj:j < perN k)=>hR.good hk j hj);obtain ⟨r,hr⟩:=xE (k.block line p);rw [<-hr];unfold Chk.block at hr
 by_cases h0:p=0
 ·rw [ZLX h0] at hr
  subst hr;rw [ZLp h0] at HNI;unfold chV;clear h hR hl hL hi hk hof hp h0;go_in;go_wp2_with fail;refine (HNI.o _).mono ?_;rintro e w' ⟨rfl,rfl⟩;go_wp2;go_returns;exact ⟨rfl,ZA bR⟩
 ·rw [ZLU h0] at hr
  rw [ZLh h0] at HNI;obtain ⟨I,B,hIB⟩:∃ I B,k.find line (ZP p)=(I,B):=⟨_,_,rfl⟩
  rw [hIB] at HFI HFO hr;simp only at HFI HFO hr;have HRR:=zh hr;clear hr;obtain ⟨w0,hw0⟩:=xE (w.alloc (.cells #[.iface 116 (.pointer (some ⟨A.t i,0,none⟩)),.int .i64 line,.int .i64 k.cl,.int .i64 k.ow,.int .u16 k.gen] 211));have HB0:=zh (show Bl w w0 by rw [hw0];exact ZA bR);have HC0:=zh (show CBox w0 w.heap.size A i line k by rw [hw0];exact CBox.new);have HW0:=zh hw0;have b1:(p:Int) < 18446744073709551616:=by omega
  unfold chV bkV at *;clear h hR hl hL hi hk hof hw0 hIB;go_in;go_wp2_with fail;refine (HNI.o _).mono ?_;rintro e w' ⟨rfl,rfl⟩;rw [<-HW0.o];obtain ⟨c0,c1,c2,c3,c4⟩:=id HC0.o;go_wp2_with fail;have k0:=fun p:BW w0=>ZW c0 p
  have k1:=fun p:BW w0=>ZW c1 p
  have k2:=fun p:BW w0=>ZW c2 p
  have k3:=fun p:BW w0=>ZW c3 p
  have k4:=fun p:BW w0=>ZW c4 p
  have HFI4:=zh (fun q:BW w0=>Vb (HFI.o q.v (HB0.o.trans (q.h.mono HB0.o.size))));have HOF4:=zh (fun q:BW w0=>Y2 (HOF.o q.v));clear c0 c1 c2 c3 c4;refine Zv (by kernel_rfl) (by kernel_rfl) ?_
  repeat (quiet_step (first
   |(go_at_call 53;exact HOF4.o _)
   |(go_at_call 167;exact HFI4.o _)))
  refine wpQuiet_nil ?_;rintro _ ⟨q,rfl⟩;have HB1:=zh (HB0.o.trans (q.h.mono HB0.o.size));have HC1:=zh (HC0.o.bw q);obtain ⟨w1,hw1⟩:=xE q.v;rw [<-hw1] at HB1 HC1 ⊢;clear k0 k1 k2 k3 k4 HFI4 HOF4 hw1 HFI HOF HB0 HC0 HW0 HNI;cases B with
  |false=>
   have e:=HRR.o.trans (ZLX (.inl rfl));clear h0 hp HRR;subst e;go_wp2;go_returns;exact ⟨rfl,HB1.o⟩
  |true=>
   by_cases h5:p / 72057594037927936≠0
   ·have e:=HRR.o.trans (ZLX (.inr h5))
    subst e;have d1:((p:Int) / 72057594037927936 != 0)=true:=by simp;omega
    clear h0 hp h5;go_wp2;go_returns;exact ⟨rfl,HB1.o⟩
   ·have e:=HRR.o.trans (ZLU (fun q=>q.elim (fun q=>by cases q) (fun q=>h5 q)))
    have HRR:=zh e;clear e;have d1:((p:Int) / 72057594037927936 != 0)=false:=by simp;omega
    obtain ⟨j,hj,e1,e2⟩:=HFO.o rfl;subst e1;rw [Int.toNat_natCast] at HRR;have HR:=zh (HRD.o j hj);have hgd:=HGD.o j hj;have hu:k.used j=decide ((k.blk j).st≠176):=by unfold Chk.used;rw [Bool.eq_iff_iff];simp
    obtain ⟨b,hb⟩:=xE (k.blk j);rw [<-hb] at HR hgd hu HRR;obtain ⟨U,hU⟩:=xE (k.used j);rw [<-hU] at HR hu;have HU:=zh hu;clear hU hu;clear h0 hp h5 HRD HFO HGD hb e2;obtain ⟨c0,c1,c2,c3,c4⟩:=id HC1.o;go_wp2_with fail;refine (HER.o _ HB1.o).mono ?_;rintro e w' ⟨rfl,rfl⟩;go_wp2_with fail;refine (HR.o _ HB1.o).mono ?_;rintro e w2 ⟨rfl,hb⟩;have HB2:=zh (ZA (o:=.cells #[.int .u16 b.gen,.int .u8 b.kind,.int .u8 b.st] 291) (HB1.o.trans (hb.mono HB1.o.size)));have HC2:=zh ((HC1.o.below hb).below (ZA (o:=.cells #[.int .u16 b.gen,.int .u8 b.kind,.int .u8 b.st] 291) (Below.refl w2.heap.size w2)));have HN:=zh (ZC w2 (.cells #[.int .u16 b.gen,.int .u8 b.kind,.int .u8 b.st] 291));clear hb HR HB1 HC1 c0 c1 c2 c3 c4;obtain ⟨c0,c1,c2,c3,c4⟩:=id HC2.o;go_wp2_with fail;refine (HER.o _ HB2.o).mono ?_;rintro e w' ⟨rfl,rfl⟩;obtain ⟨w3,hw3⟩:=xE (w2.alloc (.cells #[.int .u16 b.gen,.int .u8 b.kind,.int .u8 b.st] 291));rw [<-hw3] at HB2 HC2 HN ⊢;clear c0 c1 c2 c3 c4 hw3 HER HC2;obtain ⟨b0,b1,b2,_⟩:=ZY HN.o;have e9:((b.st:Int) != 177)=decide (b.st≠177):=by rw [Bool.eq_iff_iff];simp;omega
    have e8:((b.gen:Int) != (UF p:Int))=decide (b.gen≠UF p):=by rw [Bool.eq_iff_iff];simp;omega
    have e7:((b.kind:Int) != (Z9 p:Int))=decide (b.kind≠Z9 p):=by rw [Bool.eq_iff_iff];simp;omega
    by_cases h7:b.st=177
    ·obtain rfl:U=true:=by rw [HU.o];simp;omega
     have f4:decide (b.st≠177)=false:=by simp [h7]
     rw [f4] at e9
     by_cases h8:b.gen=UF p
     ·have f5:decide (b.gen≠UF p)=false:=by simp [h8]
      rw [f5] at e8;have e:=HRR.o.trans (ZLU (fun q=>q.elim (fun q=>q h7) (fun q=>q h8)));clear hgd f4 f5 h7 h8 HRR HU;go_wp2_with fail
      go_quiet (first
       |(go_at_call 169;exact ZZ (HGE.o _)))
      have HB3:=zh (ZU (n:=nq) HB2.o);have HN3:=zh (show (w3.drewN nq).heap[w2.heap.size]?=_ from HN.o);obtain ⟨w4,hw4⟩:=xE (w3.drewN nq);rw [<-hw4] at HB3 HN3 ⊢;clear hw4 b0 b1 b2;obtain ⟨b0,b1,b2,_⟩:=ZY HN3.o
      by_cases h9:b.kind=Z9 p
      ·have f6:decide (b.kind≠Z9 p)=false:=by simp [h9]
       rw [f6] at e7;have e:=e.trans (ZLU (fun q=>q h9));subst e;clear h9 f6;go_wp2_with fail
       go_quiet (first
        |(go_at_call 17;exact ZZ (HKI.o _)))
       have HB5:=zh (ZU (n:=nq) HB3.o);go_wp2;go_returns;exact ⟨rfl,HB5.o⟩
      ·have f6:decide (b.kind≠Z9 p)=true:=by simp [h9]
       rw [f6] at e7;have e:=e.trans (ZLX h9);subst e;clear h9 f6;go_wp2_with fail
       go_quiet (first
        |(go_at_call 17;exact ZZ (HKI.o _)))
       have HB5:=zh (ZU (n:=nq) HB3.o);go_wp2;go_returns;exact ⟨rfl,HB5.o⟩
     ·have f5:decide (b.gen≠UF p)=true:=by simp [h8]
      rw [f5] at e8;have e:=HRR.o.trans (ZLX (.inr h8));clear hgd f4 f5 h7 h8 HRR HU;subst e;go_wp2_with fail
      go_quiet (first
       |(go_at_call 169;exact ZZ (HGE.o _)))
      have HB3:=zh (ZU (n:=nq) HB2.o);go_wp2;go_returns;exact ⟨rfl,HB3.o⟩
    ·have f4:decide (b.st≠177)=true:=by simp [h7]
     rw [f4] at e9;have e:=HRR.o.trans (ZLX (.inl h7));subst e;clear hgd f4 h7 HRR HU;cases U with
     |true=>
      go_wp2_with fail
      go_quiet (first
       |(go_at_call 169;exact ZZ (HGE.o _)))
      have HB3:=zh (ZU (n:=nq) HB2.o);go_wp2;go_returns;exact ⟨rfl,HB3.o⟩
     |false=>
      go_wp2_with fail
      go_quiet (first
       |(go_at_call 169;exact ZZ (HGE.o _)))
      have HB3:=zh (ZU (n:=nq) HB2.o);go_wp2;go_returns;exact ⟨rfl,HB3.o⟩
variable {w':World}
def cPtr:Codec Nat where
 val:=fun n=>.int .u64 (n:Int)
 num:=fun n=>[(n:Int)]
 dec:=fun v=>match v with
  |.int .u64 (.ofNat n)=>some n
  |_=>none
 dv:=fun a=>rfl
 vd:=fun v a h=>by
  split at h
  ·cases h;rfl
  ·cases h
 inj:=fun a b h=>by simp only [List.cons.injEq,and_true] at h;omega
def cInt:Codec Nat where
 val:=fun n=>.int .i64 (n:Int)
 num:=fun n=>[(n:Int)]
 dec:=fun v=>match v with
  |.int .i64 (.ofNat n)=>some n
  |_=>none
 dv:=fun a=>rfl
 vd:=fun v a h=>by
  split at h
  ·cases h;rfl
  ·cases h
 inj:=fun a b h=>by simp only [List.cons.injEq,and_true] at h;omega
theorem ZKX (w:World):(zeroValue 32).run prog w=.ok (cPtr.val 0) w:=by kernel_rfl
theorem ZIR (w:World):(zeroValue 3).run prog w=.ok (cInt.val 0) w:=by kernel_rfl
abbrev QJ (w:World)(b ex:Nat)(f:Nat->Option Nat):Prop:=UMap prog 31 .u64 cPtr w b ex f
abbrev ZB1 (w:World)(b ex:Nat)(f:Nat->Option Nat):Prop:=UMap prog 3 .i64 cInt w b ex f
structure HAd where
 hb:Nat
 sb:Nat
 pb:Nat
 rb:Nat
 vb:Nat
 t:Nat
 l0:Nat
 ls:Nat
 cap:Nat
 x0:Nat
def HAd.n (H:HAd):Nat:=H.ls / 32
structure HpW (w:World)(A:DAd)(H:HAd)(lk:Bool):Prop where
 hp:w.heap[H.hb]?=some (.cells #[.iface 116 (.pointer (some ⟨A.t H.t,0,none⟩)),.int .i64 H.l0,.int .i64 H.ls,.pointer (some ⟨H.sb,0,none⟩),.map (some H.rb),.map (some H.vb),.map none,.bool lk] 158 (0,0))
 t:H.t < 8
 bd:H.l0+H.ls<=4096
theorem HpW.below {H:HAd}{lk:Bool}(h:HpW w A H lk)(hb:Bl w w'):HpW w' A H lk:=⟨(hb.block _ (heap_lt h.hp)).trans h.hp,h.t,h.bd⟩
theorem HpW.agree {H:HAd}{lk:Bool}(h:HpW w A H lk)(hb:w'.heap[H.hb]?=w.heap[H.hb]?):HpW w' A H lk:=⟨hb.trans h.hp,h.t,h.bd⟩
theorem wfU {n:Nat}(h:n < 18446744073709551616):(Lit.int .u64 (n:Int)).wf=true:=by
 simp [Lit.wf,IntKind.min,IntKind.max,IntKind.bits,IntKind.signed];omega
theorem Qf {H:HAd}{lk:Bool}(h:HpW w A H lk){k:Nat}(hk:k < H.n){off:Nat}(h1:64 * (H.l0+32 * k)<=off)(h2:off < 64 * (H.l0+32 * k)+2048):
 Calls prog 104 #[.pointer (some ⟨H.hb,0,none⟩),.int .u64 off] w fun e w'=>e=.returned (.tuple #[.int .i64 ((H.l0+32 * k:Nat):Int),.bool true])/\w=w':=by
 obtain ⟨c0,c1,c2,c3,c4,c5,c6,c7,_⟩:=Z5 h.hp;have hbd:=h.bd;unfold HAd.n at hk;obtain ⟨l0,hl0⟩:=xE H.l0;obtain ⟨ls,hls⟩:=xE H.ls;rw [<-hl0] at c1 h1 h2 hbd ⊢;rw [<-hls] at c2 hk hbd;have b0:(l0:Int)<=4096:=by omega
 have b1:(ls:Int)<=4096:=by omega
 have b2:(off:Int) < 1000000:=by omega
 have b3:(k:Int) < 4096:=by omega
 have d1:¬ ((off:Int) < (l0:Int) * 64):=by omega
 have e1:((off:Int) - (l0:Int) * 64) / 2048=(k:Int):=by omega
 have d2:¬ ((k:Int)>=(ls:Int) / 32):=by omega
 have E1:=zh (show ((l0:Int)+(k:Int) * 32)=((l0+32 * k:Nat):Int) by omega);have b4:(l0:Int) * 64<=(off:Int):=by omega
 clear h h1 h2 hl0 hls hk hbd;go_in;go_wp2;go_returns;rw [E1.o];exact ⟨rfl,rfl⟩
theorem ZAk {H:HAd}{lk:Bool}(h:HpW w A H lk){ex:Nat}{res:Nat->Option Nat}(hr:QJ w H.rb ex res){p:Nat}(hp:p < 18446744073709551616):
 Calls prog 121 #[.pointer (some ⟨H.hb,0,none⟩),.int .u64 p] w fun e w'=>e=.returned (.bool (decide (res (ZP p)=some p)))/\Bl w w':=by
 obtain ⟨c0,c1,c2,c3,c4,c5,c6,c7,_⟩:=Z5 h.hp;have hof:=VL p;have hwf:(Lit.int .u64 (ZP p:Int)).wf=true:=wfU (by omega);have HLK:=zh (fun q:BW w=>(hr.kept (q.h.block _ hr.lt)).look2 underlying31 underlying154 (ZKX _) hwf);have k4:=fun q:BW w=>ZW c4 q
 have HOF4:=zh (fun q:BW w=>Y2 (YJ (w:=q.v) hp));obtain ⟨r,hr2⟩:=xE (res (ZP p));rw [<-hr2] at HLK ⊢;unfold cPtr at HLK;simp only at HLK;clear h hr hwf hof hr2 c0 c1 c2 c3 c4 c5 c6 c7 hp;go_in;go_wp2_with fail;have hlk:=HLK.o;refine Zv (by kernel_rfl) (by kernel_rfl) ?_
 repeat (quiet_step (first
  |(go_at_call 53;exact HOF4.o _)))
 refine wpQuiet_nil ?_;rintro _ ⟨q,rfl⟩;have HB5:=zh q.h;clear k4 hlk;cases r with
 |none=>
  go_wp2;go_returns;exact ⟨rfl,HB5.o⟩
 |some x=>
  by_cases e:x=p
  ·subst e
   go_wp2;go_returns;exact ⟨by simp,HB5.o⟩
  ·have d:((x:Int) == (p:Int))=false:=by simp;omega
   go_wp2;go_returns;exact ⟨by simp [e],HB5.o⟩
end
end Go.Proofs.YtbpeehmepehkdaaGreatDoor.Dv
