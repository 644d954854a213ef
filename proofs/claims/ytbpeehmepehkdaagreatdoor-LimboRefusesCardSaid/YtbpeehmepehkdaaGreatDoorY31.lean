/- Part 31. -/
import Derived.Test.YtbpeehmepehkdaaGreatDoorY30
import Derived.Lib.LaidTab
set_option maxHeartbeats 8000000
set_option maxRecDepth 20000
set_option linter.all false
namespace Go.Proofs.YtbpeehmepehkdaaGreatDoor.Dv
open Tryz
section
open Go.RowKit Go.Proofs.YtbpeehmepehkdaaGreatDoor.Size
variable {w w':World}{A:DAd}{F F':Nat->Option ZM}{T c c':Nat->Nat}{x x' L:Nat}
theorem Aq.new (h:Aq w A F L T c x){g:Nat}(hg:w.heap.size<=g):F g=none:=by
 obtain ⟨s,h1,_⟩:=h.dev;cases e:F g with
 |none=>rfl
 |some r=>exact absurd (h1.lt g (by rw [e];simp)) (by omega)
theorem VO (h:Aq w A F L T c x) {ls:List (List (Nat×Nat))} (h0:0 < (Ze ls).length)
 (hl:∀ l∈ls,∀ q∈l,q.1 % 8=0/\q.1 < 64 * L/\q.2 < 18446744073709551616) (hn:x+Zw ls<=x') (hx:x'<=1000000)
 (w1:World)(hb:Bl w w1){v:Value}{B:Nat}(hp:Prg w1 B v (Ze ls))(hB:w.heap.size<=B):
 Calls prog 112 #[v,.iface 116 (.pointer (some ⟨A.t 0,0,none⟩))] w1 fun e w'=>e=.returned (.int .i64 0)/\∃ F',Aq w' A F' L T (wrs c ls.flatten) x'/\Moved F F' w w':=by
 obtain ⟨g,cap,rfl,hs,hg⟩:=Zb hp h0;refine (ZBs (t:=0) (k:=cap) (h.below hb) (by omega) hs (h.new (by omega)) hl (by omega)).mono ?_;rintro e w' ⟨rfl,F',h1,h2⟩;exact ⟨rfl,F',h1.mono (by omega),Moved.trans ⟨Only.of_below hb,fun _ _=>rfl⟩ h2⟩
theorem Q0 (ha:Ar w A F 160 T c):Calls prog 196 #[.iface 116 (.pointer (some ⟨A.t 0,0,none⟩)),.int .i64 2] w fun e w'=>e=.returned (.bool false)/\w=w':=by
 have HS:=zh (Xp ha (i:=0) (by omega) w bR);rw [show ((160 * 64:Nat):Int)=10240 by rfl] at HS;clear ha;go_in;go_wp2_with fail;refine HS.o.mono ?_;rintro e w' ⟨rfl,rfl⟩;go_wp2;go_returns;exact ⟨rfl,rfl⟩
def X4 (n:Nat):List (Nat×Nat):=(List.range n).map fun e=>(8 * (16+(e * 4+3)),0)
theorem ZEL (n:Nat):X4 (n+1)=X4 n++[(8 * (16+(n * 4+3)),0)]:=by unfold X4;rw [ZLy,ZLs];rfl
def RfR (W:World)(v i:Value)(wr:World):Prop:=
 ∃ m:Nat,m<=16/\i=.int .i64 (m:Nat)/\wr.ownsRow W.heap.size 138 2 v m (ZT (X4 m))/\Bl W wr
theorem ZC1 (h:Aq w A F 160 T c x)(hx:x+40<=1000000):
 Calls prog 128 #[.iface 116 (.pointer (some ⟨A.t 0,0,none⟩)),.int .i64 2] w fun e w'=>e=.returned (.int .i64 0)/\∃ F',Aq w' A F' 160 T (wrs c (X4 16)) (x+40)/\Moved F F' w w':=by
 have HLK:=zh (Q0 h.ar);have HER:=zh (Zs h.ar (i:=0) (by omega) w bR);have HAT:=zh (fun (w1:World) (rb:Nat) (hr:RtB w1 A rb) (i:Nat) (hi:i < 16)=>ZBp hr hi (show 3 < 4 by omega))
 have HRUN:=zh (fun (w1:World) (hb:Bl w w1) (v:Value) (B:Nat) (hB:w.heap.size<=B) (hp:Prg w1 B v (Ze [X4 16]))=>
  VO h (ls:=[X4 16]) (x':=x+40) (by decide) (by decide) (Nat.add_le_add_left (show Zw [X4 16]<=40 by decide) x) hx w1 hb hp hB)
 have hflat:[X4 16].flatten=X4 16:=by simp
 rw [hflat,Z2] at HRUN;have HOB:=zh (show ∀ y∈X4 16,y.1 < 18446744073709551616 by decide);clear h hx hflat;go_in;go_wp2_with fail;refine HLK.o.mono ?_;rintro e w' ⟨rfl,rfl⟩;have hne:=YT;go_wp2_with fail;refine HER.o.mono ?_;rintro e w' ⟨rfl,rfl⟩;go_upto_region 8 with fail;obtain ⟨w1,hw1⟩:=xE (w.alloc (.cells #[.iface 116 (.pointer (some ⟨A.t 0,0,none⟩)),.int .u64 128] 183));have HR:=zh (show RtB w1 A w.heap.size by rw [hw1];exact ZC _ _);have HB1:=zh (show Bl w w1 by rw [hw1];exact ZA bR);rw [<-hw1];obtain ⟨rb,hrb⟩:=xE w.heap.size;rw [<-hrb] at HR ⊢;have HS1:=zh (show w.heap.size<=w1.heap.size from HB1.o.size);clear hw1 hrb;go_wp2_with fail
 go_loopw [7,23] (fun v i wr=>RfR w1 v i wr) (fun _ i _=>16 - (intOf i).toNat)
 case atStart=>exact ⟨0,by omega,rfl,ZLn _ _ _ _,bR⟩
 case round=>
  obtain ⟨m,hm,rfl,hown,hbel⟩:=hrel;have HB:=zh hbel;have HO:=zh hown;obtain ⟨ra,rc,hv⟩:=ZN hown;subst hv;clear hown hbel
  by_cases hlt:m < 16
  ·have d0:(m:Int) < 16:=by omega
   have HA:=zh (HAT.o _ _ (HR.o.below HB.o) m hlt);clear hlt;go_wp2_with fail;refine HA.o.mono ?_;rintro e w' ⟨rfl,rfl⟩;go_wp2_with (at_builtin;refine ZS elWrites rfl _ _ rfl HO.o rfl rfl ?c1 rfl ?c2 ?c3 ?c4 ?c5 ?_)
   case c1=>rfl
   case c2=>exact ⟨rfl,rfl⟩
   case c3=>unfold maxLen;omega
   case c4=>omega
   case c5=>exact HB.o.size
   intro g4 cap4 w5 hop5 hgr5 hg5
   have G:=zh (show RfR w1 (.slice (some ⟨g4,0,none⟩) (m+1) cap4) (.int .i64 ((m+1:Nat):Int)) w5 from ⟨m+1,by omega,rfl,by
    rw [ZEL,Zm];exact hop5,ZL HB.o hgr5 HB.o.size (fun b hb=>(HO.o.lt b hb).1)⟩)
   clear hop5 hgr5 hg5;go_wp2_with fail;go_roundw
   case rel=>simpa using G.o
   case measure=>simp [intOf];omega
  ·obtain rfl:m=16:=by omega
   have HST:=zh (YZ (l:=X4 16) HO.o (by decide) (by decide) HOB.o);have HBB:=zh (HB1.o.trans (HB.o.mono HS1.o));clear hlt hm;go_wp2_with fail;refine (HST.o wr bR).mono ?_;rintro e w' ⟨rv,rfl,hp1,hb1⟩;go_wp2_with fail;refine (HRUN.o w' (HBB.o.trans (hb1.mono HBB.o.size)) _ _ HBB.o.size hp1).mono ?_;rintro e w2 ⟨rfl,hcl⟩;go_wp2;go_returns;exact ⟨rfl,hcl⟩
theorem ZFn (w:World):(isAgg 113).run prog w=.ok true w:=by kernel_rfl
theorem ZDD (w:World):(sizeOf 113).run prog w=.ok 4 w:=by kernel_rfl
def ZCO (f:Nat->Nat)(m:Nat):Value:=.agg #[.int .u64 (f (4 * m):Nat),.int .u64 (f (4 * m+1):Nat),.int .u64 (f (4 * m+2):Nat),.int .u64 (f (4 * m+3):Nat)]
theorem ZHN {CS:Array Value}{f:Nat->Nat}(hz:CS.size=64)(hc:∀ y,y < 64->CS[y]?=some (.int .u64 (f y:Nat))){m:Nat}(hm:m < 16)(w:World):(Instr.index 184 (.agg CS) (.int .i64 (m:Int))).run prog w=.ok (ZCO f m) w:=by
 unfold Instr.index;have hm':(0:Int)<=m/\(m:Int) < (16:Nat):=by omega
 have e:CS.extract (m * 4) (m * 4+4)=#[.int .u64 (f (4 * m):Nat),.int .u64 (f (4 * m+1):Nat),.int .u64 (f (4 * m+2):Nat),.int .u64 (f (4 * m+3):Nat)]:=by
  apply Array.ext_getElem?;intro i;rw [Array.getElem?_extract]
  by_cases hi:i < 4
  ·rw [ZLX (by rw [hz];omega),hc _ (by omega)]
   rcases (show i=0\/i=1\/i=2\/i=3 by omega) with rfl|rfl|rfl|rfl <;> (rw [Nat.mul_comm];rfl)
  ·rw [ZLU (by omega),Array.getElem?_eq_none (by simp;omega)]
 simp only [Sem.run_bind,asIntOf,Sem.run_pure,Result.andThen_ok,run_underlying underlying184];rw [ZLX hm'];simp only [Sem.run_bind,ZDD,Result.andThen_ok,part,ZFn,Int.toNat_natCast];unfold ZCO;rw [<-e];simp only [if_true,Sem.run_bind,ZDD,Result.andThen_ok,Sem.run_pure]
def NmT (f:Nat->Nat)(nm:Nat->Option ByteArray):Prop:=∀ m,m < 16->∀ wx,Calls prog 150 #[ZCO f m] wx fun e w'=>e=.returned (.tuple #[.string ((nm m).getD .empty),.bool (nm m).isSome])/\Bl wx w'
theorem NmT.of {f:Nat->Nat}{n:Nat}{xs:Nat->Nat×Nat}(hf:∀ y,f y < 18446744073709551616)(h0:∀ m,m < 16->n<=m->f (4 * m+3)=0)(h1:∀ m,m < n->f (4 * m)=(xs m).1/\f (4 * m+1)=(xs m).2/\f (4 * m+3)≠0):NmT f fun m=>if m < n then some (nmS (xs m).1 (xs m).2) else none:=fun m hm wx=>by
 by_cases e:m < n
 ·obtain ⟨a,b,d⟩:=h1 m e
  simp only [ZLX e];unfold ZCO;rw [a,b];exact ZGg (a▸hf _) (b▸hf _) d
 ·simp only [ZLU e]
  unfold ZCO;rw [h0 m hm (by omega)];exact ZIM (hf _) (hf _)
def NeN (nm:Nat->Option ByteArray)(m:Nat)(s:ByteArray):Prop:=∀ t,nm m=some t->(t.toList == s.toList)=false
theorem JV {CS:Array Value} {f:Nat->Nat} (hz:CS.size=64) (hc:∀ y,y < 64->CS[y]?=some (.int .u64 (f y:Nat))) {nm:Nat->Option ByteArray} (hn:NmT f nm) {s:ByteArray} {k:Int}
 (hk:(k=-1/\∀ m,m < 16->NeN nm m s)\/∃ j:Nat,j < 16/\k=j/\nm j=some s/\∀ m,m < j->NeN nm m s):
 Calls prog 93 #[.agg CS,.string s] w fun e w'=>e=.returned (.int .i64 k)/\Bl w w':=by
 have HIX:=zh (fun (m:Nat) (hm:m < 16) (wx:World)=>ZHN hz hc hm wx);have HN:=zh hn;have HK:=zh hk;have HZ:=zh hz;clear hz hc hn hk;obtain ⟨w1,hw1⟩:=xE (w.alloc (.cells CS 184));have HX:=zh (show w1.heap[w.heap.size]?=some (.cells CS 184 (0,0)) by rw [hw1];exact ZC _ _);have HB1:=zh (show Bl w w1 by rw [hw1];exact ZA bR);obtain ⟨g,hg⟩:=xE w.heap.size;go_in;go_upto_region 1 with fail;rw [<-hw1,<-hg];rw [<-hg] at HX;clear hw1 hg;go_wp2_with (refine wpList_load_row rfl 184 (.tmp 2) rfl g rfl 184 CS (0,0) _ HX.o underlying184 rfl (by rw [HZ.o];kernel_rfl) ?_)
 go_loopw [10] (fun i wr=>∃ m:Nat,m<=16/\i=.int .i64 m/\(∀ j,j < m->NeN nm j s)/\Bl w wr) (fun i _=>16 - (intOf i).toNat)
 case atStart=>exact ⟨0,by omega,rfl,fun j hj=>by omega,HB1.o⟩
 case round=>
 obtain ⟨m,hm,rfl,hno,hb⟩:=hrel
 by_cases hlt:m < 16
 ·have d0:(m:Int) < 16:=by omega
  have hix:=HIX.o m hlt;have HE:=zh (HN.o m hlt);have HB:=zh hb;have HNO:=zh hno;have HM:=zh hlt;unfold ZCO at hix HE;obtain ⟨f0,hf0⟩:=xE (f (4 * m));obtain ⟨f1,hf1⟩:=xE (f (4 * m+1));obtain ⟨f2,hf2⟩:=xE (f (4 * m+2));obtain ⟨f3,hf3⟩:=xE (f (4 * m+3));rw [<-hf0,<-hf1,<-hf2,<-hf3] at hix HE;clear hb hno hm hlt hf0 hf1 hf2 hf3;go_wp2_with fail;refine (HE.o _).mono ?_;rintro e w2 ⟨rfl,hb2⟩;have HB2:=zh (show Bl w w2 from (ZA HB.o).trans (hb2.mono (ZA HB.o).size));clear hb2 hix;have hM:=HM.o;cases hnm:nm m with
  |none=>
   simp only [Option.getD_none,Option.isSome_none];have HNX:=zh (show ∀ j,j < m+1->NeN nm j s from fun j hj=>by
    by_cases e:j=m
    ·intro t ht;rw [e,hnm] at ht;cases ht
    ·exact HNO.o j (by omega))
   clear hnm;go_wp2_with fail;go_roundw
   case rel=>exact ⟨m+1,by omega,by go_num,HNX.o,HB2.o⟩
   case measure=>simp [intOf];omega
  |some t=>
   simp only [Option.getD_some,Option.isSome_some]
   by_cases e:(t.toList == s.toList)=true
   ·have HE2:=zh (show k=(m:Int) from by
     rcases HK.o with ⟨_,h2⟩|⟨j,h1,h2,h3,h4⟩
     ·have:=h2 m hM t hnm;rw [e] at this;cases this
     ·have:j=m:=by
       rcases Nat.lt_trichotomy j m with h|h|h
       ·have:=HNO.o j h s h3;simp at this
       ·exact h
       ·have:=h4 m h t hnm;rw [e] at this;cases this
      rw [h2,this])
    clear hnm;go_wp2;go_returns;exact ⟨by rw [HE2.o];rfl,HB2.o⟩
   ·have d2:(t.toList == s.toList)=false:=by simpa using e
    have HNX:=zh (show ∀ j,j < m+1->NeN nm j s from fun j hj=>by
     by_cases e2:j=m
     ·intro t2 ht;rw [e2,hnm] at ht;cases ht;exact d2
     ·exact HNO.o j (by omega))
    clear hnm e;go_wp2_with fail;go_roundw
    case rel=>exact ⟨m+1,by omega,by go_num,HNX.o,HB2.o⟩
    case measure=>simp [intOf];omega
 ·obtain rfl:m=16:=by omega
  have HE2:=zh (show k=-1 from by
   rcases HK.o with ⟨h1,_⟩|⟨j,h1,h2,h3,h4⟩
   ·exact h1
   ·have:=hno j (by omega) s h3;simp at this)
  have HB:=zh hb;clear hb hno hm hlt;go_wp2;go_returns;exact ⟨by rw [HE2.o];rfl,HB.o⟩
theorem ZEM (h:Ar w A F 160 T c)(hz:∀ y,y < 64->c (16+y)=0):
 Calls prog 140 #[.iface 116 (.pointer (some ⟨A.t 0,0,none⟩)),.int .i64 2] w fun e w'=>∃ rb,e=.returned (.tuple #[.pointer (some ⟨rb,0,none⟩),.int .i64 0])/\RtB w' A rb/\Bl w w'/\w.heap.size<=rb:=by
 have HLK:=zh (Q0 h);have HLD:=zh (fun (wx:World) (rb:Nat) (hb:Bl w wx) (hr:RtB wx A rb)=>JW (h.below hb) (by omega) hr);have HNT:=zh (NmT.of (f:=fun y=>c (16+y)) (n:=0) (xs:=fun _=>(0,0)) (fun y=>h.word_lt _) (fun m hm _=>hz _ (by omega)) (fun m hm=>by omega));have hmm:=@run_makeMap prog;have HR:=zh (Below.refl w.heap.size w);clear h hz;go_in;go_wp2_with fail;refine HLK.o.mono ?_;rintro e w' ⟨rfl,rfl⟩;go_upto_region 4 with fail;obtain ⟨w1,hw1⟩:=xE (w.alloc (.cells #[.iface 116 (.pointer (some ⟨A.t 0,0,none⟩)),.int .u64 128] 183));have HX:=zh (show RtB w1 A w.heap.size by rw [hw1];exact ZC _ _);have HB1:=zh (show Bl w w1 by rw [hw1];exact ZA HR.o);rw [<-hw1];clear hw1;go_wp2_with fail;refine (HLD.o _ _ HB1.o HX.o).mono ?_;rintro e w2 ⟨CS,rfl,hcs,hcg,hb2⟩;have HB2:=zh (HB1.o.trans (hb2.mono HB1.o.size));have HX2:=zh ((hb2.block _ (heap_lt HX.o)).trans HX.o);have HIX:=zh (fun (m:Nat) (hm:m < 16) (wx:World)=>ZHN hcs hcg hm wx);have HCZ:=zh hcs;have HALL:=zh (show CS.all (·.oneCell')=true from by
  refine Array.all_eq_true_iff_forall_mem.2 fun v hv=>?_
  obtain ⟨j,hj,e⟩:=Array.getElem_of_mem hv;have hj64:j < 64:=by rw [hcs] at hj;exact hj
  have:=hcg j hj64;rw [ZL8 hj,e] at this;cases this;rfl)
 clear hb2 hcs hcg HLD HLK;go_upto_region 5 with (refine wpList_store_row rfl 184 (.tmp 7) (.tmp 27) rfl w2.heap.size CS rfl rfl 184 _ (ZC _ _) (by rw [HCZ.o];kernel_rfl) (by rw [HCZ.o];rfl) HALL.o ?_)
 generalize hold:(Obj.cells _ 184 (0,0))=OB;obtain ⟨w3,hw3⟩:=xE ((w2.alloc OB).setRow w2.heap.size CS);obtain ⟨g,hg⟩:=xE w2.heap.size;have h23:Bl w2 w3:=by rw [hw3];exact Yi (ZA bR) nR CS
 have HC3:=zh (show w3.heap[g]?=some (.cells CS 184 (0,0)) by rw [hw3,<-hold,hg];exact setRow_heap _ _ _ _ _ _ (ZC _ _));have HB3:=zh (HB2.o.trans (h23.mono HB2.o.size));have HX3:=zh ((h23.block _ (heap_lt HX2.o)).trans HX2.o);rw [<-hw3,<-hg];clear hw3 hold OB HALL h23 hg;go_upto_region 9 with fail;obtain ⟨w4,hw4⟩:=xE (w3.alloc (.map #[] 0));have h34:Bl w3 w4:=by rw [hw4];exact ZA bR
 have HB4:=zh (HB3.o.trans (h34.mono HB3.o.size));have HC4:=zh ((h34.block _ (heap_lt HC3.o)).trans HC3.o);have HX4:=zh ((h34.block _ (heap_lt HX3.o)).trans HX3.o);obtain ⟨mp,hmp⟩:=xE w3.heap.size;rw [<-hw4,<-hmp];clear hw4 hmp h34;go_wp2_with (refine wpList_load_row rfl 184 (.tmp 7) rfl g rfl 184 CS (0,0) _ HC4.o underlying184 rfl (by rw [HCZ.o];kernel_rfl) ?_)
 go_loopw [10,34] (fun z i wr=>z=.bool false/\∃ m:Nat,m<=16/\i=.int .i64 m/\Bl w4 wr) (fun _ i _=>16 - (intOf i).toNat)
 case atStart=>exact ⟨rfl,0,by omega,rfl,bR⟩
 case round=>
 obtain ⟨rfl,m,hm,rfl,hb⟩:=hrel
 by_cases hlt:m < 16
 ·have d0:(m:Int) < 16:=by omega
  have hix:=HIX.o m hlt;have HE:=zh (HNT.o m hlt);have HB:=zh hb;have HM:=zh hlt;simp only [Nat.not_lt_zero,if_false] at HE;unfold ZCO at hix HE;simp only at hix;obtain ⟨f0,hf0⟩:=xE (c (16+4 * m));obtain ⟨f1,hf1⟩:=xE (c (16+(4 * m+1)));obtain ⟨f2,hf2⟩:=xE (c (16+(4 * m+2)));obtain ⟨f3,hf3⟩:=xE (c (16+(4 * m+3)));rw [<-hf0,<-hf1,<-hf2,<-hf3] at hix;simp only [<-hf0,<-hf1,<-hf2,<-hf3,Option.getD_none,Option.isSome_none] at HE;clear hb hm hlt hf0 hf1 hf2 hf3;go_wp2_with fail;refine (HE.o _).mono ?_;rintro e w5 ⟨rfl,hb5⟩;have HB5:=zh (show Bl w4 w5 from (ZA HB.o).trans (hb5.mono (ZA HB.o).size));clear hb5 hix;have hM:=HM.o;go_wp2_with fail;go_roundw
  case rel=>exact ⟨rfl,m+1,by omega,by go_num,HB5.o⟩
  case measure=>simp [intOf];omega
 ·obtain rfl:m=16:=by omega
  have HE:=zh (show RtB wr A w.heap.size/\Bl w wr from ⟨(hb.block _ (heap_lt HX4.o)).trans HX4.o,HB4.o.trans (hb.mono HB4.o.size)⟩);clear hb hm hlt;go_wp2;go_returns;exact ⟨_,rfl,HE.o.1,HE.o.2,nR⟩
end
end Go.Proofs.YtbpeehmepehkdaaGreatDoor.Dv
namespace Go.Proofs.YtbpeehmepehkdaaGreatDoor.Ev
open Tryz
section
open Go Go.RowKit
def Gn:Nat:=4
def ZLN:List Value:=[.int .i64 3,.int .i64 7,.int .i64 15,.int .i64 31,.int .i64 60]
def nibN:List Nat:=[0,274646895,549293790,820201905,1098587580,1361435347,1640403810,1905808397,2197175160,2460548119,2722870694,2987750089,3280807620,3553878443,3811616794,4084100981]
def ZLK:List Value:=nibN.map fun n=>.int .u32 (n:Nat)
def ZGm (w:World)(g t:Nat)(l:List Value):Prop:=∃ arr:Array Value,w.heap[g]?=some (.cells arr t (0,0))/\arr.toList=l
structure GOk (w:World)(t u:TypeId):Prop where
 size:Gn<=w.heap.size
 pay:ZGm w 0 t ZLN
 nib:ZGm w 1 u ZLK
theorem Ql {P:Program}{w:World}:∀ {l:List (String×DataW Unit)} {ps:List MemPlace},DataW.LaidVars P w l ps->∀ n d,(n,d)∈l->
 ∃ g cs,P.globalNamed n=some g/\w.var? P n=some cs/\∀ i,i < cs.size->MemPlace.cell g i∈ps
 |[],_,_,_,_,hm=>by cases hm
 |(n',d'):: r,ps,h,n,d,hm=>by
  obtain ⟨g,t,cs,fuel,p,q,h1,h2,h3,h4,h5,h6⟩:=h;rcases List.mem_cons.1 hm with e|e
  ·cases e
   refine ⟨g,cs,h1,h3,fun i hi=>?_⟩;rw [h6];refine ZLZ.2 (.inl (ZLZ.2 (.inl ?_)));simp [MemPlace.row,hi]
  ·obtain ⟨g',cs',a,b,c⟩:=Ql h5 n d e
   exact ⟨g',cs',a,b,fun i hi=>by rw [h6];exact ZLZ.2 (.inr (c i hi))⟩
theorem holds_of {P:Program}{W:World}{l:List (String×DataW Unit)}(h:laidMet P l W){name:String}{g:Nat}{d:DataW Unit}(hg:P.globalNamed name=some g)(hm:(name,d)∈l):
 ∃ cs,W.var? P name=some cs/\g < W.heap.size/\(0 < cs.size->∃ t,W.heap[g]?=some (.cells cs t (0,0))):=by
 obtain ⟨ps,hv,_,hc⟩:=h;obtain ⟨g',cs,h1,h2,h3⟩:=Ql hv name d hm;rw [hg] at h1;cases h1;have h4:=h2;unfold World.var? at h4;rw [hg] at h4;simp only [Option.bind_some] at h4;split at h4
 case h_2=>cases h4
 rename_i cs' t' fr' hb;cases h4;refine ⟨cs,h2,Dv.heap_lt hb,fun hpos=>?_⟩;obtain ⟨⟨c,t,hh⟩,_⟩:=hc g 0 (h3 0 hpos);rw [hb] at hh;cases hh;exact ⟨_,hb⟩
end
end Go.Proofs.YtbpeehmepehkdaaGreatDoor.Ev
namespace Go.Proofs.YtbpeehmepehkdaaGreatDoor.Dv
open Tryz
section
open Go.RowKit Go.Proofs.YtbpeehmepehkdaaGreatDoor.Size
def T0 (i:Nat):Nat:=Ev.nibN.getD i 0
theorem ZIk {w:World}{t u:TypeId}(h:Ev.GOk w t u):NTab w T0:=by
 obtain ⟨arr,h1,h2⟩:=h.nib;intro i hi;rw [ZD h1,<-ZLx,h2];rcases (show i=0\/i=1\/i=2\/i=3\/i=4\/i=5\/i=6\/i=7\/i=8\/i=9\/i=10\/i=11\/i=12\/i=13\/i=14\/i=15 by omega) with rfl|rfl|rfl|rfl|rfl|rfl|rfl|rfl|rfl|rfl|rfl|rfl|rfl|rfl|rfl|rfl <;> exact ⟨by decide,rfl⟩
theorem ZIl {w:World}{t u:TypeId}(h:Ev.GOk w t u):Tab w:=by
 obtain ⟨arr,h1,h2⟩:=h.pay;refine ⟨?_,?_,?_,?_,?_⟩ <;> (rw [ZD h1,<-ZLx,h2];rfl)
variable {w w':World}{A:DAd}{F F':Nat->Option ZM}{T c c':Nat->Nat}{x x' L:Nat}
theorem ZBr (h:Aq w A F 160 T c x)(hx:x+10<=1000000):
 Calls prog 129 #[.iface 116 (.pointer (some ⟨A.t 0,0,none⟩)),.int .i64 10,.int .i64 26] w fun e w'=>e=.returned (.int .i64 0)/\∃ F',Aq w' A F' 160 T (wrs c [(640,0)]) (x+10)/\Moved F F' w w':=by
 have HH:=zh (Js h.ar (t:=0) (by omega));have HER:=zh (Zs h.ar (i:=0) (by omega))
 have HRUN:=zh (fun (w1:World) (hb:Bl w w1) (v:Value) (B:Nat) (hB:w.heap.size<=B) (hp:Prg w1 B v (Ze [[(640,0)]]))=>
  VO h (ls:=[[(640,0)]]) (x':=x+10) (by decide) (by decide) (Nat.add_le_add_left (show Zw [[(640,0)]]<=10 by decide) x) hx w1 hb hp hB)
 have hflat:[[(640,0)]].flatten=[((640:Nat),(0:Nat))]:=rfl;rw [hflat,Z2] at HRUN;clear h hx hflat;go_in;go_wp2_with fail;refine HH.o.mono ?_;rintro e w1 ⟨rfl,hw1⟩;have HB1:=zh (show Bl w w1 by rw [hw1];exact ZA bR);have HM:=zh (JX (w:=w1) (b:=w.heap.size) (A:=A) (t:=0) (off:=640) (size:=1664) (v:=0) (by rw [hw1];exact ZC _ _) (by omega));have hne:=YT;clear hw1;go_wp2_with fail;refine (HER.o w1 HB1.o).mono ?_;rintro e w' ⟨rfl,rfl⟩;go_wp2_with fail;refine HM.o.mono ?_;rintro e w2 ⟨rv,rfl,hp1,hb1⟩;go_wp2_with fail;refine (HRUN.o w2 (HB1.o.trans (hb1.mono HB1.o.size)) _ _ HB1.o.size hp1).mono ?_;rintro e w3 ⟨rfl,hcl⟩;go_wp2;go_returns;exact ⟨rfl,hcl⟩
theorem mvalid_yes:Calls prog 198 #[.agg #[.int .i64 62,.int .i64 8,.int .u64 10240]] w fun e w'=>e=.returned (.bool true)/\Bl w w':=by
 go_in;go_wp2;go_returns;exact ⟨rfl,ZA bR⟩
theorem mcount_yes:Calls prog 199 #[.agg #[.int .i64 62,.int .i64 8,.int .u64 10240]] w fun e w'=>e=.returned (.int .i64 2)/\Bl w w':=by
 go_in;go_wp2;go_returns;exact ⟨rfl,ZA bR⟩
theorem ZEx {k:Nat}(hk:k < 2):Calls prog 200 #[.agg #[.int .i64 62,.int .i64 8,.int .u64 10240],.int .i64 k] w fun e w'=>e=.returned (.int .u64 (3968+256 * k:Nat))/\Bl w w':=by
 have b1:(k:Int) < 2:=by omega
 clear hk;go_in;go_wp2;go_returns;refine ⟨by rw [show ((3968+256 * k:Nat):Int)=(62+(k:Int) * 4) * 64 by omega];rfl,ZA bR⟩
def Xt (n:Nat):List (Nat×Nat):=(List.range n).map fun k=>(3968+256 * k,1836515329)
theorem ZDr (n:Nat):Xt (n+1)=Xt n++[(3968+256 * n,1836515329)]:=by unfold Xt;rw [ZLy,ZLs];rfl
def MfR (W:World)(v i:Value)(wr:World):Prop:=
 ∃ m:Nat,m<=2/\i=.int .i64 (m:Nat)/\wr.ownsRow W.heap.size 138 2 v m (ZT (Xt m))/\Bl W wr
theorem Yt {w w1:World}{b:Nat}{t:TypeId}{cs:Array Value}(h:w1.heap[b]?=some (.cells cs t (0,0)))(hb:Bl w1 w):w.heap[b]?=some (.cells cs t (0,0)):=(hb.block _ (heap_lt h)).trans h
theorem ZCk (h:Aq w A F 160 T c x)(hx:x+10<=1000000):
 Calls prog 130 #[.iface 116 (.pointer (some ⟨A.t 0,0,none⟩)),.int .i64 62,.int .i64 8] w fun e w'=>e=.returned (.int .i64 0)/\∃ F',Aq w' A F' 160 T (wrs c (Xt 2)) (x+10)/\Moved F F' w w':=by
 have HS:=zh (Xp h.ar (i:=0) (by omega));have HER:=zh (Zs h.ar (i:=0) (by omega))
 have HRUN:=zh (fun (w1:World) (hb:Bl w w1) (v:Value) (B:Nat) (hB:w.heap.size<=B) (hp:Prg w1 B v (Ze [Xt 2]))=>
  VO h (ls:=[Xt 2]) (x':=x+10) (by decide) (by decide) (Nat.add_le_add_left (show Zw [Xt 2]<=10 by decide) x) hx w1 hb hp hB)
 have hflat:[Xt 2].flatten=Xt 2:=by simp
 rw [hflat,Z2] at HRUN;have HOB:=zh (show ∀ y∈Xt 2,y.1 < 18446744073709551616 by decide);have HR0:=zh (Below.refl w.heap.size w);rw [show ((160 * 64:Nat):Int)=10240 by rfl] at HS;clear h hx hflat;go_in;have hne:=YT;go_wp2_with fail;refine (HS.o w HR0.o).mono ?_;rintro e w' ⟨rfl,rfl⟩;go_upto_region 4 with fail;obtain ⟨w1,hw1⟩:=xE (w.alloc (.cells #[.int .i64 62,.int .i64 8,.int .u64 10240] 325));obtain ⟨rb,hrb⟩:=xE w.heap.size;have HG:=zh (show w1.heap[rb]?=some (.cells #[.int .i64 62,.int .i64 8,.int .u64 10240] 325 (0,0)) by rw [hw1,hrb];exact ZC _ _);have HB1:=zh (show Bl w w1 by rw [hw1];exact ZA bR);have HGX:=zh (fun (wx:World) (hb:Bl w1 wx)=>ZY (Yt HG.o hb));rw [<-hw1,<-hrb];clear hw1 hrb;obtain ⟨c0,c1,c2,_⟩:=ZY HG.o;go_wp2_with fail;refine mvalid_yes.mono ?_;rintro e w2 ⟨rfl,hb2⟩;have HB2:=zh (HB1.o.trans (hb2.mono HB1.o.size));have hb2':=zh hb2;clear hb2 c0 c1 c2;go_wp2_with fail;refine (HER.o w2 HB2.o).mono ?_;rintro e w' ⟨rfl,rfl⟩;obtain ⟨c0,c1,c2,_⟩:=HGX.o w2 hb2'.o;go_wp2_with fail;refine mcount_yes.mono ?_;rintro e w3 ⟨rfl,hb3⟩;have HB3:=zh (hb2'.o.trans (hb3.mono hb2'.o.size));have HBB3:=zh (HB1.o.trans (HB3.o.mono HB1.o.size));clear hb3 c0 c1 c2;go_wp2_with fail
 go_loopw [9,28] (fun v i wr=>MfR w3 v i wr) (fun _ i _=>2 - (intOf i).toNat)
 case atStart=>exact ⟨0,by omega,rfl,ZLn _ _ _ _,bR⟩
 case round=>
  obtain ⟨m,hm,rfl,hown,hbel⟩:=hrel;have HB:=zh hbel;have HO:=zh hown;obtain ⟨ra,rc,hv⟩:=ZN hown;subst hv;clear hown hbel
  by_cases hlt:m < 2
  ·have d0:(m:Int) < 2:=by omega
   have HA:=zh (fun (wx:World)=>ZEx (w:=wx) hlt);obtain ⟨c0,c1,c2,_⟩:=HGX.o wr (HB3.o.trans (HB.o.mono HB3.o.size));clear hlt;go_wp2_with fail;refine (HA.o _).mono ?_;rintro e w4 ⟨rfl,hb4⟩;have HO4:=zh (ZO HO.o hb4);have HB4:=zh (HB.o.trans (hb4.mono HB.o.size));clear hb4 c0 c1 c2;go_wp2_with (at_builtin;refine ZS elWrites rfl _ _ rfl HO4.o rfl rfl ?c1 rfl ?c2 ?c3 ?c4 ?c5 ?_)
   case c1=>rfl
   case c2=>exact ⟨rfl,rfl⟩
   case c3=>unfold maxLen;omega
   case c4=>omega
   case c5=>exact HB4.o.size
   intro g4 cap4 w5 hop5 hgr5 hg5
   have G:=zh (show MfR w3 (.slice (some ⟨g4,0,none⟩) (m+1) cap4) (.int .i64 ((m+1:Nat):Int)) w5 from ⟨m+1,by omega,rfl,by
    rw [ZDr,Zm];exact hop5,ZL HB4.o hgr5 HB4.o.size (fun b hb=>(HO4.o.lt b hb).1)⟩)
   clear hop5 hgr5 hg5;go_wp2_with fail;go_roundw
   case rel=>simpa using G.o
   case measure=>simp [intOf];omega
  ·obtain rfl:m=2:=by omega
   have HST:=zh (YZ (l:=Xt 2) HO.o (by decide) (by decide) HOB.o);have HBB:=zh (HBB3.o.trans (HB.o.mono HBB3.o.size));clear hlt hm;go_wp2_with fail;refine (HST.o wr bR).mono ?_;rintro e w' ⟨rv,rfl,hp1,hb1⟩;go_wp2_with fail;refine (HRUN.o w' (HBB.o.trans (hb1.mono HBB.o.size)) _ _ HBB.o.size hp1).mono ?_;rintro e w2 ⟨rfl,hcl⟩;go_wp2;go_returns;exact ⟨rfl,hcl⟩
theorem epack1:Calls prog 165 #[.int .u64 1] w fun e w'=>e=.returned (.int .u64 7309464666214760449)/\w=w':=by
 go_in;go_wp2;go_returns;exact ⟨rfl,rfl⟩
def UR (n:Nat):List (Nat×Nat):=(4480,7309464666214760449):: (List.range n).map fun k=>(4480+8 * (k+1),0)
theorem ZFc (n:Nat):UR (n+1)=UR n++[(4480+8 * (n+1),0)]:=by unfold UR;rw [ZLy,ZLs];rfl
def EfR (W:World)(v i:Value)(wr:World):Prop:=
 ∃ m:Nat,m<=7/\i=.int .u64 ((m+1:Nat):Int)/\wr.ownsRow W.heap.size 138 2 v (m+1) (ZT (UR m))/\Bl W wr
theorem ZCN (h:Aq w A F 160 T c x)(hx:x+20<=1000000):
 Calls prog 131 #[.iface 116 (.pointer (some ⟨A.t 0,0,none⟩)),.int .i64 70] w fun e w'=>e=.returned (.int .i64 0)/\∃ F',Aq w' A F' 160 T (wrs c (UR 7)) (x+20)/\Moved F F' w w':=by
 have HS:=zh (Xp h.ar (i:=0) (by omega));have HER:=zh (Zs h.ar (i:=0) (by omega))
 have HRUN:=zh (fun (w1:World) (hb:Bl w w1) (v:Value) (B:Nat) (hB:w.heap.size<=B) (hp:Prg w1 B v (Ze [UR 7]))=>
  VO h (ls:=[UR 7]) (x':=x+20) (by decide) (by decide) (Nat.add_le_add_left (show Zw [UR 7]<=20 by decide) x) hx w1 hb hp hB)
 have hflat:[UR 7].flatten=UR 7:=by simp
 rw [hflat,Z2] at HRUN;have HOB:=zh (show ∀ y∈UR 7,y.1 < 18446744073709551616 by decide);have HR0:=zh (Below.refl w.heap.size w);rw [show ((160 * 64:Nat):Int)=10240 by rfl] at HS;clear h hx hflat;go_in;have hne:=YT;go_wp2_with fail;refine (HS.o w HR0.o).mono ?_;rintro e w' ⟨rfl,rfl⟩;go_wp2_with fail;refine (HER.o w HR0.o).mono ?_;rintro e w' ⟨rfl,rfl⟩;go_wp2_with fail;refine epack1.mono ?_;rintro e w' ⟨rfl,rfl⟩;go_upto_region 8 with fail;obtain ⟨w1,hw1⟩:=xE (w.alloc (.cells #[.int .u64 4480,.int .u64 7309464666214760449] 138));have HO1:=zh (show EfR w (.slice (some ⟨w.heap.size,0,none⟩) 1 1) (.int .u64 1) w1 from by rw [hw1];exact ⟨0,by omega,rfl,⟨rfl,.inr ⟨_,1,_,rfl,nR,ZC _ _,by omega,by decide,rfl,rfl⟩⟩,ZA bR⟩);rw [<-hw1];clear hw1;go_wp2_with fail
 go_loopw [7,8] (fun v i wr=>EfR w v i wr) (fun _ i _=>8 - (intOf i).toNat)
 case atStart=>exact HO1.o
 case round=>
  obtain ⟨m,hm,rfl,hown,hbel⟩:=hrel;have HB:=zh hbel;have HO:=zh hown;obtain ⟨ra,rc,hv⟩:=ZN hown;subst hv;clear hown hbel
  by_cases hlt:m < 7
  ·obtain ⟨q,hq⟩:=xE (m+1)
   have HQ:=zh hq;rw [<-hq] at HO ⊢;have d0:(q:Int) < 8:=by omega
   clear hq hlt;go_wp2_with (at_builtin;refine ZS elWrites rfl _ _ rfl HO.o rfl rfl ?c1 rfl ?c2 ?c3 ?c4 ?c5 ?_)
   case c1=>rfl
   case c2=>exact ⟨rfl,rfl⟩
   case c3=>unfold maxLen;omega
   case c4=>omega
   case c5=>exact HB.o.size
   intro g4 cap4 w5 hop5 hgr5 hg5
   have G:=zh (show EfR w (.slice (some ⟨g4,0,none⟩) (q+1) cap4) (.int .u64 ((q+1:Nat):Int)) w5 from ⟨q,by omega,rfl,by
    have e1:(4480+(q:Int) * 8)=((4480+8 * (m+1):Nat):Int):=by have:=HQ.o;omega
    rw [e1] at hop5;rw [show UR q=UR m++[(4480+8 * (m+1),0)] by rw [HQ.o];exact ZFc m,Zm];exact hop5,ZL HB.o hgr5 HB.o.size (fun b hb=>(HO.o.lt b hb).1)⟩)
   clear hop5 hgr5 hg5;go_wp2_with fail;go_roundw
   case rel=>simpa using G.o
   case measure=>simp [intOf];omega
  ·obtain rfl:m=7:=by omega
   have HST:=zh (YZ (l:=UR 7) HO.o (by decide) (by decide) HOB.o);clear hlt hm;go_wp2_with fail;refine (HST.o wr bR).mono ?_;rintro e w' ⟨rv,rfl,hp1,hb1⟩;go_wp2_with fail;refine (HRUN.o w' (HB.o.trans (hb1.mono HB.o.size)) _ _ HB.o.size hp1).mono ?_;rintro e w2 ⟨rfl,hcl⟩;go_wp2;go_returns;exact ⟨rfl,hcl⟩
theorem QN (ha:Ar w A F 160 T c):Calls prog 243 #[.iface 116 (.pointer (some ⟨A.t 0,0,none⟩)),.int .i64 71,.int .i64 64] w fun e w'=>e=.returned (.bool true)/\w=w':=by
 have HS:=zh (Xp ha (i:=0) (by omega) w bR);rw [show ((160 * 64:Nat):Int)=10240 by rfl] at HS;clear ha;go_in;go_wp2_with fail;refine HS.o.mono ?_;rintro e w' ⟨rfl,rfl⟩;go_wp2;go_returns;exact ⟨rfl,rfl⟩
def chk0:Chk:=⟨-1,-1,1,fun _=>⟨0,0,0⟩⟩
theorem chk0_head:chk0.Head:=⟨by decide,.inl ⟨rfl,rfl⟩⟩
theorem ZFN (hT:NTab w T){line:Nat}(hl:line<=4064):
 Calls prog 244 #[.int .i64 line,.int .u16 1] w fun e w'=>∃ v,e=.returned (.tuple #[v,.int .i64 0])/\Prg w' w.heap.size v (Zk [(line * 64,Zc T chk0.info)])/\Bl w w':=by
 have HPO:=zh (fun w1=>Uy (w:=w1) hl);have HST:=zh (fun w1=>Yj (w:=w1) (line:=line) (by omega));have HHW:=zh (fun w1 (hb:Bl w w1)=>ZAl (hT.below hb nR) chk0_head);obtain ⟨S2,hS2⟩:=xE (Zc T chk0.info);rw [<-hS2] at HHW ⊢;obtain ⟨M,hM⟩:∃ M:Nat,M=line * 64:=⟨_,rfl⟩
 rw [<-hM] at HST ⊢;have b1:(M:Int)<=262144:=by omega
 unfold hdV chk0 at HHW;clear hT hl hM hS2;go_in;go_wp2_with fail;refine (HPO.o _).mono ?_;rintro e w' ⟨rfl,rfl⟩;go_upto_region 4 with fail;obtain ⟨wr,hwr⟩:=xE (w.alloc (.cells #[.int .i64 (-1),.int .i64 (-1),.int .u16 1] 209));have HH4:=zh (show wr.heap[w.heap.size]?=some (.cells #[.int .i64 (-1),.int .i64 (-1),.int .u16 1] 209 (0,0)) by rw [hwr];exact ZC _ _);have HB4:=zh (show Bl w wr by rw [hwr];exact ZA bR);rw [<-hwr];clear hwr;have HHW1:=zh (Xi HB4.o HHW.o);have HSS1:=zh (Yl HB4.o (M:=M) (S:=S2) (by omega));have HR0:=zh (Below.refl wr.heap.size wr);have HK:=zh (fun (wx:World) (hb:Bl wr wx)=>(show wx.cell? ⟨w.heap.size,0,none⟩=some (.int .i64 (-1))/\wx.cell? ⟨w.heap.size,1,none⟩=some (.int .i64 (-1))/\wx.cell? ⟨w.heap.size,2,none⟩=some (.int .u16 1) from by obtain ⟨a0,a1,a2,_⟩:=ZY (Yt HH4.o hb);exact ⟨a0,a1,a2⟩));obtain ⟨a0,a1,a2,_⟩:=ZY HH4.o;clear HHW
 go_region_held3 (fun wx=>wx.cell? ⟨w.heap.size,0,none⟩=some (.int .i64 (-1))/\wx.cell? ⟨w.heap.size,1,none⟩=some (.int .i64 (-1))/\wx.cell? ⟨w.heap.size,2,none⟩=some (.int .u16 1))
  (first|(refine ⟨?_,?_,?_⟩ <;> assumption)|exact HK.o _ (by repeat (with_reducible first|assumption|exact HR0.o|apply ZA|apply ZB)))
  (first
    |(go_at_call 230;refine (HST.o _).mono ?_;rintro e V1 ⟨rfl,rfl⟩)
    |(go_at_call 260;refine (HHW1.o _ (by repeat (with_reducible first|assumption|exact HR0.o|apply ZA|apply ZB))).mono ?_;rintro e V2 ⟨rfl,hb2⟩)
    |(go_at_call 111;refine (HSS1.o _ (by repeat (with_reducible first|assumption|exact HR0.o|apply ZA|apply ZB))).mono ?_;rintro e V3 ⟨r,rfl,hp3,hb3⟩))
 all_goals
  go_wp2;go_returns;exact ⟨_,rfl,hp3.mono HB4.o.size,HB4.o.trans (hb3.mono HB4.o.size)⟩
def ZDk (T:Nat->Nat)(n:Nat):List (Nat×Nat):=(List.range n).map fun i=>((71+32 * i) * 64,Zc T chk0.info)
theorem ZFP (T:Nat->Nat)(n:Nat):ZDk T (n+1)=ZDk T n++[((71+32 * n) * 64,Zc T chk0.info)]:=by unfold ZDk;rw [ZLy,ZLs];rfl
def AfR (W:World)(A:DAd)(F:Nat->Option ZM)(T c:Nat->Nat)(x:Nat)(i:Value)(wr:World):Prop:=
 ∃ m:Nat,m<=2/\i=.int .i64 (m:Nat)/\∃ F',Aq wr A F' 160 T (wrs c (ZDk T m)) (x+4 * m)/\Moved F F' W wr
theorem ZB2 (h:Aq w A F 160 T c x)(hx:x+10<=1000000):
 Calls prog 201 #[.iface 116 (.pointer (some ⟨A.t 0,0,none⟩)),.int .i64 71,.int .i64 64] w fun e w'=>e=.returned (.int .i64 0)/\∃ F',Aq w' A F' 160 T (wrs c (ZDk T 2)) (x+10)/\Moved F F' w w':=by
 have HV:=zh (QN h.ar);have HER:=zh (Zs h.ar (i:=0) (by omega) w bR);have H:=zh h;have HX:=zh hx;clear h hx;go_in;have hne:=YT;go_wp2_with fail;refine HV.o.mono ?_;rintro e w' ⟨rfl,rfl⟩;go_wp2_with fail;refine HER.o.mono ?_;rintro e w' ⟨rfl,rfl⟩;go_wp2_with fail
 go_loopw [24] (fun i wr=>AfR w A F T c x i wr) (fun i _=>2 - (intOf i).toNat)
 case atStart=>exact ⟨0,by omega,rfl,F,H.o,Moved.refl _ _⟩
 case round=>
  obtain ⟨m,hm,rfl,F1,ha,hmv⟩:=hrel;have HA:=zh ha;have HM:=zh hmv;clear ha hmv
  by_cases hlt:m < 2
  ·have d0:(m:Int) < 2:=by omega
   obtain ⟨ln,hln⟩:=xE (71+32 * m);have HC:=zh (ZFN (line:=ln) HA.o.nib (by omega))
   have HRUN:=zh (fun (w1:World) (hb:Bl wr w1) (v:Value) (hp:Prg w1 wr.heap.size v (Ze [[(ln * 64,Zc T chk0.info)]]))=>
    VO HA.o (ls:=[[(ln * 64,Zc T chk0.info)]]) (x':=x+4 * (m+1)) (by have:=Zq [(ln * 64,Zc T chk0.info)];rw [Z2];exact this) (fun l hl y hy=>by
     rw [ZLt.1 hl] at hy;rw [ZLt.1 hy];have:=Xe HA.o.nib chk0_head.info_lt;exact ⟨by simp only;omega,by simp only;omega,this⟩) (by simp only [Zw,List.length_cons,List.length_nil];omega) (by have:=HX.o;omega) w1 hb hp nR)
   rw [Z2] at HRUN;have HLN:=zh hln;have e1:(71+(m:Int) * 32)=ln:=by omega
   rw [<-e1] at HC;clear hlt e1 hln;go_wp2_with fail;refine HC.o.mono ?_;rintro e w1 ⟨v,rfl,hp,hb⟩;go_wp2_with fail;refine (HRUN.o w1 hb v hp).mono ?_;rintro e w2 ⟨rfl,F2,h1,h2⟩
   have G:=zh (show AfR w A F T c x (.int .i64 ((m+1:Nat):Int)) w2 from ⟨m+1,by omega,rfl,F2,by
    rw [ZFP,YF,<-HLN.o];exact h1,HM.o.trans h2⟩)
   clear h1 h2 hp hb;go_wp2_with fail;go_roundw
   case rel=>simpa using G.o
   case measure=>simp [intOf];omega
  ·obtain rfl:m=2:=by omega
   have HE2:=zh (Zs HA.o.ar (i:=0) (by omega) wr bR);clear hlt hm;go_wp2_with fail;refine HE2.o.mono ?_;rintro e w' ⟨rfl,rfl⟩;go_wp2;go_returns;exact ⟨rfl,F1,HA.o.mono (by omega),HM.o⟩
theorem ZBD (h:Aq w A F 160 T c x)(hx:x+10<=1000000):
 Calls prog 132 #[.iface 116 (.pointer (some ⟨A.t 0,0,none⟩)),.int .i64 71,.int .i64 64] w fun e w'=>e=.returned (.int .i64 0)/\∃ F',Aq w' A F' 160 T (wrs c (ZDk T 2)) (x+10)/\Moved F F' w w':=by
 have HC:=zh (ZB2 h hx);clear h hx;go_in;go_wp2_with fail;refine HC.o.mono ?_;rintro e w1 ⟨rfl,h1⟩;go_wp2;go_returns;exact ⟨rfl,h1⟩
def ZFj (n:Nat):List (Nat×Nat):=(List.range n).map fun i=>(64 * i+56,0)
theorem ZFk (n:Nat):ZFj (n+1)=ZFj n++[(64 * n+56,0)]:=by unfold ZFj;rw [ZLy,ZLs];rfl
def IvR (W:World)(A:DAd)(F:Nat->Option ZM)(T c:Nat->Nat)(x:Nat)(i:Value)(wr:World):Prop:=
 ∃ m:Nat,m<=2/\i=.int .i64 (m:Nat)/\∃ F',Aq wr A F' 160 T (wrs c (ZFj m)) (x+4 * m)/\Moved F F' W wr
theorem YL {w w':World}{b:Nat}{o:Obj}(h:Moved F F' w w')(hF:F b=none)(hb:w.heap[b]?=some o):w'.heap[b]?=some o:=
 (h.only.block _ (heap_lt hb) (by simp [hF])).trans hb
theorem ZIs (h:Aq w A F 160 T c x)(hx:x+10<=1000000)(hz:∀ y,y < 16->c y=0):
 Calls prog 79 #[.pointer (some ⟨A.t 0,0,none⟩)] w fun e w'=>e=.returned (.int .i64 0)/\∃ F',Aq w' A F' 160 T (wrs c (ZFj 2)) (x+10)/\Moved F F' w w':=by
 have HC:=zh (ZGN h.ar (by omega) hz);have H:=zh h;have HX:=zh hx;clear h hx hz;go_in;go_wp2_with fail;refine HC.o.mono ?_;rintro e w1 ⟨rfl,hb1⟩;have HB1:=zh hb1;clear hb1;go_upto_region 6 with fail;obtain ⟨w2,hw2⟩:=xE (w1.alloc (.cells #[.int .u64 0,.int .u64 64] 31));obtain ⟨sb,hsb⟩:=xE w1.heap.size;have HS:=zh (show w2.heap[sb]?=some (.cells #[.int .u64 0,.int .u64 64] 31 (0,0)) by rw [hw2,hsb];exact ZC _ _);have HB2:=zh (show Bl w w2 by rw [hw2];exact ZA HB1.o);have HSN:=zh (show F sb=none from H.o.new (by rw [hsb];exact HB1.o.size));have HA2:=zh (H.o.below HB2.o);rw [<-hw2,<-hsb];clear hw2 hsb
 go_loopw [35] (fun i wr=>IvR w2 A F T c x i wr) (fun i _=>2 - (intOf i).toNat)
 case atStart=>exact ⟨0,by omega,rfl,F,HA2.o,Moved.refl _ _⟩
 case round=>
  obtain ⟨m,hm,rfl,F1,ha,hmv⟩:=hrel;have HA:=zh ha;have HM:=zh hmv;clear ha hmv
  by_cases hlt:m < 2
  ·have d0:(m:Int) < 2:=by omega
   obtain ⟨O,hO⟩:=xE (64 * m);have hOb:(O:Int) < 1000:=by omega
   have c0:wr.cell? ⟨sb,m,none⟩=some (.int .u64 (O:Nat)):=by
    rw [ZD (YL HM.o HSN.o HS.o),hO]
    match m,hlt with
    |0,_=>rfl
    |1,_=>rfl
   have HST:=zh (Yl (Below.refl wr.heap.size wr) (M:=O+56) (S:=0) (by omega) wr (Below.refl wr.heap.size wr));rw [show ((O+56:Nat):Int)=(O:Int)+56 by omega] at HST
   have HRUN:=zh (fun (w1:World) (hb:Bl wr w1) (v:Value) (hp:Prg w1 wr.heap.size v (Ze [[(O+56,0)]]))=>
    VO HA.o (ls:=[[(O+56,0)]]) (x':=x+4 * (m+1)) (by have:=Zq [(O+56,0)];rw [Z2];exact this) (fun l hl y hy=>by
     rw [ZLt.1 hl] at hy;rw [ZLt.1 hy];exact ⟨by simp only;omega,by simp only;omega,by simp only;omega⟩) (by simp only [Zw,List.length_cons,List.length_nil];omega) (by have:=HX.o;omega) w1 hb hp nR)
   rw [Z2] at HRUN;have HO:=zh hO;clear hlt hO;go_wp2_with fail;refine HST.o.mono ?_;rintro e w3 ⟨v,rfl,hp,hb⟩;have HP:=zh hp;have HB:=zh hb;clear c0 hp hb;go_wp2_with fail;refine (HRUN.o w3 HB.o v HP.o).mono ?_;rintro e w4 ⟨rfl,F2,h1,h2⟩
   have G:=zh (show IvR w2 A F T c x (.int .i64 ((m+1:Nat):Int)) w4 from ⟨m+1,by omega,rfl,F2,by
    rw [ZFk,YF,<-HO.o];exact h1,HM.o.trans h2⟩)
   clear h1 h2;go_wp2_with fail;go_roundw
   case rel=>simpa using G.o
   case measure=>simp [intOf];omega
  ·obtain rfl:m=2:=by omega
   clear hlt hm;go_wp2;go_returns;exact ⟨rfl,F1,HA.o.mono (by omega),Moved.trans ⟨Only.of_below HB2.o,fun _ _=>rfl⟩ HM.o⟩
end
end Go.Proofs.YtbpeehmepehkdaaGreatDoor.Dv
