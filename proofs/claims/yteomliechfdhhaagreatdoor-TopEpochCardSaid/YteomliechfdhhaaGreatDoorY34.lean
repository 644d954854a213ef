/- Part 34. -/
import Derived.Test.YteomliechfdhhaaGreatDoorY32
import Derived.Lib.SmallJoins
import Derived.Deep.Slices
import Derived.ChangeSlices
import Derived.SizedLaws
set_option maxHeartbeats 8000000
set_option maxRecDepth 20000
set_option linter.all false
namespace Go.Proofs.YteomliechfdhhaaGreatDoor.Dv
open Tryz
section
open Go.RowKit Go.Proofs.YteomliechfdhhaaGreatDoor.Size
variable {w w':World}{A:DAd}{F F':Nat->Option ZK}{T c c':Nat->Nat}{x x' L:Nat}
theorem ZFA (w:World):(isAgg 94).run prog w=.ok true w:=by kernel_rfl
theorem ZCk (w:World):(sizeOf 94).run prog w=.ok 4 w:=by kernel_rfl
def ZB4 (f:Nat->Nat)(m:Nat):Value:=.agg #[.int .u64 (f (4 * m):Nat),.int .u64 (f (4 * m+1):Nat),.int .u64 (f (4 * m+2):Nat),.int .u64 (f (4 * m+3):Nat)]
theorem ZGZ {CS:Array Value}{f:Nat->Nat}(hz:CS.size=64)(hc:∀ y,y < 64->CS[y]?=some (.int .u64 (f y:Nat))){m:Nat}(hm:m < 16)(w:World):(Instr.index 149 (.agg CS) (.int .i64 (m:Int))).run prog w=.ok (ZB4 f m) w:=by
 unfold Instr.index;have hm':(0:Int)<=m/\(m:Int) < (16:Nat):=by omega
 have e:CS.extract (m * 4) (m * 4+4)=#[.int .u64 (f (4 * m):Nat),.int .u64 (f (4 * m+1):Nat),.int .u64 (f (4 * m+2):Nat),.int .u64 (f (4 * m+3):Nat)]:=by
  apply Array.ext_getElem?;intro i;rw [Array.getElem?_extract]
  by_cases hi:i < 4
  ·rw [ZKv (by rw [hz];omega),hc _ (by omega)]
   rcases (show i=0\/i=1\/i=2\/i=3 by omega) with rfl|rfl|rfl|rfl <;> (rw [Nat.mul_comm];rfl)
  ·rw [ZKu (by omega),Array.getElem?_eq_none (by simp;omega)]
 simp only [Sem.run_bind,asIntOf,Sem.run_pure,Result.andThen_ok,run_underlying underlying149];rw [ZKv hm'];simp only [Sem.run_bind,ZCk,Result.andThen_ok,part,ZFA,Int.toNat_natCast];unfold ZB4;rw [<-e];simp only [if_true,Sem.run_bind,ZCk,Result.andThen_ok,Sem.run_pure]
def NmT (f:Nat->Nat)(nm:Nat->Option ByteArray):Prop:=∀ m,m < 16->∀ wx,Calls prog 113 #[ZB4 f m] wx fun e w'=>e=.returned (.tuple #[.string ((nm m).getD .empty),.bool (nm m).isSome])/\Bl wx w'
theorem NmT.of {f:Nat->Nat}{n:Nat}{xs:Nat->Nat×Nat}(hf:∀ y,f y < 18446744073709551616)(h0:∀ m,m < 16->n<=m->f (4 * m+3)=0)(h1:∀ m,m < n->f (4 * m)=(xs m).1/\f (4 * m+1)=(xs m).2/\f (4 * m+3)≠0):NmT f fun m=>if m < n then some (nmS (xs m).1 (xs m).2) else none:=fun m hm wx=>by
 by_cases e:m < n
 ·obtain ⟨a,b,d⟩:=h1 m e
  simp only [ZKv e];unfold ZB4;rw [a,b];exact ZFs (a▸hf _) (b▸hf _) d
 ·simp only [ZKu e]
  unfold ZB4;rw [h0 m hm (by omega)];exact ZHc (hf _) (hf _)
def NeN (nm:Nat->Option ByteArray)(m:Nat)(s:ByteArray):Prop:=∀ t,nm m=some t->(t.toList == s.toList)=false
theorem ZAa {CS:Array Value} {f:Nat->Nat} (hz:CS.size=64) (hc:∀ y,y < 64->CS[y]?=some (.int .u64 (f y:Nat))) {nm:Nat->Option ByteArray} (hn:NmT f nm) {s:ByteArray} {k:Int}
 (hk:(k=-1/\∀ m,m < 16->NeN nm m s)\/∃ j:Nat,j < 16/\k=j/\nm j=some s/\∀ m,m < j->NeN nm m s):
 Calls prog 61 #[.agg CS,.string s] w fun e w'=>e=.returned (.int .i64 k)/\Bl w w':=by
 have HIX:=zh (fun (m:Nat) (hm:m < 16) (wx:World)=>ZGZ hz hc hm wx);have HN:=zh hn;have HK:=zh hk;have HZ:=zh hz;clear hz hc hn hk;obtain ⟨w1,hw1⟩:=xE (w.alloc (.cells CS 149));have HX:=zh (show w1.heap[w.heap.size]?=some (.cells CS 149 (0,0)) by rw [hw1];exact ZB _ _);have HB1:=zh (show Bl w w1 by rw [hw1];exact ZA bR);obtain ⟨g,hg⟩:=xE w.heap.size;go_in;go_upto_region 1 with fail;rw [<-hw1,<-hg];rw [<-hg] at HX;clear hw1 hg;go_wp2_with (refine wpList_load_row rfl 149 (.tmp 2) rfl g rfl 149 CS (0,0) _ HX.o underlying149 rfl (by rw [HZ.o];kernel_rfl) ?_)
 go_loopw [10] (fun i wr=>∃ m:Nat,m<=16/\i=.int .i64 m/\(∀ j,j < m->NeN nm j s)/\Bl w wr) (fun i _=>16 - (intOf i).toNat)
 case atStart=>exact ⟨0,by omega,rfl,fun j hj=>by omega,HB1.o⟩
 case round=>
 obtain ⟨m,hm,rfl,hno,hb⟩:=hrel
 by_cases hlt:m < 16
 ·have d0:(m:Int) < 16:=by omega
  have hix:=HIX.o m hlt;have HE:=zh (HN.o m hlt);have HB:=zh hb;have HNO:=zh hno;have HM:=zh hlt;unfold ZB4 at hix HE;obtain ⟨f0,hf0⟩:=xE (f (4 * m));obtain ⟨f1,hf1⟩:=xE (f (4 * m+1));obtain ⟨f2,hf2⟩:=xE (f (4 * m+2));obtain ⟨f3,hf3⟩:=xE (f (4 * m+3));rw [<-hf0,<-hf1,<-hf2,<-hf3] at hix HE;clear hb hno hm hlt hf0 hf1 hf2 hf3;go_wp2_with fail;refine (HE.o _).mono ?_;rintro e w2 ⟨rfl,hb2⟩;have HB2:=zh (show Bl w w2 from (ZA HB.o).trans (hb2.mono (ZA HB.o).size));clear hb2 hix;have hM:=HM.o;cases hnm:nm m with
  |none=>
   simp only [Option.getD_none,Option.isSome_none];have HNX:=zh (show ∀ j,j < m+1->NeN nm j s from fun j hj=>by
    by_cases e:j=m
    ·intro t ht;rw [e,hnm] at ht;cases ht
    ·exact HNO.o j (by omega))
   clear hnm;go_wp2_with fail;go_roundw
   case rel=>exact ⟨m+1,by omega,by go_num,HNX.o,HB2.o⟩
   case measure=>simp [intOf];omega
  |some t=>
   simp only [Option.getD_some,Option.isSome_some]
   by_cases e:(t.toList == s.toList)=true
   ·have HE2:=zh (show k=(m:Int) from by
     rcases HK.o with ⟨_,h2⟩|⟨j,h1,h2,h3,h4⟩
     ·have:=h2 m hM t hnm;rw [e] at this;cases this
     ·have:j=m:=by
       rcases Nat.lt_trichotomy j m with h|h|h
       ·have:=HNO.o j h s h3;simp at this
       ·exact h
       ·have:=h4 m h t hnm;rw [e] at this;cases this
      rw [h2,this])
    clear hnm;go_wp2;go_returns;exact ⟨by rw [HE2.o];rfl,HB2.o⟩
   ·have d2:(t.toList == s.toList)=false:=by simpa using e
    have HNX:=zh (show ∀ j,j < m+1->NeN nm j s from fun j hj=>by
     by_cases e2:j=m
     ·intro t2 ht;rw [e2,hnm] at ht;cases ht;exact d2
     ·exact HNO.o j (by omega))
    clear hnm e;go_wp2_with fail;go_roundw
    case rel=>exact ⟨m+1,by omega,by go_num,HNX.o,HB2.o⟩
    case measure=>simp [intOf];omega
 ·obtain rfl:m=16:=by omega
  have HE2:=zh (show k=-1 from by
   rcases HK.o with ⟨h1,_⟩|⟨j,h1,h2,h3,h4⟩
   ·exact h1
   ·have:=hno j (by omega) s h3;simp at this)
  have HB:=zh hb;clear hb hno hm hlt;go_wp2;go_returns;exact ⟨by rw [HE2.o];rfl,HB.o⟩
theorem ZDq (h:Ar w A F 160 T c)(hz:∀ y,y < 64->c (16+y)=0):
 Calls prog 102 #[.iface 97 (.pointer (some ⟨A.t 0,0,none⟩)),.int .i64 2] w fun e w'=>∃ rb,e=.returned (.tuple #[.pointer (some ⟨rb,0,none⟩),.int .i64 0])/\RtB w' A rb/\Bl w w'/\w.heap.size<=rb:=by
 have HLK:=zh (Qd h);have HLD:=zh (fun (wx:World) (rb:Nat) (hb:Bl w wx) (hr:RtB wx A rb)=>JJ (h.below hb) (by omega) hr);have HNT:=zh (NmT.of (f:=fun y=>c (16+y)) (n:=0) (xs:=fun _=>(0,0)) (fun y=>h.word_lt _) (fun m hm _=>hz _ (by omega)) (fun m hm=>by omega));have hmm:=@run_makeMap prog;have HR:=zh (Below.refl w.heap.size w);clear h hz;go_in;go_wp2_with fail;refine HLK.o.mono ?_;rintro e w' ⟨rfl,rfl⟩;go_upto_region 4 with fail;obtain ⟨w1,hw1⟩:=xE (w.alloc (.cells #[.iface 97 (.pointer (some ⟨A.t 0,0,none⟩)),.int .u64 128] 148));have HX:=zh (show RtB w1 A w.heap.size by rw [hw1];exact ZB _ _);have HB1:=zh (show Bl w w1 by rw [hw1];exact ZA HR.o);rw [<-hw1];clear hw1;go_wp2_with fail;refine (HLD.o _ _ HB1.o HX.o).mono ?_;rintro e w2 ⟨CS,rfl,hcs,hcg,hb2⟩;have HB2:=zh (HB1.o.trans (hb2.mono HB1.o.size));have HX2:=zh ((hb2.block _ (heap_lt HX.o)).trans HX.o);have HIX:=zh (fun (m:Nat) (hm:m < 16) (wx:World)=>ZGZ hcs hcg hm wx);have HCZ:=zh hcs;have HALL:=zh (show CS.all (·.oneCell')=true from by
  refine Array.all_eq_true_iff_forall_mem.2 fun v hv=>?_
  obtain ⟨j,hj,e⟩:=Array.getElem_of_mem hv;have hj64:j < 64:=by rw [hcs] at hj;exact hj
  have:=hcg j hj64;rw [ZLW hj,e] at this;cases this;rfl)
 clear hb2 hcs hcg HLD HLK;go_upto_region 5 with (refine wpList_store_row rfl 149 (.tmp 7) (.tmp 27) rfl w2.heap.size CS rfl rfl 149 _ (ZB _ _) (by rw [HCZ.o];kernel_rfl) (by rw [HCZ.o];rfl) HALL.o ?_)
 generalize hold:(Obj.cells _ 149 (0,0))=OB;obtain ⟨w3,hw3⟩:=xE ((w2.alloc OB).setRow w2.heap.size CS);obtain ⟨g,hg⟩:=xE w2.heap.size;have h23:Bl w2 w3:=by rw [hw3];exact Ye (ZA bR) nR CS
 have HC3:=zh (show w3.heap[g]?=some (.cells CS 149 (0,0)) by rw [hw3,<-hold,hg];exact setRow_heap _ _ _ _ _ _ (ZB _ _));have HB3:=zh (HB2.o.trans (h23.mono HB2.o.size));have HX3:=zh ((h23.block _ (heap_lt HX2.o)).trans HX2.o);rw [<-hw3,<-hg];clear hw3 hold OB HALL h23 hg;go_upto_region 9 with fail;obtain ⟨w4,hw4⟩:=xE (w3.alloc (.map #[] 0));have h34:Bl w3 w4:=by rw [hw4];exact ZA bR
 have HB4:=zh (HB3.o.trans (h34.mono HB3.o.size));have HC4:=zh ((h34.block _ (heap_lt HC3.o)).trans HC3.o);have HX4:=zh ((h34.block _ (heap_lt HX3.o)).trans HX3.o);obtain ⟨mp,hmp⟩:=xE w3.heap.size;rw [<-hw4,<-hmp];clear hw4 hmp h34;go_wp2_with (refine wpList_load_row rfl 149 (.tmp 7) rfl g rfl 149 CS (0,0) _ HC4.o underlying149 rfl (by rw [HCZ.o];kernel_rfl) ?_)
 go_loopw [10,34] (fun z i wr=>z=.bool false/\∃ m:Nat,m<=16/\i=.int .i64 m/\Bl w4 wr) (fun _ i _=>16 - (intOf i).toNat)
 case atStart=>exact ⟨rfl,0,by omega,rfl,bR⟩
 case round=>
 obtain ⟨rfl,m,hm,rfl,hb⟩:=hrel
 by_cases hlt:m < 16
 ·have d0:(m:Int) < 16:=by omega
  have hix:=HIX.o m hlt;have HE:=zh (HNT.o m hlt);have HB:=zh hb;have HM:=zh hlt;simp only [Nat.not_lt_zero,if_false] at HE;unfold ZB4 at hix HE;simp only at hix;obtain ⟨f0,hf0⟩:=xE (c (16+4 * m));obtain ⟨f1,hf1⟩:=xE (c (16+(4 * m+1)));obtain ⟨f2,hf2⟩:=xE (c (16+(4 * m+2)));obtain ⟨f3,hf3⟩:=xE (c (16+(4 * m+3)));rw [<-hf0,<-hf1,<-hf2,<-hf3] at hix;simp only [<-hf0,<-hf1,<-hf2,<-hf3,Option.getD_none,Option.isSome_none] at HE;clear hb hm hlt hf0 hf1 hf2 hf3;go_wp2_with fail;refine (HE.o _).mono ?_;rintro e w5 ⟨rfl,hb5⟩;have HB5:=zh (show Bl w4 w5 from (ZA HB.o).trans (hb5.mono (ZA HB.o).size));clear hb5 hix;have hM:=HM.o;go_wp2_with fail;go_roundw
  case rel=>exact ⟨rfl,m+1,by omega,by go_num,HB5.o⟩
  case measure=>simp [intOf];omega
 ·obtain rfl:m=16:=by omega
  have HE:=zh (show RtB wr A w.heap.size/\Bl w wr from ⟨(hb.block _ (heap_lt HX4.o)).trans HX4.o,HB4.o.trans (hb.mono HB4.o.size)⟩);clear hb hm hlt;go_wp2;go_returns;exact ⟨_,rfl,HE.o.1,HE.o.2,nR⟩
variable {H:HAd}{lk:Bool}{p p':Nat->Plc}{ex:Nat}{res held:Nat->Option Nat}
theorem ZBG (h:Ar w A F L T c)(hp:HpW w A H lk)(hr:J1 w H.rb ex res){k:Chk}{line:Nat}(hl:line+32<=L)(hR:CRep T c (8 * line) k)(hk:0<=k.cl){i j:Nat}(hij:i < j)(hj:j < perN k)(hf0:k.free 0=(i:Int))(hu0:k.used i=false)(hf:k.free (i+1)=(j:Int))(hu:k.used j=false){kind q:Nat}(hkd:1<=kind/\kind<=127)(hn0:res (k.pay line i)=some q)(hn:res (k.pay line j)=none):
 Calls prog 108 #[.pointer (some ⟨H.hb,0,none⟩),.int .i64 line,.int .u8 kind] w fun e w'=>e=.returned (.tuple #[.int .u64 (k.ptr line j kind),.int .i64 0])/\Bl w w':=by
 have hL:=h.lines;have hgd:=hR.good hk;have hz:=hR.head.sizes.2.2.1;have HOP:=zh (fun w1 (hb:Bl w w1)=>Yu (h.below hb) hp.t hl hR hk);have HFR:=zh (fun w1 (hb:Bl w w1)=>hf0▸Vg (h.below hb) hp.t hl hR hk 0 (by omega));have HFS:=zh (fun w1 (hb:Bl w w1)=>hf▸Vg (h.below hb) hp.t hl hR hk (i+1) (by omega));have HPT:=zh (fun w1 (hb:Bl w w1)=>XU (h.below hb) hp.t hl hR hk hj hu hkd);have HPS:=zh (fun w1 (hb:Bl w w1)=>XU (h.below hb) hp.t hl hR hk (j:=i) (by omega) hu0 hkd);have HER:=zh (fun w1 hb=>Zq h hp.t w1 hb)
 have hpp:∀ m,m < perN k->ZM (k.ptr line m kind)=k.pay line m/\k.ptr line m kind < 72057594037927936:=fun m hm=>
  ⟨(ZAY hR.head (line:=line) (kind:=kind) (hgd m hm).gen.2 hm (by omega) (by omega)).1,ZHB hR.head (line:=line) (kind:=kind) (hgd m hm).gen.2 hm (by omega) (by omega)⟩
 have HOF:=zh (fun (m:Nat) (hm:m < perN k) (w1:World)=>(hpp m hm).1▸YU (w:=w1) (p:=k.ptr line m kind) (by have:=(hpp m hm).2;omega));have HLK:=zh (fun (m:Nat) (hm:m < perN k) (w1:World) (hb:Bl w w1)=>(hr.kept (hb.block _ hr.lt)).look2 underlying29 underlying140 (ZJk _) (n:=k.pay line m) (wfU (by have h1:=XT (k.ptr line m kind);rw [(hpp m hm).1] at h1;omega)));unfold cPtr at HLK;simp only at HLK;have HLI:=zh (fun w1 hb=>HLK.o i (by omega) w1 hb);have HLJ:=zh (fun w1 hb=>HLK.o j hj w1 hb);rw [hn0] at HLI;rw [hn] at HLJ;have HOI:=zh (HOF.o i (by omega));have HOJ:=zh (HOF.o j hj);obtain ⟨P,hP⟩:=xE (k.ptr line j kind);rw [<-hP] at HPT HOJ ⊢;obtain ⟨O,hO⟩:=xE (k.pay line j);rw [<-hO] at HOJ HLJ;obtain ⟨Q,hQ⟩:=xE (k.ptr line i kind);rw [<-hQ] at HPS HOI;obtain ⟨S,hS⟩:=xE (k.pay line i);rw [<-hS] at HOI HLI;have HH:=zh hp;have HB:=zh (Below.refl w.heap.size w);obtain ⟨ti,hti⟩:=xE H.t;rw [<-hti] at HER HOP HFR HFS HPT HPS;have HTI:=zh hti;obtain ⟨c0,_⟩:=Zz hp.hp;rw [<-HTI.o] at c0;have d1:(j:Int)>=0:=by omega
 have d2:(i:Int)>=0:=by omega
 have b62:(i:Int) < 62:=by omega
 have HIJ:=zh hij;unfold chV Xg ptr at *;clear h hp hr hl hR hk hij hj hf0 hu0 hf hu hkd hn0 hn hL hgd hz hpp HOF HLK hP hO hQ hS hti;go_in;go_wp2_with fail;refine (HOP.o _ HB.o).mono ?_;rintro e x1 ⟨rfl,hb⟩;replace HB:=zh (ZA (o:=.cells #[.iface 97 (.pointer (some ⟨A.t ti,0,none⟩)),.int .i64 line,.int .i64 k.cl,.int .i64 k.ow,.int .u16 k.gen] 195) (HB.o.trans (hb.mono HB.o.size)));have HC:=zh (CBox.new (w:=x1) (A:=A) (i:=ti) (line:=line) (k:=k));clear hb c0;obtain ⟨b0,b1,b2,b3,b4⟩:=id HC.o;go_wp2_with fail;refine (HFR.o _ HB.o).mono ?_;rintro e x2 ⟨rfl,hb⟩;replace HB:=zh (HB.o.trans (hb.mono HB.o.size));replace HC:=zh (HC.o.below hb);clear hb b0 b1 b2 b3 b4;go_wp2_with fail
 go_loopw [10] (fun v wr=>(v=.int .i64 i\/v=.int .i64 j)/\Bl x2 wr) (fun v _=>j - (intOf v).toNat)
 case atStart=>exact ⟨.inl rfl,bR⟩
 case round=>
  obtain ⟨hv,hb⟩:=hrel;replace HB:=zh (HB.o.trans (hb.mono HB.o.size));have HC2:=zh (HC.o.below hb);have HX:=zh hb;clear hb;obtain ⟨b0,b1,b2,b3,b4⟩:=id HC2.o;rcases hv with rfl|rfl
  ·go_wp2_with fail
   refine (HPS.o _ HB.o).mono ?_;rintro e x3 ⟨rfl,hb⟩;replace HB:=zh (HB.o.trans (hb.mono HB.o.size));replace HX:=zh (HX.o.trans (hb.mono HX.o.size));replace HC2:=zh (HC2.o.below hb);clear hb b0 b1 b2 b3 b4;obtain ⟨c0,_,_,_,c4,_⟩:=Zz (HH.o.below HB.o).hp;rw [<-HTI.o] at c0;go_wp2_with fail;refine (HER.o _ HB.o).mono ?_;rintro e w' ⟨rfl,rfl⟩;go_wp2_with fail;have k4:=fun q:BW x3=>ZV c4 q
   have HOF4:=zh (fun q:BW x3=>Yt (HOI.o q.v));have hlk:=fun q:BW x3=>HLI.o q.v (HB.o.trans (q.h.mono HB.o.size))
   refine Zv (by kernel_rfl) (by kernel_rfl) ?_
   repeat (quiet_step (first
    |(go_at_call 35;exact HOF4.o _)))
   refine wpQuiet_nil ?_;rintro _ ⟨q,rfl⟩;have HB5:=zh (HB.o.trans (q.h.mono HB.o.size));have HX5:=zh (HX.o.trans (q.h.mono HX.o.size));obtain ⟨b0,b1,b2,b3,b4⟩:=id (HC2.o.below q.h);clear k4 hlk c0 c4;go_wp2_with fail;refine (HFS.o _ HB5.o).mono ?_;rintro e x6 ⟨rfl,hb⟩;have HX6:=zh (HX5.o.trans (hb.mono HX5.o.size));clear hb b0 b1 b2 b3 b4;go_wp2_with fail;go_roundw
   case rel=>exact ⟨.inr rfl,HX6.o⟩
   case measure=>have:=HIJ.o;simp [intOf];omega
  ·go_wp2_with fail
   refine (HPT.o _ HB.o).mono ?_;rintro e x3 ⟨rfl,hb⟩;replace HB:=zh (HB.o.trans (hb.mono HB.o.size));clear hb b0 b1 b2 b3 b4;obtain ⟨c0,_,_,_,c4,_⟩:=Zz (HH.o.below HB.o).hp;rw [<-HTI.o] at c0;go_wp2_with fail;refine (HER.o _ HB.o).mono ?_;rintro e w' ⟨rfl,rfl⟩;go_wp2_with fail;have k4:=fun q:BW x3=>ZV c4 q
   have HOF4:=zh (fun q:BW x3=>Yt (HOJ.o q.v));have hlk:=fun q:BW x3=>HLJ.o q.v (HB.o.trans (q.h.mono HB.o.size))
   refine Zv (by kernel_rfl) (by kernel_rfl) ?_
   repeat (quiet_step (first
    |(go_at_call 35;exact HOF4.o _)))
   refine wpQuiet_nil ?_;rintro _ ⟨q,rfl⟩;have HB5:=zh (HB.o.trans (q.h.mono HB.o.size));clear k4 hlk c0 c4;go_wp2;go_returns;exact ⟨rfl,HB5.o⟩
theorem ZCO (w:World)(v:Value)(k:Nat):(nilAhead (k+1) 27 v "Alloc").run prog w=.ok (some false) w:=by kernel_rfl
theorem ZCF {db P:Nat}{Q:World->Prop}(hal:Calls prog 24 #[.pointer (some ⟨db,0,none⟩),.int .i64 (60:Nat),.int .u8 (12:Nat)] w fun e w'=>e=.returned (.tuple #[.int .u64 P,.int .i64 0])/\Q w'):
 Calls prog 23 #[.iface 27 (.pointer (some ⟨db,0,none⟩))] w fun e w'=>∃ w1,Q w1/\e=.returned (.tuple #[.int .u64 P,.slice (some ⟨w1.heap.size,0,none⟩) 1 1,.int .i64 0])/\w'=w1.alloc (.cells #[.int .u64 P] 30):=by
 have HAL:=zh hal;have hna:=ZCO;clear hal;go_in;go_wp2_with fail;refine HAL.o.mono ?_;rintro e w1 ⟨rfl,hq⟩;go_wp2;go_returns;exact ⟨w1,hq,rfl,rfl⟩
theorem Jf {b:Nat}(h1:97<=b)(h2:b<=122):Calls prog 111 #[.int .u8 b] w fun e w'=>e=.returned (.bool true)/\w=w':=by
 have d1:(97:Int)<=b:=by omega
 have d2:(b:Int)<=122:=by omega
 have d3:decide ((65:Int)<=b)=true:=by simp;omega
 have d4:decide ((b:Int)<=90)=false:=by simp;omega
 have d5:decide ((97:Int)<=b)=true:=by simp;omega
 have d6:decide ((b:Int)<=122)=true:=by simp;omega
 clear h1 h2;go_in;go_wp2;go_returns;exact ⟨rfl,rfl⟩
theorem ZIS:Calls prog 58 #[.string {data:=#[108,105,109,98,111]}] w fun e w'=>e=.returned (.bool true)/\w=w':=by
 have HL:=zh (fun (b:Nat) (h1:97<=b) (h2:b<=122) (wx:World)=>Jf (w:=wx) h1 h2);go_in;go_wp2_with fail;refine (HL.o 108 (by omega) (by omega) _).mono ?_;rintro e w' ⟨rfl,rfl⟩;go_wp2_with fail
 go_loopw [19] (fun i wr=>∃ m:Nat,m<=5/\i=.int .i64 m/\w=wr) (fun i _=>5 - (intOf i).toNat)
 case atStart=>exact ⟨0,by omega,rfl,rfl⟩
 case round=>
 obtain ⟨m,hm,rfl,hw⟩:=hrel;subst hw
 by_cases hlt:m < 5
 ·rcases (show m=0\/m=1\/m=2\/m=3\/m=4 by omega) with rfl|rfl|rfl|rfl|rfl
  ·clear hm hlt
   go_wp2_with fail;refine (HL.o 108 (by omega) (by omega) _).mono ?_;rintro e w' ⟨rfl,rfl⟩;go_wp2_with fail;go_roundw
   case rel=>exact ⟨1,by omega,by first|rfl|simp,by first|rfl|simp⟩
   case measure=>simp [intOf]
  ·clear hm hlt
   go_wp2_with fail;refine (HL.o 105 (by omega) (by omega) _).mono ?_;rintro e w' ⟨rfl,rfl⟩;go_wp2_with fail;go_roundw
   case rel=>exact ⟨2,by omega,by first|rfl|simp,by first|rfl|simp⟩
   case measure=>simp [intOf]
  ·clear hm hlt
   go_wp2_with fail;refine (HL.o 109 (by omega) (by omega) _).mono ?_;rintro e w' ⟨rfl,rfl⟩;go_wp2_with fail;go_roundw
   case rel=>exact ⟨3,by omega,by first|rfl|simp,by first|rfl|simp⟩
   case measure=>simp [intOf]
  ·clear hm hlt
   go_wp2_with fail;refine (HL.o 98 (by omega) (by omega) _).mono ?_;rintro e w' ⟨rfl,rfl⟩;go_wp2_with fail;go_roundw
   case rel=>exact ⟨4,by omega,by first|rfl|simp,by first|rfl|simp⟩
   case measure=>simp [intOf]
  ·clear hm hlt
   go_wp2_with fail;refine (HL.o 111 (by omega) (by omega) _).mono ?_;rintro e w' ⟨rfl,rfl⟩;go_wp2_with fail;go_roundw
   case rel=>exact ⟨5,by omega,by first|rfl|simp,by first|rfl|simp⟩
   case measure=>simp [intOf]
 ·obtain rfl:m=5:=by omega
  clear hm hlt;go_wp2;go_returns;exact ⟨rfl,rfl⟩
theorem ZIR:Calls prog 58 #[.string {data:=#[97,110,99,104,111,114]}] w fun e w'=>e=.returned (.bool true)/\w=w':=by
 have HL:=zh (fun (b:Nat) (h1:97<=b) (h2:b<=122) (wx:World)=>Jf (w:=wx) h1 h2);go_in;go_wp2_with fail;refine (HL.o 97 (by omega) (by omega) _).mono ?_;rintro e w' ⟨rfl,rfl⟩;go_wp2_with fail
 go_loopw [19] (fun i wr=>∃ m:Nat,m<=6/\i=.int .i64 m/\w=wr) (fun i _=>6 - (intOf i).toNat)
 case atStart=>exact ⟨0,by omega,rfl,rfl⟩
 case round=>
 obtain ⟨m,hm,rfl,hw⟩:=hrel;subst hw
 by_cases hlt:m < 6
 ·rcases (show m=0\/m=1\/m=2\/m=3\/m=4\/m=5 by omega) with rfl|rfl|rfl|rfl|rfl|rfl
  ·clear hm hlt
   go_wp2_with fail;refine (HL.o 97 (by omega) (by omega) _).mono ?_;rintro e w' ⟨rfl,rfl⟩;go_wp2_with fail;go_roundw
   case rel=>exact ⟨1,by omega,by first|rfl|simp,by first|rfl|simp⟩
   case measure=>simp [intOf]
  ·clear hm hlt
   go_wp2_with fail;refine (HL.o 110 (by omega) (by omega) _).mono ?_;rintro e w' ⟨rfl,rfl⟩;go_wp2_with fail;go_roundw
   case rel=>exact ⟨2,by omega,by first|rfl|simp,by first|rfl|simp⟩
   case measure=>simp [intOf]
  ·clear hm hlt
   go_wp2_with fail;refine (HL.o 99 (by omega) (by omega) _).mono ?_;rintro e w' ⟨rfl,rfl⟩;go_wp2_with fail;go_roundw
   case rel=>exact ⟨3,by omega,by first|rfl|simp,by first|rfl|simp⟩
   case measure=>simp [intOf]
  ·clear hm hlt
   go_wp2_with fail;refine (HL.o 104 (by omega) (by omega) _).mono ?_;rintro e w' ⟨rfl,rfl⟩;go_wp2_with fail;go_roundw
   case rel=>exact ⟨4,by omega,by first|rfl|simp,by first|rfl|simp⟩
   case measure=>simp [intOf]
  ·clear hm hlt
   go_wp2_with fail;refine (HL.o 111 (by omega) (by omega) _).mono ?_;rintro e w' ⟨rfl,rfl⟩;go_wp2_with fail;go_roundw
   case rel=>exact ⟨5,by omega,by first|rfl|simp,by first|rfl|simp⟩
   case measure=>simp [intOf]
  ·clear hm hlt
   go_wp2_with fail;refine (HL.o 114 (by omega) (by omega) _).mono ?_;rintro e w' ⟨rfl,rfl⟩;go_wp2_with fail;go_roundw
   case rel=>exact ⟨6,by omega,by first|rfl|simp,by first|rfl|simp⟩
   case measure=>simp [intOf]
 ·obtain rfl:m=6:=by omega
  clear hm hlt;go_wp2;go_returns;exact ⟨rfl,rfl⟩
theorem ZDX (w:World):(isAgg 29).run prog w=.ok false w:=by kernel_rfl
theorem ZFg (w:World):(sizeOf 29).run prog w=.ok 1 w:=by kernel_rfl
theorem ZKc {cs:Array Value}{m:Nat}{v:Value}(hm:m < 4)(hg:cs[m]?=some v)(w:World):(Instr.index 94 (.agg cs) (.int .i64 (m:Int))).run prog w=.ok v w:=by
 unfold Instr.index;have hm':(0:Int)<=m/\(m:Int) < (4:Nat):=by omega
 simp only [Sem.run_bind,asIntOf,Sem.run_pure,Result.andThen_ok,run_underlying underlying94];rw [ZKv hm'];simp only [Sem.run_bind,ZFg,Result.andThen_ok,part,ZDX,Int.toNat_natCast,Nat.mul_one,hg];rfl
def PkR (s:ByteArray)(a:Nat):Prop:=∀ wx,Calls prog 114 #[.string s] wx fun r w'=>r=.returned (.agg #[.int .u64 a,.int .u64 0])/\Bl wx w'
def ZJo (W:World)(T:Nat->Nat)(e a P:Nat)(v i:Value)(wr:World):Prop:=
 ∃ m:Nat,m<=4/\i=.int .i64 (m:Nat)/\wr.ownsRow W.heap.size 155 2 v m (ZP ((Uw T e a P).take m))/\Bl W wr
theorem ZEv (T:Nat->Nat)(e a P:Nat)(m:Nat)(hm:m < 4):ZP ((Uw T e a P).take (m+1))=ZP ((Uw T e a P).take m)++[.int .u64 (8 * (16+(e * 4+m)):Nat),.int .u64 (([a,0,P,4294967296+Vq T [a,0]]:List Nat).getD m 0:Nat)]:=by
 unfold Uw;rcases (show m=0\/m=1\/m=2\/m=3 by omega) with rfl|rfl|rfl|rfl
 ·rw [show 8 * (16+(e * 4+0))=128+32 * e by omega];rfl
 ·rw [show 8 * (16+(e * 4+1))=136+32 * e by omega];rfl
 ·rw [show 8 * (16+(e * 4+2))=144+32 * e by omega];rfl
 ·rw [show 8 * (16+(e * 4+3))=152+32 * e by omega];rfl
theorem ZFZ {rb:Nat}(hr:RtB w A rb)(hT:NTab w T){e a P:Nat}(he:e < 16)(ha:a < 18446744073709551616){s:ByteArray}(hpk:PkR s a):
 Calls prog 63 #[.pointer (some ⟨rb,0,none⟩),.int .i64 e,.string s,.int .u64 P] w fun r w'=>∃ v,r=.returned v/\Wrs w' v (Uw T e a P)/\Bl w w':=by
 have HAT:=zh (fun (wx:World) (hb:Bl w wx) (k:Nat) (hk:k < 4)=>ZBT (hr.below hb) he hk);have HTG:=zh (fun (wx:World) (hb:Bl w wx) (p q:Nat)=>ZHM (p:=p) (q:=q) (hT.below hb nR) ha (b:=0) (by omega));have hk:=Xu hT [a,0];have HPK:=zh hpk;obtain ⟨TG,hTG⟩:=xE (4294967296+Vq T [a,0]);rw [<-hTG] at HTG;have HTE:=zh hTG;obtain ⟨w1,hw1⟩:=xE (w.alloc (.cells #[.int .u64 0,.int .u64 0,.int .u64 0,.int .u64 0] 94));have HX1:=zh (show w1.heap[w.heap.size]?=some (.cells #[.int .u64 0,.int .u64 0,.int .u64 0,.int .u64 0] 94 (0,0)) by rw [hw1];exact ZB _ _);have HB1:=zh (show Bl w w1 by rw [hw1];exact ZA bR);obtain ⟨g,hg⟩:=xE w.heap.size;have HGN:=zh hg;rw [<-hg] at HX1;clear hr hT he ha hpk hk hTG;go_in;go_upto_region 2 with fail;rw [<-hw1,<-hg];clear hw1 hg;go_wp2_with fail;refine (HPK.o _).mono ?_;rintro r w2 ⟨rfl,hb2⟩;have HB2:=zh (HB1.o.trans (hb2.mono HB1.o.size));have HX2:=zh ((hb2.block _ (heap_lt HX1.o)).trans HX1.o);clear hb2 HPK;go_upto_region 3 with fail;obtain ⟨w3,hw3⟩:=xE ((w2.alloc (.cells #[.int .u64 a,.int .u64 0] 231)).drew);obtain ⟨q,hq⟩:=xE w2.heap.size;have h23:Bl w2 w3:=by rw [hw3];exact ZD (ZA bR)
 have HX3:=zh ((h23.block _ (heap_lt HX2.o)).trans HX2.o);have HQ3:=zh (show w3.heap[q]?=some (.cells #[.int .u64 a,.int .u64 0] 231 (0,0)) by rw [hw3,hq];exact ZB _ _);have HB3:=zh (HB2.o.trans (h23.mono HB2.o.size));have HS0:=zh (show True from trivial);refine Z8 2 (fun wx=>True) (by kernel_rfl) ?_;rw [<-hw3,<-hq];clear hw3 hq h23;refine Yr (i:=0) (z:=2) (v:=.slice (some ⟨g,0,none⟩) 4 4) rfl (by kernel_rfl) (fun _ _ _ h=>h) HS0.o rfl (fun w' hc=>by go_simp) ?_
 (try simp only [Act.put,ZK3,ZKy,ZK0,ZKt,ZKw,ZKx])
 refine Yr (i:=1) (z:=2) (v:=.slice (some ⟨q,0,none⟩) 2 2) rfl (by kernel_rfl) (fun _ _ _ h=>h) HS0.o rfl (fun w' hc=>by go_simp) ?_
 (try simp only [Act.put,ZK3,ZKy,ZK0,ZKt,ZKw,ZKx])
 refine UY (z:=2) (by kernel_rfl) rfl (by kernel_rfl) (by kernel_rfl) (fun K hK=>?_);have hcp:=fun ty=>run_copy_cells (P:=prog) w3 123 123 ty 29 g 0 4 4 ⟨q,0,none⟩ 2 2 [.int .u64 a,.int .u64 0] underlying123 (by kernel_rfl) rfl (fun j v hj=>by
  rcases j with _|_|j
  ·cases hj;rw [Addr.add_lit];exact (ZC HQ3.o).trans rfl
  ·cases hj;rw [Addr.add_lit];exact (ZC HQ3.o).trans rfl
  ·simp at hj) (fun j hj=>by
   rw [ZC HX3.o];rcases (show j=0\/j=1 by simp at hj;omega) with rfl|rfl <;> rfl) (fun j hj=>ZG HX3.o) (by simp [Value.oneCell'])
 refine Xb rfl (.tmp 16) (.tmp 17) _ _ rfl rfl rfl hcp ?_;refine hK _ _ ?_;clear hK K hcp;simp only [World.setCells];obtain ⟨w4,hw4⟩:=xE ((w3.setCell ⟨g,0,none⟩ (.int .u64 a)).setCell ⟨g,0+1,none⟩ (.int .u64 0));have HX4:=zh (show w4.heap[g]?=some (.cells #[.int .u64 a,.int .u64 0,.int .u64 0,.int .u64 0] 94 (0,0)) by rw [hw4];exact (ZH (ZH HX3.o)).trans rfl);have HB4:=zh (show Bl w w4 by rw [hw4];exact ZE (ZE HB3.o (by have:=HGN.o;omega)) (by have:=HGN.o;omega));rw [<-hw4];clear hw4 HX3 HQ3;obtain ⟨c0,c1,c2,c3,f0,f1,f2,f3⟩:=YS HX4.o
 (try simp only [Act.put,ZK3,ZKy,ZK0,ZKt,ZKw,ZKx])
 go_upto_region 5 with fail;obtain ⟨w5,hw5⟩:=xE (w4.setCell ⟨g,2,none⟩ (.int .u64 P));have HX5:=zh (show w5.heap[g]?=some (.cells #[.int .u64 a,.int .u64 0,.int .u64 P,.int .u64 0] 94 (0,0)) by rw [hw5];exact (ZH HX4.o).trans rfl);have HB5:=zh (show Bl w w5 by rw [hw5];exact ZE HB4.o (by have:=HGN.o;omega));rw [<-hw5];clear hw5 c0 c1 c2 c3 f0 f1 f2 f3;obtain ⟨c0,c1,c2,c3,f0,f1,f2,f3⟩:=YS HX5.o;go_wp2_with fail;refine (HTG.o _ HB5.o P 0).mono ?_;rintro r w6 ⟨rfl,hb6⟩;have HB6:=zh (HB5.o.trans (hb6.mono HB5.o.size));have HX6:=zh ((hb6.block _ (heap_lt HX5.o)).trans HX5.o);clear hb6 c0 c1 c2 c3 f0 f1 f2 f3;obtain ⟨c0,c1,c2,c3,f0,f1,f2,f3⟩:=YS HX6.o;go_upto_region 7 with fail;obtain ⟨w7,hw7⟩:=xE (w6.setCell ⟨g,3,none⟩ (.int .u64 TG));have HX7:=zh (show w7.heap[g]?=some (.cells #[.int .u64 a,.int .u64 0,.int .u64 P,.int .u64 TG] 94 (0,0)) by rw [hw7];exact (ZH HX6.o).trans rfl);have HB7:=zh (show Bl w w7 by rw [hw7];exact ZE HB6.o (by have:=HGN.o;omega));rw [<-hw7];clear hw7 c0 c1 c2 c3 f0 f1 f2 f3;obtain ⟨c0,c1,c2,c3,f0,f1,f2,f3⟩:=YS HX7.o;go_wp2_with fail
 go_loopw [11,25] (fun v i wr=>ZJo w T e a P v i wr) (fun _ i _=>4 - (intOf i).toNat)
 case atStart=>exact ⟨0,by omega,rfl,ZLD _ _ _ _,HB7.o⟩
 case round=>
 obtain ⟨m,hm,rfl,hown,hbel⟩:=hrel;have HB:=zh hbel;have HO:=zh hown;obtain ⟨ra,rc,hv⟩:=ZR hown;subst hv;clear hbel hown c0 c1 c2 c3 f0 f1 f2 f3
 by_cases hlt:m < 4
 ·have HL:=zh (fun (wx:World) (hb:Bl wr wx)=>HAT.o wx (HB.o.trans (hb.mono HB.o.size)) m hlt)
  have HDT:=zh (ZEv T e a P m hlt);rw [<-HTE.o] at HDT;obtain ⟨ov,hov⟩:∃ ov:Nat,ov=8 * (16+(e * 4+m)):=⟨_,rfl⟩
  rw [<-hov] at HL HDT;have HR:=zh (Below.refl wr.heap.size wr);obtain ⟨xv,hxv⟩:∃ xv:Nat,xv=([a,0,P,TG]:List Nat).getD m 0:=⟨_,rfl⟩
  rw [<-hxv] at HDT
  have hix:=fun wx=>ZKc (w:=wx) (cs:=#[.int .u64 a,.int .u64 0,.int .u64 P,.int .u64 TG]) (v:=.int .u64 xv) hlt (by
   rw [hxv];rcases (show m=0\/m=1\/m=2\/m=3 by omega) with rfl|rfl|rfl|rfl <;> rfl)
  have HM:=zh hlt;have d0:(m:Int) < 4:=by omega
  clear hov hm hxv hlt;go_wp2_with fail;refine (HL.o _ HR.o).mono ?_;rintro r V1 ⟨rfl,rfl⟩;go_wp2_with (at_builtin;refine ZT elWrites rfl _ _ rfl HO.o rfl rfl ?c1 rfl ?c2 ?c3 ?c4 ?c5 ?_)
  case c1=>rfl
  case c2=>first|rfl|exact ⟨rfl,rfl⟩|simp
  case c3=>unfold maxLen;omega
  case c4=>omega
  case c5=>exact HB.o.size
  intro g4 cap4 w5 hop5 hgr5 hg5
  have G:=zh (show ZJo w T e a P (.slice (some ⟨g4,0,none⟩) (m+1) cap4) (.int .i64 ((m+1:Nat):Int)) w5 from ⟨m+1,HM.o,rfl,by
   rw [HDT.o];exact hop5,ZN HB.o hgr5 HB.o.size (fun b hb=>(HO.o.lt b hb).1)⟩)
  clear hop5 hgr5 hg5;have hM:=HM.o;go_wp2_with fail;go_roundw
  case rel=>simpa using G.o
  case measure=>simp [intOf];omega
 ·obtain rfl:m=4:=by omega
  clear hm hlt;go_wp2;go_returns;refine ⟨_,rfl,?_,HB.o⟩;have ho:=HO.o;rcases ho.2 with ⟨_,e4⟩|⟨gg,cap,cur,e4,_⟩
  ·omega
  ·rw [e4] at ho ⊢
   exact .inr ⟨gg,0,cap,rfl,ZCg ho⟩
theorem Uf (h:Ar w A F 160 T c) {rb:Nat} (hr:RtB w A rb) {nm:Nat->Option ByteArray} (hn:NmT (fun y=>c (16+y)) nm) {s:ByteArray} (hno:∀ m,m < 16->NeN nm m s)
 (hna:∀ wx,Calls prog 58 #[.string s] wx fun e w'=>e=.returned (.bool true)/\wx=w'){e a P:Nat}(he:e < 16)(h1:∀ m,m < e->c (16+(4 * m+3))≠0)(h0:c (16+(4 * e+3))=0)(ha:a < 18446744073709551616)(hpk:PkR s a)(hp:PtrOk P)(hp2:ZM P < 10240)(hp0:P≠0):
 Calls prog 25 #[.pointer (some ⟨rb,0,none⟩),.string s,.int .u64 P] w fun r w'=>∃ v,r=.returned (.tuple #[v,.int .i64 0])/\Wrs w' v (Uw T e a P)/\Bl w w':=by
 have HNO:=zh (ZAb hr);have HNA:=zh hna;have HSZ:=zh (fun (w1:World) (hb:Bl w w1)=>XZ h (i:=0) (by omega) w1 hb);have HNL:=zh (fun (w1:World)=>show Calls prog 14 #[.int .u64 P] w1 (fun e w'=>e=.returned (.bool false)/\w1=w') from by
  have:=Z6 (w:=w1) (p:=P);rw [ZLB hp0] at this;exact this)
 have HVL:=zh (fun (w1:World)=>Qa (w:=w1) hp hp2 (by omega));have HLD:=zh (fun (wx:World) (hb:Bl w wx)=>JJ (h.below hb) (by omega) (hr.below hb));have HFD:=zh (fun (CS:Array Value) (hz:CS.size=64) (hc:∀ y,y < 64->CS[y]?=some (.int .u64 (c (16+y):Nat))) (wx:World)=>ZAa (w:=wx) (f:=fun y=>c (16+y)) hz hc hn (.inl ⟨rfl,hno⟩));have HFL:=zh (fun (wx:World) (hb:Bl w wx)=>ZFZ (P:=P) (hr.below hb) (h.below hb).nib he ha hpk);have HT:=zh (show ∀ m,m<=e->(m < e->c (16+(4 * m+3))≠0)/\(m=e->c (16+(4 * m+3))=0) from fun m hm=>⟨h1 m,fun q=>by rw [q];exact h0⟩);have HE:=zh he;have HR:=zh (Below.refl w.heap.size w);have HRT:=zh (fun (wx:World) (hb:Bl w wx)=>(XX (hr.below hb)).1);have c0:=HRT.o w HR.o;rw [show ((160 * 64:Nat):Int)=10240 by rfl] at HSZ;clear h hr hn hno hna he h1 h0 ha hpk hp hp2 hp0;go_in;go_wp2_with fail;refine HNO.o.mono ?_;rintro r w' ⟨rfl,rfl⟩;go_wp2_with fail;refine (HNA.o _).mono ?_;rintro r w' ⟨rfl,rfl⟩;go_wp2_with fail;refine (HNL.o _).mono ?_;rintro r w' ⟨rfl,rfl⟩;go_wp2_with fail;refine (HSZ.o _ HR.o).mono ?_;rintro r w' ⟨rfl,rfl⟩;go_wp2_with fail;refine (HVL.o _).mono ?_;rintro r w' ⟨rfl,rfl⟩;go_wp2_with fail;refine (HLD.o _ HR.o).mono ?_;rintro r w2 ⟨CS,rfl,hcs,hcg,hb2⟩;have HB2:=zh hb2;have HIX:=zh (fun (m:Nat) (hm:m < 16) (wx:World)=>ZGZ (f:=fun y=>c (16+y)) hcs hcg hm wx);have HCZ:=zh hcs;have HF2:=zh (HFD.o CS hcs hcg);have HALL:=zh (show CS.all (·.oneCell')=true from by
  refine Array.all_eq_true_iff_forall_mem.2 fun v hv=>?_
  obtain ⟨j,hj,e⟩:=Array.getElem_of_mem hv;have hj64:j < 64:=by rw [hcs] at hj;exact hj
  have:=hcg j hj64;rw [ZLW hj,e] at this;cases this;rfl)
 clear hb2 hcs hcg HLD HFD HNO HNA HVL HSZ c0;go_upto_region 8 with (refine wpList_store_row rfl 149 (.tmp 8) (.tmp 34) rfl w2.heap.size CS rfl rfl 149 _ (ZB _ _) (by rw [HCZ.o];kernel_rfl) (by rw [HCZ.o];rfl) HALL.o ?_)
 generalize hold:(Obj.cells _ 149 (0,0))=OB;obtain ⟨w3,hw3⟩:=xE ((w2.alloc OB).setRow w2.heap.size CS);obtain ⟨g,hg⟩:=xE w2.heap.size;have h23:Bl w2 w3:=by rw [hw3];exact Ye (ZA bR) nR CS
 have HC3:=zh (show w3.heap[g]?=some (.cells CS 149 (0,0)) by rw [hw3,<-hold,hg];exact setRow_heap _ _ _ _ _ _ (ZB _ _));have HB3:=zh (HB2.o.trans (h23.mono HB2.o.size));rw [<-hw3,<-hg];clear hw3 hold OB HALL h23 hg;go_wp2_with (refine wpList_load_row rfl 149 (.tmp 8) rfl g rfl 149 CS (0,0) _ HC3.o underlying149 rfl (by rw [HCZ.o];kernel_rfl) ?_);refine (HF2.o _).mono ?_;rintro r w4 ⟨rfl,hb4⟩;have HB4:=zh (HB3.o.trans (hb4.mono HB3.o.size));have HC4:=zh ((hb4.block _ (heap_lt HC3.o)).trans HC3.o);clear hb4;go_wp2_with fail;refine (HNL.o _).mono ?_;rintro r w' ⟨rfl,rfl⟩;go_wp2_with fail;refine (HNL.o _).mono ?_;rintro r w' ⟨rfl,rfl⟩;go_wp2_with (refine wpList_load_row rfl 149 (.tmp 8) rfl g rfl 149 CS (0,0) _ HC4.o underlying149 rfl (by rw [HCZ.o];kernel_rfl) ?_)
 go_loopw [67] (fun i wr=>∃ m:Nat,m<=e/\i=.int .i64 m/\Bl w4 wr) (fun i _=>16 - (intOf i).toNat)
 case atStart=>exact ⟨0,by omega,rfl,bR⟩
 case round=>
 obtain ⟨m,hm,rfl,hb⟩:=hrel;have hlt:m < 16:=by have:=HE.o;omega
 have d0:(m:Int) < 16:=by omega
 have hix:=HIX.o m hlt;have HB:=zh hb;have HM:=zh hm;have HL:=zh hlt;obtain ⟨t1,t0⟩:=HT.o m hm;unfold ZB4 at hix;simp only at hix;obtain ⟨f0,hf0⟩:=xE (c (16+4 * m));obtain ⟨f1,hf1⟩:=xE (c (16+(4 * m+1)));obtain ⟨f2,hf2⟩:=xE (c (16+(4 * m+2)));obtain ⟨f3,hf3⟩:=xE (c (16+(4 * m+3)));rw [<-hf3] at t0 t1;rw [<-hf0,<-hf1,<-hf2,<-hf3] at hix;clear hb hm hlt hf0 hf1 hf2 hf3
 by_cases hme:m=e
 ·have t0:=t0 hme
  subst t0 hme;clear t1;go_wp2_with fail;have hbx:=fun o=>HB4.o.trans ((Zo (o:=o) HB.o HB.o.size).mono HB4.o.size)
  refine (HFL.o _ (hbx _)).mono ?_;rintro r w6 ⟨v,rfl,hw,hb6⟩;have HW:=zh hw;have HB6:=zh ((hbx _).trans (hb6.mono (hbx _).size));clear hw hb6 hbx;go_wp2;go_returns;exact ⟨v,rfl,HW.o,HB6.o⟩
 ·have t1:=t1 (by have:=HM.o;omega)
  have d3:((f3:Int) == 0)=false:=by simp;exact t1
  have HX:=zh (Zo (o:=.cells #[.int .u64 f0,.int .u64 f1,.int .u64 f2,.int .u64 f3] 94) HB.o HB.o.size);clear t0;have hM:=HM.o;have hl:=HL.o;go_wp2_with fail;go_roundw
  case rel=>exact ⟨m+1,by omega,by go_num,HX.o⟩
  case measure=>simp [intOf];omega
open Go.ChangeShapes Go.WideShapes
theorem ZJ5 {α:Type}{l:List α}(h:l.length=3):∃ a b c,l=[a,b,c]:=match l,h with|[a,b,c],_=>⟨a,b,c,rfl⟩
theorem ZFk {w:World}{a:Addr}{v:Value}(h:w.cell? a=some v):a=⟨a.block,a.off,none⟩:=by
 obtain ⟨b,o,s⟩:=a;cases s with
 |none=>rfl
 |some x=>unfold World.cell? at h;split at h <;> simp at h
def AArg (W:World)(a:Option Addr)(len:Nat)(rc:Nat->Int×Int×Int):Prop:=
 ∀ i,i < len->∃ b o,a=some ⟨b,o,none⟩/\W.cell? ⟨b,o+i * 3,none⟩=some (.int .i64 (rc i).1)/\W.cell? ⟨b,o+i * 3+1,none⟩=some (.int .i64 (rc i).2.1)/\W.cell? ⟨b,o+i * 3+2,none⟩=some (.int .i64 (rc i).2.2)
section
variable {H:Type}{enc:TypeId×Value->H}{W:World}{base:Nat}{held:Bool}
theorem acts_of {fuel:Nat}{v:Value}{y:DataW H×List MemPlace}(h:DataW.trod enc prog W base (fun _=>true) held fuel 22 [v]=some y):
 ∃ a len cap rc,v=.slice a len cap/\AArg W a len rc/\len<=cap/\cap<=maxLen/\(a=none->cap=0):=by
 rcases Go.Deep.open_slice underlying22 h with ⟨hcs,_⟩|⟨a,len,cap,m,n,D,Pl,hcs,_,hl,hcm,hmm,hx,hi⟩
 ·simp only [List.cons.injEq,and_true] at hcs
  exact ⟨none,0,0,fun _=>(0,0,0),hcs,fun i hi=>absurd hi (by omega),nR,by unfold maxLen;omega,fun _=>rfl⟩
 ·simp only [List.cons.injEq,and_true] at hcs
  have hm:m=cap:=by simpa using hmm
  have hc3:prog.cellsOf 47=3:=by kernel_rfl
  have el:∀ i,∃ c:Int×Int×Int,i < len->W.cell? (a.add (i * 3))=some (.int .i64 c.1)/\W.cell? ((a.add (i * 3)).add 1)=some (.int .i64 c.2.1)/\W.cell? ((a.add (i * 3)).add 2)=some (.int .i64 c.2.2):=by
   intro i
   by_cases hil:i < len
   ·obtain ⟨cs',hc,ht'⟩:=hi i (by omega)
    rw [hc3] at hc;obtain ⟨ys,n',_,hy,_,hyl,hf⟩:=DataW.trod_struct underlying47 ht';obtain ⟨_,hcl,hat⟩:=World.cells?_some hc;obtain ⟨c0,c1,c2,rfl⟩:=ZJ5 hcl;obtain ⟨y0,y1,y2,rfl⟩:=ZJ5 hyl;have k0:prog.cellsOf 3=1:=by kernel_rfl
    have f0:=hf 0 {name:= "Kind",type:=3,offset:=0,embedded:=false,tag:= "",pkgPath:= "",byteOffset:=0} rfl;dsimp only at f0;have f1:=hf 1 {name:= "Slot",type:=3,offset:=1,embedded:=false,tag:= "",pkgPath:= "",byteOffset:=8} rfl;dsimp only at f1;have f2:=hf 2 {name:= "Thread",type:=3,offset:=2,embedded:=false,tag:= "",pkgPath:= "",byteOffset:=16} rfl;dsimp only at f2;rw [k0] at f0 f1 f2;obtain ⟨z0,e0,_,_⟩:=DataW.trod_int underlying3 f0;obtain ⟨z1,e1,_,_⟩:=DataW.trod_int underlying3 f1;obtain ⟨z2,e2,_,_⟩:=DataW.trod_int underlying3 f2;have q0:=hat 0 (by omega);have q1:=hat 1 (by omega);have q2:=hat 2 (by omega);have g0:c0=.int .i64 z0:=by simpa using e0
    have g1:c1=.int .i64 z1:=by simpa using e1
    have g2:c2=.int .i64 z2:=by simpa using e2
    clear e0 e1 e2;subst g0 g1 g2;exact ⟨(z0,z1,z2),fun _=>⟨q0,q1,q2⟩⟩
   ·exact ⟨(0,0,0),fun q=>absurd q hil⟩
  obtain ⟨rc,hrc⟩:∃ rc:Nat->Int×Int×Int,∀ i,i < len->W.cell? (a.add (i * 3))=some (.int .i64 (rc i).1)/\W.cell? ((a.add (i * 3)).add 1)=some (.int .i64 (rc i).2.1)/\W.cell? ((a.add (i * 3)).add 2)=some (.int .i64 (rc i).2.2):=
   ⟨fun i=>Classical.choose (el i),fun i=>Classical.choose_spec (el i)⟩
  clear el hi;refine ⟨some a,len,cap,rc,hcs,fun i hil=>?_,hl,hcm,fun e=>(by cases e)⟩;obtain ⟨q0,q1,q2⟩:=hrc i hil;have ha:a=⟨a.block,a.off,none⟩:=by
   have p0:=(hrc 0 (by omega)).1;rw [show 0 * 3=0 from rfl,show a.add 0=a from rfl] at p0;exact ZFk p0
  rw [ha,Addr.add_lit] at q0 q1 q2;rw [Addr.add_lit] at q1 q2;exact ⟨a.block,a.off,congrArg some ha,q0,q1,q2⟩
end
end
end Go.Proofs.YteomliechfdhhaaGreatDoor.Dv
