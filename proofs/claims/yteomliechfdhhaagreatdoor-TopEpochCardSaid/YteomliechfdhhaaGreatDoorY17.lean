/- Part 17. -/
import Derived.Test.YteomliechfdhhaaGreatDoorY16
set_option maxHeartbeats 8000000
set_option maxRecDepth 20000
set_option linter.all false
namespace Go.Proofs.YteomliechfdhhaaGreatDoor.Dv
open Tryz
section
open Go.RowKit Go.Proofs.YteomliechfdhhaaGreatDoor.Size
variable {w:World}{A:DAd}{F:Nat->Option ZK}{L:Nat}{T c:Nat->Nat}
def Chk.block (k:Chk)(line p:Nat):Int×Int:=
 if p=0 then (0,1) else if (k.find line (ZM p)).2=false\/p / 72057594037927936≠0 then (0,2)
 else if (k.blk (k.find line (ZM p)).1.toNat).st≠177\/(k.blk (k.find line (ZM p)).1.toNat).gen≠Vr p then (0,12)
 else if (k.blk (k.find line (ZM p)).1.toNat).kind≠Z0 p then (0,13) else ((k.find line (ZM p)).1,0)
theorem ZDB (h:Ar w A F L T c){i:Nat}(hi:i < 8){line:Nat}(hl:line+32<=L){k:Chk}(hR:CRep T c (8 * line) k)(hk:0<=k.cl){p:Nat}(hp:p < 18446744073709551616):
 Calls prog 84 #[chV A i line k,.int .u64 p] w fun e w'=>e=.returned (.tuple #[.int .i64 (k.block line p).1,.int .i64 (k.block line p).2])/\Bl w w':=by
 have hL:=h.lines;have HNI:=zh (fun w1=>Z6 (w:=w1) (p:=p));have HOF:=zh (fun w1=>YU (w:=w1) hp);have HGE:=zh (fun w1=>ZCU (w:=w1) hp);have HKI:=zh (fun w1=>Vl (w:=w1) hp);have hof:=XT p;have HFI:=zh (fun w1 (hb:Bl w w1)=>ZEk (A:=A) (i:=i) (line:=line) (k:=k) (h.below hb).tab (by omega) (show ZM p < 18446744073709551616 by omega));have HER:=zh (fun w1 hb=>Zq h hi w1 hb);have HRD:=zh (fun (j:Nat) (hj:j < perN k) w1 (hb:Bl w w1)=>Uv (h.below hb) hi hl hR hk hj);have HFO:=zh (fun q=>Chk.find_ok (line:=line) (off:=ZM p) hR.head q);have HGD:=zh (fun (j:Nat) (hj:j < perN k)=>hR.good hk j hj);obtain ⟨r,hr⟩:=xE (k.block line p);rw [<-hr];unfold Chk.block at hr
 by_cases h0:p=0
 ·rw [ZKv h0] at hr
  subst hr;rw [ZLG h0] at HNI;unfold chV;clear h hR hl hL hi hk hof hp h0;go_in;go_wp2_with fail;refine (HNI.o _).mono ?_;rintro e w' ⟨rfl,rfl⟩;go_wp2;go_returns;exact ⟨rfl,ZA bR⟩
 ·rw [ZKu h0] at hr
  rw [ZLB h0] at HNI;obtain ⟨I,B,hIB⟩:∃ I B,k.find line (ZM p)=(I,B):=⟨_,_,rfl⟩
  rw [hIB] at HFI HFO hr;simp only at HFI HFO hr;have HRR:=zh hr;clear hr;obtain ⟨w0,hw0⟩:=xE (w.alloc (.cells #[.iface 97 (.pointer (some ⟨A.t i,0,none⟩)),.int .i64 line,.int .i64 k.cl,.int .i64 k.ow,.int .u16 k.gen] 195));have HB0:=zh (show Bl w w0 by rw [hw0];exact ZA bR);have HC0:=zh (show CBox w0 w.heap.size A i line k by rw [hw0];exact CBox.new);have HW0:=zh hw0;have b1:(p:Int) < 18446744073709551616:=by omega
  unfold chV bkV at *;clear h hR hl hL hi hk hof hw0 hIB;go_in;go_wp2_with fail;refine (HNI.o _).mono ?_;rintro e w' ⟨rfl,rfl⟩;rw [<-HW0.o];obtain ⟨c0,c1,c2,c3,c4⟩:=id HC0.o;go_wp2_with fail;have k0:=fun p:BW w0=>ZV c0 p
  have k1:=fun p:BW w0=>ZV c1 p
  have k2:=fun p:BW w0=>ZV c2 p
  have k3:=fun p:BW w0=>ZV c3 p
  have k4:=fun p:BW w0=>ZV c4 p
  have HFI4:=zh (fun q:BW w0=>VL (HFI.o q.v (HB0.o.trans (q.h.mono HB0.o.size))));have HOF4:=zh (fun q:BW w0=>Yt (HOF.o q.v));clear c0 c1 c2 c3 c4;refine Zv (by kernel_rfl) (by kernel_rfl) ?_
  repeat (quiet_step (first
   |(go_at_call 35;exact HOF4.o _)
   |(go_at_call 139;exact HFI4.o _)))
  refine wpQuiet_nil ?_;rintro _ ⟨q,rfl⟩;have HB1:=zh (HB0.o.trans (q.h.mono HB0.o.size));have HC1:=zh (HC0.o.bw q);obtain ⟨w1,hw1⟩:=xE q.v;rw [<-hw1] at HB1 HC1 ⊢;clear k0 k1 k2 k3 k4 HFI4 HOF4 hw1 HFI HOF HB0 HC0 HW0 HNI;cases B with
  |false=>
   have e:=HRR.o.trans (ZKv (.inl rfl));clear h0 hp HRR;subst e;go_wp2;go_returns;exact ⟨rfl,HB1.o⟩
  |true=>
   by_cases h5:p / 72057594037927936≠0
   ·have e:=HRR.o.trans (ZKv (.inr h5))
    subst e;have d1:((p:Int) / 72057594037927936 != 0)=true:=by simp;omega
    clear h0 hp h5;go_wp2;go_returns;exact ⟨rfl,HB1.o⟩
   ·have e:=HRR.o.trans (ZKu (fun q=>q.elim (fun q=>by cases q) (fun q=>h5 q)))
    have HRR:=zh e;clear e;have d1:((p:Int) / 72057594037927936 != 0)=false:=by simp;omega
    obtain ⟨j,hj,e1,e2⟩:=HFO.o rfl;subst e1;rw [Int.toNat_natCast] at HRR;have HR:=zh (HRD.o j hj);have hgd:=HGD.o j hj;have hu:k.used j=decide ((k.blk j).st≠176):=by unfold Chk.used;rw [Bool.eq_iff_iff];simp
    obtain ⟨b,hb⟩:=xE (k.blk j);rw [<-hb] at HR hgd hu HRR;obtain ⟨U,hU⟩:=xE (k.used j);rw [<-hU] at HR hu;have HU:=zh hu;clear hU hu;clear h0 hp h5 HRD HFO HGD hb e2;obtain ⟨c0,c1,c2,c3,c4⟩:=id HC1.o;go_wp2_with fail;refine (HER.o _ HB1.o).mono ?_;rintro e w' ⟨rfl,rfl⟩;go_wp2_with fail;refine (HR.o _ HB1.o).mono ?_;rintro e w2 ⟨rfl,hb⟩;have HB2:=zh (ZA (o:=.cells #[.int .u16 b.gen,.int .u8 b.kind,.int .u8 b.st] 268) (HB1.o.trans (hb.mono HB1.o.size)));have HC2:=zh ((HC1.o.below hb).below (ZA (o:=.cells #[.int .u16 b.gen,.int .u8 b.kind,.int .u8 b.st] 268) (Below.refl w2.heap.size w2)));have HN:=zh (ZB w2 (.cells #[.int .u16 b.gen,.int .u8 b.kind,.int .u8 b.st] 268));clear hb HR HB1 HC1 c0 c1 c2 c3 c4;obtain ⟨c0,c1,c2,c3,c4⟩:=id HC2.o;go_wp2_with fail;refine (HER.o _ HB2.o).mono ?_;rintro e w' ⟨rfl,rfl⟩;obtain ⟨w3,hw3⟩:=xE (w2.alloc (.cells #[.int .u16 b.gen,.int .u8 b.kind,.int .u8 b.st] 268));rw [<-hw3] at HB2 HC2 HN ⊢;clear c0 c1 c2 c3 c4 hw3 HER HC2;obtain ⟨b0,b1,b2,_⟩:=Zb HN.o;have e9:((b.st:Int) != 177)=decide (b.st≠177):=by rw [Bool.eq_iff_iff];simp;omega
    have e8:((b.gen:Int) != (Vr p:Int))=decide (b.gen≠Vr p):=by rw [Bool.eq_iff_iff];simp;omega
    have e7:((b.kind:Int) != (Z0 p:Int))=decide (b.kind≠Z0 p):=by rw [Bool.eq_iff_iff];simp;omega
    by_cases h7:b.st=177
    ·obtain rfl:U=true:=by rw [HU.o];simp;omega
     have f4:decide (b.st≠177)=false:=by simp [h7]
     rw [f4] at e9
     by_cases h8:b.gen=Vr p
     ·have f5:decide (b.gen≠Vr p)=false:=by simp [h8]
      rw [f5] at e8;have e:=HRR.o.trans (ZKu (fun q=>q.elim (fun q=>q h7) (fun q=>q h8)));clear hgd f4 f5 h7 h8 HRR HU;go_wp2_with fail
      go_quiet (first
       |(go_at_call 141;exact Zj (HGE.o _)))
      have HB3:=zh (ZY (n:=nq) HB2.o);have HN3:=zh (show (w3.drewN nq).heap[w2.heap.size]?=_ from HN.o);obtain ⟨w4,hw4⟩:=xE (w3.drewN nq);rw [<-hw4] at HB3 HN3 ⊢;clear hw4 b0 b1 b2;obtain ⟨b0,b1,b2,_⟩:=Zb HN3.o
      by_cases h9:b.kind=Z0 p
      ·have f6:decide (b.kind≠Z0 p)=false:=by simp [h9]
       rw [f6] at e7;have e:=e.trans (ZKu (fun q=>q h9));subst e;clear h9 f6;go_wp2_with fail
       go_quiet (first
        |(go_at_call 85;exact Zj (HKI.o _)))
       have HB5:=zh (ZY (n:=nq) HB3.o);go_wp2;go_returns;exact ⟨rfl,HB5.o⟩
      ·have f6:decide (b.kind≠Z0 p)=true:=by simp [h9]
       rw [f6] at e7;have e:=e.trans (ZKv h9);subst e;clear h9 f6;go_wp2_with fail
       go_quiet (first
        |(go_at_call 85;exact Zj (HKI.o _)))
       have HB5:=zh (ZY (n:=nq) HB3.o);go_wp2;go_returns;exact ⟨rfl,HB5.o⟩
     ·have f5:decide (b.gen≠Vr p)=true:=by simp [h8]
      rw [f5] at e8;have e:=HRR.o.trans (ZKv (.inr h8));clear hgd f4 f5 h7 h8 HRR HU;subst e;go_wp2_with fail
      go_quiet (first
       |(go_at_call 141;exact Zj (HGE.o _)))
      have HB3:=zh (ZY (n:=nq) HB2.o);go_wp2;go_returns;exact ⟨rfl,HB3.o⟩
    ·have f4:decide (b.st≠177)=true:=by simp [h7]
     rw [f4] at e9;have e:=HRR.o.trans (ZKv (.inl h7));subst e;clear hgd f4 h7 HRR HU;cases U with
     |true=>
      go_wp2_with fail
      go_quiet (first
       |(go_at_call 141;exact Zj (HGE.o _)))
      have HB3:=zh (ZY (n:=nq) HB2.o);go_wp2;go_returns;exact ⟨rfl,HB3.o⟩
     |false=>
      go_wp2_with fail
      go_quiet (first
       |(go_at_call 141;exact Zj (HGE.o _)))
      have HB3:=zh (ZY (n:=nq) HB2.o);go_wp2;go_returns;exact ⟨rfl,HB3.o⟩
variable {w':World}
def cPtr:Codec Nat where
 val:=fun n=>.int .u64 (n:Int)
 num:=fun n=>[(n:Int)]
 dec:=fun v=>match v with
  |.int .u64 (.ofNat n)=>some n
  |_=>none
 dv:=fun a=>rfl
 vd:=fun v a h=>by
  split at h
  ·cases h;rfl
  ·cases h
 inj:=fun a b h=>by simp only [List.cons.injEq,and_true] at h;omega
def cInt:Codec Nat where
 val:=fun n=>.int .i64 (n:Int)
 num:=fun n=>[(n:Int)]
 dec:=fun v=>match v with
  |.int .i64 (.ofNat n)=>some n
  |_=>none
 dv:=fun a=>rfl
 vd:=fun v a h=>by
  split at h
  ·cases h;rfl
  ·cases h
 inj:=fun a b h=>by simp only [List.cons.injEq,and_true] at h;omega
theorem ZJk (w:World):(zeroValue 30).run prog w=.ok (cPtr.val 0) w:=by kernel_rfl
theorem ZHh (w:World):(zeroValue 3).run prog w=.ok (cInt.val 0) w:=by kernel_rfl
abbrev J1 (w:World)(b ex:Nat)(f:Nat->Option Nat):Prop:=UMap prog 29 .u64 cPtr w b ex f
abbrev ZBf (w:World)(b ex:Nat)(f:Nat->Option Nat):Prop:=UMap prog 3 .i64 cInt w b ex f
structure HAd where
 hb:Nat
 sb:Nat
 pb:Nat
 rb:Nat
 vb:Nat
 t:Nat
 l0:Nat
 ls:Nat
 cap:Nat
 x0:Nat
def HAd.n (H:HAd):Nat:=H.ls / 32
structure HpW (w:World)(A:DAd)(H:HAd)(lk:Bool):Prop where
 hp:w.heap[H.hb]?=some (.cells #[.iface 97 (.pointer (some ⟨A.t H.t,0,none⟩)),.int .i64 H.l0,.int .i64 H.ls,.pointer (some ⟨H.sb,0,none⟩),.map (some H.rb),.map (some H.vb),.map none,.bool lk] 144 (0,0))
 t:H.t < 8
 bd:H.l0+H.ls<=4096
theorem HpW.below {H:HAd}{lk:Bool}(h:HpW w A H lk)(hb:Bl w w'):HpW w' A H lk:=⟨(hb.block _ (heap_lt h.hp)).trans h.hp,h.t,h.bd⟩
theorem HpW.agree {H:HAd}{lk:Bool}(h:HpW w A H lk)(hb:w'.heap[H.hb]?=w.heap[H.hb]?):HpW w' A H lk:=⟨hb.trans h.hp,h.t,h.bd⟩
theorem wfU {n:Nat}(h:n < 18446744073709551616):(Lit.int .u64 (n:Int)).wf=true:=by
 simp [Lit.wf,IntKind.min,IntKind.max,IntKind.bits,IntKind.signed];omega
theorem QN {H:HAd}{lk:Bool}(h:HpW w A H lk){k:Nat}(hk:k < H.n){off:Nat}(h1:64 * (H.l0+32 * k)<=off)(h2:off < 64 * (H.l0+32 * k)+2048):
 Calls prog 82 #[.pointer (some ⟨H.hb,0,none⟩),.int .u64 off] w fun e w'=>e=.returned (.tuple #[.int .i64 ((H.l0+32 * k:Nat):Int),.bool true])/\w=w':=by
 obtain ⟨c0,c1,c2,c3,c4,c5,c6,c7,_⟩:=Zz h.hp;have hbd:=h.bd;unfold HAd.n at hk;obtain ⟨l0,hl0⟩:=xE H.l0;obtain ⟨ls,hls⟩:=xE H.ls;rw [<-hl0] at c1 h1 h2 hbd ⊢;rw [<-hls] at c2 hk hbd;have b0:(l0:Int)<=4096:=by omega
 have b1:(ls:Int)<=4096:=by omega
 have b2:(off:Int) < 1000000:=by omega
 have b3:(k:Int) < 4096:=by omega
 have d1:¬ ((off:Int) < (l0:Int) * 64):=by omega
 have e1:((off:Int) - (l0:Int) * 64) / 2048=(k:Int):=by omega
 have d2:¬ ((k:Int)>=(ls:Int) / 32):=by omega
 have E1:=zh (show ((l0:Int)+(k:Int) * 32)=((l0+32 * k:Nat):Int) by omega);have b4:(l0:Int) * 64<=(off:Int):=by omega
 clear h h1 h2 hl0 hls hk hbd;go_in;go_wp2;go_returns;rw [E1.o];exact ⟨rfl,rfl⟩
theorem ZAM {H:HAd}{lk:Bool}(h:HpW w A H lk){ex:Nat}{res:Nat->Option Nat}(hr:J1 w H.rb ex res){p:Nat}(hp:p < 18446744073709551616):
 Calls prog 122 #[.pointer (some ⟨H.hb,0,none⟩),.int .u64 p] w fun e w'=>e=.returned (.bool (decide (res (ZM p)=some p)))/\Bl w w':=by
 obtain ⟨c0,c1,c2,c3,c4,c5,c6,c7,_⟩:=Zz h.hp;have hof:=XT p;have hwf:(Lit.int .u64 (ZM p:Int)).wf=true:=wfU (by omega);have HLK:=zh (fun q:BW w=>(hr.kept (q.h.block _ hr.lt)).look2 underlying29 underlying140 (ZJk _) hwf);have k4:=fun q:BW w=>ZV c4 q
 have HOF4:=zh (fun q:BW w=>Yt (YU (w:=q.v) hp));obtain ⟨r,hr2⟩:=xE (res (ZM p));rw [<-hr2] at HLK ⊢;unfold cPtr at HLK;simp only at HLK;clear h hr hwf hof hr2 c0 c1 c2 c3 c4 c5 c6 c7 hp;go_in;go_wp2_with fail;have hlk:=HLK.o;refine Zv (by kernel_rfl) (by kernel_rfl) ?_
 repeat (quiet_step (first
  |(go_at_call 35;exact HOF4.o _)))
 refine wpQuiet_nil ?_;rintro _ ⟨q,rfl⟩;have HB5:=zh q.h;clear k4 hlk;cases r with
 |none=>
  go_wp2;go_returns;exact ⟨rfl,HB5.o⟩
 |some x=>
  by_cases e:x=p
  ·subst e
   go_wp2;go_returns;exact ⟨by simp,HB5.o⟩
  ·have d:((x:Int) == (p:Int))=false:=by simp;omega
   go_wp2;go_returns;exact ⟨by simp [e],HB5.o⟩
theorem ZAA (hT:NTab w T){b:Blk}(hb:b.Good):Calls prog 208 #[bkV b] w fun e w'=>e=.returned (.int .u64 (ZX T b.info))/\Bl w w':=by
 have hg:=hb.gen;have hk:=hb.kind_lt;have hst:=hb.st_lt;have HS:=zh (fun w1 (h:Bl w w1)=>Uh (hT.below h nR) hb.info_lt);obtain ⟨S,hS⟩:=xE (ZX T b.info);rw [<-hS] at HS ⊢;unfold Blk.info at HS;unfold bkV;obtain ⟨g,k,s⟩:=b;simp only at hg hk hst HS ⊢;have e1:bits .or .u32 (g:Int) ((k:Int) * 65536)=((g+k * 65536:Nat):Int):=by
  have:=u32_or_nat g (k * 2 ^ 16) (by omega) (by omega);rw [XD (by omega)] at this;rw [<-this];congr 1
 have e2:bits .or .u32 ((g+k * 65536:Nat):Int) ((s:Int) * 16777216)=((g+k * 65536+s * 16777216:Nat):Int):=by
  have:=u32_or_nat (g+k * 65536) (s * 2 ^ 24) (by omega) (by omega);rw [XD (by omega)] at this;rw [<-this];congr 1
 rw [<-e2,<-e1] at HS;have b1:(g:Int) < 65536:=by omega
 have b2:(k:Int) < 256:=by omega
 have b3:(s:Int) < 256:=by omega
 clear hb hg hk hst hS e1 e2 hT;go_in;go_wp2_with fail;refine (HS.o _ (ZA (Below.refl _ w))).mono ?_;rintro e w1 ⟨rfl,hb⟩;have HB:=zh ((ZA (Below.refl _ w)).trans (hb.mono (by simp)));clear hb HS;go_wp2;go_returns;exact ⟨rfl,HB.o⟩
theorem ZAN (hT:NTab w T){k:Chk}(h:k.Head):Calls prog 210 #[hdV k] w fun e w'=>e=.returned (.int .u64 (ZX T k.info))/\Bl w w':=by
 have hg:=h.gen;have hcl:=h.cl;have HS:=zh (fun w1 (hb:Bl w w1)=>Uh (hT.below hb nR) h.info_lt);obtain ⟨S,hS⟩:=xE (ZX T k.info);rw [<-hS] at HS ⊢;unfold Chk.info at HS;unfold hdV;obtain ⟨cl,ow,g,bl⟩:=k;simp only at hg hcl HS ⊢;have b1:(g:Int) < 65536:=by omega
 have e1:bits .or .u32 (g:Int) 3305111552=((g+3305111552:Nat):Int):=by
  have:=u32_or_nat g (197 * 2 ^ 24) (by omega) (by omega);rw [XD (by omega)] at this;rw [<-this];congr 1
 rcases hcl with ⟨rfl,rfl⟩|⟨n1,n2,n3,n4⟩
 ·rw [show g+(-1+1:Int).toNat * 65536+(-1+1:Int).toNat * 1048576+3305111552=g+3305111552 from rfl,<-e1] at HS
  clear h hg hS e1 hT;go_in;go_wp2_with fail;refine (HS.o _ (ZA (Below.refl _ w))).mono ?_;rintro e w1 ⟨rfl,hb⟩;have HB:=zh ((ZA (Below.refl _ w)).trans (hb.mono (by simp)));clear hb HS;go_wp2;go_returns;exact ⟨rfl,HB.o⟩
 ·obtain ⟨a,rfl⟩:=Int.eq_ofNat_of_zero_le n1
  obtain ⟨o,rfl⟩:=Int.eq_ofNat_of_zero_le n3;have e2:bits .or .u32 (((a:Int)+1) * 65536) (((o:Int)+1) * 1048576)=(((a+1) * 65536+(o+1) * 1048576:Nat):Int):=by
   have:=u32_or_nat ((a+1) * 65536) ((o+1) * 2 ^ 20) (by omega) (by omega);rw [XD (by omega)] at this;rw [<-this];congr 1
  have e3:bits .or .u32 ((g+3305111552:Nat):Int) (((a+1) * 65536+(o+1) * 1048576:Nat):Int)=((g+(a+1) * 65536+(o+1) * 1048576+3305111552:Nat):Int):=by
   have:=u32_or_nat (g+197 * 2 ^ 24) (((a+1)+(o+1) * 16) * 2 ^ 16) (by omega) (by omega);have h1:(g+197 * 2 ^ 24) ||| (((a+1)+(o+1) * 16) * 2 ^ 16)=g+(((a+1)+(o+1) * 16)) * 2 ^ 16+197 * 2 ^ 24:=by
    rw [<-XD (a:=g) (b:=197) (k:=24) (by omega),Nat.or_assoc,Nat.or_comm (197 * 2 ^ 24),<-Nat.or_assoc,XD (a:=g) (k:=16) (by omega),XD (k:=24) (by omega)]
   rw [h1] at this;have h2:g+(a+1) * 65536+(o+1) * 1048576+3305111552=g+(((a+1)+(o+1) * 16)) * 2 ^ 16+197 * 2 ^ 24:=by omega
   have h3:g+3305111552=g+197 * 2 ^ 24:=by omega
   have h4:(a+1) * 65536+(o+1) * 1048576=((a+1)+(o+1) * 16) * 2 ^ 16:=by omega
   rw [h2,h3,h4];exact this
  have e4:((a:Int)+1).toNat=a+1:=by omega
  have e5:((o:Int)+1).toNat=o+1:=by omega
  rw [e4,e5,<-e3,<-e2,<-e1] at HS;have b2:(a:Int)<=4:=by omega
  have b3:(o:Int)<=7:=by omega
  have d1:decide ((0:Int)<=a)=true:=by simp
  have w1:wrap64 ((a:Int)+1)=a+1:=by rw [IntWalk.wrap64_in] <;> omega
  have w2:wrap64 ((o:Int)+1)=o+1:=by rw [IntWalk.wrap64_in] <;> omega
  clear h hg hS e1 e2 e3 e4 e5 n1 n2 n3 n4 hT;go_in;go_wp2_with fail;refine (HS.o _ (ZA (Below.refl _ w))).mono ?_;rintro e w1 ⟨rfl,hb⟩;have HB:=zh ((ZA (Below.refl _ w)).trans (hb.mono (by simp)));clear hb HS;go_wp2;go_returns;exact ⟨rfl,HB.o⟩
def Blk.freed (b:Blk):Blk:=if b.gen=65535 then ⟨65535,0,178⟩ else ⟨b.gen+1,0,176⟩
theorem Blk.freed_good {b:Blk}(h:b.Good):b.freed.Good:=by
 have:=h.gen;unfold Blk.freed;split
 ·exact ⟨by simp,.inr (.inr ⟨rfl,rfl,rfl⟩)⟩
 ·exact ⟨by simp;omega,.inl ⟨rfl,rfl⟩⟩
theorem ZCN {g:Nat}(hg:g < 65536):Calls prog 253 #[.int .u16 g] w fun e w'=>e=.returned (.tuple #[.int .u16 ((if g=65535 then 0 else g+1:Nat):Int),.bool (decide (g≠65535))])/\w=w':=by
 by_cases h:g=65535
 ·subst h
  go_in;go_wp2;go_returns;exact ⟨rfl,rfl⟩
 ·have d:((g:Int) == 65535)=false:=by simp;omega
  have b:(g:Int)+1 < 65536:=by omega
  rw [ZKu h,ZLG h];have e:(((g+1:Nat)):Int)=(g:Int)+1:=by omega
  rw [e];clear h hg e;go_in;go_wp2;go_returns;exact ⟨rfl,rfl⟩
theorem ZDC {b:Blk}(hg:b.gen < 65536):Calls prog 222 #[bkV b] w fun e w'=>e=.returned (bkV b.freed)/\Bl w w':=by
 have HN:=zh (fun w1=>ZCN (w:=w1) hg);obtain ⟨g,k,s⟩:=b;unfold Blk.freed;unfold bkV;simp only at hg HN ⊢
 by_cases h:g=65535
 ·subst h
  rw [ZKv rfl,ZLB (by simp)] at HN;rw [ZKv rfl];clear hg;go_in;go_wp2_with fail;refine (HN.o _).mono ?_;rintro e w' ⟨rfl,rfl⟩;go_wp2;go_returns;exact ⟨rfl,by repeat (first|exact bR|apply ZE|apply ZA|simp)⟩
 ·rw [ZKu h,ZLG h] at HN
  rw [ZKu h];obtain ⟨g1,hg1⟩:=xE (g+1);rw [<-hg1] at HN ⊢;clear hg h hg1;go_in;go_wp2_with fail;refine (HN.o _).mono ?_;rintro e w' ⟨rfl,rfl⟩;go_wp2;go_returns;exact ⟨rfl,by repeat (first|exact bR|apply ZE|apply ZA|simp)⟩
def Nats (w:World)(v:Value)(l:List Nat):Prop:=v=.slice none 0 0/\l=[]\/∃ b o cap,v=.slice (some ⟨b,o,none⟩) l.length cap/\Seen w b o (l.map fun (n:Nat)=>Value.int .i64 (n:Int))
theorem Nats.below {w w':World}{v:Value}{l:List Nat}(h:Nats w v l)(hb:Bl w w'):Nats w' v l:=by
 rcases h with h|⟨b,o,cap,h1,h2⟩
 ·exact .inl h
 ·exact .inr ⟨b,o,cap,h1,h2.below hb nR⟩
theorem Nats.len {w:World}{v:Value}{l:List Nat}(h:Nats w v l):∃ a cap,v=.slice a l.length cap:=by
 rcases h with ⟨h,rfl⟩|⟨b,o,cap,h1,h2⟩
 ·exact ⟨none,0,h⟩
 ·exact ⟨_,cap,h1⟩
theorem Nats.at {w:World}{v:Value}{l:List Nat}(h:Nats w v l){n:Nat}(hn:n < l.length):∃ b o cap,v=.slice (some ⟨b,o,none⟩) l.length cap/\w.cell? ⟨b,o+n,none⟩=some (.int .i64 (l[n]:Nat)):=by
 rcases h with ⟨h,rfl⟩|⟨b,o,cap,h1,h2⟩
 ·simp at hn
 ·exact ⟨b,o,cap,h1,h2 n _ (by simp [hn])⟩
def Vx (l:List Nat):Nat:=Ze (fun i=>decide (i∈l)) 62
theorem ZGh (l:List Nat):Vx l < 4611686018427387904:=YW _ 62
theorem ZGg (l:List Nat){i:Nat}(hi:i < 62):Vx l / 2 ^ i % 2=if i∈l then 1 else 0:=by
 unfold Vx;rw [Ys _ hi];simp
theorem ZFC {l:List Nat}{i:Nat}(hi:i < 62)(hn:i∉l):Vx (l++[i])=Vx l+2 ^ i:=by
 unfold Vx;rw [<-Xq (f:=fun i=>decide (i∈l)) (by simpa using hn) hi];refine YI fun j _=>?_
 by_cases e:j=i
 ·simp [e]
 ·simp [e]
theorem ZDg {x i:Nat}(h:x / 2 ^ i % 2=0):x ||| 2 ^ i=x+2 ^ i:=by
 have hd:=Nat.div_add_mod x (2 ^ (i+1));have hr:x % 2 ^ (i+1) < 2 ^ i:=by
  have h1:=Nat.mod_lt x (Nat.two_pow_pos (i+1));have h2:x % 2 ^ (i+1) / 2 ^ i=x / 2 ^ i % 2:=by rw [Nat.pow_succ,Nat.mod_mul_right_div_self]
  rw [h] at h2;exact (Nat.div_eq_zero_iff.1 h2).resolve_left (by have:=Nat.two_pow_pos i;omega)
 obtain ⟨r,hr2⟩:=xE (x % 2 ^ (i+1));obtain ⟨q,hq⟩:=xE (x / 2 ^ (i+1));rw [<-hr2,<-hq] at hd;rw [<-hr2] at hr;have e1:2 ^ i ||| r=2 ^ i+r:=by
  have:=Nat.two_pow_add_eq_or_of_lt hr 1;rw [Nat.mul_one] at this;exact this.symm
 have hlt:2 ^ i+r < 2 ^ (i+1):=by rw [Nat.pow_succ];omega
 have e2:=Nat.two_pow_add_eq_or_of_lt hlt q;have e3:=Nat.two_pow_add_eq_or_of_lt (show r < 2 ^ (i+1) by rw [Nat.pow_succ];omega) q;rw [<-hd,e3,Nat.or_assoc,Nat.or_comm r,e1,<-e2];omega
def ZJq (w:World)(A:DAd)(i line:Nat)(k:Chk)(ls:Nat->List Nat)(s j:Value)(wr:World):Prop:=
 ∃ n:Nat,n<=2/\j=.int .i64 (n:Nat)/\s=.int .u64 (Vx ((List.range n).flatMap ls):Nat)/\Bl w wr/\CBox wr w.heap.size A i line k
def ZKU (w:World)(A:DAd)(i line:Nat)(k:Chk)(l0 l:List Nat)(s j:Value)(wr:World):Prop:=
 ∃ n:Nat,n<=l.length/\j=.int .i64 (n:Nat)/\s=.int .u64 (Vx (l0++l.take n):Nat)/\Bl w wr/\CBox wr w.heap.size A i line k
theorem ZEr (hS:Tab w){i line:Nat}{k:Chk}(hk:k.Head){ls:Nat->List Nat}{vs:Nat->Value}(hl:∀ j,j < 2->Nats w (vs j) (ls j))(hn:(ls 0++ls 1).Nodup)(hlt:∀ x∈ls 0++ls 1,x < perN k)(hlen:∀ j,(ls j).length<=1000000){b:Nat}(hb:Seen w b 0 [vs 0,vs 1]):
 Calls prog 181 #[chV A i line k,.slice (some ⟨b,0,none⟩) 2 2] w fun e w'=>e=.returned (.bool true)/\Bl w w':=by
 have hp62:=hk.sizes.2.2.1;have HH:=zh (fun (x:Nat) (hx:x < perN k) w1 (hb:Bl w w1)=>(ZLG (show 0<=(x:Int)/\(x:Int) < perN k by omega))▸QB (A:=A) (i:=i) (line:=line) (hS.below hb) hk x);have HL:=zh hl;have HLEN:=zh hlen;have HSN:=zh hb;have HIN:=zh (show ∀ j,j < 2->∀ x∈ls j,x < 62/\x < perN k by
  intro j hj x hx;have:x∈ls 0++ls 1:=by
   rcases (show j=0\/j=1 by omega) with rfl|rfl
   ·exact ZK1.2 (.inl hx)
   ·exact ZK1.2 (.inr hx)
  have:=hlt x this;omega)
 have HND:=zh (show ∀ j,j < 2->∀ n (hn:n < (ls j).length),(ls j)[n]∉(List.range j).flatMap ls++(ls j).take n by
  intro j hj n hlen;rw [ZLO] at hn;obtain ⟨n1,n2,n3⟩:=hn;have hself:∀ (l:List Nat),l.Nodup->∀ n (hn:n < l.length),l[n]∉l.take n:=by
   intro l hl n hn hm;obtain ⟨m,hm1,hm2⟩:=List.getElem_of_mem hm;rw [List.length_take] at hm1;rw [List.getElem_take] at hm2;have:=(List.nodup_iff_pairwise_ne.1 hl)
   have:=ZLY.1 this m n (by omega) hn (by omega);exact this hm2
  rcases (show j=0\/j=1 by omega) with rfl|rfl
  ·simpa using hself _ n1 n hlen
  ·intro hm
   rcases ZK1.1 hm with hm|hm
   ·have hm:(ls 1)[n]∈ls 0:=by simpa using hm
    exact n3 _ hm _ (ZLF _) rfl
   ·exact hself _ n2 n hlen hm)
 have HB:=zh (ZA (o:=.cells #[.iface 97 (.pointer (some ⟨A.t i,0,none⟩)),.int .i64 line,.int .i64 k.cl,.int .i64 k.ow,.int .u16 k.gen] 195) (Below.refl w.heap.size w));have HC:=zh (CBox.new (w:=w) (A:=A) (i:=i) (line:=line) (k:=k));unfold chV at *;clear hS hk hl hn hlt hb hlen;go_in;go_wp2_with fail
 go_loopw [5,12] (fun s j wr=>ZJq w A i line k ls s j wr) (fun _ j _=>2 - (intOf j).toNat)
 case atStart=>exact ⟨0,by omega,rfl,rfl,HB.o,HC.o⟩
 case round=>
  obtain ⟨j,hj,rfl,rfl,hb1,hc1⟩:=hrel;clear HB HC;have HB:=zh hb1;have HC:=zh hc1;clear hb1 hc1
  by_cases hlt:j < 2
  ·have hlt2:(j:Int) < 2:=by omega
   have HLJ:=zh ((HL.o j hlt).below (HB.o.mono nR));have hcell:wr.cell? ⟨b,j,none⟩=some (vs j):=by
    have hs:=HSN.o.below HB.o nR;have:=hs j (vs j) (by rcases (show j=0\/j=1 by omega) with rfl|rfl <;> rfl)
    rwa [ZLI] at this
   obtain ⟨a,cap,hv⟩:=HLJ.o.len;rw [hv] at hcell;obtain ⟨n,hn⟩:=xE ((ls j).length);go_wp2_with fail
   go_loopw [5,18] (fun s m wr2=>ZKU w A i line k ((List.range j).flatMap ls) (ls j) s m wr2) (fun _ m _=>(ls j).length - (intOf m).toNat)
   case atStart=>exact ⟨0,by omega,rfl,by simp,HB.o,HC.o⟩
   case round=>
    obtain ⟨m,hm,rfl,rfl,hb1,hc1⟩:=hrel;have HLJ2:=zh ((HL.o j hlt).below hb1);clear HB HC;have HB:=zh hb1;have HC:=zh hc1;clear hb1 hc1
    by_cases hm2:m < (ls j).length
    ·have hm3:(m:Int) < (ls j).length:=by omega
     obtain ⟨b2,o2,cap2,hv2,hcl⟩:=HLJ2.o.at hm2;obtain ⟨x,hx⟩:=xE ((ls j)[m]);rw [<-hx] at hcl;obtain ⟨hx62,hxp⟩:=HIN.o j hlt x (by rw [hx];exact ZLF _);have hnd:=HND.o j hlt m hm2;rw [<-hx] at hnd;have hadd:=ZFC hx62 hnd;have hat:=ZGg ((List.range j).flatMap ls++(ls j).take m) hx62;rw [ZKu hnd] at hat;obtain ⟨X,hX⟩:=xE (Vx ((List.range j).flatMap ls++(ls j).take m));have hXl:=ZGh ((List.range j).flatMap ls++(ls j).take m);rw [<-hX] at hadd hat hXl ⊢;have e0:(X:Int) / 2 ^ x=((X / 2 ^ x:Nat):Int):=by simp
     have e1:=u64_and_nat (X / 2 ^ x) 1 (Nat.lt_of_le_of_lt (Nat.div_le_self _ _) (by omega)) (by omega);rw [Nat.and_one_is_mod,hat,show ((1:Nat):Int)=1 from rfl,show ((0:Nat):Int)=0 from rfl,<-e0] at e1;have h2x:2 ^ x < 4611686018427387904:=Nat.pow_lt_pow_right (by omega) hx62;have e2:=u64_or_nat X (2 ^ x) (by omega) (by omega);rw [ZDg hat] at e2;have e3:(Vx ((List.range j).flatMap ls++(ls j).take (m+1)):Nat)=X+2 ^ x:=by
      rw [<-hadd,List.append_assoc,ZLE hm2,<-hx]
     have HE:=zh e3;have HX:=zh hX;have E2:=zh e2;have hh:=zh (HH.o x hxp);have d2:(x:Int) < 64:=by omega
     rw [hv] at hv2;cases hv2;clear hadd hat hX e0 e2 e3 hnd hx hXl hxp
     (try clear c0 c1 c2 c3 c4)
     obtain ⟨c0,c1,c2,c3,c4⟩:=id HC.o;go_wp2_with fail;refine (hh.o _ HB.o).mono ?_;rintro e v1 ⟨rfl,hb⟩;replace HC:=zh (HC.o.below hb);replace HB:=zh (HB.o.trans (hb.mono HB.o.size));clear hb;go_wp2_with fail;have w1:wrap64 ((m:Int)+1)=((m+1:Nat):Int):=by have:=HLEN.o j;rw [IntWalk.wrap64_in] <;> omega
     have w2:IntKind.u64.wrap ((2:Int) ^ x)=((2 ^ x:Nat):Int):=by
      rw [show ((2 ^ x:Nat):Int)=(2:Int) ^ x by simp];have p0:(0:Int)<=(2:Int) ^ x:=Int.pow_nonneg (by decide);have p1:=Int.ofNat_lt.2 h2x;rw [show ((2 ^ x:Nat):Int)=(2:Int) ^ x by simp,show ((4611686018427387904:Nat):Int)=4611686018427387904 from rfl] at p1;rw [IntWalk.u64_in] <;> omega
     rw [w1,w2,E2.o];refine ⟨⟨m+1,by omega,rfl,by rw [HE.o],HB.o,HC.o⟩,?_⟩;simp only [intOf];omega
    ·obtain rfl:m=(ls j).length:=by omega
     have d1:¬ (((ls j).length:Int) < (ls j).length):=by omega
     go_wp2_with fail;go_roundw
     case rel=>
      refine ⟨j+1,by omega,by simp,?_,HB.o,HC.o⟩;rw [List.take_length]
      congr 3
      rw [ZLN,List.flatMap_append];simp
     case measure=>simp [intOf];omega
  ·obtain rfl:j=2:=by omega
   have d1:¬ (((2:Nat):Int) < 2):=by omega
   go_wp2;go_returns;exact ⟨rfl,HB.o⟩
theorem JL {P:Program} (w:World) (t tx ty e:TypeId) (i:TypeInfo) (z:Value) (ht:P.underlying t=some (.slice e)) (hk:P.underlying tx=some (.int .i64)) (hi:P.info? e=some i) (hz:i.zero=some z)
 (n:Nat)(hn:0 < n)(hn2:n<=1000)(hsz:0 < i.size)(hb:i.bytes<=1000):
 (Builtin.append_ #[t,tx] ty #[.slice none 0 0,.int .i64 n]).run P w=
   .ok (.slice (some ⟨w.heap.size,0,none⟩) n (grownCap w n 0 e)) (w.drew.alloc (.cells (Builtin.zeroCells z.cells n++Builtin.zeroCells z.cells (grownCap w n 0 e - n)) e)):=by
 have h0:¬ ((n:Int) < 0):=by omega
 have hn':¬ (n<=0):=by omega
 have hw:IntKind.i64.wrap (n:Int)=n:=IntWalk.i64_in _ (by omega);have hmul:(n:Int) * (i.bytes:Int)<=281474976710656:=by
  have:n * i.bytes<=1000 * 1000:=Nat.mul_le_mul hn2 hb;have e:(n:Int) * (i.bytes:Int)=((n * i.bytes:Nat):Int):=by simp
  omega
 have h48:¬ (281474976710656 < (n:Int) * (i.bytes:Int)):=by omega
 have h63':¬ (9223372036854775807 < (n:Int)):=by omega
 have h48':¬ (281474976710656 < Builtin.nextslicecap n 0 * i.bytes):=by
  have:=growslice_fits (need:=n) (old:=0) (bytes:=i.bytes) (by omega) (by
   have:n * i.bytes<=1000 * 1000:=Nat.mul_le_mul hn2 hb;omega)
  omega
 have hns:¬ (n=0\/i.size=0):=by omega
 have hai:∀ w:World,(asIntOf (.int .i64 (n:Int))).run P w=.ok (.i64,(n:Int)) w:=fun _=>rfl
 have hmx:max (n:Int) 0=n:=by omega
 have hle:¬ ((n:Int)<=0):=by omega
 have hz2:¬ (n * i.size=0):=by
  intro h;rcases Nat.mul_eq_zero.1 h with h|h <;> omega
 simp [Builtin.append_,hai,hmx,hz2,run_underlying ht,run_underlying hk,sizeOf,typeInfo,zeroValue,hi,hz,asInt,hw,h0,h48,h63',h48',Question.forced,newRow,grownCap,Builtin.firstCells];omega
theorem UK {P:Program} {ops:Array Oper} {rest:List Oper} {o:Oper} {a:Act} {w:World} {Q:Exit->Act->World->Prop} (hg:o.guard=none) (s x:Operand) (t tx:TypeId)
 (ho:o.op=.call {callee:=.builtin .append,args:=#[s,x],argTypes:=#[t,tx]}) (v xv v':Value) (w':World) (hs:a.eval s=v) (hx:a.eval x=xv)
 (hrun:∀ ty,(Builtin.append_ #[t,tx] ty #[v,xv]).run P w=.ok v' w')(h:wpList P ops Q rest (a.put o.dst v') w'):wpList P ops Q (o:: rest) a w:=by
 refine wpList_plain hg fun _ hK=>?_
 unfold Oper.wp;simp [execOp,ho,resolve,invoke,builtin,hs,hx,hrun,Result.andThen];exact hK _ _ h
theorem ZGU {w:World}{n:Nat}(hn:0 < n)(hn2:n<=1000):
 Calls prog 193 #[.slice none 0 0,i64 n] w fun e w'=>∃ cap,e=.returned (.slice (some ⟨w.heap.size,0,none⟩) 0 cap)/\
  w'.ownsRow w.heap.size 260 3 (.slice (some ⟨w.heap.size,0,none⟩) 0 cap) 0 []/\Bl w w'/\n<=cap:=by
 obtain ⟨i,hi,hz,hsz,hby⟩:=info_parts ZAO;have hrun:=fun ty=>JL (P:=prog) w 158 3 ty 260 i _ underlying158 underlying3 hi hz n hn hn2 (by omega) (by omega)
 have hge:=grownCap_ge w n 0 260;have hcm:=grownCap_le_maxLen w n 0 260 (by unfold maxLen;omega);obtain ⟨C,hC⟩:=xE (grownCap w n 0 260);rw [<-hC] at hge hcm;simp only [<-hC] at hrun;obtain ⟨W,hW⟩:=xE (w.drew.alloc (.cells (Builtin.zeroCells (Value.agg #[.int .u8 0,.int .u64 0,.int .u64 0]).cells n++Builtin.zeroCells (Value.agg #[.int .u8 0,.int .u64 0,.int .u64 0]).cells (C - n)) 260));simp only [<-hW] at hrun;have hown:W.ownsRow w.heap.size 260 3 (.slice (some ⟨w.heap.size,0,none⟩) 0 C) 0 []:=by
  rw [hW];refine World.ownsRow_made w.drew _ C nR hcm ?_;rw [Array.size_append,size_zeroCells,size_zeroCells];show n * 3+(C - n) * 3=C * 3;omega
 have hbel:Bl w W:=by rw [hW];exact ZA (ZD bR)
 have HO:=zh hown;have HB:=zh hbel;have b1:(0:Int) < n:=by omega
 have d1:decide ((n:Int) < 0)=false:=ZLB (by omega);have d2:decide ((0:Int) < n)=true:=ZLG b1;have d3:decide (0 < n)=true:=ZLG hn;have b2:(0:Int)<=C:=by omega
 clear hown hbel hW hC hi hz hsz hby hcm;unfold i64;go_in;go_wp2_with (at_builtin;refine UK rfl _ _ _ _ rfl _ _ _ _ rfl rfl hrun ?_);go_returns;exact ⟨C,rfl,HO.o,HB.o,hge⟩
theorem ZHW {w:World}{b1 o1 c1 b2 o2 c2:Nat}{l1 l2:List Ins}(h1:Seen w b1 o1 (Zh l1))(h2:Seen w b2 o2 (Zh l2))(n1:1<=l1.length)(n2:1<=l2.length)(n3:l1.length+l2.length<=1000):
 Calls prog 152 #[.slice (some ⟨w.heap.size,0,none⟩) 2 2] (w.alloc (.cells #[.slice (some ⟨b1,o1,none⟩) l1.length c1,.slice (some ⟨b2,o2,none⟩) l2.length c2] 158)) fun e w'=>∃ g cap,e=.returned (.slice (some ⟨g,0,none⟩) (l1.length+l2.length) cap)/\
  w'.ownsRow w.heap.size 260 3 (.slice (some ⟨g,0,none⟩) (l1.length+l2.length) cap) (l1.length+l2.length) (Zh (l1++l2))/\Bl w w':=by
 have HG:=zh (ZGU (w:=w.alloc (.cells #[.slice (some ⟨b1,o1,none⟩) l1.length c1,.slice (some ⟨b2,o2,none⟩) l2.length c2] 158)) (n:=l1.length+l2.length) (by omega) n3);have H1:=zh (h1.below (ZA (o:=.cells #[.slice (some ⟨b1,o1,none⟩) l1.length c1,.slice (some ⟨b2,o2,none⟩) l2.length c2] 158) (Below.refl _ w)) nR);have H2:=zh (h2.below (ZA (o:=.cells #[.slice (some ⟨b1,o1,none⟩) l1.length c1,.slice (some ⟨b2,o2,none⟩) l2.length c2] 158) (Below.refl _ w)) nR)
 have hc:(w.alloc (.cells #[.slice (some ⟨b1,o1,none⟩) l1.length c1,.slice (some ⟨b2,o2,none⟩) l2.length c2] 158)).cell? ⟨w.heap.size,0,none⟩=some (.slice (some ⟨b1,o1,none⟩) l1.length c1)/\
  (w.alloc (.cells #[.slice (some ⟨b1,o1,none⟩) l1.length c1,.slice (some ⟨b2,o2,none⟩) l2.length c2] 158)).cell? ⟨w.heap.size,1,none⟩=some (.slice (some ⟨b2,o2,none⟩) l2.length c2):=
  ⟨(ZC (ZB _ _)).trans rfl,(ZC (ZB _ _)).trans rfl⟩
 have HB0:=zh (ZA (o:=.cells #[.slice (some ⟨b1,o1,none⟩) l1.length c1,.slice (some ⟨b2,o2,none⟩) l2.length c2] 158) (Below.refl _ w));obtain ⟨W,hW⟩:=xE (w.alloc (.cells #[.slice (some ⟨b1,o1,none⟩) l1.length c1,.slice (some ⟨b2,o2,none⟩) l2.length c2] 158));have hz:w.heap.size < W.heap.size:=by rw [hW];simp
 rw [<-hW] at HG H1 H2 hc HB0 ⊢;have HC:=zh hc;clear hW;obtain ⟨hc1,hc2⟩:=hc;have q1:(l1.length:Int)+l2.length<=1000:=by omega
 have q2:(1:Int)<=l1.length:=by omega
 have q3:(1:Int)<=l2.length:=by omega
 have d1:decide ((l1.length:Int) < 0)=false:=ZLB (by omega);have d2:decide ((l1.length:Int)+l2.length < 0)=false:=ZLB (by omega);clear h1 h2;unfold i64 at HG;go_in;go_wp2_with fail;refine wp_loop_rounds 3 ?_;rw [rounds_succ];go_wp2_with fail;rw [rounds_succ];go_wp2_with fail;rw [rounds_succ];go_wp2_with fail;rw [show ((l1.length:Int)+l2.length)=((l1.length+l2.length:Nat):Int) by omega];refine HG.o.mono ?_;rintro e w1 ⟨cap,rfl,ho,hb,hcp⟩;have k1:w1.cell? ⟨w.heap.size,0,none⟩=some (.slice (some ⟨b1,o1,none⟩) l1.length c1):=by rw [hb.cell hz];exact HC.o.1
 obtain ⟨g1,cap1,w2,hrun1,how1,hgr1,hg1⟩:=Zm QJ ho ⟨b1,o1,none⟩ l1.length c1 (Zh l1) (by rw [Vw];omega) (fun j u hj=>by rw [Addr.add_lit];exact H1.o.below hb nR j u hj)
  (fun u hu=>by
    obtain ⟨x,_,hx⟩:=List.mem_flatMap.1 hu;simp [Ins.cells] at hx;rcases hx with rfl|rfl|rfl <;> rfl) (by omega) (by unfold maxLen;omega) (by omega) hb.size
 have hb2:Bl W w2:=hb.grown hgr1 hb.size (fun b hb'=>(ho.lt b hb').1);have k2:w2.cell? ⟨w.heap.size,1,none⟩=some (.slice (some ⟨b2,o2,none⟩) l2.length c2):=by rw [hb2.cell hz];exact HC.o.2
 rw [List.nil_append,ZLI] at how1;simp only [ZLI] at hrun1
 obtain ⟨g2,cap2,w3,hrun2,how2,hgr2,hg2⟩:=Zm QJ how1 ⟨b2,o2,none⟩ l2.length c2 (Zh l2) (by rw [Vw];omega) (fun j u hj=>by rw [Addr.add_lit];exact H2.o.below hb2 nR j u hj)
  (fun u hu=>by
    obtain ⟨x,_,hx⟩:=List.mem_flatMap.1 hu;simp [Ins.cells] at hx;rcases hx with rfl|rfl|rfl <;> rfl) (by omega) (by unfold maxLen;omega) (by omega) hb2.size
 have hb3:Bl W w3:=hb2.grown hgr2 hb2.size (fun b hb'=>(how1.lt b hb').1);have G:=zh (show w3.ownsRow w.heap.size 260 3 (.slice (some ⟨g2,0,none⟩) (l1.length+l2.length) cap2) (l1.length+l2.length) (Zh (l1++l2)) from by
  have e:Zh (l1++l2)=Zh l1++Zh l2:=by simp [Zh]
  rw [e];exact how2.mono (by omega))
 have G2:=zh (HB0.o.trans (hb3.mono (by omega)));clear how2 hgr2 hg2 hb3 how1 hgr1 hg1 hb2 ho hb hcp hc1 hc2;go_wp2_with fail;refine wp_loop_rounds 3 ?_;rw [rounds_succ];go_wp2_with (at_builtin;refine Zg rfl _ _ _ rfl _ _ _ _ rfl rfl hrun1 ?_);rw [rounds_succ];go_wp2_with (at_builtin;refine Zg rfl _ _ _ rfl _ _ _ _ rfl rfl hrun2 ?_);rw [rounds_succ];go_wp2;go_returns;exact ⟨g2,cap2,rfl,G.o,G2.o⟩
theorem ZFo {w:World}{b1 o1 c1 b2 o2 c2:Nat}{l1 l2:List Ins}(h1:Seen w b1 o1 (Zh l1))(h2:Seen w b2 o2 (Zh l2))(n1:1<=l1.length)(n2:1<=l2.length)(n3:l1.length+l2.length<=1000):
 Calls prog 96 #[.slice (some ⟨b1,o1,none⟩) l1.length c1,.slice (some ⟨b2,o2,none⟩) l2.length c2] w fun e w'=>∃ g cap,e=.returned (.slice (some ⟨g,0,none⟩) (l1.length+l2.length) cap)/\
  w'.ownsRow w.heap.size 260 3 (.slice (some ⟨g,0,none⟩) (l1.length+l2.length) cap) (l1.length+l2.length) (Zh (l1++l2))/\Bl w w':=by
 have HT:=zh (ZHW (c1:=c1) (c2:=c2) h1 h2 n1 n2 n3);clear h1 h2;go_in;go_wp2_with fail;refine HT.o.mono ?_;rintro e w1 ⟨g,cap,rfl,g1,g2⟩;have G1:=zh g1;have G2:=zh g2;clear g1 g2;go_wp2;go_returns;exact ⟨g,cap,rfl,G1.o,G2.o⟩
end
end Go.Proofs.YteomliechfdhhaaGreatDoor.Dv
