/- Part 16. -/
import Derived.Test.YteomliechfdhhaaGreatDoorY15
import Derived.Deep.DrawnRows
import Derived.Deep.RegionHeld3
set_option maxHeartbeats 8000000
set_option maxRecDepth 20000
set_option linter.all false
namespace Go.Proofs.YteomliechfdhhaaGreatDoor.Dv
open Tryz
section
open Go.RowKit Go.Proofs.YteomliechfdhhaaGreatDoor.Size
def hdV (k:Chk):Value:=.agg #[.int .i64 k.cl,.int .i64 k.ow,.int .u16 k.gen]
def chV (A:DAd)(t line:Nat)(k:Chk):Value:=.agg #[.iface 97 (.pointer (some ⟨A.t t,0,none⟩)),.int .i64 line,.int .i64 k.cl,.int .i64 k.ow,.int .u16 k.gen]
variable {w:World}{A:DAd}{F:Nat->Option ZK}{L:Nat}{T c:Nat->Nat}
theorem Yf {line:Nat}(h:line<=4096):Calls prog 185 #[.int .i64 line] w fun e w'=>e=.returned (.int .u64 ((line * 64:Nat):Int))/\w=w':=by
 have b1:(line:Int)<=4096:=by omega
 go_in;go_wp2;go_returns;exact ⟨by rw [Int.natCast_mul];rfl,rfl⟩
theorem Vv (hT:Tab w){cl ow:Int}{g:Int}:Calls prog 207 #[.agg #[.int .i64 cl,.int .i64 ow,.int .u16 g]] w fun e w'=>e=.returned (.bool (decide (0 < per cl/\0<=ow/\ow < 8)))/\Bl w w':=by
 have HP:=zh (fun w1 (hb:Bl w w1)=>per_any cl w1 (hT.of_block (hb.block _ hT.lt)));clear hT
 by_cases h1:0 < per cl
 ·by_cases h2:0<=ow
  ·by_cases h3:ow < 8
   ·have d1:decide (0 < per cl)=true:=ZLG h1
    have d2:decide (0<=ow)=true:=ZLG h2;have d3:decide (ow < 8)=true:=ZLG h3;have d:decide (0 < per cl/\0<=ow/\ow < 8)=true:=ZLG ⟨h1,h2,h3⟩;rw [d];clear d h1 h2 h3;go_in;go_wp2_with fail;refine (HP.o _ (by repeat (first|exact Below.refl _ w|apply ZA))).mono ?_;rintro e w' ⟨rfl,rfl⟩;go_wp2;go_returns;exact ⟨rfl,by repeat (first|exact Below.refl _ w|apply ZA)⟩
   ·have d1:decide (0 < per cl)=true:=ZLG h1
    have d2:decide (0<=ow)=true:=ZLG h2;have d3:decide (ow < 8)=false:=ZLB h3;have d:decide (0 < per cl/\0<=ow/\ow < 8)=false:=ZLB (fun h=>h3 h.2.2);rw [d];clear d h1 h2 h3;go_in;go_wp2_with fail;refine (HP.o _ (by repeat (first|exact Below.refl _ w|apply ZA))).mono ?_;rintro e w' ⟨rfl,rfl⟩;go_wp2;go_returns;exact ⟨rfl,by repeat (first|exact Below.refl _ w|apply ZA)⟩
  ·have d1:decide (0 < per cl)=true:=ZLG h1
   have d2:decide (0<=ow)=false:=ZLB h2;have d:decide (0 < per cl/\0<=ow/\ow < 8)=false:=ZLB (fun h=>h2 h.2.1);rw [d];clear d h1 h2;go_in;go_wp2_with fail;refine (HP.o _ (by repeat (first|exact Below.refl _ w|apply ZA))).mono ?_;rintro e w' ⟨rfl,rfl⟩;go_wp2;go_returns;exact ⟨rfl,by repeat (first|exact Below.refl _ w|apply ZA)⟩
 ·have d1:decide (0 < per cl)=false:=ZLB h1
  have d:decide (0 < per cl/\0<=ow/\ow < 8)=false:=ZLB (fun h=>h1 h.1);rw [d];clear d h1;go_in;go_wp2_with fail;refine (HP.o _ (by repeat (first|exact Below.refl _ w|apply ZA))).mono ?_;rintro e w' ⟨rfl,rfl⟩;go_wp2;go_returns;exact ⟨rfl,by repeat (first|exact Below.refl _ w|apply ZA)⟩
theorem Q8 {y:Nat}(hy:y < 4294967296):bits .and .u32 (y:Int) 15=((y % 16:Nat):Int):=by
 have h:=u32_and_nat y 15 hy (by omega);have e:y &&& 15=y % 16:=Nat.and_two_pow_sub_one_eq_mod y 4;rw [e] at h;exact h
theorem ZDW (hT:NTab w T)(hS:Tab w){k:Chk}(h:k.Head):
 Calls prog 186 #[.int .u64 (ZX T k.info)] w fun e w'=>e=.returned (.tuple #[hdV k,.bool true])/\Bl w w':=by
 obtain ⟨p1,p2,p3,p4⟩:=h.parts;have hx2:=h.info_lt;have hg:=h.gen;have hcl:=h.cl;have hlow:=JO hT hx2;have hlt:=XL hT hx2;have HS:=zh (fun w1 (hb:Bl w w1)=>Uh (hT.below hb nR) hx2);have HF:=zh (fun w1 (hb:Bl w w1)=>Vv (hS.of_block (hb.block _ hS.lt)) (cl:=k.cl) (ow:=k.ow) (g:=k.gen));obtain ⟨X,hX⟩:=xE k.info;rw [<-hX] at p1 p2 p3 p4 hx2 hlow hlt HS ⊢;obtain ⟨S,hSS⟩:=xE (ZX T X);rw [<-hSS] at hlow hlt HS ⊢;have b1:(S:Int) < 18446744073709551616:=by omega
 have e1:(S:Int) % 4294967296=(X:Int):=by omega
 have e2:IntKind.u16.wrap (X:Int)=(k.gen:Int):=by rw [ZEY,p1]
 have e3:(X:Int) / 16777216=197:=by omega
 have e4:bits .and .u32 ((X:Int) / 65536) 15=k.cl+1:=by
  have:=Q8 (y:=X / 65536) (by omega);rw [p3,Int.natCast_ediv] at this;exact this
 have e5:bits .and .u32 ((X:Int) / 1048576) 15=k.ow+1:=by
  have:=Q8 (y:=X / 1048576) (by omega);rw [p4,Int.natCast_ediv] at this;exact this
 have d3:((k.gen:Int) == 0)=false:=by simp;omega
 unfold hdV;clear hT hS h p1 p2 p3 p4 hlow hlt hX hSS hx2;go_in;go_wp2_with fail;rw [e1];refine (HS.o _ (ZA (Below.refl _ w))).mono ?_;rintro e w1 ⟨rfl,hb⟩;have h1:w1.heap[w.heap.size]?=some (.cells #[.int .i64 0,.int .i64 0,.int .u16 0] 193 (0,0)):=(hb.block _ (by simp)).trans (ZB _ _);have HBe:=zh ((ZA (Below.refl _ w)).trans (hb.mono (by simp)));obtain ⟨w2,hw2⟩:=xE (w1.alloc (.cells #[.int .i64 k.cl,.int .i64 k.ow,.int .u16 k.gen] 193));have h2:w2.heap[w.heap.size]?=some (.cells #[.int .i64 0,.int .i64 0,.int .u16 0] 193 (0,0)):=by rw [hw2];exact (ZI (heap_lt h1)).trans h1
 have HB2:Bl w w2:=by rw [hw2];exact ZA HBe.o
 clear hb;have c0:w2.cell? ⟨w.heap.size,0,none⟩=some (.int .i64 0):=by rw [ZC h2];rfl
 have c1:w2.cell? ⟨w.heap.size,1,none⟩=some (.int .i64 0):=by rw [ZC h2];rfl
 have c2:w2.cell? ⟨w.heap.size,2,none⟩=some (.int .u16 0):=by rw [ZC h2];rfl
 have f0:=ZG h2 (i:=0);have f1:=ZG h2 (i:=1);have f2:=ZG h2 (i:=2);have HB3:Bl w (((w2.setCell ⟨w.heap.size,0,none⟩ (.int .i64 k.cl)).setCell ⟨w.heap.size,1,none⟩ (.int .i64 k.ow)).setCell ⟨w.heap.size,2,none⟩ (.int .u16 k.gen)):=by repeat (first|exact HB2|exact nR|apply Below.setCell)
 rw [hw2] at HB3 c0 c1 c2 f0 f1 f2;have HBE:=zh HB3;have HF1:=zh (HF.o w2 HB2);have w3:wrap64 (k.cl+1)=k.cl+1:=by rw [IntWalk.wrap64_in] <;> omega
 have w4:wrap64 (k.ow+1)=k.ow+1:=by rw [IntWalk.wrap64_in] <;> omega
 have w5:wrap64 k.cl=k.cl:=by rw [IntWalk.wrap64_in] <;> omega
 have w6:wrap64 k.ow=k.ow:=by rw [IntWalk.wrap64_in] <;> omega
 rw [hw2] at HF1;have HN:=zh (show w2.heap[w1.heap.size]?=some (.cells #[.int .i64 k.cl,.int .i64 k.ow,.int .u16 k.gen] 193 (0,0)) by rw [hw2];exact ZB _ _);have HO:=zh h2;have HB2':=zh HB2;have hlt:=heap_lt h1;have HSZ:=zh (show w2.heap.size=w1.heap.size+1 by rw [hw2];simp);have HLT:=zh hlt;rw [hw2] at HN HO HB2' HSZ;clear HF HS HBe h1 h2 HB2 HB3 b1 hw2 hg hlt;rcases hcl with ⟨n1,n2⟩|⟨n1,n2,n3,n4⟩
 ·have q1:k.cl < 0:=by omega
  have q2:k.ow < 0:=by omega
  clear n1 n2 HF1;go_wp2_with fail
  (try simp only [Exit.inBlock,Exit.then])
  refine bodyPost_ret (by simp [results,results186,go_sem,c0,c1,c2];try rfl) rfl ?_;exact ⟨rfl,HBE.o⟩
 ·have q1:¬ k.cl < 0:=by omega
  have q3:0 < per k.cl:=by have:=wds_cases k.cl;unfold per;repeat' split <;> omega
  have q4:decide (0 < per k.cl/\0<=k.ow/\k.ow < 8)=true:=ZLG ⟨q3,by omega,by omega⟩;rw [q4] at HF1;clear q3 q4 c0 c1 c2 f0 f1 f2 n1 n2 n3 n4;go_wp2_with fail;refine HF1.o.mono ?_;rintro e w3 ⟨rfl,hb⟩;have h3:=(hb.block w.heap.size (by have:=HSZ.o;have:=HLT.o;omega)).trans HO.o;have h4:=(hb.block w1.heap.size (by have:=HSZ.o;omega)).trans HN.o;have c0:w3.cell? ⟨w.heap.size,0,none⟩=some (.int .i64 0):=by rw [ZC h3];rfl
  have c1:w3.cell? ⟨w.heap.size,1,none⟩=some (.int .i64 0):=by rw [ZC h3];rfl
  have c2:w3.cell? ⟨w.heap.size,2,none⟩=some (.int .u16 0):=by rw [ZC h3];rfl
  have f0:=ZG h3 (i:=0);have f1:=ZG h3 (i:=1);have f2:=ZG h3 (i:=2);have d0:w3.cell? ⟨w1.heap.size,0,none⟩=some (.int .i64 k.cl):=by rw [ZC h4];rfl
  have d1:w3.cell? ⟨w1.heap.size,1,none⟩=some (.int .i64 k.ow):=by rw [ZC h4];rfl
  have d2:w3.cell? ⟨w1.heap.size,2,none⟩=some (.int .u16 k.gen):=by rw [ZC h4];rfl
  have HB4:=zh (HB2'.o.trans (hb.mono HB2'.o.size));clear h3 h4 hb HF1;go_wp2_with fail
  (try simp only [Exit.inBlock,Exit.then])
  refine bodyPost_ret (by simp [results,results186,go_sem,c0,c1,c2];try rfl) rfl ?_;exact ⟨rfl,by repeat (first|exact HB4.o|exact nR|apply Below.setCell)⟩
theorem J8 {i line:Nat}{k:Chk}:Calls prog 177 #[chV A i line k] w fun e w'=>e=.returned (.int .i64 k.cl)/\Bl w w':=by
 unfold chV;go_in;go_wp2;go_returns;exact ⟨rfl,ZA bR⟩
theorem JW (hT:Tab w){i line:Nat}{k:Chk}(hk:k.Head):Calls prog 212 #[chV A i line k] w fun e w'=>e=.returned (.int .i64 (perN k))/\Bl w w':=by
 have hp:=hk.sizes.1;have HC:=zh (fun w1=>J8 (w:=w1) (A:=A) (i:=i) (line:=line) (k:=k));have HP:=zh (fun w1 (hb:Bl w w1)=>per_any k.cl w1 (hT.below hb));rw [hp] at HP;unfold chV at *;clear hT hp;go_in;go_wp2_with fail;refine (HC.o _).mono ?_;rintro e w1 ⟨rfl,hb⟩;have HB:=zh ((ZA (Below.refl _ w)).trans (hb.mono (by simp)));clear hb;go_wp2_with fail;refine (HP.o _ HB.o).mono ?_;rintro e w' ⟨rfl,rfl⟩;go_wp2;go_returns;exact ⟨rfl,HB.o⟩
theorem QB (hT:Tab w){i line:Nat}{k:Chk}(hk:k.Head)(x:Int):Calls prog 211 #[chV A i line k,.int .i64 x] w fun e w'=>e=.returned (.bool (decide (0<=x/\x < perN k)))/\Bl w w':=by
 have HC:=zh (fun w1 (hb:Bl w w1)=>JW (A:=A) (i:=i) (line:=line) (hT.below hb) hk);unfold chV at *;clear hT
 by_cases h0:0<=x
 ·have e1:decide (0<=x/\x < perN k)=decide (x < perN k):=by simp [h0]
  rw [e1];clear e1;go_in;go_wp2_with fail;refine (HC.o _ (ZA (Below.refl _ w))).mono ?_;rintro e w1 ⟨rfl,hb⟩;have HB:=zh ((ZA (Below.refl _ w)).trans (hb.mono (by simp)));clear hb;go_wp2_with fail
  all_goals (go_returns;exact ⟨by simp_all,HB.o⟩)
 ·have e1:decide (0<=x/\x < perN k)=false:=by simp [h0]
  rw [e1];clear e1;have h1:x < 0:=by omega
  go_in;go_wp2;go_returns;exact ⟨rfl,ZA bR⟩
theorem Us (h:Ar w A F L T c){i:Nat}(hi:i < 8){line:Nat}(hl:line+32<=L){k:Chk}:Calls prog 187 #[chV A i line k] w fun e w'=>e=.returned (.int .u64 (c (8 * line+1)))/\Bl w w':=by
 have hL:=h.lines;have HLD:=zh (fun w1 hb=>Yw h hi w1 hb (line * 64+8) (by omega) (by omega));have HST:=zh (fun w1=>Yf (w:=w1) (line:=line) (by omega));rw [show (line * 64+8) / 8=8 * line+1 by omega] at HLD;have b1:((line * 64:Nat):Int)<=262144:=by omega
 obtain ⟨M,hM⟩:∃ M:Nat,M=line * 64:=⟨_,rfl⟩
 rw [<-hM] at HLD HST b1;unfold chV at *;clear h hL hl hM;go_in;have hcb:=VH (ZB w (.cells #[.iface 97 (.pointer (some ⟨A.t i,0,none⟩)),.int .i64 line,.int .i64 k.cl,.int .i64 k.ow,.int .u16 k.gen] 195));obtain ⟨w1,hw1⟩:=xE (w.alloc (.cells #[.iface 97 (.pointer (some ⟨A.t i,0,none⟩)),.int .i64 line,.int .i64 k.cl,.int .i64 k.ow,.int .u16 k.gen] 195));have hb:Bl w w1:=by rw [hw1];exact ZA bR
 rw [<-hw1] at hcb;obtain ⟨c0,c1,c2,c3,c4,_⟩:=hcb;have HB:=zh hb;have HW:=zh hw1;have HE:=zh (show IntKind.u64.wrap ((M:Int)+8)=((M+8:Nat):Int) by rw [IntWalk.u64_in] <;> omega);clear hw1 hb c2 c3 c4;go_wp2_with fail;rw [<-HW.o]
 go_quiet (first
  |(go_at_call 185;exact Zj (HST.o _))
  |(go_invoke;go_simp;go_at_call 34;rw [HE.o];exact Zj (HLD.o _ (ZY HB.o))))
 go_wp2;go_returns;exact ⟨rfl,ZY HB.o⟩
theorem ZGs {k:Chk}(hk:k.Head){j:Nat}(hj:j < perN k):off k.cl (j:Int)=(((hdN k j:Nat):Int),0):=by
 obtain ⟨e1,e2,_⟩:=hk.sizes;unfold off;rw [ZKu (by omega),ZKu (by omega),e2];unfold hdN;simp
theorem ZAz (h:Ar w A F L T c){i line:Nat}(hl:line+32<=L){k:Chk}(hk:k.Head){j:Nat}(hj:j < perN k):Calls prog 189 #[chV A i line k,.int .i64 j] w fun e w'=>e=.returned (.int .u64 ((8 * line+hdN k j) * 8:Nat))/\Bl w w':=by
 have hL:=h.lines;have hle:=YF hk hj;have HST:=zh (fun w1=>Yf (w:=w1) (line:=line) (by omega));have HO:=zh (fun (w1:World) (hb:Bl w w1)=>offset_any k.cl j w1 (h.tab.below hb));rw [ZGs hk hj] at HO;obtain ⟨M,hM⟩:∃ M:Nat,M=line * 64:=⟨_,rfl⟩
 obtain ⟨N,hN⟩:∃ N:Nat,N=hdN k j:=⟨_,rfl⟩
 rw [show (8 * line+hdN k j) * 8=M+N * 8 by omega];rw [<-hM] at HST;rw [<-hN] at HO;have b1:(M:Int)<=262144:=by omega
 have b2:(N:Int)<=256:=by omega
 have e1:(((M+N * 8:Nat)):Int)=(M:Int)+(N:Int) * 8:=by omega
 rw [e1];unfold chV;clear h hL hl hM hN hle hk hj e1;go_in;go_wp2_with fail;refine (HO.o _ (ZA (Below.refl _ w))).mono ?_;rintro e w' ⟨rfl,rfl⟩;go_wp2_with fail;refine (HST.o _).mono ?_;rintro e w' ⟨rfl,rfl⟩;go_wp2;go_returns;exact ⟨rfl,ZA bR⟩
def bkV (b:Blk):Value:=.agg #[.int .u16 b.gen,.int .u8 b.kind,.int .u8 b.st]
theorem ZDt (h:Ar w A F L T c){b:Blk}(hb:b.Good):Calls prog 188 #[.int .u64 (ZX T b.info)] w fun e w'=>e=.returned (.tuple #[bkV b,.bool true])/\Bl w w':=by
 have:=ZDs h.nib (v:=ZX T b.info) (XL h.nib hb.info_lt);obtain ⟨p1,p2,p3⟩:=hb.parts;rw [ZFd h.nib hb.info_lt,ZKv rfl,JO h.nib hb.info_lt] at this;unfold ZIz at this;rw [p1,p2,p3] at this;exact this
def CBox (w:World)(b:Nat)(A:DAd)(i line:Nat)(k:Chk):Prop:=
 w.cell? ⟨b,0,none⟩=some (.iface 97 (.pointer (some ⟨A.t i,0,none⟩)))/\w.cell? ⟨b,1,none⟩=some (.int .i64 line)/\w.cell? ⟨b,2,none⟩=some (.int .i64 k.cl)/\w.cell? ⟨b,3,none⟩=some (.int .i64 k.ow)/\w.cell? ⟨b,4,none⟩=some (.int .u16 k.gen)
theorem CBox.below {w w':World}{b:Nat}{A:DAd}{i line:Nat}{k:Chk}(h:CBox w b A i line k)(hb:Bl w w'):CBox w' b A i line k:=by
 obtain ⟨h0,h1,h2,h3,h4⟩:=h;exact ⟨(hb.cell (ZK2 _ _ h0)).trans h0,(hb.cell (ZK2 _ _ h1)).trans h1,(hb.cell (ZK2 _ _ h2)).trans h2,(hb.cell (ZK2 _ _ h3)).trans h3,(hb.cell (ZK2 _ _ h4)).trans h4⟩
theorem CBox.setc {w:World}{b b' x:Nat}{v:Value}{A:DAd}{i line:Nat}{k:Chk}(h:CBox w b A i line k)(hb:b'≠b):CBox (w.setCell ⟨b',x,none⟩ v) b A i line k:=by
 obtain ⟨h0,h1,h2,h3,h4⟩:=h;exact ⟨(World.cell?_setCell_far _ _ _ _ hb).trans h0,(World.cell?_setCell_far _ _ _ _ hb).trans h1,(World.cell?_setCell_far _ _ _ _ hb).trans h2,(World.cell?_setCell_far _ _ _ _ hb).trans h3,(World.cell?_setCell_far _ _ _ _ hb).trans h4⟩
theorem CBox.new {w:World}{A:DAd}{i line:Nat}{k:Chk}:CBox (w.alloc (.cells #[.iface 97 (.pointer (some ⟨A.t i,0,none⟩)),.int .i64 line,.int .i64 k.cl,.int .i64 k.ow,.int .u16 k.gen] 195)) w.heap.size A i line k:=by
 obtain ⟨a0,a1,a2,a3,a4,_⟩:=VH (ZB w (.cells #[.iface 97 (.pointer (some ⟨A.t i,0,none⟩)),.int .i64 line,.int .i64 k.cl,.int .i64 k.ow,.int .u16 k.gen] 195));exact ⟨a0,a1,a2,a3,a4⟩
theorem Uv (h:Ar w A F L T c){i:Nat}(hi:i < 8){line:Nat}(hl:line+32<=L){k:Chk}(hR:CRep T c (8 * line) k)(hk:0<=k.cl){j:Nat}(hj:j < perN k):
 Calls prog 140 #[chV A i line k,.int .i64 j] w fun e w'=>e=.returned (.tuple #[bkV (k.blk j),.bool true,.bool (k.used j)])/\Bl w w':=by
 have hL:=h.lines;have hle:=YF hR.head hj;have hj62:perN k<=62:=hR.head.sizes.2.2.1;have hst:=hR.head.sizes.2.2.2.1;have HB:=zh (fun w1 (hb:Bl w w1)=>Us (h.below hb) hi hl (k:=k));have HAT:=zh (fun w1 (hb:Bl w w1)=>ZAz (i:=i) (h.below hb) hl hR.head hj);have HLD:=zh (fun w1 hb=>Yw h hi w1 hb ((8 * line+hdN k j) * 8) (by omega) (by omega));have HSL:=zh (fun w1 (hb:Bl w w1)=>ZDt (h.below hb) (hR.good hk j hj));rw [show (8 * line+hdN k j) * 8 / 8=8 * line+hdN k j by omega,hR.blk hk j hj] at HLD;rw [hR.bits hk] at HB;have hbit:=Ys k.used hj;have hblt:=YW k.used (perN k);obtain ⟨X,hX⟩:=xE (Ze k.used (perN k));rw [<-hX] at HB hbit hblt;have hX64:X < 18446744073709551616:=ZLC hblt (ZK6 (Nat.pow_le_pow_right (by omega) hj62) (by decide));have hd:(bits .and .u64 ((X:Int) / 2 ^ j) 1 == 1)=k.used j:=by
  have e:(X:Int) / 2 ^ j=((X / 2 ^ j:Nat):Int):=by simp
  have e2:=u64_and_nat (X / 2 ^ j) 1 (Nat.lt_of_le_of_lt (Nat.div_le_self _ _) hX64) (by omega);rw [Nat.and_one_is_mod,hbit,show ((1:Nat):Int)=1 from rfl] at e2;rw [e,e2];cases k.used j <;> simp
 have HD:=zh hd;obtain ⟨N,hN⟩:=xE ((8 * line+hdN k j) * 8);rw [<-hN] at HAT HLD;have hj2:(j:Int) < 64:=by omega
 unfold chV bkV at *;obtain ⟨S,hS⟩:=xE (ZX T (k.blk j).info);rw [<-hS] at HLD HSL;clear h hR hl hL hle hst hX hN hS hbit hblt hX64 hd hj62 hj hk hi;go_in;go_wp2_with fail;refine (HB.o _ (by repeat (with_reducible first|exact Below.refl _ w|apply ZA))).mono ?_;rintro e w1 ⟨rfl,hb⟩;have hs:CBox w1 w.heap.size A i line k:=(CBox.new.below (ZA bR)).below hb;have hq:w1.heap[w.heap.size+1]?=some (.cells #[.int .u16 0,.int .u8 0,.int .u8 0] 268 (0,0)):=by
  rw [hb.block (w.heap.size+1) (by simp)];have h1:=ZB (w.alloc (.cells #[.iface 97 (.pointer (some ⟨A.t i,0,none⟩)),.int .i64 line,.int .i64 k.cl,.int .i64 k.ow,.int .u16 k.gen] 195)) (.cells #[.int .u16 0,.int .u8 0,.int .u8 0] 268);simp only [World.size_alloc] at h1;exact h1
 have hbw:Bl w w1:=(ZA (ZA (Below.refl _ w))).trans (hb.mono (by simp;omega));have HS:=zh hs;have HBW:=zh hbw;have HQ:=zh hq;have HR0:=zh (Below.refl w1.heap.size w1);clear hb hs hbw HB hq;go_upto_region 2 with fail;have HAT1:=zh (XR HBW.o HAT.o);have HSL1:=zh (XR HBW.o HSL.o);have HLD1:=zh (ZAy HBW.o HLD.o);clear HAT HSL HLD
 go_cut [5] (fun v wx=>v=.bool true/\wx.heap[w.heap.size+1]?=some (.cells #[.int .u16 (k.blk j).gen,.int .u8 (k.blk j).kind,.int .u8 (k.blk j).st] 268 (0,0))/\Bl w wx)
 ·obtain ⟨s0,s1,s2,s3,s4⟩:=id HS.o
  go_region_held3 (fun w'=>w'.cell? ⟨w.heap.size,0,none⟩=some (.iface 97 (.pointer (some ⟨A.t i,0,none⟩)))/\w'.cell? ⟨w.heap.size,1,none⟩=some (.int .i64 line)/\w'.cell? ⟨w.heap.size,2,none⟩=some (.int .i64 k.cl)/\w'.cell? ⟨w.heap.size,3,none⟩=some (.int .i64 k.ow)/\w'.cell? ⟨w.heap.size,4,none⟩=some (.int .u16 k.gen))
   ((show CBox _ w.heap.size A i line k;first|(with_reducible refine CBox.setc (CBox.setc (CBox.setc (CBox.below HS.o ?_) (Nat.succ_ne_self _)) (Nat.succ_ne_self _)) (Nat.succ_ne_self _);repeat (with_reducible first|assumption|exact HR0.o|apply ZA|apply ZD))|exact CBox.below HS.o (by repeat (with_reducible first|assumption|exact HR0.o|apply ZA|apply ZD))))
   (first
     |(go_at_call 189;refine (HAT1.o _ (by repeat (with_reducible first|assumption|exact HR0.o|apply ZA|apply ZD))).mono ?_;rintro e V1 ⟨rfl,hb1⟩)
     |(go_at_call 34;refine (HLD1.o _ (by repeat (with_reducible first|assumption|exact HR0.o|apply ZA|apply ZD))).mono ?_;rintro e V2 ⟨rfl,rfl⟩)
     |(go_at_call 188;refine (HSL1.o _ (by repeat (with_reducible first|assumption|exact HR0.o|apply ZA|apply ZD))).mono ?_;rintro e V3 ⟨rfl,hb3⟩;obtain ⟨q0,q1,q2,q3,q4,q5⟩:=Zb ((hb3.block _ (heap_lt HQ.o)).trans HQ.o)))
  go_wp2_with fail;go_meet;refine ⟨rfl,ZH (ZH (ZH ((hb3.block _ (heap_lt HQ.o)).trans HQ.o))),?_⟩;have hb4:=HBW.o.trans (hb3.mono HBW.o.size);exact ZE (ZE (ZE hb4 (Nat.le_succ _)) (Nat.le_succ _)) (Nat.le_succ _)
 ·obtain ⟨rfl,hq,hbel⟩:=hcut
  obtain ⟨c0,c1,c2,f0,f1,f2⟩:=Zb hq;rw [HD.o];have HBE:=zh hbel;clear hbel hq HAT1 HSL1 HLD1;go_wp2_with fail
  (try simp only [Exit.inBlock,Exit.then])
  refine bodyPost_ret (by simp [results,results140,go_sem,c0,c1,c2];try rfl) rfl ?_;exact ⟨rfl,ZE (ZE (ZE HBE.o (Nat.le_succ _)) (Nat.le_succ _)) (Nat.le_succ _)⟩
theorem ZAC {b:Blk}(hb:b.Good):Calls prog 213 #[bkV b] w fun e w'=>e=.returned (.bool true)/\Bl w w':=by
 have hg:=hb.gen;have hs:=hb.st;obtain ⟨g,k,s⟩:=b;have d1:((g:Int) != 0)=true:=by simp at hg ⊢;omega
 unfold bkV;simp only at hs hg;clear hb;rcases hs with ⟨rfl,rfl⟩|⟨rfl,h1,h2⟩|⟨rfl,rfl,rfl⟩
 ·clear hg
  go_in;go_wp2;go_returns;exact ⟨rfl,ZA bR⟩
 ·have d2:((k:Int) != 0)=true:=by simp;omega
  have d3:(k:Int)<=127:=by omega
  clear hg h1 h2;go_in;go_wp2_with fail
  all_goals (go_returns;exact ⟨rfl,ZA bR⟩)
 ·clear hg d1
  go_in;go_wp2;go_returns;exact ⟨rfl,ZA bR⟩
def ZDT (f:Nat->Bool):Nat->Nat->Int
 |0,_=>-1
 |d+1,i=>if f i then ZDT f d (i+1) else i
theorem ZAL (f:Nat->Bool):∀ (d i:Nat),(ZDT f d i=-1/\∀ j,i<=j->j < i+d->f j=true)\/∃ j:Nat,ZDT f d i=j/\i<=j/\j < i+d/\f j=false/\∀ m,i<=m->m < j->f m=true
 |0,i=>.inl ⟨rfl,fun j h1 h2=>by omega⟩
 |d+1,i=>by
  unfold ZDT;cases hf:f i with
  |false=>exact .inr ⟨i,by simp,by omega,by omega,hf,fun m h1 h2=>by omega⟩
  |true=>
   rw [ZKv rfl];rcases ZAL f d (i+1) with ⟨h1,h2⟩|⟨j,h1,h2,h3,h4,h5⟩
   ·refine .inl ⟨h1,fun j h3 h4=>?_⟩
    by_cases e:j=i
    ·rw [e];exact hf
    ·exact h2 j (by omega) (by omega)
   ·refine .inr ⟨j,h1,by omega,by omega,h4,fun m h6 h7=>?_⟩
    by_cases e:m=i
    ·rw [e];exact hf
    ·exact h5 m (by omega) h7
def Chk.free (k:Chk)(i:Nat):Int:=ZDT k.used (perN k - i) i
theorem Chk.free_step (k:Chk){i:Nat}(hi:i < perN k):k.free i=if k.used i then k.free (i+1) else i:=by
 unfold Chk.free;rw [show perN k - i=(perN k - (i+1))+1 by omega,ZDT]
theorem Chk.free_end (k:Chk){i:Nat}(hi:perN k<=i):k.free i=-1:=by
 unfold Chk.free;rw [show perN k - i=0 by omega,ZDT]
def ZJp (w wr:World)(A:DAd)(i line:Nat)(k:Chk)(m:Nat)(v:Value):Prop:=
 ∃ j:Nat,m<=j/\j<=perN k/\v=.int .i64 (j:Nat)/\k.free m=k.free j/\Bl w wr/\CBox wr w.heap.size A i line k
theorem Vg (h:Ar w A F L T c){i:Nat}(hi:i < 8){line:Nat}(hl:line+32<=L){k:Chk}(hR:CRep T c (8 * line) k)(hk:0<=k.cl)(m:Nat)(hm:m<=62):
 Calls prog 168 #[chV A i line k,.int .i64 m] w fun e w'=>e=.returned (.int .i64 (k.free m))/\Bl w w':=by
 have hp62:=hR.head.sizes.2.2.1;have HH:=zh (fun w1 (hb:Bl w w1)=>QB (A:=A) (i:=i) (line:=line) (h.below hb).tab hR.head m);have HBK:=zh (fun w1 (hb:Bl w w1)=>JW (A:=A) (i:=i) (line:=line) (h.below hb).tab hR.head);have HBI:=zh (fun w1 (hb:Bl w w1)=>Us (h.below hb) hi hl (k:=k));rw [hR.bits hk] at HBI;have hblt:=YW k.used (perN k);have HBT:=zh (fun j (hj:j < perN k)=>Ys k.used hj);obtain ⟨X,hX⟩:=xE (Ze k.used (perN k));rw [<-hX] at HBI HBT hblt;have hX64:X < 18446744073709551616:=ZLC hblt (ZK6 (Nat.pow_le_pow_right (by omega) hp62) (by decide));have HX:=zh hX64;have hm0:¬ (m:Int) < 0:=by omega
 by_cases hm2:m < perN k
 ·rw [ZLG (show 0<=(m:Int)/\(m:Int) < perN k by omega)] at HH
  have HM:=zh hm2;have HP:=zh hp62;unfold chV at *;clear h hR hl hi hk hX hX64 hblt hm hm2 hp62;go_in;go_wp2_with fail;refine (HH.o _ (ZA (Below.refl _ w))).mono ?_;rintro e w1 ⟨rfl,hb⟩;have HB:=zh ((ZA (Below.refl _ w)).trans (hb.mono (by simp)));have HC:=zh (CBox.new.below hb);obtain ⟨c0,c1,c2,c3,c4⟩:=id HC.o;clear hb HH;go_wp2_with fail;refine (HBI.o _ HB.o).mono ?_;rintro e w2 ⟨rfl,hb⟩;have HB2:=zh (HB.o.trans (hb.mono HB.o.size));have HC2:=zh (HC.o.below hb);clear hb HBI c0 c1 c2 c3 c4 HB HC;go_wp2_with fail
  go_loopw [6] (fun v wr=>ZJp w wr A i line k m v) (fun v _=>perN k - (intOf v).toNat)
  case atStart=>exact ⟨m,nR,by have:=HM.o;omega,rfl,rfl,HB2.o,HC2.o⟩
  case round=>
   obtain ⟨j,h1,h2,rfl,h3,h4,h5⟩:=hrel;have HB3:=zh h4;have HC3:=zh h5;have HF:=zh h3;obtain ⟨c0,c1,c2,c3,c4⟩:=h5;clear h4 h3;go_wp2_with fail;refine (HBK.o _ HB3.o).mono ?_;rintro e w3 ⟨rfl,hb⟩;have HB4:=zh (HB3.o.trans (hb.mono HB3.o.size));have HC4:=zh (HC3.o.below hb);clear hb c0 c1 c2 c3 c4
   by_cases hj:j < perN k
   ·have d1:(j:Int) < perN k:=by omega
    have d2:(j:Int) < 64:=by have:=HP.o;omega
    have e0:(X:Int) / 2 ^ j=((X / 2 ^ j:Nat):Int):=by simp
    have e1:=u64_and_nat (X / 2 ^ j) 1 (Nat.lt_of_le_of_lt (Nat.div_le_self _ _) HX.o) (by omega);rw [Nat.and_one_is_mod,HBT.o j hj,show ((1:Nat):Int)=1 from rfl,<-e0] at e1;have hst:=k.free_step hj;cases hu:k.used j with
    |true=>
     rw [hu,ZKv rfl] at hst;have e2:(bits .and .u64 ((X:Int) / 2 ^ j) 1 == 0)=false:=by rw [e1,hu];rfl
     have G:=zh (show ZJp w w3 A i line k m (.int .i64 ((j+1:Nat):Int)) from ⟨j+1,by omega,by omega,rfl,HF.o.trans hst,HB4.o,HC4.o⟩);clear e0 e1 hst hu hj h1 h2;go_wp2_with fail;go_roundw
     case rel=>exact G.o
     case measure=>simp [intOf];omega
    |false=>
     rw [hu,ZKu (by simp)] at hst;have e2:(bits .and .u64 ((X:Int) / 2 ^ j) 1 == 0)=true:=by rw [e1,hu];rfl
     have HE:=zh (HF.o.trans hst);clear e0 e1 hst hu hj h1 h2;go_wp2;go_returns;exact ⟨congrArg (fun z=>Ending.returned (.int .i64 z)) HE.o.symm,HB4.o⟩
   ·have d1:¬ (j:Int) < perN k:=by omega
    have HE:=zh (HF.o.trans (k.free_end (by omega)));clear hj h1 h2;go_wp2;go_returns;exact ⟨congrArg (fun z=>Ending.returned (.int .i64 z)) HE.o.symm,HB4.o⟩
 ·rw [ZLB (show ¬ (0<=(m:Int)/\(m:Int) < perN k) by omega)] at HH
  rw [k.free_end (by omega)];unfold chV at *;clear h hR hl hi hk hX hX64 hblt hm hm2 hp62;go_in;go_wp2_with fail;refine (HH.o _ (ZA (Below.refl _ w))).mono ?_;rintro e w1 ⟨rfl,hb⟩;have HB:=zh ((ZA (Below.refl _ w)).trans (hb.mono (by simp)));clear hb HH;go_wp2;go_returns;exact ⟨rfl,HB.o⟩
def ZM (p:Nat):Nat:=p % 4294967296 * 8
def Vr (p:Nat):Nat:=p / 4294967296 % 65536
def Z0 (p:Nat):Nat:=p / 281474976710656 % 256
def Yl (off gen kind:Nat):Nat:=off / 8+gen * 4294967296+kind * 281474976710656
theorem XT (p:Nat):ZM p < 34359738368:=by unfold ZM;omega
theorem Jb {off gen kind:Nat}(h8:off % 8=0)(ho:off < 34359738368)(hg:gen < 65536)(hk:kind < 256):ZM (Yl off gen kind)=off/\Vr (Yl off gen kind)=gen/\Z0 (Yl off gen kind)=kind:=by
 unfold ZM Vr Z0 Yl;refine ⟨by omega,by omega,by omega⟩
theorem YU {w:World}{p:Nat}(hp:p < 18446744073709551616):Calls prog 35 #[.int .u64 p] w fun e w'=>e=.returned (.int .u64 (ZM p:Nat))/\w=w':=by
 have e:((ZM p:Nat):Int)=(p:Int) % 4294967296 * 8:=by unfold ZM;omega
 rw [e];have b1:(p:Int) < 18446744073709551616:=by omega
 clear e;go_in;go_wp2;go_returns;exact ⟨rfl,rfl⟩
theorem ZCU {w:World}{p:Nat}(hp:p < 18446744073709551616):Calls prog 141 #[.int .u64 p] w fun e w'=>e=.returned (.int .u16 (Vr p:Nat))/\w=w':=by
 have e:((Vr p:Nat):Int)=(p:Int) / 4294967296 % 65536:=by unfold Vr;omega
 rw [e];have b1:(p:Int) < 18446744073709551616:=by omega
 clear e;go_in;go_wp2;go_returns;exact ⟨rfl,rfl⟩
theorem Vl {w:World}{p:Nat}(hp:p < 18446744073709551616):Calls prog 85 #[.int .u64 p] w fun e w'=>e=.returned (.int .u8 (Z0 p:Nat))/\w=w':=by
 have e:((Z0 p:Nat):Int)=(p:Int) / 281474976710656 % 256:=by unfold Z0;omega
 rw [e];have b1:(p:Int) < 18446744073709551616:=by omega
 clear e;go_in;go_wp2;go_returns;exact ⟨rfl,rfl⟩
theorem Z6 {w:World}{p:Nat}:Calls prog 14 #[.int .u64 p] w fun e w'=>e=.returned (.bool (decide (p=0)))/\w=w':=by
 have e:((p:Int) == 0)=decide (p=0):=by
  by_cases h:p=0
  ·subst h;rfl
  ·rw [ZLB h];exact beq_eq_false_iff_ne.2 (by omega)
 go_in;go_wp2;go_returns;exact ⟨by first|rfl|rw [e],rfl⟩
theorem YK {w:World}{p k:Nat}(hp:p < 18446744073709551616)(h0:p≠0)(hk:k < 60):Calls prog 13 #[.int .u64 p,.int .i64 k] w fun e w'=>e=.returned (.int .u64 (ZM p+8 * k:Nat))/\w=w':=by
 have HN:=zh (fun (w1:World)=>show Calls prog 14 #[.int .u64 p] w1 (fun e w'=>e=.returned (.bool false)/\w1=w') from by
  have:=Z6 (w:=w1) (p:=p);rw [ZLB h0] at this;exact this)
 have HO:=zh (fun (w1:World)=>YU (w:=w1) hp);have hl:=XT p;obtain ⟨o,ho⟩:=xE (ZM p);rw [<-ho] at HO hl ⊢;have e:((o+8 * k:Nat):Int)=(o:Int)+8 * k:=by omega
 rw [e];have b1:(o:Int) < 34359738368:=by omega
 have b2:(k:Int) < 60:=by omega
 have d1:decide ((k:Int) < 0)=false:=by simp
 have d2:decide (60<=(k:Int))=false:=by simp;omega
 clear e ho hl hp h0 hk;go_in;go_wp2_with fail;refine (HN.o _).mono ?_;rintro e w' ⟨rfl,rfl⟩;go_wp2_with fail;refine (HO.o _).mono ?_;rintro e w' ⟨rfl,rfl⟩;go_wp2;go_returns;exact ⟨rfl,rfl⟩
theorem XD {a b k:Nat}(ha:a < 2 ^ k):a ||| b * 2 ^ k=a+b * 2 ^ k:=by
 rw [Nat.or_comm,Nat.mul_comm,<-Nat.two_pow_add_eq_or_of_lt ha,Nat.add_comm]
theorem ZFP {off gen kind:Nat}(h8:off % 8=0)(h0:0 < off)(ho:off < 34359738368)(hg:1<=gen/\gen < 65536)(hk:1<=kind/\kind<=127):
 Calls prog 214 #[.int .u64 off,.int .u16 gen,.int .u8 kind] w fun e w'=>e=.returned (.tuple #[.int .u64 (Yl off gen kind),.int .i64 0])/\w=w':=by
 have d1:((off:Int) == 0)=false:=by simp;omega
 have d2:(Int.tmod (off:Int) 8 != 0)=false:=by rw [Int.tmod_eq_emod_of_nonneg (by omega)];simp;omega
 have d2':((off:Int) % 8 != 0)=false:=by simp;omega
 have d3:((gen:Int) == 0)=false:=by simp;omega
 have d4:((kind:Int) == 0)=false:=by simp;omega
 have d5:¬ (kind:Int) > 127:=by omega
 have d6:¬ (off:Int) > 34359738360:=by omega
 have e1:bits .or .u64 ((off:Int) / 8) ((gen:Int) * 4294967296)=((off / 8+gen * 4294967296:Nat):Int):=by
  have:=u64_or_nat (off / 8) (gen * 2 ^ 32) (by omega) (by omega);rw [XD (by omega)] at this;rw [<-this];congr 1
 have e2:bits .or .u64 ((off / 8+gen * 4294967296:Nat):Int) ((kind:Int) * 281474976710656)=((Yl off gen kind:Nat):Int):=by
  have:=u64_or_nat (off / 8+gen * 4294967296) (kind * 2 ^ 48) (by omega) (by omega);rw [XD (by omega)] at this;unfold Yl;rw [<-this];congr 1
 have b1:(gen:Int) < 65536:=by omega
 have b2:(kind:Int)<=127:=by omega
 have b3:(off:Int) < 34359738368:=by omega
 rw [<-e2,<-e1];clear h8 h0 ho hg hk e1 e2;go_in;go_wp2;go_returns;exact ⟨rfl,rfl⟩
def Chk.find (k:Chk)(line off:Nat):Int×Bool:=if off < 64 * line\/2048<=off - 64 * line then (0,false) else fnd k.cl (((off - 64 * line) / 8:Nat):Int)
theorem Chk.find_ok {k:Chk}(hk:k.Head){line off:Nat}(h:(k.find line off).2=true):∃ j:Nat,j < perN k/\(k.find line off).1=j/\off / 8=8 * line+hdN k j+1:=by
 obtain ⟨e1,e2,_,h4,_,_⟩:=hk.sizes;unfold Chk.find at h ⊢;split at h
 ·cases h
 rename_i hn;rw [ZKu hn];unfold fnd at h ⊢;rw [e1,e2] at h ⊢;split at h
 ·cases h
 rename_i h1;split at h
 ·cases h
 rename_i h2;rw [ZKu h1,ZKu h2];obtain ⟨x,hx⟩:=xE ((off - 64 * line) / 8);rw [<-hx] at h1 h2 ⊢;have hx9:9<=x:=by omega
 have e3:((x:Int) - 8 - 1)=((x - 9:Nat):Int):=by omega
 rw [e3] at h2 ⊢;have e4:(((x - 9:Nat):Int) % (Zu k:Int))=(((x - 9) % Zu k:Nat):Int):=rfl;have e5:(((x - 9:Nat):Int) / (Zu k:Int))=(((x - 9) / Zu k:Nat):Int):=rfl;rw [e4,e5] at h2;rw [e5];refine ⟨(x - 9) / Zu k,by omega,rfl,?_⟩;have hm:(x - 9) % Zu k=0:=by omega
 have hd:=Nat.div_add_mod (x - 9) (Zu k);rw [hm,Nat.mul_comm] at hd;unfold hdN;omega
theorem ZEk (hT:Tab w){i line off:Nat}(hl:line+32<=4096){k:Chk}(ho:off < 18446744073709551616):
 Calls prog 139 #[chV A i line k,.int .u64 off] w fun e w'=>e=.returned (.tuple #[.int .i64 (k.find line off).1,.bool (k.find line off).2])/\Bl w w':=by
 have HST:=zh (fun w1=>Yf (w:=w1) (line:=line) (by omega));have HF:=zh (fun (x:Int) w1 (hb:Bl w w1)=>find_any k.cl x w1 (hT.below hb));obtain ⟨M,hM⟩:=xE (line * 64);rw [<-hM] at HST;unfold Chk.find;rw [show 64 * line=M by omega];have b1:(M:Int)<=262144:=by omega
 have b2:(off:Int) < 18446744073709551616:=by omega
 unfold chV;clear hT hl hM ho
 by_cases h1:off < M
 ·rw [ZKv (.inl h1)]
  have d1:(off:Int) < M:=by omega
  clear h1;go_in;go_wp2_with fail;refine (HST.o _).mono ?_;rintro e w' ⟨rfl,rfl⟩;go_wp2;go_returns;exact ⟨rfl,ZA bR⟩
 ·obtain ⟨N,rfl⟩:∃ N,off=M+N:=⟨off - M,by omega⟩
  rw [Nat.add_sub_cancel_left];rw [Int.natCast_add] at b2 ⊢;have d1:decide ((M:Int)+N < M)=false:=ZLB (by omega);have e0:(M:Int)+N - M=N:=by omega
  have b3:(N:Int) < 18446744073709551616:=by omega
  by_cases h2:2048<=N
  ·rw [ZKv (.inr h2)]
   have d2:decide ((2048:Int)<=N)=true:=ZLG (by omega);clear h1 h2;go_in;go_wp2_with fail;refine (HST.o _).mono ?_;rintro e w' ⟨rfl,rfl⟩;go_wp2;go_returns;exact ⟨rfl,ZA bR⟩
  ·rw [ZKu (by omega)]
   have d2:decide ((2048:Int)<=N)=false:=ZLB (by omega);have e1:((N / 8:Nat):Int)=(N:Int) / 8:=by omega
   rw [e1];clear h1 h2 e1;go_in;go_wp2_with fail;refine (HST.o _).mono ?_;rintro e w' ⟨rfl,rfl⟩;go_wp2_with fail;refine (HF.o _ _ (ZA (Below.refl _ w))).mono ?_;rintro e w' ⟨rfl,rfl⟩;go_wp2;go_returns;exact ⟨rfl,ZA bR⟩
structure BW (w:World) where
 v:World
 h:Bl w v
instance (w:World):Inhabited (BW w):=⟨⟨w,Below.refl _ w⟩⟩
theorem Zv {P:Program} {id:Nat} {Q:Exit->Act->World->Prop} {a:Act} {w:World} {l:List Oper} (hm:P.follows .mixedOrders=true) (hB:Region.lexB .any l.toArray=true)
 (h:wpQuiet P l.toArray (fun w'=>∃ p:BW w,w'=p.v) (fun a'=>∀ w',(∃ p:BW w,w'=p.v)->Q .normal a' w') l a):(Code.region id l.toArray true).wp P Q a w:=
 wp_region_quiet (C:=fun w'=>∃ p:BW w,w'=p.v) hm hB ⟨⟨w.drew,ZD (Below.refl _ w)⟩,rfl⟩ (by simpa using h)
theorem ZV {w:World}{a:Addr}{v:Value}(h:w.cell? a=some v)(p:BW w):p.v.cell? a=some v:=(p.h.cell (ZK2 _ _ h)).trans h
theorem VL {P:Program}{f:FuncId}{args:Array Value}{w:World}{p:BW w}{v:Value}(h:Calls P f args p.v fun e w'=>e=.returned v/\Below p.v.heap.size p.v w'):
 Calls P f args p.v fun e w''=>e=.returned v/\∃ p':BW w,w''=p'.v:=
 h.mono fun _ w' ⟨he,hb⟩=>⟨he,⟨w',p.h.trans (hb.mono p.h.size)⟩,rfl⟩
theorem Yt {P:Program}{f:FuncId}{args:Array Value}{w:World}{p:BW w}{v:Value}(h:Calls P f args p.v fun e w'=>e=.returned v/\p.v=w'):
 Calls P f args p.v fun e w''=>e=.returned v/\∃ p':BW w,w''=p'.v:=
 h.mono fun _ w' ⟨he,hb⟩=>⟨he,p,hb.symm⟩
theorem CBox.bw {b:Nat}{i line:Nat}{k:Chk}(h:CBox w b A i line k)(p:BW w):CBox p.v b A i line k:=h.below p.h
def Chk.pay (k:Chk)(line j:Nat):Nat:=(8 * line+hdN k j+1) * 8
def Chk.ptr (k:Chk)(line j kind:Nat):Nat:=Yl (k.pay line j) (k.blk j).gen kind
theorem XU (h:Ar w A F L T c){i:Nat}(hi:i < 8){line:Nat}(hl:line+32<=L){k:Chk}(hR:CRep T c (8 * line) k)(hk:0<=k.cl){j:Nat}(hj:j < perN k)(hu:k.used j=false){kind:Nat}(hkd:1<=kind/\kind<=127):
 Calls prog 169 #[chV A i line k,.int .i64 j,.int .u8 kind] w fun e w'=>e=.returned (.tuple #[.int .u64 (k.ptr line j kind),.int .i64 0])/\Bl w w':=by
 have hL:=h.lines;have hle:=YF hR.head hj;have hst:=hR.head.sizes.2.2.2.1;have hgd:=hR.good hk j hj;have HH:=zh (fun w1 (hb:Bl w w1)=>QB (A:=A) (i:=i) (line:=line) (h.below hb).tab hR.head j);rw [ZLG (show 0<=(j:Int)/\(j:Int) < perN k by omega)] at HH;have HER:=zh (fun w1 hb=>Zq h hi w1 hb);have HR:=zh (fun w1 (hb:Bl w w1)=>Uv (h.below hb) hi hl hR hk hj);rw [hu] at HR;have HG:=zh (fun w1=>ZAC (w:=w1) hgd);have HAT:=zh (fun w1 (hb:Bl w w1)=>ZAz (i:=i) (h.below hb) hl hR.head hj);have HM:=zh (fun w1=>ZFP (w:=w1) (off:=k.pay line j) (gen:=(k.blk j).gen) (kind:=kind) (by unfold Chk.pay;omega) (by unfold Chk.pay;omega) (by unfold Chk.pay;omega) hgd.gen hkd);have hs:(k.blk j).st=176:=by unfold Chk.used at hu;simpa using hu
 unfold Chk.ptr;have hpay:k.pay line j=(8 * line+hdN k j) * 8+8:=by unfold Chk.pay;omega
 obtain ⟨P,hP⟩:=xE (Yl (k.pay line j) (k.blk j).gen kind);rw [<-hP] at HM ⊢;rw [hpay] at HM;obtain ⟨N,hN⟩:=xE ((8 * line+hdN k j) * 8);rw [<-hN] at HM HAT;have b1:(N:Int)<=1000000:=by omega
 have HE2:=zh (show IntKind.u64.wrap ((N:Int)+8)=((N+8:Nat):Int) by rw [IntWalk.u64_in] <;> omega);obtain ⟨b,hb⟩:=xE (k.blk j);rw [<-hb] at HR HG HM hs;have d1:((kind:Int) == 0)=false:=by simp;omega
 have d2:¬ (kind:Int) > 127:=by omega
 unfold chV bkV at *;rw [hs] at HR HG;clear h hR hl hL hle hst hgd hu hP hN hb hs hj hk hpay hkd hi;go_in;go_wp2_with fail;refine (HH.o _ (ZA (Below.refl _ w))).mono ?_;rintro e w1 ⟨rfl,hb⟩;have HB:=zh ((ZA (Below.refl _ w)).trans (hb.mono (by simp)));have HC:=zh (CBox.new.below hb);obtain ⟨c0,c1,c2,c3,c4⟩:=id HC.o;clear hb HH;go_wp2_with fail;refine (HER.o _ HB.o).mono ?_;rintro e w' ⟨rfl,rfl⟩;go_wp2_with fail;refine (HR.o _ HB.o).mono ?_;rintro e w2 ⟨rfl,hb⟩;have HB2:=zh (ZA (o:=.cells #[.int .u16 b.gen,.int .u8 b.kind,.int .u8 176] 268) (HB.o.trans (hb.mono HB.o.size)));have HC2:=zh ((HC.o.below hb).below (ZA (o:=.cells #[.int .u16 b.gen,.int .u8 b.kind,.int .u8 176] 268) (Below.refl w2.heap.size w2)));have HN:=zh (ZB w2 (.cells #[.int .u16 b.gen,.int .u8 b.kind,.int .u8 176] 268));clear hb HR HB HC c0 c1 c2 c3 c4;obtain ⟨c0,c1,c2,c3,c4⟩:=id HC2.o;go_wp2_with fail;refine (HER.o _ HB2.o).mono ?_;rintro e w' ⟨rfl,rfl⟩;obtain ⟨w3,hw3⟩:=xE (w2.alloc (.cells #[.int .u16 b.gen,.int .u8 b.kind,.int .u8 176] 268));rw [<-hw3] at HB2 HC2 HN ⊢;clear c0 c1 c2 c3 c4 hw3 HER;obtain ⟨c0,c1,c2,c3,c4⟩:=id HC2.o;obtain ⟨b0,b1,b2,_⟩:=Zb HN.o;go_wp2_with fail;refine (HG.o _).mono ?_;rintro e w4 ⟨rfl,hb⟩;have HB4:=zh (HB2.o.trans (hb.mono HB2.o.size));have HC4:=zh (HC2.o.below hb);have HN4:=zh ((hb.block _ (heap_lt HN.o)).trans HN.o);clear hb c0 c1 c2 c3 c4 b0 b1 b2 HC2 HN HB2 HG;obtain ⟨c0,c1,c2,c3,c4⟩:=id HC4.o;obtain ⟨b0,b1,b2,_⟩:=Zb HN4.o;go_wp2_with fail;have k0:=fun p:BW w4=>ZV c0 p
 have k1:=fun p:BW w4=>ZV c1 p
 have k2:=fun p:BW w4=>ZV c2 p
 have k3:=fun p:BW w4=>ZV c3 p
 have k4:=fun p:BW w4=>ZV c4 p
 have k5:=fun p:BW w4=>ZV b0 p
 have HAT4:=zh (fun p:BW w4=>VL (HAT.o p.v (HB4.o.trans (p.h.mono HB4.o.size))));have HM4:=zh (fun p:BW w4=>Yt (HM.o p.v));clear HAT HM c0 c1 c2 c3 c4 b0 b1 b2;refine Zv (by kernel_rfl) (by kernel_rfl) ?_
 repeat (quiet_step (first
  |(go_at_call 189;exact HAT4.o _)
  |(go_at_call 214;rw [HE2.o];exact HM4.o _)))
 refine wpQuiet_nil ?_;rintro _ ⟨p,rfl⟩;have HB5:=zh (HB4.o.trans (p.h.mono HB4.o.size));go_wp2;go_returns;exact ⟨rfl,HB5.o⟩
end
end Go.Proofs.YteomliechfdhhaaGreatDoor.Dv
