/- Part 32. -/
import Derived.Test.YteomliechfdhhaaGreatDoorY31
import Derived.Laws.IdiomCopy
set_option maxHeartbeats 8000000
set_option maxRecDepth 20000
set_option linter.all false
namespace Go.Proofs.YteomliechfdhhaaGreatDoor.Dv
open Tryz
section
open Go.RowKit Go.Proofs.YteomliechfdhhaaGreatDoor.Size
variable {w w':World}{A:DAd}{F F':Nat->Option ZK}{T c c':Nat->Nat}{x x' L:Nat}
def Uw (T:Nat->Nat)(e a P:Nat):List (Nat×Nat):=[(128+32 * e,a),(136+32 * e,0),(144+32 * e,P),(152+32 * e,4294967296+Vq T [a,0])]
theorem V5 {n:Nat}(h1:1<=n)(h2:n<=7):Calls prog 215 #[.int .i64 n] w fun e w'=>e=.returned (.int .i64 1)/\w=w':=by
 rcases (show n=1\/n=2\/n=3\/n=4\/n=5\/n=6\/n=7 by omega) with rfl|rfl|rfl|rfl|rfl|rfl|rfl
 all_goals
  clear h1 h2;go_in;go_wp2;go_returns;exact ⟨rfl,rfl⟩
theorem Xb {P:Program} {ops:Array Oper} {o:Oper} {a:Act} {w:World} {K:Act->World->Prop} {Q:Exit->Act->World->Prop} {B:Prop} (hgd:o.guard=none) (d s:Operand) (t t':TypeId)
 (ho:o.op=.call {callee:=.builtin .copy,args:=#[d,s],argTypes:=#[t,t']}){v1 v2 r:Value}{w':World}(hd:a.eval d=v1)(hs:a.eval s=v2)(hr:∀ ty,(Builtin.copy_ #[t,t'] ty #[v1,v2]).run P w=.ok r w')(h:K (a.put o.dst r) w'):
 if Region.wanted o (yielded ops a.tmps)=true then Oper.wp P o a w K Q else B:=by
 have hw:Region.wanted o (yielded ops a.tmps)=true:=by simp [Region.wanted,hgd]
 rw [ZKv hw];have hr:=hr o.type;unfold Oper.wp;simp [execOp,ho,resolve,invoke,builtin,hs,hd,hr,Result.andThen];exact h
def byL:List Nat:=[108,105,109,98,111]
def wkL:List Nat:=[0,108,26988,7170412,1651337580,478392707436]
theorem ZIj {g cap:Nat}(hg:g < w.heap.size)(hc:∀ j,j < 5->w.cell? ⟨g,j,none⟩=some (.int .u8 (byL.getD j 0:Nat))):
 Calls prog 174 #[.slice (some ⟨g,0,none⟩) 5 cap] w fun e w'=>∃ B,e=.returned (.slice (some ⟨B,0,none⟩) 1 1)/\w'.heap[B]?=some (.cells #[.int .u64 478392707436] 29 (0,0))/\Bl w w':=by
 have HC:=zh (fun (wx:World) (hb:Bl w wx) (j:Nat) (hj:j < 5)=>(hb.cell (p:=⟨g,j,none⟩) hg).trans (hc j hj));have HWO:=zh (V5 (w:=w) (n:=5) (by omega) (by omega));obtain ⟨i,hi,hz,hsz,hby⟩:=info_parts Vj;have hmk:=run_make (P:=prog) w 123 29 i _ underlying123 hi hz .i64 .i64 1 1 (by omega) (Int.le_refl _) (by rw [hby];omega) (by omega);simp only [show (1:Int).toNat=1 from rfl,hsz,Nat.mul_one] at hmk;rw [show madeCells (Value.int .u64 0).cells 1=#[.int .u64 0] by kernel_rfl] at hmk;clear hi hz hsz hby hg hc;go_in;go_wp2_with fail;refine HWO.o.mono ?_;rintro e w' ⟨rfl,rfl⟩;go_upto_region 2 with fail;obtain ⟨w1,hw1⟩:=xE (w.alloc (.cells #[.int .u64 0] 29));obtain ⟨B,hB⟩:=xE w.heap.size;have HX:=zh (show w1.heap[B]?=some (.cells #[.int .u64 (wkL.getD 0 0:Nat)] 29 (0,0)) by rw [hw1,hB];exact ZB _ _);have HB1:=zh (show Bl w w1 by rw [hw1];exact ZA bR);have HBN:=zh (show w.heap.size<=B by omega);rw [<-hw1,<-hB];clear hw1 hB hmk;go_wp2_with fail
 go_loopw [12] (fun i wr=>∃ m:Nat,m<=5/\i=.int .i64 m/\wr.heap[B]?=some (.cells #[.int .u64 (wkL.getD m 0:Nat)] 29 (0,0))/\Bl w wr) (fun i _=>5 - (intOf i).toNat)
 case atStart=>exact ⟨0,by omega,rfl,HX.o,HB1.o⟩
 case round=>
 obtain ⟨m,hm,rfl,hx,hb⟩:=hrel;have HB:=zh hb
 by_cases hlt:m < 5
 ·have c1:=HC.o wr hb m hlt
  clear hm hb;rcases (show m=0\/m=1\/m=2\/m=3\/m=4 by omega) with rfl|rfl|rfl|rfl|rfl
  all_goals
   obtain ⟨c0,f0⟩:=Ua hx;have hs:=fun v=>(ZH (v:=v) (i:=0) hx)
   simp [byL,wkL] at c0 c1 hs;clear hx hlt;go_wp2_with fail;go_roundw
   case rel=>exact ⟨_,(by decide:_+1<=5),rfl,(hs _).trans rfl,ZE HB.o HBN.o⟩
   case measure=>simp [intOf]
 ·obtain rfl:m=5:=by omega
  clear hm hlt hb;go_wp2;go_returns;exact ⟨B,rfl,hx,HB.o⟩
def byA:List Nat:=[97,110,99,104,111,114]
def wkA:List Nat:=[0,97,28257,6516321,1751346785,478492716641,125822818283105]
theorem ZIi {g cap:Nat}(hg:g < w.heap.size)(hc:∀ j,j < 6->w.cell? ⟨g,j,none⟩=some (.int .u8 (byA.getD j 0:Nat))):
 Calls prog 174 #[.slice (some ⟨g,0,none⟩) 6 cap] w fun e w'=>∃ B,e=.returned (.slice (some ⟨B,0,none⟩) 1 1)/\w'.heap[B]?=some (.cells #[.int .u64 125822818283105] 29 (0,0))/\Bl w w':=by
 have HC:=zh (fun (wx:World) (hb:Bl w wx) (j:Nat) (hj:j < 6)=>(hb.cell (p:=⟨g,j,none⟩) hg).trans (hc j hj));have HWO:=zh (V5 (w:=w) (n:=6) (by omega) (by omega));obtain ⟨i,hi,hz,hsz,hby⟩:=info_parts Vj;have hmk:=run_make (P:=prog) w 123 29 i _ underlying123 hi hz .i64 .i64 1 1 (by omega) (Int.le_refl _) (by rw [hby];omega) (by omega);simp only [show (1:Int).toNat=1 from rfl,hsz,Nat.mul_one] at hmk;rw [show madeCells (Value.int .u64 0).cells 1=#[.int .u64 0] by kernel_rfl] at hmk;clear hi hz hsz hby hg hc;go_in;go_wp2_with fail;refine HWO.o.mono ?_;rintro e w' ⟨rfl,rfl⟩;go_upto_region 2 with fail;obtain ⟨w1,hw1⟩:=xE (w.alloc (.cells #[.int .u64 0] 29));obtain ⟨B,hB⟩:=xE w.heap.size;have HX:=zh (show w1.heap[B]?=some (.cells #[.int .u64 (wkA.getD 0 0:Nat)] 29 (0,0)) by rw [hw1,hB];exact ZB _ _);have HB1:=zh (show Bl w w1 by rw [hw1];exact ZA bR);have HBN:=zh (show w.heap.size<=B by omega);rw [<-hw1,<-hB];clear hw1 hB hmk;go_wp2_with fail
 go_loopw [12] (fun i wr=>∃ m:Nat,m<=6/\i=.int .i64 m/\wr.heap[B]?=some (.cells #[.int .u64 (wkA.getD m 0:Nat)] 29 (0,0))/\Bl w wr) (fun i _=>6 - (intOf i).toNat)
 case atStart=>exact ⟨0,by omega,rfl,HX.o,HB1.o⟩
 case round=>
 obtain ⟨m,hm,rfl,hx,hb⟩:=hrel;have HB:=zh hb
 by_cases hlt:m < 6
 ·have c1:=HC.o wr hb m hlt
  clear hm hb;rcases (show m=0\/m=1\/m=2\/m=3\/m=4\/m=5 by omega) with rfl|rfl|rfl|rfl|rfl|rfl
  all_goals
   obtain ⟨c0,f0⟩:=Ua hx;have hs:=fun v=>(ZH (v:=v) (i:=0) hx)
   simp [byA,wkA] at c0 c1 hs;clear hx hlt;go_wp2_with fail;go_roundw
   case rel=>exact ⟨_,(by decide:_+1<=6),rfl,(hs _).trans rfl,ZE HB.o HBN.o⟩
   case measure=>simp [intOf]
 ·obtain rfl:m=6:=by omega
  clear hm hlt hb;go_wp2;go_returns;exact ⟨B,rfl,hx,HB.o⟩
theorem ZHM (hT:NTab w T){a b p q:Nat}(ha:a < 18446744073709551616)(hb:b < 18446744073709551616):
 Calls prog 115 #[.agg #[.int .u64 a,.int .u64 b,.int .u64 p,.int .u64 q]] w fun e w'=>e=.returned (.int .u64 (4294967296+Vq T [a,b]:Nat))/\Bl w w':=by
 obtain ⟨w1,hw1⟩:=xE (w.alloc (.cells #[.int .u64 a,.int .u64 b,.int .u64 p,.int .u64 q] 94));have HX:=(show w1.heap[w.heap.size]?=some (.cells #[.int .u64 a,.int .u64 b,.int .u64 p,.int .u64 q] 94 (0,0)) by rw [hw1];exact ZB _ _)
 have HB1:=zh (show Bl w w1 by rw [hw1];exact ZA bR);have HW:=zh (fun (cap:Nat)=>words_any (hT.below HB1.o nR) (b:=w.heap.size) (o:=0) (c:=cap) (l:=[a,b]) (fun j u hj=>by
  rcases j with _|_|j
  ·cases hj;exact (ZC HX).trans rfl
  ·cases hj;exact (ZC HX).trans rfl
  ·simp at hj) (by simp;exact ⟨ha,hb⟩) (by simp))
 have hk:=Xu hT [a,b];obtain ⟨K,hK⟩:=xE (Vq T [a,b]);rw [<-hK] at HW hk ⊢;have bk:(K:Int) < 4294967296:=by omega
 clear HX hT ha hb hK;go_in;go_upto_region 1 with fail;rw [<-hw1];clear hw1;go_wp2_with fail;refine (HW.o _).mono ?_;rintro e w' ⟨rfl,rfl⟩;go_wp2;go_returns;exact ⟨by simp,HB1.o⟩
theorem ZIU:Calls prog 114 #[.string {data:=#[108,105,109,98,111]}] w fun e w'=>e=.returned (.agg #[.int .u64 478392707436,.int .u64 0])/\Bl w w':=by
 obtain ⟨w1,hw1⟩:=xE ((w.alloc (.cells #[.int .u64 0,.int .u64 0] 231)).alloc (.cells #[.int .u64 0,.int .u64 0] 231));have e1:(w.alloc (.cells #[.int .u64 0,.int .u64 0] 231)).heap.size=w.heap.size+1:=by simp
 have HA:=zh (show w1.heap[w.heap.size]?=some (.cells #[.int .u64 0,.int .u64 0] 231 (0,0)) by rw [hw1];exact (ZI (by simp)).trans (ZB _ _));have HX:=zh (show w1.heap[w.heap.size+1]?=some (.cells #[.int .u64 0,.int .u64 0] 231 (0,0)) by rw [hw1,<-e1];exact ZB _ _);have HB1:=zh (show Bl w w1 by rw [hw1];exact ZA (ZA bR));obtain ⟨g,hg⟩:=xE (w.heap.size+1);rw [<-hg] at HX;have HGN:=zh hg;go_in;go_upto_region 2 with fail;rw [<-hw1,<-hg];clear hw1 e1 hg;obtain ⟨w2,hw2⟩:=xE w1.drew;have HS0:=zh (show Bl w w2/\w2.heap[g]?=some (.cells #[.int .u64 0,.int .u64 0] 231 (0,0))/\w2.heap[w.heap.size]?=some (.cells #[.int .u64 0,.int .u64 0] 231 (0,0)) by rw [hw2];exact ⟨ZD HB1.o,HX.o,HA.o⟩);refine Z8 4 (fun wx=>Bl w wx/\wx.heap[g]?=some (.cells #[.int .u64 0,.int .u64 0] 231 (0,0))/\wx.heap[w.heap.size]?=some (.cells #[.int .u64 0,.int .u64 0] 231 (0,0))) (by kernel_rfl) ?_;rw [<-hw2];clear hw2 HA HX HB1;refine Yr (i:=0) (z:=4) (v:=.slice (some ⟨g,0,none⟩) 2 2) rfl (by kernel_rfl) (fun _ _ _ h=>h) HS0.o rfl (fun w' hc=>by go_simp) ?_
 (try simp only [Act.put,ZK3,ZKy,ZK0,ZKt,ZKw,ZKx])
 refine YZ (j:=1) (z:=4) (by kernel_rfl) rfl (fun K hK=>?_);go_simp;refine hK _ _ HS0.o ?_;clear hK K
 (try simp only [Act.put,ZK3,ZKy,ZK0,ZKt,ZKw,ZKx])
 refine YZ (j:=2) (z:=4) (by kernel_rfl) rfl (fun K hK=>?_);have hcv:=run_bytes_of_string (P:=prog) w2 9 242 5 {data:=#[108,105,109,98,111]} underlying9 underlying242 underlying5;generalize grownCap w2 _ 0 5=cp at hcv;go_simp;clear hcv;obtain ⟨w3,hw3⟩:=xE ((w2.alloc (Obj.cells (bytesRow {data:=#[108,105,109,98,111]} cp) 5 ((bytesRow {data:=#[108,105,109,98,111]} cp).size,(bytesRow {data:=#[108,105,109,98,111]} cp).size+1))).drew);have h23:Bl w2 w3:=by rw [hw3];exact ZD (ZA bR)
 have HS1:=zh (show Bl w w3/\w3.heap[g]?=_/\w3.heap[w.heap.size]?=_ from ⟨HS0.o.1.trans (h23.mono HS0.o.1.size),(h23.block _ (heap_lt HS0.o.2.1)).trans HS0.o.2.1,(h23.block _ (heap_lt HS0.o.2.2)).trans HS0.o.2.2⟩);have hpk:=ZIj (w:=w3) (g:=w2.heap.size) (cap:=cp) (by rw [hw3];show w2.heap.size < (w2.alloc _).heap.size;simp) (fun j hj=>by
  rw [hw3];show (w2.alloc _).cell? _=_;rw [ZC (ZB _ _)];unfold bytesRow;rw [Array.getElem?_append_left (by rw [Array.size_map];exact hj)];rcases (show j=0\/j=1\/j=2\/j=3\/j=4 by omega) with rfl|rfl|rfl|rfl|rfl <;> kernel_rfl)
 rw [<-hw3];refine hK _ _ HS1.o ?_;have HPK:=zh hpk;clear hK K hw3 h23 hpk
 (try simp only [Act.put,ZK3,ZKy,ZK0,ZKt,ZKw,ZKx])
 refine YZ (j:=3) (z:=4) (by kernel_rfl) rfl (fun K hK=>?_);refine ZJ rfl func174 rfl rfl rfl HPK.o (by first|(simp [Act.eval];done)|(simp [Act.eval];rfl)) ?_;rintro e' w4 ⟨B,rfl,hB,hb4⟩;have HS4:=zh (show Bl w w4/\w4.heap[g]?=_/\w4.heap[w.heap.size]?=_ from ⟨HS1.o.1.trans (hb4.mono HS1.o.1.size),(hb4.block _ (heap_lt HS1.o.2.1)).trans HS1.o.2.1,(hb4.block _ (heap_lt HS1.o.2.2)).trans HS1.o.2.2⟩);refine ⟨_,rfl,hK _ _ HS4.o ?_⟩;clear hK K hb4 HPK HS1 HS0
 (try simp only [Act.put,ZK3,ZKy,ZK0,ZKt,ZKw,ZKx])
 refine UY (z:=4) (by kernel_rfl) rfl (by kernel_rfl) (by kernel_rfl) (fun K hK=>?_);have hcp:=fun ty=>run_copy_cells (P:=prog) w4 123 123 ty 29 g 0 2 2 ⟨B,0,none⟩ 1 1 [.int .u64 478392707436] underlying123 (by kernel_rfl) rfl (fun j v hj=>by
  rcases j with _|j
  ·cases hj;rw [Addr.add_lit];exact (ZC hB).trans rfl
  ·simp at hj) (fun j hj=>by rw [ZC HS4.o.2.1];have:j=0:=by simpa using hj
                             subst this;rfl) (fun j hj=>ZG HS4.o.2.1) (by simp [Value.oneCell'])
 refine Xb rfl (.tmp 4) (.tmp 7) _ _ rfl rfl rfl hcp ?_;refine hK _ _ ?_;clear hK K hcp hB;simp only [World.setCells];obtain ⟨w5,hw5⟩:=xE (w4.setCell ⟨g,0,none⟩ (.int .u64 478392707436));have HX5:=zh (show w5.heap[g]?=some (.cells #[.int .u64 478392707436,.int .u64 0] 231 (0,0)) by rw [hw5];exact (ZH HS4.o.2.1).trans rfl);have HA5:=zh (show w5.heap[w.heap.size]?=some (.cells #[.int .u64 0,.int .u64 0] 231 (0,0)) by rw [hw5];exact (ZF (by have:=HGN.o;omega)).trans HS4.o.2.2);have HB5:=zh (show Bl w w5 by rw [hw5];exact ZE HS4.o.1 (by have:=HGN.o;omega));rw [<-hw5];clear hw5 HS4;obtain ⟨c0,c1,_⟩:=XX HX5.o;obtain ⟨a0,a1,f0,f1⟩:=XX HA5.o
 (try simp only [Act.put,ZK3,ZKy,ZK0,ZKt,ZKw,ZKx])
 go_wp2_with fail;have hr:=(show ((w5.setCell ⟨w.heap.size,0,none⟩ (.int .u64 478392707436)).setCell ⟨w.heap.size,1,none⟩ (.int .u64 0)).heap[w.heap.size]?=some (.cells #[.int .u64 478392707436,.int .u64 0] 231 (0,0)) from (ZH (ZH HA5.o)).trans rfl)
 refine bodyPost_ret (results_cell_row rfl _ _ w.heap.size 231 _ (0,0) _ rfl hr underlying231 rfl (by kernel_rfl)) rfl ?_;exact ⟨rfl,ZE (ZE HB5.o nR) nR⟩
theorem ZIT:Calls prog 114 #[.string {data:=#[97,110,99,104,111,114]}] w fun e w'=>e=.returned (.agg #[.int .u64 125822818283105,.int .u64 0])/\Bl w w':=by
 obtain ⟨w1,hw1⟩:=xE ((w.alloc (.cells #[.int .u64 0,.int .u64 0] 231)).alloc (.cells #[.int .u64 0,.int .u64 0] 231));have e1:(w.alloc (.cells #[.int .u64 0,.int .u64 0] 231)).heap.size=w.heap.size+1:=by simp
 have HA:=zh (show w1.heap[w.heap.size]?=some (.cells #[.int .u64 0,.int .u64 0] 231 (0,0)) by rw [hw1];exact (ZI (by simp)).trans (ZB _ _));have HX:=zh (show w1.heap[w.heap.size+1]?=some (.cells #[.int .u64 0,.int .u64 0] 231 (0,0)) by rw [hw1,<-e1];exact ZB _ _);have HB1:=zh (show Bl w w1 by rw [hw1];exact ZA (ZA bR));obtain ⟨g,hg⟩:=xE (w.heap.size+1);rw [<-hg] at HX;have HGN:=zh hg;go_in;go_upto_region 2 with fail;rw [<-hw1,<-hg];clear hw1 e1 hg;obtain ⟨w2,hw2⟩:=xE w1.drew;have HS0:=zh (show Bl w w2/\w2.heap[g]?=some (.cells #[.int .u64 0,.int .u64 0] 231 (0,0))/\w2.heap[w.heap.size]?=some (.cells #[.int .u64 0,.int .u64 0] 231 (0,0)) by rw [hw2];exact ⟨ZD HB1.o,HX.o,HA.o⟩);refine Z8 4 (fun wx=>Bl w wx/\wx.heap[g]?=some (.cells #[.int .u64 0,.int .u64 0] 231 (0,0))/\wx.heap[w.heap.size]?=some (.cells #[.int .u64 0,.int .u64 0] 231 (0,0))) (by kernel_rfl) ?_;rw [<-hw2];clear hw2 HA HX HB1;refine Yr (i:=0) (z:=4) (v:=.slice (some ⟨g,0,none⟩) 2 2) rfl (by kernel_rfl) (fun _ _ _ h=>h) HS0.o rfl (fun w' hc=>by go_simp) ?_
 (try simp only [Act.put,ZK3,ZKy,ZK0,ZKt,ZKw,ZKx])
 refine YZ (j:=1) (z:=4) (by kernel_rfl) rfl (fun K hK=>?_);go_simp;refine hK _ _ HS0.o ?_;clear hK K
 (try simp only [Act.put,ZK3,ZKy,ZK0,ZKt,ZKw,ZKx])
 refine YZ (j:=2) (z:=4) (by kernel_rfl) rfl (fun K hK=>?_);have hcv:=run_bytes_of_string (P:=prog) w2 9 242 5 {data:=#[97,110,99,104,111,114]} underlying9 underlying242 underlying5;generalize grownCap w2 _ 0 5=cp at hcv;go_simp;clear hcv;obtain ⟨w3,hw3⟩:=xE ((w2.alloc (Obj.cells (bytesRow {data:=#[97,110,99,104,111,114]} cp) 5 ((bytesRow {data:=#[97,110,99,104,111,114]} cp).size,(bytesRow {data:=#[97,110,99,104,111,114]} cp).size+1))).drew);have h23:Bl w2 w3:=by rw [hw3];exact ZD (ZA bR)
 have HS1:=zh (show Bl w w3/\w3.heap[g]?=_/\w3.heap[w.heap.size]?=_ from ⟨HS0.o.1.trans (h23.mono HS0.o.1.size),(h23.block _ (heap_lt HS0.o.2.1)).trans HS0.o.2.1,(h23.block _ (heap_lt HS0.o.2.2)).trans HS0.o.2.2⟩);have hpk:=ZIi (w:=w3) (g:=w2.heap.size) (cap:=cp) (by rw [hw3];show w2.heap.size < (w2.alloc _).heap.size;simp) (fun j hj=>by
  rw [hw3];show (w2.alloc _).cell? _=_;rw [ZC (ZB _ _)];unfold bytesRow;rw [Array.getElem?_append_left (by rw [Array.size_map];exact hj)];rcases (show j=0\/j=1\/j=2\/j=3\/j=4\/j=5 by omega) with rfl|rfl|rfl|rfl|rfl|rfl <;> kernel_rfl)
 rw [<-hw3];refine hK _ _ HS1.o ?_;have HPK:=zh hpk;clear hK K hw3 h23 hpk
 (try simp only [Act.put,ZK3,ZKy,ZK0,ZKt,ZKw,ZKx])
 refine YZ (j:=3) (z:=4) (by kernel_rfl) rfl (fun K hK=>?_);refine ZJ rfl func174 rfl rfl rfl HPK.o (by first|(simp [Act.eval];done)|(simp [Act.eval];rfl)) ?_;rintro e' w4 ⟨B,rfl,hB,hb4⟩;have HS4:=zh (show Bl w w4/\w4.heap[g]?=_/\w4.heap[w.heap.size]?=_ from ⟨HS1.o.1.trans (hb4.mono HS1.o.1.size),(hb4.block _ (heap_lt HS1.o.2.1)).trans HS1.o.2.1,(hb4.block _ (heap_lt HS1.o.2.2)).trans HS1.o.2.2⟩);refine ⟨_,rfl,hK _ _ HS4.o ?_⟩;clear hK K hb4 HPK HS1 HS0
 (try simp only [Act.put,ZK3,ZKy,ZK0,ZKt,ZKw,ZKx])
 refine UY (z:=4) (by kernel_rfl) rfl (by kernel_rfl) (by kernel_rfl) (fun K hK=>?_);have hcp:=fun ty=>run_copy_cells (P:=prog) w4 123 123 ty 29 g 0 2 2 ⟨B,0,none⟩ 1 1 [.int .u64 125822818283105] underlying123 (by kernel_rfl) rfl (fun j v hj=>by
  rcases j with _|j
  ·cases hj;rw [Addr.add_lit];exact (ZC hB).trans rfl
  ·simp at hj) (fun j hj=>by rw [ZC HS4.o.2.1];have:j=0:=by simpa using hj
                             subst this;rfl) (fun j hj=>ZG HS4.o.2.1) (by simp [Value.oneCell'])
 refine Xb rfl (.tmp 4) (.tmp 7) _ _ rfl rfl rfl hcp ?_;refine hK _ _ ?_;clear hK K hcp hB;simp only [World.setCells];obtain ⟨w5,hw5⟩:=xE (w4.setCell ⟨g,0,none⟩ (.int .u64 125822818283105));have HX5:=zh (show w5.heap[g]?=some (.cells #[.int .u64 125822818283105,.int .u64 0] 231 (0,0)) by rw [hw5];exact (ZH HS4.o.2.1).trans rfl);have HA5:=zh (show w5.heap[w.heap.size]?=some (.cells #[.int .u64 0,.int .u64 0] 231 (0,0)) by rw [hw5];exact (ZF (by have:=HGN.o;omega)).trans HS4.o.2.2);have HB5:=zh (show Bl w w5 by rw [hw5];exact ZE HS4.o.1 (by have:=HGN.o;omega));rw [<-hw5];clear hw5 HS4;obtain ⟨c0,c1,_⟩:=XX HX5.o;obtain ⟨a0,a1,f0,f1⟩:=XX HA5.o
 (try simp only [Act.put,ZK3,ZKy,ZK0,ZKt,ZKw,ZKx])
 go_wp2_with fail;have hr:=(show ((w5.setCell ⟨w.heap.size,0,none⟩ (.int .u64 125822818283105)).setCell ⟨w.heap.size,1,none⟩ (.int .u64 0)).heap[w.heap.size]?=some (.cells #[.int .u64 125822818283105,.int .u64 0] 231 (0,0)) from (ZH (ZH HA5.o)).trans rfl)
 refine bodyPost_ret (results_cell_row rfl _ _ w.heap.size 231 _ (0,0) _ rfl hr underlying231 rfl (by kernel_rfl)) rfl ?_;exact ⟨rfl,ZE (ZE HB5.o nR) nR⟩
theorem ZFh (h:Ar w A F 160 T c)(h0:[c 0,c 1,c 2,c 3,c 4,c 5,c 6,c 7]=ZCq T)(h1:[c 8,c 9,c 10,c 11,c 12,c 13,c 14,c 15]=[0,0,0,0,0,0,0,0]):
 Calls prog 98 #[.iface 97 (.pointer (some ⟨A.t 0,0,none⟩))] w fun e w'=>e=.returned (.tuple #[sup0.val,.int .i64 0])/\Bl w w':=by
 have HU:=zh (ZCy h (by omega));have HL:=zh (fun (w1:World) (hb:Bl w w1)=>ZAi (s0:=sup0) (s1:=Sup.zero) (g0:=true) (g1:=false) (h.below hb) (by omega) (.inr ⟨h0.trans (ZEX T).symm,J0,by decide,rfl⟩) (.inl ⟨h1,rfl,rfl⟩));have HN:=zh (fun (w1:World)=>ZIa (s0:=sup0) (s1:=Sup.zero) (w:=w1));have HB:=zh (Below.refl w.heap.size w);clear h h0 h1;obtain ⟨CP,hCP⟩:=xE (Yq sup0 Sup.zero true false);rw [<-hCP] at HL HN;have HCP:=zh hCP;have HCZ:=zh (show CP.size=18 by rw [hCP];rfl);have HALL:=zh (show CP.all (·.oneCell')=true by rw [hCP];simp [Yq,Value.oneCell']);clear hCP;unfold Sup.val sup0;go_in;go_wp2_with fail;refine (HU.o _ (ZA HB.o)).mono ?_;rintro e w' ⟨rfl,rfl⟩;go_wp2_with fail;refine (HL.o _ (ZA HB.o)).mono ?_;rintro e w2 ⟨rfl,hb2⟩;have HB2:=zh ((ZA HB.o).trans (hb2.mono (by simp)));have HH2:=zh ((hb2.block w.heap.size (by simp)).trans (ZB _ _));clear hb2 HU HL;go_upto_region 7 with (refine wpList_store_row rfl 275 (.tmp 5) (.tmp 18) rfl w2.heap.size CP rfl rfl 275 _ (ZB _ _) (by rw [HCZ.o];kernel_rfl) (by rw [HCZ.o];rfl) HALL.o ?_)
 generalize hold:(Obj.cells _ 275 (0,0))=OB;obtain ⟨w3,hw3⟩:=xE ((w2.alloc OB).setRow w2.heap.size CP);have HX3:=zh (show w3.heap[w2.heap.size]?=some (.cells CP 275 (0,0)) by rw [hw3,<-hold];exact setRow_heap _ _ _ _ _ _ (ZB _ _));have HB3:=zh (show Bl w2 w3 by rw [hw3];exact Ye (ZA bR) nR CP);rw [<-hw3];clear hw3 hold OB HALL;obtain ⟨g,hg⟩:=xE w2.heap.size;rw [<-hg] at HX3 ⊢;clear hg;go_wp2_with (refine wpList_load_row rfl 275 (.tmp 5) rfl g rfl 275 CP (0,0) _ HX3.o underlying275 rfl (by rw [HCZ.o];kernel_rfl) ?_);refine (HN.o _).mono ?_;rintro e w4 ⟨rfl,hb4⟩;have HB4:=zh (HB3.o.trans (hb4.mono HB3.o.size));have HX4:=zh ((hb4.block _ (heap_lt HX3.o)).trans HX3.o);have HH4:=zh ((HB4.o.block _ (heap_lt HH2.o)).trans HH2.o);have HBB:=zh (HB2.o.trans (HB4.o.mono HB2.o.size));have k:∀ i u,(Yq sup0 Sup.zero true false)[i]?=some u->w4.cell? ⟨g,i,none⟩=some u:=fun i u hu=>by
  rw [ZC HX4.o,HCP.o];exact hu
 obtain ⟨c0,c1,c2,c3,c4,c5,c6,c7⟩:w4.cell? ⟨g,0,none⟩=some (.int .i64 1)/\w4.cell? ⟨g,1,none⟩=some (.int .i64 160)/\w4.cell? ⟨g,2,none⟩=some (.int .i64 26)/\w4.cell? ⟨g,3,none⟩=some (.int .i64 26)/\w4.cell? ⟨g,4,none⟩=some (.int .i64 8)/\w4.cell? ⟨g,5,none⟩=some (.int .i64 0)/\w4.cell? ⟨g,6,none⟩=some (.int .i64 0)/\w4.cell? ⟨g,7,none⟩=some (.int .u64 1):=
  ⟨k _ _ rfl,k _ _ rfl,k _ _ rfl,k _ _ rfl,k _ _ rfl,k _ _ rfl,k _ _ rfl,k _ _ rfl⟩
 clear k hb4 HB3 HX3 HB2 HH2 HN;go_wp2_with (refine wpList_store_row rfl 86 (.tmp 2) (.tmp 35) rfl w.heap.size #[.int .i64 1,.int .i64 160,.int .i64 26,.int .i64 26,.int .i64 8,.int .i64 0,.int .i64 0,.int .u64 1] rfl rfl 86 _ HH4.o (by kernel_rfl) rfl (by simp [Value.oneCell']) ?_);obtain ⟨w5,hw5⟩:=xE (w4.setRow w.heap.size #[.int .i64 1,.int .i64 160,.int .i64 26,.int .i64 26,.int .i64 8,.int .i64 0,.int .i64 0,.int .u64 1]);have HX5:=zh (show w5.heap[w.heap.size]?=some (.cells #[.int .i64 1,.int .i64 160,.int .i64 26,.int .i64 26,.int .i64 8,.int .i64 0,.int .i64 0,.int .u64 1] 86 (0,0)) by rw [hw5];exact setRow_heap _ _ _ _ _ _ HH4.o);have HB5:=zh (show Bl w w5 by rw [hw5];exact Ye HBB.o nR _);rw [<-hw5];clear hw5 c0 c1 c2 c3 c4 c5 c6 c7;go_wp2_with fail;refine bodyPost_ret (X7 rfl _ _ w.heap.size 86 #[.int .i64 1,.int .i64 160,.int .i64 26,.int .i64 26,.int .i64 8,.int .i64 0,.int .i64 0,.int .u64 1] (0,0) _ rfl HX5.o underlying86 rfl (by kernel_rfl)) rfl ?_;exact ⟨rfl,HB5.o⟩
theorem ZDo (h:Ar w A F 160 T c)(hz:c 80=0){b:Nat}(hg:Lg w b A 0 640 1664):
 Calls prog 194 #[.pointer (some ⟨b,0,none⟩)] w fun e w'=>e=.returned (.tuple #[.int .u8 1,.slice none 0 0])/\Bl w w':=by
 have HL:=zh (fun (w1:World) (hb:Bl w w1)=>show Calls prog 34 #[.pointer (some ⟨A.t 0,0,none⟩),.int .u64 640] w1 (fun r w'=>r=.returned (.int .u64 0)/\w1=w') from by
  have:=Yw h (i:=0) (by omega) w1 hb 640 (by omega) (by omega);rw [show 640 / 8=80 by rfl,hz] at this;exact this)
 have HB:=zh (Below.refl w.heap.size w);have HD:=zh (fun (wx:World) (hb:Bl w wx)=>(Zb (hg.below hb)).2.1);obtain ⟨c0,c1,c2,_⟩:=Zb hg;have hnl:=Yx;clear h hz hg;go_in;go_upto_region 2 with fail
 go_region_held3 (fun wx=>wx.cell? ⟨b,1,none⟩=some (.int .u64 640))
  (first|exact HD.o _ (by repeat (with_reducible first|assumption|exact HB.o|apply ZA|apply ZD)))
  (first
    |(rw [Yx];exact ⟨rfl,rfl⟩)
    |(go_invoke;go_simp;go_at_call 34;refine (HL.o _ (by repeat (with_reducible first|exact HB.o|apply ZD))).mono ?_;rintro e' V1 ⟨rfl,rfl⟩))
 all_goals
  go_wp2;go_returns;exact ⟨rfl,ZD HB.o⟩
theorem Q2 (h:Ar w A F 160 T c)(hz:c 80=0){b:Nat}(hg:Lg w b A 0 640 1664):
 Calls prog 155 #[.pointer (some ⟨b,0,none⟩)] w fun e w'=>e=.returned (.tuple #[.int .i64 0,.int .i64 0])/\Bl w w':=by
 have HE:=zh (fun (w1:World) (hb:Bl w w1)=>Zq h (i:=0) (by omega) w1 hb);have HL:=zh (ZDo h hz hg);have HD:=zh (fun (wx:World) (hb:Bl w wx)=>(Zb (hg.below hb)).1);have HB:=zh (Below.refl w.heap.size w);have c0:=HD.o w HB.o;have hne:=YP;clear h hz hg;go_in;go_wp2_with fail;refine (HE.o w HB.o).mono ?_;rintro e w' ⟨rfl,rfl⟩;go_wp2_with fail;refine HL.o.mono ?_;rintro e w1 ⟨rfl,hb1⟩;have HB1:=zh hb1;clear hb1 c0;have c0:=HD.o w1 HB1.o;go_wp2_with fail;refine (HE.o w1 HB1.o).mono ?_;rintro e w' ⟨rfl,rfl⟩;go_wp2;go_returns;exact ⟨rfl,HB1.o⟩
theorem ZFp (ha:Ar w A F 160 T c):Calls prog 195 #[.iface 97 (.pointer (some ⟨A.t 0,0,none⟩)),.int .i64 36,.int .i64 26] w fun e w'=>e=.returned (.tuple #[.pointer (some ⟨w.heap.size,0,none⟩),.int .i64 0])/\w'=w.alloc (.cells #[.iface 97 (.pointer (some ⟨A.t 0,0,none⟩)),.int .u64 2304,.int .i64 26] 343):=by
 have HS:=zh (XZ ha (i:=0) (by omega) w bR);rw [show ((160 * 64:Nat):Int)=10240 by rfl] at HS;clear ha;go_in;go_wp2_with fail;refine HS.o.mono ?_;rintro e w' ⟨rfl,rfl⟩;go_wp2;go_returns;exact ⟨rfl,rfl⟩
def Ul (w:World)(b:Nat)(A:DAd):Prop:=w.heap[b]?=some (.cells #[.iface 97 (.pointer (some ⟨A.t 0,0,none⟩)),.int .u64 2304,.int .i64 26] 343 (0,0))
theorem Ul.below {b:Nat}(h:Ul w b A)(hb:Bl w w'):Ul w' b A:=(hb.block _ (heap_lt h)).trans h
theorem JU {b:Nat}(hg:Ul w b A):Calls prog 261 #[.pointer (some ⟨b,0,none⟩)] w fun e w'=>e=.returned (.bool false)/\w=w':=by
 obtain ⟨c0,c1,c2,_⟩:=Zb hg;clear hg;go_in;go_wp2;go_returns;exact ⟨rfl,rfl⟩
theorem ZHX {b:Nat}(hg:Ul w b A):Calls prog 276 #[.pointer (some ⟨b,0,none⟩)] w fun e w'=>e=.returned (.int .i64 100)/\w=w':=by
 have HN:=zh (JU hg);obtain ⟨c0,c1,c2,_⟩:=Zb hg;clear hg;go_in;go_wp2_with (first|(go_at_call 261;refine HN.o.mono ?_;rintro e w' ⟨rfl,rfl⟩));go_returns;exact ⟨rfl,rfl⟩
theorem ZFr (h:Ar w A F 160 T c)(hz:c 288=0){b:Nat}(hg:Ul w b A):
 Calls prog 262 #[.pointer (some ⟨b,0,none⟩)] w fun e w'=>e=.returned (.slice none 0 0)/\Bl w w':=by
 have HL:=zh (fun (w1:World) (hb:Bl w w1)=>show Calls prog 34 #[.pointer (some ⟨A.t 0,0,none⟩),.int .u64 2304] w1 (fun r w'=>r=.returned (.int .u64 0)/\w1=w') from by
  have:=Yw h (i:=0) (by omega) w1 hb 2304 (by omega) (by omega);rw [show 2304 / 8=288 by rfl,hz] at this;exact this)
 have HN:=zh (JU hg);have HC:=zh (fun (w1:World) (hb:Bl w w1)=>ZHX (hg.below hb));have HB:=zh (Below.refl w.heap.size w);have HD:=zh (fun (wx:World) (hb:Bl w wx)=>(Zb (hg.below hb)).2.1);obtain ⟨c0,c1,c2,_⟩:=Zb hg;have hnl:=Yx;clear h hz hg;go_in;go_wp2_with fail;refine HN.o.mono ?_;rintro e w' ⟨rfl,rfl⟩;go_upto_region 4 with fail
 go_region_held3 (fun wx=>wx.cell? ⟨b,1,none⟩=some (.int .u64 2304))
  (first|exact HD.o _ (by repeat (with_reducible first|assumption|exact HB.o|apply ZA|apply ZD)))
  (first
    |(rw [Yx];exact ⟨rfl,rfl⟩)
    |(go_invoke;go_simp;go_at_call 34;refine (HL.o _ (by repeat (with_reducible first|exact HB.o|apply ZD))).mono ?_;rintro e' V1 ⟨rfl,rfl⟩))
 have HB1:=zh (ZD HB.o);go_wp2_with fail;refine (HC.o _ HB1.o).mono ?_;rintro e w' ⟨rfl,rfl⟩;go_wp2_with fail
 go_loopw [5,30] (fun v i wr=>v=.slice none 0 0/\i=.int .i64 0/\Bl w wr) (fun _ i _=>0)
 case atStart=>exact ⟨rfl,rfl,HB1.o⟩
 case round=>
 obtain ⟨rfl,rfl,hb⟩:=hrel;have HB2:=zh hb;clear hb;go_wp2;go_returns;exact ⟨rfl,HB2.o⟩
theorem ZCu (h:Ar w A F 160 T c)(hz:c 288=0){b:Nat}(hg:Ul w b A):
 Calls prog 235 #[.pointer (some ⟨b,0,none⟩)] w fun e w'=>e=.returned (.tuple #[.slice none 0 0,.int .i64 0])/\Bl w w':=by
 have HE:=zh (fun (w1:World) (hb:Bl w w1)=>Zq h (i:=0) (by omega) w1 hb);have HS:=zh (ZFr h hz hg);have HN:=zh (JU hg);have HD:=zh (fun (wx:World) (hb:Bl w wx)=>(Zb (hg.below hb)).1);have HB:=zh (Below.refl w.heap.size w);have c0:=HD.o w HB.o;have hne:=YP;clear h hz hg;go_in;go_wp2_with fail;refine HN.o.mono ?_;rintro e w' ⟨rfl,rfl⟩;go_wp2_with fail;refine (HE.o w HB.o).mono ?_;rintro e w' ⟨rfl,rfl⟩;go_wp2_with fail;refine HS.o.mono ?_;rintro e w1 ⟨rfl,hb1⟩;have HB1:=zh hb1;clear hb1 c0;have c0:=HD.o w1 HB1.o;go_wp2_with fail;refine (HE.o w1 HB1.o).mono ?_;rintro e w' ⟨rfl,rfl⟩;go_wp2;go_returns;exact ⟨rfl,HB1.o⟩
theorem ZHY (h:Ar w A F 160 T c)(hz:c 288=0){b:Nat}(hg:Ul w b A):
 Calls prog 196 #[.pointer (some ⟨b,0,none⟩)] w fun e w'=>e=.returned (.tuple #[.slice none 0 0,.bool true,.int .i64 0])/\Bl w w':=by
 have HS:=zh (ZCu h hz hg);clear h hz hg;go_in;go_wp2_with fail;refine HS.o.mono ?_;rintro e w1 ⟨rfl,hb1⟩;have HB1:=zh hb1;clear hb1;go_wp2_with fail
 go_loopw [7,20] (fun v i wr=>v=.slice none 0 0/\i=.int .i64 0/\Bl w wr) (fun _ i _=>0)
 case atStart=>exact ⟨rfl,rfl,HB1.o⟩
 case round=>
 obtain ⟨rfl,rfl,hb⟩:=hrel;have HB2:=zh hb;clear hb;go_wp2;go_returns;exact ⟨rfl,HB2.o⟩
theorem ZCx (h:Ar w A F 160 T c)(hz:c 288=0){b:Nat}(hg:Ul w b A):
 Calls prog 157 #[.pointer (some ⟨b,0,none⟩)] w fun e w'=>e=.returned (.tuple #[.int .i64 0,.int .i64 0])/\Bl w w':=by
 have HS:=zh (ZHY h hz hg);clear h hz hg;go_in;go_wp2_with fail;refine HS.o.mono ?_;rintro e w1 ⟨rfl,hb1⟩;have HB1:=zh hb1;clear hb1;go_wp2;go_returns;exact ⟨rfl,HB1.o⟩
def ZEj:Value:=.agg #[.int .i64 160,.int .i64 26,.int .i64 26,.int .i64 8,.int .i64 0,.int .i64 0]
theorem default_yes:Calls prog 21 #[.int .i64 160] w fun e w'=>e=.returned ZEj/\Bl w w':=by
 unfold ZEj;go_in;go_wp2;go_returns;exact ⟨rfl,ZA bR⟩
theorem ZDL:Calls prog 44 #[ZEj] w fun e w'=>e=.returned supz.val/\Bl w w':=by
 unfold ZEj supz Sup.val;go_in;go_wp2;go_returns;exact ⟨rfl,ZA (ZA bR)⟩
theorem ZGO:Calls prog 71 #[.int .u64 7309464666214760449] w fun e w'=>e=.returned (.tuple #[.int .u64 1,.bool true])/\w=w':=by
 go_in;go_wp2;go_returns;exact ⟨rfl,rfl⟩
theorem ZBz (h:Ar w A F L T c)(w1:World)(hb:Bl w w1):Calls prog 46 #[.pointer (some ⟨A.d,0,none⟩)] w1 fun r w'=>r=.returned (.int .i64 L)/\w1=w':=by
 obtain ⟨s,h1,h2,rfl⟩:=(h.below hb).dev;exact ZAR h1
def an0:Nat->Nat:=fun _=>0
theorem ZJu (h:Aq w A F 160 T c x){kb:Nat}(hk:CkB w A kb 0 an0)(hf:F kb=none)(hx:x+10<=1000000):
 Calls prog 36 #[.pointer (some ⟨kb,0,none⟩),.pointer (some ⟨A.t 0,0,none⟩),.int .u64 2] w fun e w'=>e=.returned (.int .i64 0)/\∃ F' wm,Aq wm A F' 160 T (wrs c [(4480,7309464666214760450)]) (x+10)/\Moved F F' w wm/\CkB wm A kb 0 an0/\w'=wm.setCell ⟨kb,2,none⟩ (.int .u64 2):=by
 have HPK:=zh (fun (w1:World)=>ZED (w:=w1) (n:=2) (by omega));have HST:=zh (Yg (Below.refl w.heap.size w) (M:=4480) (S:=7309464666214760450) (by omega))
 have HRUN:=zh (fun (w1:World) (hb:Bl w w1) (v:Value) (hv:Prg w1 w.heap.size v (Zf [(4480,7309464666214760450)]))=>
  (X6 h (ls:=[[(4480,7309464666214760450)]]) (x':=x+10) (by decide) (by decide) (Nat.add_le_add_left (show Zn [[(4480,7309464666214760450)]]<=10 by decide) x) hx w1 hb (by rw [Zs];exact hv) nR).mono
    (R':=fun e w'=>e=.returned (.int .i64 0)/\∃ F',Aq w' A F' 160 T (wrs c [(4480,7309464666214760450)]) (x+10)/\Moved F F' w w'/\CkB w' A kb 0 an0) (by
      rintro e w' ⟨h1,F',h2,h3⟩;exact ⟨h1,F',h2,h3,YH h3 hf hk⟩))
 have HKP:=zh (fun (w1:World) (hb:Bl w w1)=>(show w1.cell? ⟨kb,1,none⟩=some (.int .u64 4480) from (hk.below hb).three.2.1));have HR1:=zh (Below.refl w.heap.size w);obtain ⟨c0,c1,c2⟩:=hk.three;clear h hk hf hx;go_in;go_upto_region 1 with fail
 go_region_held3 (fun wx=>wx.cell? ⟨kb,1,none⟩=some (.int .u64 4480))
  (first|exact hq.2.2.three.2.1|exact HKP.o _ hbz|exact HKP.o _ (by repeat (with_reducible first|assumption|exact HR1.o|apply ZA|apply ZD)))
  (first
    |(go_at_call 75;refine (HPK.o _).mono ?_;rintro e V1 ⟨rfl,rfl⟩)
    |(go_at_call 74;(first|refine (HST.o _ (by repeat (with_reducible first|assumption|exact HR1.o|apply ZA|apply ZD))).mono ?_|refine (HST.o w.drew (by repeat (with_reducible first|assumption|exact HR1.o|apply ZA|apply ZD))).mono ?_|refine (HST.o w.drew.drew (by repeat (with_reducible first|assumption|exact HR1.o|apply ZA|apply ZD))).mono ?_);rintro e V2 ⟨r,rfl,hpr,hbz⟩)
    |(go_at_call 76;refine (HRUN.o _ hbz _ hpr).mono ?_;rintro e V3 ⟨rfl,F3,hq⟩))
 all_goals
  obtain ⟨hq1,hq2,hq3⟩:=hq;have z2:=hq3.three.2.2;have zf:=ZG (i:=2) hq3;have HQ:=zh (show ∃ F' wm,Aq wm A F' 160 T (wrs c [(4480,7309464666214760450)]) (x+10)/\Moved F F' w wm/\CkB wm A kb 0 an0/\(V3.setCell ⟨kb,2,none⟩ (.int .u64 2))=wm.setCell ⟨kb,2,none⟩ (.int .u64 2) from ⟨F3,V3,hq1,hq2,hq3,rfl⟩);clear hq1 hq2 hq3 hpr hbz;go_wp2;go_returns;exact ⟨rfl,HQ.o⟩
theorem ZE2 (h:Ar w A F 160 T c){kb:Nat}(hk:CkB w A kb 0 an0)(hc:c 560=7309464666214760449):
 Calls prog 32 #[.pointer (some ⟨kb,0,none⟩),.pointer (some ⟨A.t 0,0,none⟩)] w fun e w'=>e=.returned (.tuple #[.int .u64 1,.int .i64 0])/\w=w':=by
 have HL:=zh (Yw h (i:=0) (by omega) w bR 4480 (by omega) (by omega));rw [show 4480 / 8=560 by rfl,hc] at HL;have HE:=zh (Zq h (i:=0) (by omega) w bR);have HU:=zh (ZGO (w:=w));obtain ⟨c0,c1,c2⟩:=hk.three;clear h hk hc;go_in;go_wp2_with fail;refine HL.o.mono ?_;rintro e w' ⟨rfl,rfl⟩;go_wp2_with fail;refine HE.o.mono ?_;rintro e w' ⟨rfl,rfl⟩;go_wp2_with fail;refine HU.o.mono ?_;rintro e w' ⟨rfl,rfl⟩;go_wp2;go_returns;exact ⟨rfl,rfl⟩
theorem ZE0 (h:Aq w A F 160 T c x)(hx:x+10<=1000000)(hc:c 560=7309464666214760449)(hz:∀ k,k < 7->c (561+k)=0):
 Calls prog 100 #[.pointer (some ⟨A.d,0,none⟩),.int .i64 70] w fun e w'=>e=.returned (.tuple #[.pointer (some ⟨w.heap.size,0,none⟩),.int .i64 0])/\∃ F',Aq w' A F' 160 T (wrs c [(4480,7309464666214760450)]) (x+10)/\Moved F F' w w'/\CkB w' A w.heap.size 2 an0/\F' w.heap.size=none:=by
 have HLN:=zh (ZBz h.ar w bR);have HTH:=zh (Vc h.ar (i:=0) (by omega) w bR);have HER:=zh (Zq h.ar (i:=0) (by omega) w bR);have HLD:=zh (fun (w1:World) (hb:Bl w w1) (k:Nat) (hk:k < 7)=>show Calls prog 34 #[.pointer (some ⟨A.t 0,0,none⟩),.int .u64 (4480+((k+1:Nat):Int) * 8)] w1 (fun r w'=>r=.returned (.int .u64 0)/\w1=w') from by
  have:=Yw h.ar (i:=0) (by omega) w1 hb (4480+(k+1) * 8) (by omega) (by omega);rw [show (4480+(k+1) * 8) / 8=561+k by omega,hz k hk] at this;rw [show ((4480+(k+1) * 8:Nat):Int)=4480+((k+1:Nat):Int) * 8 by omega] at this;exact this)
 have hb1:Bl w (w.alloc (.cells (ckC A 0 an0) 99)):=ZA bR;have hck:CkB (w.alloc (.cells (ckC A 0 an0) 99)) A w.heap.size 0 an0:=ZB _ _;have HPR:=zh (ZE2 (h.ar.below hb1) hck hc);have HBG:=zh (ZJu (h.below hb1) hck (h.new nR) hx);have HCK:=zh hck;have HB1:=zh hb1;have HNW:=zh (show F w.heap.size=none/\w.heap.size≠1/\w.heap.size≠0 from ⟨h.new nR,fun e=>by have:=h.nib.lt;omega,fun e=>by have:=h.tab.lt;omega⟩);clear h hx hc hz hck hb1;go_in;go_wp2_with fail;refine HLN.o.mono ?_;rintro e w' ⟨rfl,rfl⟩;go_wp2_with fail;refine HTH.o.mono ?_;rintro e w' ⟨rfl,rfl⟩;go_wp2_with fail;refine HER.o.mono ?_;rintro e w' ⟨rfl,rfl⟩;go_wp2_with fail;refine HPR.o.mono ?_;rintro e w' ⟨rfl,hww⟩;obtain ⟨w1,hw1⟩:=xE (w.alloc (.cells (ckC A 0 an0) 99));rw [<-hw1] at HCK HB1 HBG hww;subst hww;obtain ⟨kb,hkb⟩:=xE w.heap.size;have HKB:=zh hkb;rw [<-hkb] at HCK HBG ⊢;obtain ⟨c0,c1,c2⟩:=HCK.o.three;clear hw1 hkb;go_wp2_with fail
 go_loopw [11] (fun i wr=>(∃ m:Nat,m<=7/\i=.int .u64 ((m+1:Nat):Int))/\wr=w1) (fun i _=>8 - (intOf i).toNat)
 case atStart=>exact ⟨⟨0,by omega,rfl⟩,rfl⟩
 case round=>
  obtain ⟨⟨m,hm,rfl⟩,rfl⟩:=hrel
  by_cases hlt:m < 7
  ·have HL:=zh (HLD.o wr HB1.o m hlt)
   obtain ⟨q,hq⟩:=xE (m+1);rw [<-hq] at HL ⊢;have d0:(q:Int) < 8:=by omega
   have HQ:=zh hq;clear hlt hq;go_wp2_with fail;refine HL.o.mono ?_;rintro e w' ⟨rfl,rfl⟩;go_wp2_with fail;go_roundw
   case rel=>first|exact ⟨⟨q,by omega,by simp⟩,trivial⟩|exact ⟨q,by omega,by simp⟩
   case measure=>simp [intOf];omega
  ·obtain rfl:m=7:=by omega
   clear hlt hm;go_wp2_with fail;refine HBG.o.mono ?_;rintro e w2 ⟨rfl,F',wm,h1,h2,h3,rfl⟩;go_wp2;go_returns;have hk:=HKB.o;subst hk;have hm:=Moved.trans ⟨Only.of_below HB1.o,fun _ _=>rfl⟩ h2;have f':F' w.heap.size=none:=(h2.same _ (heap_lt HCK.o)).trans HNW.o.1;refine ⟨rfl,F',h1.agree (fun k hk=>ZF ?_) (by simp [World.setCell]),⟨⟨hm.only.os,hm.only.tape,hm.only.output,by simpa [World.setCell] using hm.only.size,fun k hk hn=>(ZF (by omega)).trans (hm.only.block k hk hn)⟩,hm.same⟩,(ZH h3).trans rfl,f'⟩;rcases hk with hk|rfl|rfl
   ·exact fun e=>hk (by rw [e];exact f')
   ·exact fun e=>HNW.o.2.1 e.symm
   ·exact fun e=>HNW.o.2.2 e.symm
def PsC (w:World)(b:Nat):Prop:=w.cell? ⟨b,1,none⟩=some (.int .i64 1)/\w.cell? ⟨b,2,none⟩=some (.int .i64 160)/\w.cell? ⟨b,3,none⟩=some (.int .i64 26)/\w.cell? ⟨b,4,none⟩=some (.int .i64 26)/\w.cell? ⟨b,5,none⟩=some (.int .i64 8)/\w.cell? ⟨b,6,none⟩=some (.int .i64 0)/\w.cell? ⟨b,7,none⟩=some (.int .i64 0)/\w.cell? ⟨b,8,none⟩=some (.int .u64 1)
theorem ZEV {w:World}{r a b:Nat}(hr:r < 9)(ha:sup0.at r=a)(hb:sup0.sizes.getD r 0=b):Calls prog 89 #[sup0.val,.int .u8 (r+1:Nat)] w fun e w'=>e=.returned (.tuple #[.int .i64 (a:Nat),.int .i64 (b:Nat),.int .i64 0])/\Bl w w':=by
 have:=Va (w:=w) J0 hr;rw [ha,hb] at this;exact this
theorem ZFW (h:Ar w A F 160 T c){pb:Nat}(hs:PsC w pb):
 Calls prog 156 #[.pointer (some ⟨pb,0,none⟩),.pointer (some ⟨A.t 0,0,none⟩)] w fun e w'=>∃ b,e=.returned (.tuple #[.pointer (some ⟨b,0,none⟩),.int .i64 0])/\Ul w' b A/\Bl w w':=by
 have HR:=zh (ZEV (w:=w) (r:=3) (a:=36) (b:=26) (by omega) rfl rfl);have HO:=zh (fun (w1:World) (hb:Bl w w1)=>ZFp (h.below hb));obtain ⟨c0,c1,c2,c3,c4,c5,c6,c7⟩:=hs;clear h;unfold sup0 Sup.val at HR;go_in;go_wp2_with fail;refine HR.o.mono ?_;rintro e w1 ⟨rfl,hb1⟩;have HB1:=zh hb1;clear hb1;go_wp2_with fail;refine (HO.o w1 HB1.o).mono ?_;rintro e w2 ⟨rfl,hw2⟩;have HU:=zh (show Ul w2 w1.heap.size A by rw [hw2];exact ZB _ _);have HB2:=zh (show Bl w w2 by rw [hw2];exact ZA HB1.o);clear hw2;go_wp2;go_returns;exact ⟨_,rfl,HU.o,HB2.o⟩
theorem ZFU (h:Ar w A F 160 T c){pb:Nat}(hs:PsC w pb):
 Calls prog 52 #[.pointer (some ⟨pb,0,none⟩),.pointer (some ⟨A.t 0,0,none⟩)] w fun e w'=>∃ b,e=.returned (.tuple #[.pointer (some ⟨b,0,none⟩),.int .i64 0])/\Lg w' b A 0 640 1664/\Bl w w':=by
 have HR:=zh (ZEV (w:=w) (r:=2) (a:=10) (b:=26) (by omega) rfl rfl);have HO:=zh (fun (w1:World) (hb:Bl w w1)=>ZAc (h.below hb) (t:=0) (by omega));obtain ⟨c0,c1,c2,c3,c4,c5,c6,c7⟩:=hs;clear h;unfold sup0 Sup.val at HR;go_in;go_wp2_with fail;refine HR.o.mono ?_;rintro e w1 ⟨rfl,hb1⟩;have HB1:=zh hb1;clear hb1;go_wp2_with fail;refine (HO.o w1 HB1.o).mono ?_;rintro e w2 ⟨rfl,hw2⟩;have HU:=zh (show Lg w2 w1.heap.size A 0 640 1664 by rw [hw2];exact ZB _ _);have HB2:=zh (show Bl w w2 by rw [hw2];exact ZA HB1.o);clear hw2;go_wp2;go_returns;exact ⟨_,rfl,HU.o,HB2.o⟩
end
end Go.Proofs.YteomliechfdhhaaGreatDoor.Dv
