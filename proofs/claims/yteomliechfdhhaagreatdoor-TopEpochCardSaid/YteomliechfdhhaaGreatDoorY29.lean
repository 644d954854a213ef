/- Part 29. -/
import Derived.Test.YteomliechfdhhaaGreatDoorY28
import Derived.ChangeKeysEq
import Derived.Laws.StructEq
set_option maxHeartbeats 8000000
set_option maxRecDepth 20000
set_option linter.all false
namespace Go.Proofs.YteomliechfdhhaaGreatDoor.Dv
open Tryz
section
open Go.RowKit
theorem JX (xs ys:List Int)(w:World):∀ (n k:Nat),k+n=xs.length->k+n=ys.length->
 (Op.eqItems 9999 29 1 ((xs.map (Value.int .u64)).toArray) ((ys.map (Value.int .u64)).toArray) (List.range' k n)).run prog w=.ok (decide (xs.drop k=ys.drop k)) w
 |0,k,h1,h2=>by
  rw [List.drop_of_length_le (by omega),List.drop_of_length_le (by omega)];simp [Op.eqItems]
 |n+1,k,h1,h2=>by
  have hx:k < xs.length:=by omega
  have hy:k < ys.length:=by omega
  have p:∀ (zs:List Int) (h:k < zs.length),(part 29 ((zs.map (Value.int .u64)).toArray) (k * 1)).run prog w=.ok (.int .u64 zs[k]) w:=fun zs h=>by
   refine run_part_plain w (by kernel_rfl) ?_;simp [h]
  have he:∀ (w:World) (a b:Int),(Op.equalIn 9999 29 (.int .u64 a) (.int .u64 b)).run prog w=.ok (a == b) w:=fun w a b=>run_equalIn_int w 9998 _ _ .u64 a b (by kernel_rfl)
  have ih:=JX xs ys w n (k+1) (by omega) (by omega);rw [List.range'_succ,Op.eqItems];simp only [Sem.run_bind,p xs hx,p ys hy,Result.andThen_ok,he];rw [List.drop_eq_getElem_cons hx,List.drop_eq_getElem_cons hy]
  by_cases hab:xs[k]=ys[k]
  ·simp only [hab,beq_self_eq_true,Bool.not_true,Bool.false_eq_true,if_false,List.cons.injEq,true_and]
   exact ih
  ·have hb:(xs[k] == ys[k])=false:=by simp [hab]
   simp only [hb,Bool.not_false,if_true,Sem.run_pure,List.cons.injEq,hab,false_and,decide_false]
theorem ZFt {w:World}(xs ys:List Int)(hx:xs.length=8)(hy:ys.length=8):
 (binOp .neq 285 (.agg ((xs.map (Value.int .u64)).toArray)) (.agg ((ys.map (Value.int .u64)).toArray))).run prog w=.ok (.bool (!decide (xs=ys))) w:=by
 obtain ⟨i,hi⟩:∃ i,prog.info? 29=some i:=Option.isSome_iff_exists.1 (by kernel_rfl);have hu:prog.underlying 285=some (.array 8 29):=by kernel_rfl
 have hc:prog.cellsOf 29=1:=by kernel_rfl
 rw [run_neq_struct,run_equalIn_array w 9999 _ _ hu hi,hc,List.range_eq_range',JX xs ys w 8 0 (by omega) (by omega)];rfl
theorem YY {a x:Nat}{z:Int}(hz:z=(a:Int))(ha:a < 18446744073709551616)(hx:x=a % 65536):bits .and .u64 z 65535=(x:Int):=by
 subst hz;subst hx;rw [show (65535:Int)=((65535:Nat):Int) from rfl,u64_and_nat a 65535 ha (by omega),show (65535:Nat)=2 ^ 16 - 1 from rfl,Nat.and_two_pow_sub_one_eq_mod]
theorem Y3 {w:World}{o:Obj}{b:Nat}(h:b=w.heap.size):(w.alloc o).heap[b]?=some o:=by subst h;exact ZB w o
def JS (w:World)(b:Nat)(s:Sup):World:=(((((((w.setCell ⟨b,0,none⟩ (.int .i64 s.V)).setCell ⟨b,1,none⟩ (.int .i64 s.L)).setCell ⟨b,2,none⟩ (.int .i64 s.R)).setCell ⟨b,3,none⟩ (.int .i64 s.U)).setCell ⟨b,4,none⟩ (.int .i64 s.D)).setCell ⟨b,5,none⟩ (.int .i64 s.Q)).setCell ⟨b,6,none⟩ (.int .i64 s.T)).setCell ⟨b,7,none⟩ (.int .u64 s.G)
theorem SupAt.put {w:World}{b:Nat}{c:Array Value}{e:TypeId}{fz:Nat×Nat}(h:w.heap[b]?=some (.cells c e fz))(hc:c.size=8)(s:Sup):SupAt (JS w b s) b s:=by
 have h8:(JS w b s)=w.setCells b 0 [.int .i64 s.V,.int .i64 s.L,.int .i64 s.R,.int .i64 s.U,.int .i64 s.D,.int .i64 s.Q,.int .i64 s.T,.int .u64 s.G]:=rfl;rw [h8];have k:=fun j hj=>World.cell?_setCells_in b [.int .i64 s.V,.int .i64 s.L,.int .i64 s.R,.int .i64 s.U,.int .i64 s.D,.int .i64 s.Q,.int .i64 s.T,.int .u64 s.G] 0 w (fun j hj=>by
  rw [ZC h];simp at hj;simp [hc];omega) j hj
 exact ⟨k 0 (by simp),k 1 (by simp),k 2 (by simp),k 3 (by simp),k 4 (by simp),k 5 (by simp),k 6 (by simp),k 7 (by simp)⟩
theorem Um {a w:World}{b:Nat}(h:Bl a w)(hb:a.heap.size<=b)(s:Sup):Bl a (JS w b s):=by
 unfold JS;exact ZE (ZE (ZE (ZE (ZE (ZE (ZE (ZE h hb) hb) hb) hb) hb) hb) hb) hb
def WdAt (w:World)(b G x2 x3 K:Nat):Prop:=w.cell? ⟨b,0,none⟩=some (.int .u64 7738151121853964849)/\w.cell? ⟨b,1,none⟩=some (.int .u64 G)/\w.cell? ⟨b,2,none⟩=some (.int .u64 x2)/\w.cell? ⟨b,3,none⟩=some (.int .u64 x3)/\w.cell? ⟨b,4,none⟩=some (.int .u64 0)/\
 w.cell? ⟨b,5,none⟩=some (.int .u64 0)/\w.cell? ⟨b,6,none⟩=some (.int .u64 0)/\w.cell? ⟨b,7,none⟩=some (.int .u64 K)
theorem WdAt.below {a w:World}{b G x2 x3 K:Nat}(h:WdAt a b G x2 x3 K)(hb:Bl a w):WdAt w b G x2 x3 K:=by
 have hl:=ZK2 _ _ h.1;have k:∀ i u,a.cell? ⟨b,i,none⟩=some u->w.cell? ⟨b,i,none⟩=some u:=fun i u hu=>(hb.cell (show (Addr.mk b i none).block < _ from hl)).trans hu
 exact ⟨k _ _ h.1,k _ _ h.2.1,k _ _ h.2.2.1,k _ _ h.2.2.2.1,k _ _ h.2.2.2.2.1,k _ _ h.2.2.2.2.2.1,k _ _ h.2.2.2.2.2.2.1,k _ _ h.2.2.2.2.2.2.2⟩
theorem ZBv {w:World}{T:Nat->Nat}{s:Sup}{n:Nat}(hT:NTab w T)(h:s.Ok)(hn:s.L<=n/\n<=4096):Calls prog 190 #[.agg ((s.words T).map u64).toArray,.int .u64 n] w fun e w'=>e=.returned (.tuple #[s.val,.bool true])/\Bl w w':=by
 have HV:=zh (fun (w1:World)=>VA (w:=w1) h);have HE:=zh (fun (w1:World) (hb:Bl w w1)=>QK (w:=w1) (hT.below hb nR) h);have hw2:=h.w2_lt;have hw3:=h.w3_lt;have h1:=h.v;have h2:=h.l;have h3:=h.h;have h4:=h.g;have e1:s.V=s.w2 % 65536:=by unfold Sup.w2;unfold Sup.hl at h3;omega
 have e2:s.L=s.w2 / 65536 % 65536:=by unfold Sup.w2;unfold Sup.hl at h3;omega
 have e3:s.R=s.w2 / 4294967296 % 65536:=by unfold Sup.w2;unfold Sup.hl at h3;omega
 have e4:s.U=s.w2 / 281474976710656:=by unfold Sup.w2;unfold Sup.hl at h3;omega
 have e5:s.D=s.w3 % 65536:=by unfold Sup.w3;unfold Sup.hl at h3;omega
 have e6:s.Q=s.w3 / 65536 % 65536:=by unfold Sup.w3;unfold Sup.hl at h3;omega
 have e7:s.T=s.w3 / 4294967296 % 65536:=by unfold Sup.w3;unfold Sup.hl at h3;omega
 unfold Sup.words Sup.front at HE ⊢;obtain ⟨K,hK⟩:=xE (4294967296+Vq T [JM,s.G,s.w2,s.w3,0,0,0]);rw [<-hK] at HE ⊢;clear hK;obtain ⟨x2,hx2⟩:=xE s.w2;obtain ⟨x3,hx3⟩:=xE s.w3;rw [<-hx2] at HE hw2 e1 e2 e3 e4 ⊢;rw [<-hx3] at HE hw3 e5 e6 e7 ⊢;have a1:bits .and .u64 (x2:Int) 65535=(s.V:Int):=YY rfl hw2 e1;have a2:bits .and .u64 ((x2:Int) / 65536) 65535=(s.L:Int):=YY (a:=x2 / 65536) (by omega) (by omega) e2;have a3:bits .and .u64 ((x2:Int) / 4294967296) 65535=(s.R:Int):=YY (a:=x2 / 4294967296) (by omega) (by omega) e3;have a4:(x2:Int) / 281474976710656=(s.U:Int):=by omega
 have a5:bits .and .u64 (x3:Int) 65535=(s.D:Int):=YY rfl hw3 e5;have a6:bits .and .u64 ((x3:Int) / 65536) 65535=(s.Q:Int):=YY (a:=x3 / 65536) (by omega) (by omega) e6;have a7:bits .and .u64 ((x3:Int) / 4294967296) 65535=(s.T:Int):=YY (a:=x3 / 4294967296) (by omega) (by omega) e7;have b0:(x2:Int) < 18446744073709551616:=by omega
 have b1:(s.L:Int)<=n:=by omega
 have b2:(n:Int)<=4096:=by omega
 have g0:IntKind.u64.wrap (s.L:Int)=(s.L:Int):=by rw [IntKind.wrap_u64];omega
 have g1:decide ((n:Int) < (s.L:Int))=false:=ZLB (by omega);have g2:decide ((n:Int) < IntKind.u64.wrap (s.L:Int))=false:=by rw [g0];exact g1
 have g3:decide (n < s.L)=false:=ZLB (by omega);have g4:¬ n < s.L:=by omega
 have l1:(s.V:Int)<=65535:=by omega
 have l2:(s.L:Int)<=4096:=by omega
 have l3:(s.R:Int)<=4096:=by unfold Sup.hl at h3;omega
 have l4:(s.U:Int)<=4096:=by unfold Sup.hl at h3;omega
 have l5:(s.D:Int)<=4096:=by unfold Sup.hl at h3;omega
 have l6:(s.Q:Int)<=4096:=by unfold Sup.hl at h3;omega
 have l7:(s.T:Int)<=4096:=by unfold Sup.hl at h3;omega
 clear h1 h2 h3 h4 e1 e2 e3 e4 e5 e6 e7 hw2 hw3 hx2 hx3 hn hT h;simp only [List.cons_append,List.nil_append,List.map_cons,List.map_nil] at HE ⊢;unfold JM at *;unfold Sup.val u64 at *;go_in;go_upto_region 2 with (fail)
 obtain ⟨V,hV⟩:=xE (((w.alloc (.cells #[.int .u64 7738151121853964849,.int .u64 s.G,.int .u64 x2,.int .u64 x3,.int .u64 0,.int .u64 0,.int .u64 0,.int .u64 K] 285)).alloc (.cells #[.int .i64 0,.int .i64 0,.int .i64 0,.int .i64 0,.int .i64 0,.int .i64 0,.int .i64 0,.int .u64 0] 86)).alloc (.cells #[.int .i64 s.V,.int .i64 s.L,.int .i64 s.R,.int .i64 s.U,.int .i64 s.D,.int .i64 s.Q,.int .i64 s.T,.int .u64 s.G] 86));have hbV:Bl w V:=by rw [hV];exact ZA (ZA (ZA (Below.refl _ w)))
 have hS:SupAt V (w.heap.size+1+1) s:=by
  have:=SupAt.new ((w.alloc (.cells #[.int .u64 7738151121853964849,.int .u64 s.G,.int .u64 x2,.int .u64 x3,.int .u64 0,.int .u64 0,.int .u64 0,.int .u64 K] 285)).alloc (.cells #[.int .i64 0,.int .i64 0,.int .i64 0,.int .i64 0,.int .i64 0,.int .i64 0,.int .i64 0,.int .u64 0] 86)) s;rw [show ((w.alloc (.cells #[.int .u64 7738151121853964849,.int .u64 s.G,.int .u64 x2,.int .u64 x3,.int .u64 0,.int .u64 0,.int .u64 0,.int .u64 K] 285)).alloc (.cells #[.int .i64 0,.int .i64 0,.int .i64 0,.int .i64 0,.int .i64 0,.int .i64 0,.int .i64 0,.int .u64 0] 86)).heap.size=w.heap.size+1+1 by simp] at this;rw [hV];exact this
 have hW:WdAt V w.heap.size s.G x2 x3 K:=by
  have h0:(w.alloc (.cells #[.int .u64 7738151121853964849,.int .u64 s.G,.int .u64 x2,.int .u64 x3,.int .u64 0,.int .u64 0,.int .u64 0,.int .u64 K] 285)).heap[w.heap.size]?=some (.cells #[.int .u64 7738151121853964849,.int .u64 s.G,.int .u64 x2,.int .u64 x3,.int .u64 0,.int .u64 0,.int .u64 0,.int .u64 K] 285 (0,0)):=ZB w _;have h3:V.heap[w.heap.size]?=some (.cells #[.int .u64 7738151121853964849,.int .u64 s.G,.int .u64 x2,.int .u64 x3,.int .u64 0,.int .u64 0,.int .u64 0,.int .u64 K] 285 (0,0)):=by
   rw [hV,ZI (by simp;omega),ZI (by simp)];exact h0
  exact ⟨(ZC h3).trans rfl,(ZC h3).trans rfl,(ZC h3).trans rfl,(ZC h3).trans rfl,(ZC h3).trans rfl,(ZC h3).trans rfl,(ZC h3).trans rfl,(ZC h3).trans rfl⟩
 have HVV:=zh hV;have HBV:=zh hbV;have HS:=zh hS;have HW:=zh hW;have HB1:=zh (Below.refl V.heap.size V);have HEB:=zh (fun (p:BW V)=>HE.o p.v (HBV.o.trans (p.h.mono HBV.o.size)));rw [<-hV];obtain ⟨c0,c1,c2,c3,c4,c5,c6,c7⟩:=id hS;obtain ⟨d0,d1,d2,d3,d4,d5,d6,d7⟩:=id hW;replace c0:=ZV c0;replace c1:=ZV c1;replace c2:=ZV c2;replace c3:=ZV c3;replace c4:=ZV c4;replace c5:=ZV c5;replace c6:=ZV c6;replace c7:=ZV c7;replace d0:=ZV d0;replace d1:=ZV d1;replace d2:=ZV d2;replace d3:=ZV d3;replace d4:=ZV d4;replace d5:=ZV d5;replace d6:=ZV d6;replace d7:=ZV d7
 have hneq:∀ w1:World,(binOp .neq 285 (.agg #[.int .u64 7738151121853964849,.int .u64 s.G,.int .u64 x2,.int .u64 x3,.int .u64 0,.int .u64 0,.int .u64 0,.int .u64 K]) (.agg #[.int .u64 7738151121853964849,.int .u64 s.G,.int .u64 x2,.int .u64 x3,.int .u64 0,.int .u64 0,.int .u64 0,.int .u64 K])).run prog w1=.ok (.bool false) w1:=fun w1=>
  (ZFt [7738151121853964849,s.G,x2,x3,0,0,0,K] [7738151121853964849,s.G,x2,x3,0,0,0,K] rfl rfl).trans (by rw [ZLG rfl];rfl)
 have hcw:w.heap.size+1+1 < V.heap.size:=by rw [hV];simp
 have hmix:prog.follows .mixedOrders=true:=by kernel_rfl
 clear hV hbV hS hW;refine Zv (by assumption) (by kernel_rfl) ?_
 repeat (quiet_step (first|(go_at_call 45;refine VL (HV.o _))|(go_at_call 153;refine VL (HEB.o _))))
 refine wpQuiet_nil ?_;intro wq hw';obtain ⟨⟨w0,hq⟩,hw''⟩:=hw';subst hw'';have C0:=c0 ⟨wq,hq⟩;have C1:=c1 ⟨wq,hq⟩;have C2:=c2 ⟨wq,hq⟩;have C3:=c3 ⟨wq,hq⟩;have C4:=c4 ⟨wq,hq⟩;have C5:=c5 ⟨wq,hq⟩;have C6:=c6 ⟨wq,hq⟩;have C7:=c7 ⟨wq,hq⟩;simp only at C0 C1 C2 C3 C4 C5 C6 C7;have hR:wq.heap[w.heap.size+1]?=some (Obj.cells #[.int .i64 0,.int .i64 0,.int .i64 0,.int .i64 0,.int .i64 0,.int .i64 0,.int .i64 0,.int .u64 0] 86 (0,0)):=by
  refine (hq.block _ (by omega)).trans ?_;rw [HVV.o];rw [ZI (by simp)];exact Y3 (by simp)
 clear c0 c1 c2 c3 c4 c5 c6 c7 d0 d1 d2 d3 d4 d5 d6 d7 hneq hmix a1 a2 a3 a4 a5 a6 a7 b0 b1 b2 g0 g1 g2 g3 g4;have D0:wq.cell? ⟨w.heap.size+1,0,none⟩=some (.int .i64 0):=(ZC hR).trans rfl;have D1:wq.cell? ⟨w.heap.size+1,1,none⟩=some (.int .i64 0):=(ZC hR).trans rfl;have D2:wq.cell? ⟨w.heap.size+1,2,none⟩=some (.int .i64 0):=(ZC hR).trans rfl;have D3:wq.cell? ⟨w.heap.size+1,3,none⟩=some (.int .i64 0):=(ZC hR).trans rfl;have D4:wq.cell? ⟨w.heap.size+1,4,none⟩=some (.int .i64 0):=(ZC hR).trans rfl;have D5:wq.cell? ⟨w.heap.size+1,5,none⟩=some (.int .i64 0):=(ZC hR).trans rfl;have D6:wq.cell? ⟨w.heap.size+1,6,none⟩=some (.int .i64 0):=(ZC hR).trans rfl;have D7:wq.cell? ⟨w.heap.size+1,7,none⟩=some (.int .u64 0):=(ZC hR).trans rfl;have E0:=Lib.frozen_of_heap hR 0;have E1:=Lib.frozen_of_heap hR 1;have E2:=Lib.frozen_of_heap hR 2;have E3:=Lib.frozen_of_heap hR 3;have E4:=Lib.frozen_of_heap hR 4;have E5:=Lib.frozen_of_heap hR 5;have E6:=Lib.frozen_of_heap hR 6;have E7:=Lib.frozen_of_heap hR 7;have HQ:=zh hq;have HP:=zh (SupAt.put hR rfl s);clear hR hq;go_wp2;obtain ⟨W8,hW8⟩:=xE (JS wq (w.heap.size+1) s);rw [<-hW8] at HP;rw [show (((((((wq.setCell ⟨w.heap.size+1,0,none⟩ (.int .i64 s.V)).setCell ⟨w.heap.size+1,1,none⟩ (.int .i64 s.L)).setCell ⟨w.heap.size+1,2,none⟩ (.int .i64 s.R)).setCell ⟨w.heap.size+1,3,none⟩ (.int .i64 s.U)).setCell ⟨w.heap.size+1,4,none⟩ (.int .i64 s.D)).setCell ⟨w.heap.size+1,5,none⟩ (.int .i64 s.Q)).setCell ⟨w.heap.size+1,6,none⟩ (.int .i64 s.T)).setCell ⟨w.heap.size+1,7,none⟩ (.int .u64 s.G)=W8 from hW8.symm];obtain ⟨p0,p1,p2,p3,p4,p5,p6,p7⟩:=HP.o;have HW8:=zh hW8;clear hW8;refine bodyPost_ret (by simp [results,results190,go_sem,p0,p1,p2,p3,p4,p5,p6,p7];try rfl) rfl ?_;refine ⟨rfl,?_⟩;rw [HW8.o];exact Um (HBV.o.trans (HQ.o.mono HBV.o.size)) (by omega) s
def J2 (V L R U D Q T:Int):Prop:=1<=V/\V<=65535/\1<=L/\L<=4096/\1<=R/\1<=U/\1<=D/\0<=Q/\0<=T/\R<=L/\U<=L/\D<=L/\Q<=L/\T<=L
instance (V L R U D Q T:Int):Decidable (J2 V L R U D Q T):=by unfold J2;infer_instance
theorem ZFe {w:World}{V L R U D Q T G:Int}(h:J2 V L R U D Q T)(hL:¬ 43+R+U+D+Q+T<=L):Calls prog 87 #[.agg #[.int .i64 V,.int .i64 L,.int .i64 R,.int .i64 U,.int .i64 D,.int .i64 Q,.int .i64 T,.int .u64 G]] w fun e w'=>e=.returned (.int .i64 0)/\Bl w w':=by
 obtain ⟨h1,h2,h3,h4,h5,h6,h7,h8,h9,k1,k2,k3,k4,k5⟩:=h;have d1:decide (L - 2 - 8 - R - U - D - 1 - Q - T < 32)=true:=ZLG (by omega);have d2:(L - 2 - 8 - R - U - D - 1 - Q - T < 32):=by omega
 go_in;go_wp2_with fail
 all_goals (go_returns;exact ⟨rfl,ZA bR⟩)
theorem ZFn {w:World}{V L R U D Q T G:Int}(h:¬ (J2 V L R U D Q T/\43+R+U+D+Q+T<=L)):Calls prog 45 #[.agg #[.int .i64 V,.int .i64 L,.int .i64 R,.int .i64 U,.int .i64 D,.int .i64 Q,.int .i64 T,.int .u64 G]] w fun e w'=>e=.returned (.bool false)/\Bl w w':=by
 have HH:=zh (fun (w1:World) (h1:J2 V L R U D Q T) (h2:¬ 43+R+U+D+Q+T<=L)=>ZFe (w:=w1) (G:=G) h1 h2);have hmx:=fun (ts:Array TypeId) (t:TypeId) (w:World)=>ZCc (P:=prog) ts t w R U D Q T
 by_cases c1:V < 1
 ·clear h hmx HH
  go_in;go_wp2_with fail
  all_goals (go_returns;exact ⟨rfl,ZA bR⟩)
 ·have c1':1<=V:=by omega
  by_cases c2:65535 < V
  ·clear h hmx HH
   go_in;go_wp2_with fail
   all_goals (go_returns;exact ⟨rfl,ZA bR⟩)
  ·have c2':V<=65535:=by omega
   by_cases c3:L < 1
   ·clear h hmx HH c1 c2
    go_in;go_wp2_with fail
    all_goals (go_returns;exact ⟨rfl,ZA bR⟩)
   ·have c3':1<=L:=by omega
    by_cases c4:4096 < L
    ·clear h hmx HH c1 c2 c3
     go_in;go_wp2_with fail
     all_goals (go_returns;exact ⟨rfl,ZA bR⟩)
    ·have c4':L<=4096:=by omega
     clear c1 c2 c3 c4
     by_cases c5:min (min R U) D < 1
     ·clear h hmx HH
      go_in;go_wp2_with fail
      all_goals (go_returns;exact ⟨rfl,ZA bR⟩)
     ·by_cases c6:min Q T < 0
      ·clear h hmx HH
       go_in;go_wp2_with fail
       all_goals (go_returns;exact ⟨rfl,ZA bR⟩)
      ·obtain ⟨M,hM⟩:=xE (mx (mx (mx (mx (R:Int) U) D) Q) T)
       rw [<-hM] at hmx
       by_cases c7:L < M
       ·clear h HH hM
        go_in;go_wp2_with fail
        all_goals (go_returns;exact ⟨rfl,ZA bR⟩)
       ·have hs:J2 V L R U D Q T:=by
         unfold mx at hM;refine ⟨c1',c2',c3',c4',?_,?_,?_,?_,?_,?_,?_,?_,?_,?_⟩ <;> omega
        have HH':=zh (fun (w1:World)=>HH.o w1 hs (fun k=>h ⟨hs,k⟩));have c7':M<=L:=by omega
        clear h HH hM hs c7;go_in;go_wp2_with fail
        all_goals
         refine (HH'.o _).mono ?_;rintro e w1 ⟨rfl,hb⟩;have HB:=zh ((ZA (Below.refl _ w)).trans (hb.mono (by simp)));clear hb;go_wp2;go_returns;exact ⟨rfl,HB.o⟩
def Sup.zero:Sup:=⟨0,0,0,0,0,0,0,0⟩
theorem ZBw {w:World}{n:Nat}:Calls prog 190 #[.agg #[.int .u64 0,.int .u64 0,.int .u64 0,.int .u64 0,.int .u64 0,.int .u64 0,.int .u64 0,.int .u64 0],.int .u64 n] w fun e w'=>e=.returned (.tuple #[Sup.zero.val,.bool false])/\Bl w w':=by
 have HV:=zh (fun (w1:World)=>ZFn (w:=w1) (V:=0) (L:=0) (R:=0) (U:=0) (D:=0) (Q:=0) (T:=0) (G:=0) (by unfold J2;omega));have hmix:prog.follows .mixedOrders=true:=by kernel_rfl
 have hb0:bits .and .u64 0 65535=0:=by decide
 unfold Sup.zero Sup.val;go_in;go_upto_region 2 with (fail)
 obtain ⟨V,hV⟩:=xE (((w.alloc (.cells #[.int .u64 0,.int .u64 0,.int .u64 0,.int .u64 0,.int .u64 0,.int .u64 0,.int .u64 0,.int .u64 0] 285)).alloc (.cells #[.int .i64 0,.int .i64 0,.int .i64 0,.int .i64 0,.int .i64 0,.int .i64 0,.int .i64 0,.int .u64 0] 86)).alloc (.cells #[.int .i64 0,.int .i64 0,.int .i64 0,.int .i64 0,.int .i64 0,.int .i64 0,.int .i64 0,.int .u64 0] 86));have hbV:Bl w V:=by rw [hV];exact ZA (ZA (ZA (Below.refl _ w)))
 have hS:V.heap[w.heap.size+1+1]?=some (Obj.cells #[.int .i64 0,.int .i64 0,.int .i64 0,.int .i64 0,.int .i64 0,.int .i64 0,.int .i64 0,.int .u64 0] 86 (0,0)):=by rw [hV];exact Y3 (by simp)
 have hR:V.heap[w.heap.size+1]?=some (Obj.cells #[.int .i64 0,.int .i64 0,.int .i64 0,.int .i64 0,.int .i64 0,.int .i64 0,.int .i64 0,.int .u64 0] 86 (0,0)):=by rw [hV,ZI (by simp)];exact Y3 (by simp)
 have HVV:=zh hV;have HBV:=zh hbV;have HR:=zh hR;rw [<-hV];have c0:∀ p:BW V,p.v.cell? ⟨w.heap.size+1+1,0,none⟩=some (.int .i64 0):=ZV ((ZC hS).trans rfl);have c1:∀ p:BW V,p.v.cell? ⟨w.heap.size+1+1,1,none⟩=some (.int .i64 0):=ZV ((ZC hS).trans rfl);have c2:∀ p:BW V,p.v.cell? ⟨w.heap.size+1+1,2,none⟩=some (.int .i64 0):=ZV ((ZC hS).trans rfl);have c3:∀ p:BW V,p.v.cell? ⟨w.heap.size+1+1,3,none⟩=some (.int .i64 0):=ZV ((ZC hS).trans rfl);have c4:∀ p:BW V,p.v.cell? ⟨w.heap.size+1+1,4,none⟩=some (.int .i64 0):=ZV ((ZC hS).trans rfl);have c5:∀ p:BW V,p.v.cell? ⟨w.heap.size+1+1,5,none⟩=some (.int .i64 0):=ZV ((ZC hS).trans rfl);have c6:∀ p:BW V,p.v.cell? ⟨w.heap.size+1+1,6,none⟩=some (.int .i64 0):=ZV ((ZC hS).trans rfl);have c7:∀ p:BW V,p.v.cell? ⟨w.heap.size+1+1,7,none⟩=some (.int .u64 0):=ZV ((ZC hS).trans rfl);have hcw:w.heap.size+1+1 < V.heap.size:=by rw [hV];simp
 clear hV hbV hS hR;refine Zv (by assumption) (by kernel_rfl) ?_
 repeat (quiet_step (first|(go_at_call 45;refine VL (HV.o _))))
 refine wpQuiet_nil ?_;intro wq hw';obtain ⟨⟨w0,hq⟩,hw''⟩:=hw';subst hw'';have hR:=(hq.block _ (by omega)).trans HR.o;have D0:wq.cell? ⟨w.heap.size+1,0,none⟩=some (.int .i64 0):=(ZC hR).trans rfl;have D1:wq.cell? ⟨w.heap.size+1,1,none⟩=some (.int .i64 0):=(ZC hR).trans rfl;have D2:wq.cell? ⟨w.heap.size+1,2,none⟩=some (.int .i64 0):=(ZC hR).trans rfl;have D3:wq.cell? ⟨w.heap.size+1,3,none⟩=some (.int .i64 0):=(ZC hR).trans rfl;have D4:wq.cell? ⟨w.heap.size+1,4,none⟩=some (.int .i64 0):=(ZC hR).trans rfl;have D5:wq.cell? ⟨w.heap.size+1,5,none⟩=some (.int .i64 0):=(ZC hR).trans rfl;have D6:wq.cell? ⟨w.heap.size+1,6,none⟩=some (.int .i64 0):=(ZC hR).trans rfl;have D7:wq.cell? ⟨w.heap.size+1,7,none⟩=some (.int .u64 0):=(ZC hR).trans rfl;have E0:=Lib.frozen_of_heap hR 0;have E1:=Lib.frozen_of_heap hR 1;have E2:=Lib.frozen_of_heap hR 2;have E3:=Lib.frozen_of_heap hR 3;have E4:=Lib.frozen_of_heap hR 4;have E5:=Lib.frozen_of_heap hR 5;have E6:=Lib.frozen_of_heap hR 6;have E7:=Lib.frozen_of_heap hR 7;have HQ:=zh hq;have HP:=zh (SupAt.put hR rfl Sup.zero);clear hR hq c0 c1 c2 c3 c4 c5 c6 c7 hmix hcw;go_wp2;obtain ⟨W8,hW8⟩:=xE (JS wq (w.heap.size+1) Sup.zero);rw [<-hW8] at HP;rw [show (((((((wq.setCell ⟨w.heap.size+1,0,none⟩ (.int .i64 0)).setCell ⟨w.heap.size+1,1,none⟩ (.int .i64 0)).setCell ⟨w.heap.size+1,2,none⟩ (.int .i64 0)).setCell ⟨w.heap.size+1,3,none⟩ (.int .i64 0)).setCell ⟨w.heap.size+1,4,none⟩ (.int .i64 0)).setCell ⟨w.heap.size+1,5,none⟩ (.int .i64 0)).setCell ⟨w.heap.size+1,6,none⟩ (.int .i64 0)).setCell ⟨w.heap.size+1,7,none⟩ (.int .u64 0)=W8 from hW8.symm];obtain ⟨p0,p1,p2,p3,p4,p5,p6,p7⟩:=HP.o;have HW8:=zh hW8;clear hW8;refine bodyPost_ret (by simp [results,results190,go_sem,p0,p1,p2,p3,p4,p5,p6,p7];try rfl) rfl ?_;refine ⟨rfl,?_⟩;rw [HW8.o];exact Um (HBV.o.trans (HQ.o.mono HBV.o.size)) (by omega) Sup.zero
def Dec (T:Nat->Nat)(n:Nat)(ws:List Nat)(s:Sup)(g:Bool):Prop:=(ws=[0,0,0,0,0,0,0,0]/\s=Sup.zero/\g=false)\/(ws=s.words T/\s.Ok/\s.L<=n/\g=true)
theorem QI {w:World}{T:Nat->Nat}{s:Sup}{n:Nat}{g:Bool}{ws:List Nat}(hT:NTab w T)(hn:n<=4096)(h:Dec T n ws s g):
 Calls prog 190 #[.agg (ws.map u64).toArray,.int .u64 n] w fun e w'=>e=.returned (.tuple #[s.val,.bool g])/\Bl w w':=by
 rcases h with ⟨rfl,rfl,rfl⟩|⟨rfl,h,hl,rfl⟩
 ·exact ZBw
 ·exact ZBv hT h ⟨hl,hn⟩
open Go.Proofs.YteomliechfdhhaaGreatDoor.Size
variable {w w':World}{A:DAd}{F F':Nat->Option ZK}{T c c' c0:Nat->Nat}{x x' ex n L:Nat}{H:HAd}
theorem RtB.below {rb:Nat}(h:RtB w A rb)(hb:Bl w w'):RtB w' A rb:=(hb.block _ (heap_lt h)).trans h
theorem ZAb {rb:Nat}(h:RtB w A rb):Calls prog 57 #[.pointer (some ⟨rb,0,none⟩)] w fun e w'=>e=.returned (.bool false)/\w=w':=by
 obtain ⟨c0,c1,_⟩:=XX h;clear h;go_in;go_wp2;go_returns;exact ⟨rfl,rfl⟩
theorem ZBT {rb:Nat}(h:RtB w A rb){i j:Nat}(hi:i < 16)(hj:j < 4):Calls prog 62 #[.pointer (some ⟨rb,0,none⟩),.int .i64 i,.int .i64 j] w fun e w'=>e=.returned (.int .u64 (8 * (16+(i * 4+j)):Nat))/\w=w':=by
 obtain ⟨c0,c1,_⟩:=XX h;have e1:((i:Int) * 4+j)=((i * 4+j:Nat):Int):=by simp
 obtain ⟨k,hk⟩:=xE (i * 4+j);have hk64:k < 64:=by omega
 rw [<-hk] at e1 ⊢;have b1:(i:Int) < 16:=by omega
 have b2:(j:Int) < 4:=by omega
 have b3:(k:Int) < 64:=by omega
 clear h hk;go_in;go_wp2;go_returns;refine ⟨by rw [show ((8 * (16+k):Nat):Int)=128+(k:Int) * 8 by omega];rfl,rfl⟩
theorem YP (w:World)(v:Value)(k:Nat):(nilAhead (k+1) 97 v "Err").run prog w=.ok (some false) w:=by kernel_rfl
def rdC (c:Nat->Nat)(k:Nat):Nat->Value:=fun y=>if y < k then .int .u64 (c (16+y):Nat) else .int .u64 0
theorem XO {P:Program} {ops:Array Oper} {o:Oper} {a:Act} {w:World} {K:Act->World->Prop} {Q:Exit->Act->World->Prop} {B:Prop} (hgd:o.guard=none) (ty:TypeId) (x y:Operand) (ho:o.op=.store ty x y)
 (g:Nat) (cells:Array Value) (hx:a.eval x=.pointer (some ⟨g,0,none⟩)) (hy:a.eval y=.agg cells) (t:TypeId) (old:Array Value) (hg:w.heap[g]?=some (.cells old t (0,0))) (hi:(P.info? ty).map (·.size)=some cells.size)
 (hold:old.size=cells.size)(h1:cells.all (·.oneCell')=true)(h:K (a.put o.dst undef) (w.setRow g cells)):
 if Region.wanted o (yielded ops a.tmps)=true then Oper.wp P o a w K Q else B:=by
 rw [ZKv (by simp [Region.wanted,hgd])];exact wp_store_row ty x y ho g cells hx hy t old hg hi hold h1 h
theorem Ye {n g:Nat}{w0:World}(hb:Below n w0 w)(hn:n<=g)(cs:Array Value):Below n w0 (w.setRow g cs):=
 hb.trans ⟨rfl,rfl,rfl,by simp,fun k hk=>setRow_other _ _ _ _ (by omega)⟩
theorem X7 {P:Program} {fn:Func} {p q:Tmp} {ty:TypeId} (h:fn.results=#[.cell p ty,.tmp q]) (tmps:Array Value) (w:World) (g:Nat) (t:TypeId) (cs:Array Value) (fr:Nat×Nat) (d:TypeDesc)
 (hp:tmps.getD p undef=.pointer (some ⟨g,0,none⟩)) (hg:w.heap[g]?=some (.cells cs t fr))
 (hu:P.underlying ty=some d)(hd:(match d with|.struct _|.array _ _=>true|_=>false)=true)(hi:(P.info? ty).map (·.size)=some cs.size):
 (results fn tmps).run P w=.ok (.tuple #[.agg cs,tmps.getD q undef]) w:=by
 have hp':tmps[p]?.getD undef=.pointer (some ⟨g,0,none⟩):=by simpa using hp
 simp [results,h,hp',asAddr,run_loadVar_row w g t ty cs fr d hg hu hd hi]
theorem JJ (h:Ar w A F L T c)(hL:80<=8 * L){rb:Nat}(hr:RtB w A rb):
 Calls prog 60 #[.pointer (some ⟨rb,0,none⟩)] w fun e w'=>∃ CS:Array Value,e=.returned (.tuple #[.agg CS,.int .i64 0])/\CS.size=64/\(∀ y,y < 64->CS[y]?=some (.int .u64 (c (16+y):Nat)))/\Bl w w':=by
 have HER:=zh (fun (w1:World) (hb:Bl w w1)=>Zq h (i:=0) (by omega) w1 hb);have HLD:=zh (fun (w1:World) (hb:Bl w w1) (k:Nat) (hk:k < 64)=>show Calls prog 34 #[.pointer (some ⟨A.t 0,0,none⟩),.int .u64 (8 * (16+k):Nat)] w1 (fun r w'=>r=.returned (.int .u64 (c (16+k):Nat))/\w1=w') from by
  have:=Yw h (i:=0) (by omega) w1 hb (8 * (16+k)) (by omega) (by omega);rw [show 8 * (16+k) / 8=16+k by omega] at this;exact this)
 have HAT:=zh (fun (w1:World) (hb:Bl w w1) (i j:Nat) (hi:i < 16) (hj:j < 4)=>ZBT (hr.below hb) hi hj);have HRT:=zh hr;obtain ⟨c0,c1,_⟩:=XX hr;have HB0:=zh (Below.refl w.heap.size w);clear h hr hL;go_in;go_upto_region 2 with fail;obtain ⟨w1,hw1⟩:=xE ((w.alloc (.cells #[.int .u64 0,.int .u64 0,.int .u64 0,.int .u64 0,.int .u64 0,.int .u64 0,.int .u64 0,.int .u64 0,.int .u64 0,.int .u64 0,.int .u64 0,.int .u64 0,.int .u64 0,.int .u64 0,.int .u64 0,.int .u64 0,.int .u64 0,.int .u64 0,.int .u64 0,.int .u64 0,.int .u64 0,.int .u64 0,.int .u64 0,.int .u64 0,.int .u64 0,.int .u64 0,.int .u64 0,.int .u64 0,.int .u64 0,.int .u64 0,.int .u64 0,.int .u64 0,.int .u64 0,.int .u64 0,.int .u64 0,.int .u64 0,.int .u64 0,.int .u64 0,.int .u64 0,.int .u64 0,.int .u64 0,.int .u64 0,.int .u64 0,.int .u64 0,.int .u64 0,.int .u64 0,.int .u64 0,.int .u64 0,.int .u64 0,.int .u64 0,.int .u64 0,.int .u64 0,.int .u64 0,.int .u64 0,.int .u64 0,.int .u64 0,.int .u64 0,.int .u64 0,.int .u64 0,.int .u64 0,.int .u64 0,.int .u64 0,.int .u64 0,.int .u64 0] 149)).alloc (.cells #[.int .u64 0,.int .u64 0,.int .u64 0,.int .u64 0,.int .u64 0,.int .u64 0,.int .u64 0,.int .u64 0,.int .u64 0,.int .u64 0,.int .u64 0,.int .u64 0,.int .u64 0,.int .u64 0,.int .u64 0,.int .u64 0,.int .u64 0,.int .u64 0,.int .u64 0,.int .u64 0,.int .u64 0,.int .u64 0,.int .u64 0,.int .u64 0,.int .u64 0,.int .u64 0,.int .u64 0,.int .u64 0,.int .u64 0,.int .u64 0,.int .u64 0,.int .u64 0,.int .u64 0,.int .u64 0,.int .u64 0,.int .u64 0,.int .u64 0,.int .u64 0,.int .u64 0,.int .u64 0,.int .u64 0,.int .u64 0,.int .u64 0,.int .u64 0,.int .u64 0,.int .u64 0,.int .u64 0,.int .u64 0,.int .u64 0,.int .u64 0,.int .u64 0,.int .u64 0,.int .u64 0,.int .u64 0,.int .u64 0,.int .u64 0,.int .u64 0,.int .u64 0,.int .u64 0,.int .u64 0,.int .u64 0,.int .u64 0,.int .u64 0,.int .u64 0] 149));obtain ⟨b2,hb2⟩:=xE w.heap.size;obtain ⟨b4,hb4⟩:=xE (w.heap.size+1);have HW1:=zh (show Bl w w1 by rw [hw1];exact ZA (ZA bR));have HR4:=zh (show Row w1 b4 149 64 (rdC c 0) from by
  rw [hw1,hb4];refine ⟨#[.int .u64 0,.int .u64 0,.int .u64 0,.int .u64 0,.int .u64 0,.int .u64 0,.int .u64 0,.int .u64 0,.int .u64 0,.int .u64 0,.int .u64 0,.int .u64 0,.int .u64 0,.int .u64 0,.int .u64 0,.int .u64 0,.int .u64 0,.int .u64 0,.int .u64 0,.int .u64 0,.int .u64 0,.int .u64 0,.int .u64 0,.int .u64 0,.int .u64 0,.int .u64 0,.int .u64 0,.int .u64 0,.int .u64 0,.int .u64 0,.int .u64 0,.int .u64 0,.int .u64 0,.int .u64 0,.int .u64 0,.int .u64 0,.int .u64 0,.int .u64 0,.int .u64 0,.int .u64 0,.int .u64 0,.int .u64 0,.int .u64 0,.int .u64 0,.int .u64 0,.int .u64 0,.int .u64 0,.int .u64 0,.int .u64 0,.int .u64 0,.int .u64 0,.int .u64 0,.int .u64 0,.int .u64 0,.int .u64 0,.int .u64 0,.int .u64 0,.int .u64 0,.int .u64 0,.int .u64 0,.int .u64 0,.int .u64 0,.int .u64 0,.int .u64 0],by have:=ZB (w.alloc (.cells #[.int .u64 0,.int .u64 0,.int .u64 0,.int .u64 0,.int .u64 0,.int .u64 0,.int .u64 0,.int .u64 0,.int .u64 0,.int .u64 0,.int .u64 0,.int .u64 0,.int .u64 0,.int .u64 0,.int .u64 0,.int .u64 0,.int .u64 0,.int .u64 0,.int .u64 0,.int .u64 0,.int .u64 0,.int .u64 0,.int .u64 0,.int .u64 0,.int .u64 0,.int .u64 0,.int .u64 0,.int .u64 0,.int .u64 0,.int .u64 0,.int .u64 0,.int .u64 0,.int .u64 0,.int .u64 0,.int .u64 0,.int .u64 0,.int .u64 0,.int .u64 0,.int .u64 0,.int .u64 0,.int .u64 0,.int .u64 0,.int .u64 0,.int .u64 0,.int .u64 0,.int .u64 0,.int .u64 0,.int .u64 0,.int .u64 0,.int .u64 0,.int .u64 0,.int .u64 0,.int .u64 0,.int .u64 0,.int .u64 0,.int .u64 0,.int .u64 0,.int .u64 0,.int .u64 0,.int .u64 0,.int .u64 0,.int .u64 0,.int .u64 0,.int .u64 0] 149)) (.cells #[.int .u64 0,.int .u64 0,.int .u64 0,.int .u64 0,.int .u64 0,.int .u64 0,.int .u64 0,.int .u64 0,.int .u64 0,.int .u64 0,.int .u64 0,.int .u64 0,.int .u64 0,.int .u64 0,.int .u64 0,.int .u64 0,.int .u64 0,.int .u64 0,.int .u64 0,.int .u64 0,.int .u64 0,.int .u64 0,.int .u64 0,.int .u64 0,.int .u64 0,.int .u64 0,.int .u64 0,.int .u64 0,.int .u64 0,.int .u64 0,.int .u64 0,.int .u64 0,.int .u64 0,.int .u64 0,.int .u64 0,.int .u64 0,.int .u64 0,.int .u64 0,.int .u64 0,.int .u64 0,.int .u64 0,.int .u64 0,.int .u64 0,.int .u64 0,.int .u64 0,.int .u64 0,.int .u64 0,.int .u64 0,.int .u64 0,.int .u64 0,.int .u64 0,.int .u64 0,.int .u64 0,.int .u64 0,.int .u64 0,.int .u64 0,.int .u64 0,.int .u64 0,.int .u64 0,.int .u64 0,.int .u64 0,.int .u64 0,.int .u64 0,.int .u64 0] 149);simpa using this,Nat.le_of_eq rfl,fun y hy=>?_⟩;rw [show (#[.int .u64 0,.int .u64 0,.int .u64 0,.int .u64 0,.int .u64 0,.int .u64 0,.int .u64 0,.int .u64 0,.int .u64 0,.int .u64 0,.int .u64 0,.int .u64 0,.int .u64 0,.int .u64 0,.int .u64 0,.int .u64 0,.int .u64 0,.int .u64 0,.int .u64 0,.int .u64 0,.int .u64 0,.int .u64 0,.int .u64 0,.int .u64 0,.int .u64 0,.int .u64 0,.int .u64 0,.int .u64 0,.int .u64 0,.int .u64 0,.int .u64 0,.int .u64 0,.int .u64 0,.int .u64 0,.int .u64 0,.int .u64 0,.int .u64 0,.int .u64 0,.int .u64 0,.int .u64 0,.int .u64 0,.int .u64 0,.int .u64 0,.int .u64 0,.int .u64 0,.int .u64 0,.int .u64 0,.int .u64 0,.int .u64 0,.int .u64 0,.int .u64 0,.int .u64 0,.int .u64 0,.int .u64 0,.int .u64 0,.int .u64 0,.int .u64 0,.int .u64 0,.int .u64 0,.int .u64 0,.int .u64 0,.int .u64 0,.int .u64 0,.int .u64 0]:Array Value)=Array.replicate 64 (.int .u64 0) from rfl];simp [hy,rdC])
 have HR2:=zh (show w1.heap[b2]?=some (.cells (Array.replicate 64 (.int .u64 0)) 149 (0,0)) from by
  rw [hw1,hb2,ZI (by simp)];exact ZB w _)
 rw [<-hw1,<-hb4,<-hb2];have HBB:=zh (show w.heap.size<=b2/\b2≠b4/\w.heap.size<=b4 by omega);clear hw1 hb2 hb4 c0 c1;obtain ⟨c0,c1,_⟩:=XX (HRT.o.below HW1.o);have hne:=YP;go_wp2_with fail;refine (HER.o _ HW1.o).mono ?_;rintro e w' ⟨rfl,rfl⟩;go_wp2_with fail
 go_loopw [17] (fun i wr=>∃ k:Nat,k<=16/\i=.int .i64 k/\Bl w wr/\Row wr b4 149 64 (rdC c (4 * k))/\wr.heap[b2]?=some (.cells (Array.replicate 64 (.int .u64 0)) 149 (0,0))) (fun i _=>16 - (intOf i).toNat)
 case atStart=>exact ⟨0,by omega,rfl,HW1.o,HR4.o,HR2.o⟩
 case round=>
 obtain ⟨k,hk,rfl,hb,hr4,hr2⟩:=hrel
 by_cases hlt:k < 16
 ·have b1:(k:Int) < 16:=by omega
  have HB1:=zh hb;have HK:=zh hlt;have HX4:=zh hr4;have HX2:=zh hr2;clear hb hr4 hr2 hlt hk c0 c1;go_wp2_with fail
  go_loopw [20] (fun j wr=>∃ m:Nat,m<=4/\j=.int .i64 m/\Bl w wr/\Row wr b4 149 64 (rdC c (4 * k+m))/\wr.heap[b2]?=some (.cells (Array.replicate 64 (.int .u64 0)) 149 (0,0))) (fun j _=>4 - (intOf j).toNat)
  case atStart=>exact ⟨0,by omega,rfl,HB1.o,HX4.o,HX2.o⟩
  case round=>
  obtain ⟨m,hm,rfl,hb,hr4,hr2⟩:=hrel
  by_cases hlt:m < 4
  ·have b2m:(m:Int) < 4:=by omega
   have HB2:=zh hb;have HM:=zh hlt;have HY4:=zh hr4;have HY2:=zh hr2;obtain ⟨q,hq⟩:=xE (k * 4+m);have hq64:q < 64:=by have:=HK.o;omega
   have z4:=hr4.cell q hq64;have f4:=hr4.free q;have HA2:=zh (fun w1 hb=>HAT.o w1 hb k m HK.o hlt);have HL2:=zh (fun w1 hb=>HLD.o w1 hb q hq64);rw [<-hq] at HA2;obtain ⟨O,hO⟩:∃ O:Nat,O=8 * (16+q):=⟨_,rfl⟩
   rw [<-hO] at HA2 HL2;have HQ:=zh hq;have HQ6:=zh hq64;obtain ⟨V,hV⟩:=xE (c (16+q));have HV:=zh hV;rw [<-hV] at HL2;rw [hq] at z4 f4;clear hb hr4 hr2 hlt hm hO hV hq hq64;have HD:=zh (fun (wx:World) (hb:Bl w wx)=>(XX (HRT.o.below hb)).1);go_upto_region 11 with fail;have hnl:=Yx
   go_region_held3 (fun wx=>wx.cell? ⟨rb,0,none⟩=some (.iface 97 (.pointer (some ⟨A.t 0,0,none⟩))))
    (first|exact HD.o _ (by repeat (with_reducible first|assumption|exact HB2.o|apply ZA|apply ZD|refine ZE ?_ HBB.o.2.2)))
    (first
      |(rw [Yx];exact ⟨rfl,rfl⟩)
      |(go_at_call 62;refine (HA2.o _ (by repeat (with_reducible first|exact HB2.o|apply ZD))).mono ?_;rintro e' V1 ⟨rfl,rfl⟩)
      |(go_invoke;go_simp;go_at_call 34;refine (HL2.o _ (by repeat (with_reducible first|exact HB2.o|apply ZD))).mono ?_;rintro e' V1 ⟨rfl,rfl⟩))
   have HE:=zh (show Bl w ((wr.drew).setCell ⟨b4,k * 4+m,none⟩ (.int .u64 (V:Nat)))/\Row ((wr.drew).setCell ⟨b4,k * 4+m,none⟩ (.int .u64 (V:Nat))) b4 149 64 (rdC c (4 * k+(m+1)))/\((wr.drew).setCell ⟨b4,k * 4+m,none⟩ (.int .u64 (V:Nat))).heap[b2]?=some (.cells (Array.replicate 64 (.int .u64 0)) 149 (0,0)) from by
    have h4:Row wr.drew b4 149 64 (rdC c (4 * k+m)):=HY4.o.of_block rfl;have h2:wr.drew.heap[b2]?=some (.cells (Array.replicate 64 (.int .u64 0)) 149 (0,0)):=HY2.o;refine ⟨ZE (ZD HB2.o) HBB.o.2.2,(h4.set _ _).congr fun y hy=>?_,(ZF HBB.o.2.1).trans h2⟩;unfold rdC
    by_cases e:y=k * 4+m
    ·rw [ZKv e,ZKv (by omega),HV.o,HQ.o,e]
    ·rw [ZKu e]
     by_cases e2:y < 4 * k+m
     ·rw [ZKv (by omega),ZKv e2]
     ·rw [ZKu (by omega),ZKu e2])
   clear z4 f4;go_wp2_with fail;exact ⟨⟨m+1,by have:=HM.o;omega,rfl,HE.o.1,HE.o.2.1,HE.o.2.2⟩,by have:=HM.o;simp [intOf];omega⟩
  ·obtain rfl:m=4:=by omega
   have HE:=zh (show Row wr b4 149 64 (rdC c (4 * (k+1))) from by rw [show 4 * (k+1)=4 * k+4 by omega];exact hr4);have HE2:=zh hb;have HE3:=zh hr2;clear hb hr4 hr2 hlt hm;go_wp2_with fail;exact ⟨⟨k+1,by have:=HK.o;omega,rfl,HE2.o,HE.o,HE3.o⟩,by have:=HK.o;simp [intOf];omega⟩
 ·obtain rfl:k=16:=by omega
  have HE:=zh hb;have HE4:=zh hr4;have HE2:=zh hr2;clear hb hr4 hr2 hlt hk;go_upto_region 14 with fail;obtain ⟨CS,hcs,hcg⟩:∃ CS:Array Value,CS.size=64/\∀ y,y < 64->CS[y]?=some (.int .u64 (c (16+y):Nat)):=⟨Array.ofFn (n:=64) fun i=>.int .u64 (c (16+i):Nat),by simp,fun j hj=>by simp [hj]⟩
  have HCG:=zh hcg;have HCZ:=zh hcs;have HS0:=zh (show Bl w wr.drew/\∀ j v,CS.toList[j]?=some v->wr.drew.cell? ⟨b4,0+j,none⟩=some v from ⟨ZD HE.o,fun j v hj=>by
   have hj64:j < 64:=by
    rw [<-hcs];have:=(List.getElem?_eq_some_iff.1 hj).1;simpa using this
   have e:=hcg j hj64;rw [ZLS,e] at hj;cases hj;have:=HE4.o.cell j hj64;unfold rdC at this;rw [ZKv (by omega)] at this;rw [ZLI];exact this⟩)
  clear hcs hcg;refine Z8 7 (fun wx=>Bl w wx/\∀ j v,CS.toList[j]?=some v->wx.cell? ⟨b4,0+j,none⟩=some v) (by kernel_rfl) ?_;refine YC (i:=0) (z:=7) (v:=.agg CS) (by decide) rfl (by kernel_rfl) (by kernel_rfl) (by kernel_rfl) (by kernel_rfl) (by kernel_rfl) (fun _ _ _ h=>h) HS0.o (Or.inl ⟨by rfl,fun w' hc=>?_⟩) ?_
  ·have hl:=Yo (P:=prog) w' b4 0 149 CS _ hc.2 underlying149 rfl (by rw [HCZ.o];kernel_rfl);simp [execOp,Act.eval,Instr.loadAt,Instr.sureAddr,hl]
  (try simp only [Act.put,ZK3,ZKy,ZK0,ZKt,ZKw,ZKx])
  refine YC (i:=1) (z:=7) (v:=.pointer (some ⟨rb,0,none⟩)) (by decide) rfl (by kernel_rfl) (by kernel_rfl) (by kernel_rfl) (by kernel_rfl) (by kernel_rfl) (fun _ _ _ h=>h) HS0.o (Or.inl ⟨by rfl,fun w' hc=>?_⟩) ?_
  ·go_simp
  (try simp only [Act.put,ZK3,ZKy,ZK0,ZKt,ZKw,ZKx])
  refine YC (i:=2) (z:=7) (v:=.pointer (some ⟨rb,0,none⟩)) (by decide) rfl (by kernel_rfl) (by kernel_rfl) (by kernel_rfl) (by kernel_rfl) (by kernel_rfl) (fun _ _ _ h=>h) HS0.o (Or.inl ⟨by rfl,fun w' hc=>?_⟩) ?_
  ·go_simp
  (try simp only [Act.put,ZK3,ZKy,ZK0,ZKt,ZKw,ZKx])
  refine YC (i:=3) (z:=7) (v:=.pointer (some ⟨rb,0,none⟩)) (by decide) rfl (by kernel_rfl) (by kernel_rfl) (by kernel_rfl) (by kernel_rfl) (by kernel_rfl) (fun _ _ _ h=>h) HS0.o (Or.inl ⟨by rfl,fun w' hc=>?_⟩) ?_
  ·go_simp
  (try simp only [Act.put,ZK3,ZKy,ZK0,ZKt,ZKw,ZKx])
  refine YC (i:=4) (z:=7) (v:=.iface 97 (.pointer (some ⟨A.t 0,0,none⟩))) (by decide) rfl (by kernel_rfl) (by kernel_rfl) (by kernel_rfl) (by kernel_rfl) (by kernel_rfl) (fun _ _ _ h=>h) HS0.o (Or.inl ⟨by rfl,fun w' hc=>?_⟩) ?_
  ·have z:=(XX (HRT.o.below hc.1)).1;go_simp
  (try simp only [Act.put,ZK3,ZKy,ZK0,ZKt,ZKw,ZKx])
  refine YZ (j:=5) (z:=7) (by kernel_rfl) rfl (fun K hK=>?_);refine XN rfl (HER.o _ HS0.o.1) (by kernel_rfl) ?_;rintro e6 w6 ⟨rfl,rfl⟩;refine ⟨_,rfl,hK _ _ HS0.o ?_⟩;clear hK K
  (try simp only [Act.put,ZK3,ZKy,ZK0,ZKt,ZKw,ZKx])
  refine YZ (j:=6) (z:=7) (by kernel_rfl) rfl (fun K hK=>?_);have hall:CS.all (·.oneCell')=true:=by
   refine Array.all_eq_true_iff_forall_mem.2 fun v hv=>?_
   obtain ⟨j,hj,e⟩:=Array.getElem_of_mem hv;have hj64:j < 64:=by rw [HCZ.o] at hj;exact hj
   have:=HCG.o j hj64;rw [ZLW hj,e] at this;cases this;rfl
  refine XO rfl 149 (.tmp 2) (.tmp 40) rfl b2 CS rfl rfl 149 (Array.replicate 64 (.int .u64 0)) HE2.o (by rw [HCZ.o];kernel_rfl) (by rw [HCZ.o];simp) hall ?_;have hgg:wr.drew.heap[b2]?=some (.cells (Array.replicate 64 (.int .u64 0)) 149 (0,0)):=HE2.o;have HW9:=zh (show Bl w (wr.drew.setRow b2 CS)/\(wr.drew.setRow b2 CS).heap[b2]?=some (.cells CS 149 (0,0)) from ⟨Ye HS0.o.1 HBB.o.1 CS,setRow_heap _ _ _ _ _ _ hgg⟩);refine hK _ _ ⟨HW9.o.1,fun j v hj=>?_⟩ ?_
  ·have hne:b4≠b2:=fun e=>HBB.o.2.1 e.symm
   rw [cell_setRow_other _ _ _ _ hne];exact HS0.o.2 j v hj
  clear hK K hgg;obtain ⟨w9,hw9⟩:=xE (wr.drew.setRow b2 CS);rw [<-hw9] at HW9 ⊢;clear hw9 HS0
  (try simp only [Act.put,ZK3,ZKy,ZK0,ZKt,ZKw,ZKx])
  refine UY (z:=7) (by kernel_rfl) rfl (by kernel_rfl) (by kernel_rfl) (fun K hK=>?_);go_simp;refine hK _ _ ?_;clear hK K;go_wp2_with fail;refine bodyPost_ret (X7 rfl _ _ b2 149 CS (0,0) _ rfl HW9.o.2 underlying149 rfl (by rw [HCZ.o];kernel_rfl)) rfl ?_;exact ⟨CS,rfl,HCZ.o,HCG.o,HW9.o.1⟩
end
end Go.Proofs.YteomliechfdhhaaGreatDoor.Dv
