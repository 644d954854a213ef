/- Part 30. -/
import Derived.Test.YtbpeehmepehkdaaGreatDoorY29
set_option maxHeartbeats 8000000
set_option maxRecDepth 20000
set_option linter.all false
namespace Go.Proofs.YtbpeehmepehkdaaGreatDoor.Dv
open Tryz
section
open Go.RowKit
theorem Yc {a x:Nat}{z:Int}(hz:z=(a:Int))(ha:a < 18446744073709551616)(hx:x=a % 65536):bits .and .u64 z 65535=(x:Int):=by
 subst hz;subst hx;rw [show (65535:Int)=((65535:Nat):Int) from rfl,u64_and_nat a 65535 ha (by omega),show (65535:Nat)=2 ^ 16 - 1 from rfl,Nat.and_two_pow_sub_one_eq_mod]
theorem XD {w:World}{o:Obj}{b:Nat}(h:b=w.heap.size):(w.alloc o).heap[b]?=some o:=by subst h;exact ZC w o
def Jf (w:World)(b:Nat)(s:Sup):World:=(((((((w.setCell ⟨b,0,none⟩ (.int .i64 s.V)).setCell ⟨b,1,none⟩ (.int .i64 s.L)).setCell ⟨b,2,none⟩ (.int .i64 s.R)).setCell ⟨b,3,none⟩ (.int .i64 s.U)).setCell ⟨b,4,none⟩ (.int .i64 s.D)).setCell ⟨b,5,none⟩ (.int .i64 s.Q)).setCell ⟨b,6,none⟩ (.int .i64 s.T)).setCell ⟨b,7,none⟩ (.int .u64 s.G)
theorem SupAt.put {w:World}{b:Nat}{c:Array Value}{e:TypeId}{fz:Nat×Nat}(h:w.heap[b]?=some (.cells c e fz))(hc:c.size=8)(s:Sup):SupAt (Jf w b s) b s:=by
 have h8:(Jf w b s)=w.setCells b 0 [.int .i64 s.V,.int .i64 s.L,.int .i64 s.R,.int .i64 s.U,.int .i64 s.D,.int .i64 s.Q,.int .i64 s.T,.int .u64 s.G]:=rfl;rw [h8];have k:=fun j hj=>World.cell?_setCells_in b [.int .i64 s.V,.int .i64 s.L,.int .i64 s.R,.int .i64 s.U,.int .i64 s.D,.int .i64 s.Q,.int .i64 s.T,.int .u64 s.G] 0 w (fun j hj=>by
  rw [ZD h];simp at hj;simp [hc];omega) j hj
 exact ⟨k 0 (by simp),k 1 (by simp),k 2 (by simp),k 3 (by simp),k 4 (by simp),k 5 (by simp),k 6 (by simp),k 7 (by simp)⟩
theorem U6 {a w:World}{b:Nat}(h:Bl a w)(hb:a.heap.size<=b)(s:Sup):Bl a (Jf w b s):=by
 unfold Jf;exact ZE (ZE (ZE (ZE (ZE (ZE (ZE (ZE h hb) hb) hb) hb) hb) hb) hb) hb
def WdAt (w:World)(b G x2 x3 K:Nat):Prop:=w.cell? ⟨b,0,none⟩=some (.int .u64 7738151121853964849)/\w.cell? ⟨b,1,none⟩=some (.int .u64 G)/\w.cell? ⟨b,2,none⟩=some (.int .u64 x2)/\w.cell? ⟨b,3,none⟩=some (.int .u64 x3)/\w.cell? ⟨b,4,none⟩=some (.int .u64 0)/\
 w.cell? ⟨b,5,none⟩=some (.int .u64 0)/\w.cell? ⟨b,6,none⟩=some (.int .u64 0)/\w.cell? ⟨b,7,none⟩=some (.int .u64 K)
theorem WdAt.below {a w:World}{b G x2 x3 K:Nat}(h:WdAt a b G x2 x3 K)(hb:Bl a w):WdAt w b G x2 x3 K:=by
 have hl:=ZLf _ _ h.1;have k:∀ i u,a.cell? ⟨b,i,none⟩=some u->w.cell? ⟨b,i,none⟩=some u:=fun i u hu=>(hb.cell (show (Addr.mk b i none).block < _ from hl)).trans hu
 exact ⟨k _ _ h.1,k _ _ h.2.1,k _ _ h.2.2.1,k _ _ h.2.2.2.1,k _ _ h.2.2.2.2.1,k _ _ h.2.2.2.2.2.1,k _ _ h.2.2.2.2.2.2.1,k _ _ h.2.2.2.2.2.2.2⟩
theorem ZCH {w:World}{T:Nat->Nat}{s:Sup}{n:Nat}(hT:NTab w T)(h:s.Ok)(hn:s.L<=n/\n<=4096):Calls prog 242 #[.agg ((s.words T).map u64).toArray,.int .u64 n] w fun e w'=>e=.returned (.tuple #[s.val,.bool true])/\Bl w w':=by
 have HV:=zh (fun (w1:World)=>VS (w:=w1) h);have HE:=zh (fun (w1:World) (hb:Bl w w1)=>Qc (w:=w1) (hT.below hb nR) h);have hw2:=h.w2_lt;have hw3:=h.w3_lt;have h1:=h.v;have h2:=h.l;have h3:=h.h;have h4:=h.g;have e1:s.V=s.w2 % 65536:=by unfold Sup.w2;unfold Sup.hl at h3;omega
 have e2:s.L=s.w2 / 65536 % 65536:=by unfold Sup.w2;unfold Sup.hl at h3;omega
 have e3:s.R=s.w2 / 4294967296 % 65536:=by unfold Sup.w2;unfold Sup.hl at h3;omega
 have e4:s.U=s.w2 / 281474976710656:=by unfold Sup.w2;unfold Sup.hl at h3;omega
 have e5:s.D=s.w3 % 65536:=by unfold Sup.w3;unfold Sup.hl at h3;omega
 have e6:s.Q=s.w3 / 65536 % 65536:=by unfold Sup.w3;unfold Sup.hl at h3;omega
 have e7:s.T=s.w3 / 4294967296 % 65536:=by unfold Sup.w3;unfold Sup.hl at h3;omega
 unfold Sup.words Sup.front at HE ⊢;obtain ⟨K,hK⟩:=xE (4294967296+UE T [JZ,s.G,s.w2,s.w3,0,0,0]);rw [<-hK] at HE ⊢;clear hK;obtain ⟨x2,hx2⟩:=xE s.w2;obtain ⟨x3,hx3⟩:=xE s.w3;rw [<-hx2] at HE hw2 e1 e2 e3 e4 ⊢;rw [<-hx3] at HE hw3 e5 e6 e7 ⊢;have a1:bits .and .u64 (x2:Int) 65535=(s.V:Int):=Yc rfl hw2 e1;have a2:bits .and .u64 ((x2:Int) / 65536) 65535=(s.L:Int):=Yc (a:=x2 / 65536) (by omega) (by omega) e2;have a3:bits .and .u64 ((x2:Int) / 4294967296) 65535=(s.R:Int):=Yc (a:=x2 / 4294967296) (by omega) (by omega) e3;have a4:(x2:Int) / 281474976710656=(s.U:Int):=by omega
 have a5:bits .and .u64 (x3:Int) 65535=(s.D:Int):=Yc rfl hw3 e5;have a6:bits .and .u64 ((x3:Int) / 65536) 65535=(s.Q:Int):=Yc (a:=x3 / 65536) (by omega) (by omega) e6;have a7:bits .and .u64 ((x3:Int) / 4294967296) 65535=(s.T:Int):=Yc (a:=x3 / 4294967296) (by omega) (by omega) e7;have b0:(x2:Int) < 18446744073709551616:=by omega
 have b1:(s.L:Int)<=n:=by omega
 have b2:(n:Int)<=4096:=by omega
 have g0:IntKind.u64.wrap (s.L:Int)=(s.L:Int):=by rw [IntKind.wrap_u64];omega
 have g1:decide ((n:Int) < (s.L:Int))=false:=ZLh (by omega);have g2:decide ((n:Int) < IntKind.u64.wrap (s.L:Int))=false:=by rw [g0];exact g1
 have g3:decide (n < s.L)=false:=ZLh (by omega);have g4:¬ n < s.L:=by omega
 have l1:(s.V:Int)<=65535:=by omega
 have l2:(s.L:Int)<=4096:=by omega
 have l3:(s.R:Int)<=4096:=by unfold Sup.hl at h3;omega
 have l4:(s.U:Int)<=4096:=by unfold Sup.hl at h3;omega
 have l5:(s.D:Int)<=4096:=by unfold Sup.hl at h3;omega
 have l6:(s.Q:Int)<=4096:=by unfold Sup.hl at h3;omega
 have l7:(s.T:Int)<=4096:=by unfold Sup.hl at h3;omega
 clear h1 h2 h3 h4 e1 e2 e3 e4 e5 e6 e7 hw2 hw3 hx2 hx3 hn hT h;simp only [List.cons_append,List.nil_append,List.map_cons,List.map_nil] at HE ⊢;unfold JZ at *;unfold Sup.val u64 at *;go_in;go_upto_region 2 with (fail)
 obtain ⟨V,hV⟩:=xE (((w.alloc (.cells #[.int .u64 7738151121853964849,.int .u64 s.G,.int .u64 x2,.int .u64 x3,.int .u64 0,.int .u64 0,.int .u64 0,.int .u64 K] 328)).alloc (.cells #[.int .i64 0,.int .i64 0,.int .i64 0,.int .i64 0,.int .i64 0,.int .i64 0,.int .i64 0,.int .u64 0] 106)).alloc (.cells #[.int .i64 s.V,.int .i64 s.L,.int .i64 s.R,.int .i64 s.U,.int .i64 s.D,.int .i64 s.Q,.int .i64 s.T,.int .u64 s.G] 106));have hbV:Bl w V:=by rw [hV];exact ZA (ZA (ZA (Below.refl _ w)))
 have hS:SupAt V (w.heap.size+1+1) s:=by
  have:=SupAt.new ((w.alloc (.cells #[.int .u64 7738151121853964849,.int .u64 s.G,.int .u64 x2,.int .u64 x3,.int .u64 0,.int .u64 0,.int .u64 0,.int .u64 K] 328)).alloc (.cells #[.int .i64 0,.int .i64 0,.int .i64 0,.int .i64 0,.int .i64 0,.int .i64 0,.int .i64 0,.int .u64 0] 106)) s;rw [show ((w.alloc (.cells #[.int .u64 7738151121853964849,.int .u64 s.G,.int .u64 x2,.int .u64 x3,.int .u64 0,.int .u64 0,.int .u64 0,.int .u64 K] 328)).alloc (.cells #[.int .i64 0,.int .i64 0,.int .i64 0,.int .i64 0,.int .i64 0,.int .i64 0,.int .i64 0,.int .u64 0] 106)).heap.size=w.heap.size+1+1 by simp] at this;rw [hV];exact this
 have hW:WdAt V w.heap.size s.G x2 x3 K:=by
  have h0:(w.alloc (.cells #[.int .u64 7738151121853964849,.int .u64 s.G,.int .u64 x2,.int .u64 x3,.int .u64 0,.int .u64 0,.int .u64 0,.int .u64 K] 328)).heap[w.heap.size]?=some (.cells #[.int .u64 7738151121853964849,.int .u64 s.G,.int .u64 x2,.int .u64 x3,.int .u64 0,.int .u64 0,.int .u64 0,.int .u64 K] 328 (0,0)):=ZC w _;have h3:V.heap[w.heap.size]?=some (.cells #[.int .u64 7738151121853964849,.int .u64 s.G,.int .u64 x2,.int .u64 x3,.int .u64 0,.int .u64 0,.int .u64 0,.int .u64 K] 328 (0,0)):=by
   rw [hV,ZK (by simp;omega),ZK (by simp)];exact h0
  exact ⟨(ZD h3).trans rfl,(ZD h3).trans rfl,(ZD h3).trans rfl,(ZD h3).trans rfl,(ZD h3).trans rfl,(ZD h3).trans rfl,(ZD h3).trans rfl,(ZD h3).trans rfl⟩
 have HVV:=zh hV;have HBV:=zh hbV;have HS:=zh hS;have HW:=zh hW;have HB1:=zh (Below.refl V.heap.size V);have HEB:=zh (fun (p:BW V)=>HE.o p.v (HBV.o.trans (p.h.mono HBV.o.size)));rw [<-hV];obtain ⟨c0,c1,c2,c3,c4,c5,c6,c7⟩:=id hS;obtain ⟨d0,d1,d2,d3,d4,d5,d6,d7⟩:=id hW;replace c0:=ZW c0;replace c1:=ZW c1;replace c2:=ZW c2;replace c3:=ZW c3;replace c4:=ZW c4;replace c5:=ZW c5;replace c6:=ZW c6;replace c7:=ZW c7;replace d0:=ZW d0;replace d1:=ZW d1;replace d2:=ZW d2;replace d3:=ZW d3;replace d4:=ZW d4;replace d5:=ZW d5;replace d6:=ZW d6;replace d7:=ZW d7
 have hneq:∀ w1:World,(binOp .neq 328 (.agg #[.int .u64 7738151121853964849,.int .u64 s.G,.int .u64 x2,.int .u64 x3,.int .u64 0,.int .u64 0,.int .u64 0,.int .u64 K]) (.agg #[.int .u64 7738151121853964849,.int .u64 s.G,.int .u64 x2,.int .u64 x3,.int .u64 0,.int .u64 0,.int .u64 0,.int .u64 K])).run prog w1=.ok (.bool false) w1:=fun w1=>
  (ZGh [7738151121853964849,s.G,x2,x3,0,0,0,K] [7738151121853964849,s.G,x2,x3,0,0,0,K] rfl rfl).trans (by rw [ZLp rfl];rfl)
 have hcw:w.heap.size+1+1 < V.heap.size:=by rw [hV];simp
 have hmix:prog.follows .mixedOrders=true:=by kernel_rfl
 clear hV hbV hS hW;refine Zv (by assumption) (by kernel_rfl) ?_
 repeat (quiet_step (first|(go_at_call 75;refine Vb (HV.o _))|(go_at_call 204;refine Vb (HEB.o _))))
 refine wpQuiet_nil ?_;intro wq hw';obtain ⟨⟨w0,hq⟩,hw''⟩:=hw';subst hw'';have C0:=c0 ⟨wq,hq⟩;have C1:=c1 ⟨wq,hq⟩;have C2:=c2 ⟨wq,hq⟩;have C3:=c3 ⟨wq,hq⟩;have C4:=c4 ⟨wq,hq⟩;have C5:=c5 ⟨wq,hq⟩;have C6:=c6 ⟨wq,hq⟩;have C7:=c7 ⟨wq,hq⟩;simp only at C0 C1 C2 C3 C4 C5 C6 C7;have hR:wq.heap[w.heap.size+1]?=some (Obj.cells #[.int .i64 0,.int .i64 0,.int .i64 0,.int .i64 0,.int .i64 0,.int .i64 0,.int .i64 0,.int .u64 0] 106 (0,0)):=by
  refine (hq.block _ (by omega)).trans ?_;rw [HVV.o];rw [ZK (by simp)];exact XD (by simp)
 clear c0 c1 c2 c3 c4 c5 c6 c7 d0 d1 d2 d3 d4 d5 d6 d7 hneq hmix a1 a2 a3 a4 a5 a6 a7 b0 b1 b2 g0 g1 g2 g3 g4;have D0:wq.cell? ⟨w.heap.size+1,0,none⟩=some (.int .i64 0):=(ZD hR).trans rfl;have D1:wq.cell? ⟨w.heap.size+1,1,none⟩=some (.int .i64 0):=(ZD hR).trans rfl;have D2:wq.cell? ⟨w.heap.size+1,2,none⟩=some (.int .i64 0):=(ZD hR).trans rfl;have D3:wq.cell? ⟨w.heap.size+1,3,none⟩=some (.int .i64 0):=(ZD hR).trans rfl;have D4:wq.cell? ⟨w.heap.size+1,4,none⟩=some (.int .i64 0):=(ZD hR).trans rfl;have D5:wq.cell? ⟨w.heap.size+1,5,none⟩=some (.int .i64 0):=(ZD hR).trans rfl;have D6:wq.cell? ⟨w.heap.size+1,6,none⟩=some (.int .i64 0):=(ZD hR).trans rfl;have D7:wq.cell? ⟨w.heap.size+1,7,none⟩=some (.int .u64 0):=(ZD hR).trans rfl;have E0:=Lib.frozen_of_heap hR 0;have E1:=Lib.frozen_of_heap hR 1;have E2:=Lib.frozen_of_heap hR 2;have E3:=Lib.frozen_of_heap hR 3;have E4:=Lib.frozen_of_heap hR 4;have E5:=Lib.frozen_of_heap hR 5;have E6:=Lib.frozen_of_heap hR 6;have E7:=Lib.frozen_of_heap hR 7;have HQ:=zh hq;have HP:=zh (SupAt.put hR rfl s);clear hR hq;go_wp2;obtain ⟨W8,hW8⟩:=xE (Jf wq (w.heap.size+1) s);rw [<-hW8] at HP;rw [show (((((((wq.setCell ⟨w.heap.size+1,0,none⟩ (.int .i64 s.V)).setCell ⟨w.heap.size+1,1,none⟩ (.int .i64 s.L)).setCell ⟨w.heap.size+1,2,none⟩ (.int .i64 s.R)).setCell ⟨w.heap.size+1,3,none⟩ (.int .i64 s.U)).setCell ⟨w.heap.size+1,4,none⟩ (.int .i64 s.D)).setCell ⟨w.heap.size+1,5,none⟩ (.int .i64 s.Q)).setCell ⟨w.heap.size+1,6,none⟩ (.int .i64 s.T)).setCell ⟨w.heap.size+1,7,none⟩ (.int .u64 s.G)=W8 from hW8.symm];obtain ⟨p0,p1,p2,p3,p4,p5,p6,p7⟩:=HP.o;have HW8:=zh hW8;clear hW8;refine bodyPost_ret (by simp [results,results242,go_sem,p0,p1,p2,p3,p4,p5,p6,p7];try rfl) rfl ?_;refine ⟨rfl,?_⟩;rw [HW8.o];exact U6 (HBV.o.trans (HQ.o.mono HBV.o.size)) (by omega) s
def QK (V L R U D Q T:Int):Prop:=1<=V/\V<=65535/\1<=L/\L<=4096/\1<=R/\1<=U/\1<=D/\0<=Q/\0<=T/\R<=L/\U<=L/\D<=L/\Q<=L/\T<=L
instance (V L R U D Q T:Int):Decidable (QK V L R U D Q T):=by unfold QK;infer_instance
theorem ZGP {w:World}{V L R U D Q T G:Int}(h:QK V L R U D Q T)(hL:¬ 43+R+U+D+Q+T<=L):Calls prog 125 #[.agg #[.int .i64 V,.int .i64 L,.int .i64 R,.int .i64 U,.int .i64 D,.int .i64 Q,.int .i64 T,.int .u64 G]] w fun e w'=>e=.returned (.int .i64 0)/\Bl w w':=by
 obtain ⟨h1,h2,h3,h4,h5,h6,h7,h8,h9,k1,k2,k3,k4,k5⟩:=h;have d1:decide (L - 2 - 8 - R - U - D - 1 - Q - T < 32)=true:=ZLp (by omega);have d2:(L - 2 - 8 - R - U - D - 1 - Q - T < 32):=by omega
 go_in;go_wp2_with fail
 all_goals (go_returns;exact ⟨rfl,ZA bR⟩)
theorem ZGa {w:World}{V L R U D Q T G:Int}(h:¬ (QK V L R U D Q T/\43+R+U+D+Q+T<=L)):Calls prog 75 #[.agg #[.int .i64 V,.int .i64 L,.int .i64 R,.int .i64 U,.int .i64 D,.int .i64 Q,.int .i64 T,.int .u64 G]] w fun e w'=>e=.returned (.bool false)/\Bl w w':=by
 have HH:=zh (fun (w1:World) (h1:QK V L R U D Q T) (h2:¬ 43+R+U+D+Q+T<=L)=>ZGP (w:=w1) (G:=G) h1 h2);have hmx:=fun (ts:Array TypeId) (t:TypeId) (w:World)=>ZC3 (P:=prog) ts t w R U D Q T
 by_cases c1:V < 1
 ·clear h hmx HH
  go_in;go_wp2_with fail
  all_goals (go_returns;exact ⟨rfl,ZA bR⟩)
 ·have c1':1<=V:=by omega
  by_cases c2:65535 < V
  ·clear h hmx HH
   go_in;go_wp2_with fail
   all_goals (go_returns;exact ⟨rfl,ZA bR⟩)
  ·have c2':V<=65535:=by omega
   by_cases c3:L < 1
   ·clear h hmx HH c1 c2
    go_in;go_wp2_with fail
    all_goals (go_returns;exact ⟨rfl,ZA bR⟩)
   ·have c3':1<=L:=by omega
    by_cases c4:4096 < L
    ·clear h hmx HH c1 c2 c3
     go_in;go_wp2_with fail
     all_goals (go_returns;exact ⟨rfl,ZA bR⟩)
    ·have c4':L<=4096:=by omega
     clear c1 c2 c3 c4
     by_cases c5:min (min R U) D < 1
     ·clear h hmx HH
      go_in;go_wp2_with fail
      all_goals (go_returns;exact ⟨rfl,ZA bR⟩)
     ·by_cases c6:min Q T < 0
      ·clear h hmx HH
       go_in;go_wp2_with fail
       all_goals (go_returns;exact ⟨rfl,ZA bR⟩)
      ·obtain ⟨M,hM⟩:=xE (mx (mx (mx (mx (R:Int) U) D) Q) T)
       rw [<-hM] at hmx
       by_cases c7:L < M
       ·clear h HH hM
        go_in;go_wp2_with fail
        all_goals (go_returns;exact ⟨rfl,ZA bR⟩)
       ·have hs:QK V L R U D Q T:=by
         unfold mx at hM;refine ⟨c1',c2',c3',c4',?_,?_,?_,?_,?_,?_,?_,?_,?_,?_⟩ <;> omega
        have HH':=zh (fun (w1:World)=>HH.o w1 hs (fun k=>h ⟨hs,k⟩));have c7':M<=L:=by omega
        clear h HH hM hs c7;go_in;go_wp2_with fail
        all_goals
         refine (HH'.o _).mono ?_;rintro e w1 ⟨rfl,hb⟩;have HB:=zh ((ZA (Below.refl _ w)).trans (hb.mono (by simp)));clear hb;go_wp2;go_returns;exact ⟨rfl,HB.o⟩
def Sup.zero:Sup:=⟨0,0,0,0,0,0,0,0⟩
theorem ZCI {w:World}{n:Nat}:Calls prog 242 #[.agg #[.int .u64 0,.int .u64 0,.int .u64 0,.int .u64 0,.int .u64 0,.int .u64 0,.int .u64 0,.int .u64 0],.int .u64 n] w fun e w'=>e=.returned (.tuple #[Sup.zero.val,.bool false])/\Bl w w':=by
 have HV:=zh (fun (w1:World)=>ZGa (w:=w1) (V:=0) (L:=0) (R:=0) (U:=0) (D:=0) (Q:=0) (T:=0) (G:=0) (by unfold QK;omega));have hmix:prog.follows .mixedOrders=true:=by kernel_rfl
 have hb0:bits .and .u64 0 65535=0:=by decide
 unfold Sup.zero Sup.val;go_in;go_upto_region 2 with (fail)
 obtain ⟨V,hV⟩:=xE (((w.alloc (.cells #[.int .u64 0,.int .u64 0,.int .u64 0,.int .u64 0,.int .u64 0,.int .u64 0,.int .u64 0,.int .u64 0] 328)).alloc (.cells #[.int .i64 0,.int .i64 0,.int .i64 0,.int .i64 0,.int .i64 0,.int .i64 0,.int .i64 0,.int .u64 0] 106)).alloc (.cells #[.int .i64 0,.int .i64 0,.int .i64 0,.int .i64 0,.int .i64 0,.int .i64 0,.int .i64 0,.int .u64 0] 106));have hbV:Bl w V:=by rw [hV];exact ZA (ZA (ZA (Below.refl _ w)))
 have hS:V.heap[w.heap.size+1+1]?=some (Obj.cells #[.int .i64 0,.int .i64 0,.int .i64 0,.int .i64 0,.int .i64 0,.int .i64 0,.int .i64 0,.int .u64 0] 106 (0,0)):=by rw [hV];exact XD (by simp)
 have hR:V.heap[w.heap.size+1]?=some (Obj.cells #[.int .i64 0,.int .i64 0,.int .i64 0,.int .i64 0,.int .i64 0,.int .i64 0,.int .i64 0,.int .u64 0] 106 (0,0)):=by rw [hV,ZK (by simp)];exact XD (by simp)
 have HVV:=zh hV;have HBV:=zh hbV;have HR:=zh hR;rw [<-hV];have c0:∀ p:BW V,p.v.cell? ⟨w.heap.size+1+1,0,none⟩=some (.int .i64 0):=ZW ((ZD hS).trans rfl);have c1:∀ p:BW V,p.v.cell? ⟨w.heap.size+1+1,1,none⟩=some (.int .i64 0):=ZW ((ZD hS).trans rfl);have c2:∀ p:BW V,p.v.cell? ⟨w.heap.size+1+1,2,none⟩=some (.int .i64 0):=ZW ((ZD hS).trans rfl);have c3:∀ p:BW V,p.v.cell? ⟨w.heap.size+1+1,3,none⟩=some (.int .i64 0):=ZW ((ZD hS).trans rfl);have c4:∀ p:BW V,p.v.cell? ⟨w.heap.size+1+1,4,none⟩=some (.int .i64 0):=ZW ((ZD hS).trans rfl);have c5:∀ p:BW V,p.v.cell? ⟨w.heap.size+1+1,5,none⟩=some (.int .i64 0):=ZW ((ZD hS).trans rfl);have c6:∀ p:BW V,p.v.cell? ⟨w.heap.size+1+1,6,none⟩=some (.int .i64 0):=ZW ((ZD hS).trans rfl);have c7:∀ p:BW V,p.v.cell? ⟨w.heap.size+1+1,7,none⟩=some (.int .u64 0):=ZW ((ZD hS).trans rfl);have hcw:w.heap.size+1+1 < V.heap.size:=by rw [hV];simp
 clear hV hbV hS hR;refine Zv (by assumption) (by kernel_rfl) ?_
 repeat (quiet_step (first|(go_at_call 75;refine Vb (HV.o _))))
 refine wpQuiet_nil ?_;intro wq hw';obtain ⟨⟨w0,hq⟩,hw''⟩:=hw';subst hw'';have hR:=(hq.block _ (by omega)).trans HR.o;have D0:wq.cell? ⟨w.heap.size+1,0,none⟩=some (.int .i64 0):=(ZD hR).trans rfl;have D1:wq.cell? ⟨w.heap.size+1,1,none⟩=some (.int .i64 0):=(ZD hR).trans rfl;have D2:wq.cell? ⟨w.heap.size+1,2,none⟩=some (.int .i64 0):=(ZD hR).trans rfl;have D3:wq.cell? ⟨w.heap.size+1,3,none⟩=some (.int .i64 0):=(ZD hR).trans rfl;have D4:wq.cell? ⟨w.heap.size+1,4,none⟩=some (.int .i64 0):=(ZD hR).trans rfl;have D5:wq.cell? ⟨w.heap.size+1,5,none⟩=some (.int .i64 0):=(ZD hR).trans rfl;have D6:wq.cell? ⟨w.heap.size+1,6,none⟩=some (.int .i64 0):=(ZD hR).trans rfl;have D7:wq.cell? ⟨w.heap.size+1,7,none⟩=some (.int .u64 0):=(ZD hR).trans rfl;have E0:=Lib.frozen_of_heap hR 0;have E1:=Lib.frozen_of_heap hR 1;have E2:=Lib.frozen_of_heap hR 2;have E3:=Lib.frozen_of_heap hR 3;have E4:=Lib.frozen_of_heap hR 4;have E5:=Lib.frozen_of_heap hR 5;have E6:=Lib.frozen_of_heap hR 6;have E7:=Lib.frozen_of_heap hR 7;have HQ:=zh hq;have HP:=zh (SupAt.put hR rfl Sup.zero);clear hR hq c0 c1 c2 c3 c4 c5 c6 c7 hmix hcw;go_wp2;obtain ⟨W8,hW8⟩:=xE (Jf wq (w.heap.size+1) Sup.zero);rw [<-hW8] at HP;rw [show (((((((wq.setCell ⟨w.heap.size+1,0,none⟩ (.int .i64 0)).setCell ⟨w.heap.size+1,1,none⟩ (.int .i64 0)).setCell ⟨w.heap.size+1,2,none⟩ (.int .i64 0)).setCell ⟨w.heap.size+1,3,none⟩ (.int .i64 0)).setCell ⟨w.heap.size+1,4,none⟩ (.int .i64 0)).setCell ⟨w.heap.size+1,5,none⟩ (.int .i64 0)).setCell ⟨w.heap.size+1,6,none⟩ (.int .i64 0)).setCell ⟨w.heap.size+1,7,none⟩ (.int .u64 0)=W8 from hW8.symm];obtain ⟨p0,p1,p2,p3,p4,p5,p6,p7⟩:=HP.o;have HW8:=zh hW8;clear hW8;refine bodyPost_ret (by simp [results,results242,go_sem,p0,p1,p2,p3,p4,p5,p6,p7];try rfl) rfl ?_;refine ⟨rfl,?_⟩;rw [HW8.o];exact U6 (HBV.o.trans (HQ.o.mono HBV.o.size)) (by omega) Sup.zero
def Dec (T:Nat->Nat)(n:Nat)(ws:List Nat)(s:Sup)(g:Bool):Prop:=(ws=[0,0,0,0,0,0,0,0]/\s=Sup.zero/\g=false)\/(ws=s.words T/\s.Ok/\s.L<=n/\g=true)
theorem Qa {w:World}{T:Nat->Nat}{s:Sup}{n:Nat}{g:Bool}{ws:List Nat}(hT:NTab w T)(hn:n<=4096)(h:Dec T n ws s g):
 Calls prog 242 #[.agg (ws.map u64).toArray,.int .u64 n] w fun e w'=>e=.returned (.tuple #[s.val,.bool g])/\Bl w w':=by
 rcases h with ⟨rfl,rfl,rfl⟩|⟨rfl,h,hl,rfl⟩
 ·exact ZCI
 ·exact ZCH hT h ⟨hl,hn⟩
open Go.Proofs.YtbpeehmepehkdaaGreatDoor.Size
variable {w w':World}{A:DAd}{F F':Nat->Option ZM}{T c c':Nat->Nat}{x x' L:Nat}
def Yz (s0 s1:Sup)(g0 g1:Bool):Array Value:=#[.int .i64 s0.V,.int .i64 s0.L,.int .i64 s0.R,.int .i64 s0.U,.int .i64 s0.D,.int .i64 s0.Q,.int .i64 s0.T,.int .u64 s0.G,
 .int .i64 s1.V,.int .i64 s1.L,.int .i64 s1.R,.int .i64 s1.U,.int .i64 s1.D,.int .i64 s1.Q,.int .i64 s1.T,.int .u64 s1.G,.bool g0,.bool g1]
def wdC (c:Nat->Nat)(b m:Nat):Nat->Value:=fun y=>if y < m then .int .u64 (c (b+y):Nat) else .int .u64 0
theorem ZBh (h:Ar w A F L T c)(w1:World)(hb:Bl w w1):Calls prog 202 #[.iface 116 (.pointer (some ⟨A.t 0,0,none⟩))] w1 fun e w'=>e=.returned (.int .u64 (L:Nat))/\w1=w':=by
 obtain ⟨s,h1,h2,rfl⟩:=(h.below hb).dev;exact ZFv h1 (by omega)
theorem ZA5 (h:Ar w A F L T c)(hL:2<=L){s0 s1:Sup}{g0 g1:Bool}(hd0:Dec T L [c 0,c 1,c 2,c 3,c 4,c 5,c 6,c 7] s0 g0)(hd1:Dec T L [c 8,c 9,c 10,c 11,c 12,c 13,c 14,c 15] s1 g1):
 Calls prog 194 #[.iface 116 (.pointer (some ⟨A.t 0,0,none⟩))] w fun e w'=>e=.returned (.tuple #[.agg (Yz s0 s1 g0 g1),.int .i64 0])/\Bl w w':=by
 have hL2:=h.lines;have HLO:=zh (ZBh h);have HER:=zh (fun (w1:World) (hb:Bl w w1)=>Zs h (i:=0) (by omega) w1 hb);have HLD:=zh (fun (w1:World) (hb:Bl w w1) (k:Nat) (hk:k < 16)=>show Calls prog 52 #[.pointer (some ⟨A.t 0,0,none⟩),.int .u64 (8 * k:Nat)] w1 (fun r w'=>r=.returned (.int .u64 (c k:Nat))/\w1=w') from by
  have:=Y4 h (i:=0) (by omega) w1 hb (8 * k) (by omega) (by omega);rw [show 8 * k / 8=k by omega] at this;exact this)
 have HD0:=zh (fun (w1:World) (hb:Bl w w1)=>Qa (w:=w1) (h.nib.below hb nR) hL2.2 hd0);have HD1:=zh (fun (w1:World) (hb:Bl w w1)=>Qa (w:=w1) (h.nib.below hb nR) hL2.2 hd1);simp only [List.map_cons,List.map_nil] at HD0 HD1;unfold u64 Sup.val at HD0 HD1;have HB0:=zh (Below.refl w.heap.size w);clear h hd0 hd1 hL hL2;go_in;go_upto_region 2 with fail;obtain ⟨b2,hb2⟩:=xE w.heap.size;obtain ⟨b4,hb4⟩:=xE (w.heap.size+1);obtain ⟨w1,hw1⟩:=xE ((w.alloc (.cells #[.int .i64 0,.int .i64 0,.int .i64 0,.int .i64 0,.int .i64 0,.int .i64 0,.int .i64 0,.int .u64 0,.int .i64 0,.int .i64 0,.int .i64 0,.int .i64 0,.int .i64 0,.int .i64 0,.int .i64 0,.int .u64 0,.bool false,.bool false] 318)).alloc (.cells #[.int .i64 0,.int .i64 0,.int .i64 0,.int .i64 0,.int .i64 0,.int .i64 0,.int .i64 0,.int .u64 0,.int .i64 0,.int .i64 0,.int .i64 0,.int .i64 0,.int .i64 0,.int .i64 0,.int .i64 0,.int .u64 0,.bool false,.bool false] 318));have HB1:=zh (show Bl w w1 by rw [hw1];exact ZA (ZA bR));have HX4:=zh (show w1.heap[b4]?=some (.cells (Yz ⟨0,0,0,0,0,0,0,0⟩ ⟨0,0,0,0,0,0,0,0⟩ false false) 318 (0,0)) by
  rw [hw1,hb4];have:=ZC (w.alloc (.cells #[.int .i64 0,.int .i64 0,.int .i64 0,.int .i64 0,.int .i64 0,.int .i64 0,.int .i64 0,.int .u64 0,.int .i64 0,.int .i64 0,.int .i64 0,.int .i64 0,.int .i64 0,.int .i64 0,.int .i64 0,.int .u64 0,.bool false,.bool false] 318)) (.cells #[.int .i64 0,.int .i64 0,.int .i64 0,.int .i64 0,.int .i64 0,.int .i64 0,.int .i64 0,.int .u64 0,.int .i64 0,.int .i64 0,.int .i64 0,.int .i64 0,.int .i64 0,.int .i64 0,.int .i64 0,.int .u64 0,.bool false,.bool false] 318);rw [show (w.alloc (.cells #[.int .i64 0,.int .i64 0,.int .i64 0,.int .i64 0,.int .i64 0,.int .i64 0,.int .i64 0,.int .u64 0,.int .i64 0,.int .i64 0,.int .i64 0,.int .i64 0,.int .i64 0,.int .i64 0,.int .i64 0,.int .u64 0,.bool false,.bool false] 318)).heap.size=w.heap.size+1 by simp] at this;exact this)
 have HX2:=zh (show w1.heap[b2]?=some (.cells #[.int .i64 0,.int .i64 0,.int .i64 0,.int .i64 0,.int .i64 0,.int .i64 0,.int .i64 0,.int .u64 0,.int .i64 0,.int .i64 0,.int .i64 0,.int .i64 0,.int .i64 0,.int .i64 0,.int .i64 0,.int .u64 0,.bool false,.bool false] 318 (0,0)) by rw [hw1,hb2,ZK (by simp)];exact ZC w _);have HBB:=zh (show w.heap.size<=b2/\b2≠b4/\w.heap.size<=b4 by omega);rw [<-hw1,<-hb4,<-hb2];clear hw1 hb2 hb4;go_wp2_with fail;refine (HLO.o _ HB1.o).mono ?_;rintro e w' ⟨rfl,rfl⟩;go_wp2_with fail
 go_loopw [11] (fun i wr=>∃ k:Nat,k<=2/\i=.int .i64 k/\Bl w wr/\wr.heap[b2]?=some (.cells #[.int .i64 0,.int .i64 0,.int .i64 0,.int .i64 0,.int .i64 0,.int .i64 0,.int .i64 0,.int .u64 0,.int .i64 0,.int .i64 0,.int .i64 0,.int .i64 0,.int .i64 0,.int .i64 0,.int .i64 0,.int .u64 0,.bool false,.bool false] 318 (0,0))/\wr.heap[b4]?=some (.cells (if k=0 then Yz ⟨0,0,0,0,0,0,0,0⟩ ⟨0,0,0,0,0,0,0,0⟩ false false else if k=1 then Yz s0 ⟨0,0,0,0,0,0,0,0⟩ g0 false else Yz s0 s1 g0 g1) 318 (0,0))) (fun i _=>2 - (intOf i).toNat)
 case atStart=>exact ⟨0,by omega,rfl,HB1.o,HX2.o,HX4.o⟩
 case round=>
 obtain ⟨k,hk,rfl,hb,h2,h4⟩:=hrel;obtain ⟨V,hV⟩:=xE wr;rw [<-hV] at hb h2 h4 ⊢;have HB2:=zh hb;have HY2:=zh h2;have HY4:=zh h4;clear hb h2 h4 hV;rcases (show k=0\/k=1\/k=2 by omega) with rfl|rfl|rfl
 ·go_upto_region 7 with fail
  obtain ⟨w5,hw5⟩:=xE (V.alloc (.cells #[.int .u64 0,.int .u64 0,.int .u64 0,.int .u64 0,.int .u64 0,.int .u64 0,.int .u64 0,.int .u64 0] 328));obtain ⟨b7,hb7⟩:=xE V.heap.size;have HB5:=zh (show Bl V w5 by rw [hw5];exact ZA bR);have HR5:=zh (show Row w5 b7 328 8 (wdC c 0 0) by
   rw [hw5,hb7];refine ⟨_,ZC V _,Nat.le_refl 8,fun y hy=>?_⟩;rcases (show y=0\/y=1\/y=2\/y=3\/y=4\/y=5\/y=6\/y=7 by omega) with rfl|rfl|rfl|rfl|rfl|rfl|rfl|rfl <;> rfl)
  have HB7:=zh (show V.heap.size<=b7 by omega);rw [<-hw5,<-hb7];clear hw5 hb7;go_wp2_with fail
  go_loopw [14] (fun j wq=>∃ m:Nat,m<=8/\j=.int .i64 m/\Bl V wq/\Row wq b7 328 8 (wdC c 0 m)) (fun j _=>8 - (intOf j).toNat)
  case atStart=>exact ⟨0,by omega,rfl,HB5.o,HR5.o⟩
  case round=>
  obtain ⟨m,hm,rfl,hb,hr⟩:=hrel;have HB6:=zh hb;have HR6:=zh hr;have HBW:=zh (HB2.o.trans (hb.mono HB2.o.size));clear hb hr
  by_cases hlt:m < 8
  ·have b8:(m:Int) < 8:=by omega
   have HM:=zh hlt;have HL2:=zh (show Calls prog 52 #[.pointer (some ⟨A.t 0,0,none⟩),.int .u64 ((m:Int) * 8)] wr (fun r w'=>r=.returned (.int .u64 (c (0+m):Nat))/\wr=w') from by
    have:=HLD.o _ HBW.o (0+m) (by omega);rw [show ((8 * (0+m):Nat):Int)=((m:Int) * 8) by omega] at this;exact this)
   have z7:=HR6.o.cell m (by omega);have f7:=HR6.o.free m;have hcv:IntKind.u64.wrap (((m:Int) * 8))=((m:Int) * 8):=by
    show (((m:Int) * 8)) % 18446744073709551616=((m:Int) * 8);omega
   obtain ⟨cv,hcvv⟩:=xE (c (0+m));rw [<-hcvv] at HL2;have HCV:=zh hcvv;clear hlt hm hcvv;go_wp2_with (first|(go_invoke;go_simp;go_at_call 52;refine HL2.o.mono ?_;rintro e' V1 ⟨rfl,rfl⟩));have HE:=zh (show Row (wr.setCell ⟨b7,m,none⟩ (.int .u64 (cv:Nat))) b7 328 8 (wdC c 0 (m+1)) from (HR6.o.set m _).congr fun y hy=>by
    unfold wdC
    by_cases e:y=m
    ·rw [ZLX e,ZLX (by omega),HCV.o,e]
    ·rw [ZLU e]
     by_cases e2:y < m
     ·rw [ZLX (by omega),ZLX e2]
     ·rw [ZLU (by omega),ZLU e2])
   go_wp2_with fail;exact ⟨⟨m+1,by have:=HM.o;omega,rfl,ZE HB6.o HB7.o,HE.o⟩,by have:=HM.o;simp [intOf];omega⟩
  ·obtain rfl:m=8:=by omega
   clear hlt hm;have z0:=HR6.o.cell 0 (by omega);have z1:=HR6.o.cell 1 (by omega);have z2:=HR6.o.cell 2 (by omega);have z3:=HR6.o.cell 3 (by omega);have z4:=HR6.o.cell 4 (by omega);have z5:=HR6.o.cell 5 (by omega);have z6:=HR6.o.cell 6 (by omega);have z7:=HR6.o.cell 7 (by omega);simp only [wdC] at z0 z1 z2 z3 z4 z5 z6 z7;go_wp2_with fail;refine (HD0.o _ HBW.o).mono ?_;rintro e w9 ⟨rfl,hb9⟩;have hx9:w9.heap[b4]?=some (.cells (Yz ⟨0,0,0,0,0,0,0,0⟩ ⟨0,0,0,0,0,0,0,0⟩ false false) 318 (0,0)):=((HB6.o.trans (hb9.mono HB6.o.size)).block b4 (heap_lt HY4.o)).trans HY4.o;have hy9:w9.heap[b2]?=_:=((HB6.o.trans (hb9.mono HB6.o.size)).block b2 (heap_lt HY2.o)).trans HY2.o;have hb9:Bl w w9:=HBW.o.trans (hb9.mono HBW.o.size);have D0:w9.cell? ⟨b4,0,none⟩=some (.int .i64 0):=(ZD hx9).trans rfl;have D1:w9.cell? ⟨b4,1,none⟩=some (.int .i64 0):=(ZD hx9).trans rfl;have D2:w9.cell? ⟨b4,2,none⟩=some (.int .i64 0):=(ZD hx9).trans rfl;have D3:w9.cell? ⟨b4,3,none⟩=some (.int .i64 0):=(ZD hx9).trans rfl;have D4:w9.cell? ⟨b4,4,none⟩=some (.int .i64 0):=(ZD hx9).trans rfl;have D5:w9.cell? ⟨b4,5,none⟩=some (.int .i64 0):=(ZD hx9).trans rfl;have D6:w9.cell? ⟨b4,6,none⟩=some (.int .i64 0):=(ZD hx9).trans rfl;have D7:w9.cell? ⟨b4,7,none⟩=some (.int .u64 0):=(ZD hx9).trans rfl;have D16:w9.cell? ⟨b4,16,none⟩=some (.bool false):=(ZD hx9).trans rfl;have E0:w9.frozen? ⟨b4,0,none⟩=false:=ZH hx9;have E1:w9.frozen? ⟨b4,1,none⟩=false:=ZH hx9;have E2:w9.frozen? ⟨b4,2,none⟩=false:=ZH hx9;have E3:w9.frozen? ⟨b4,3,none⟩=false:=ZH hx9;have E4:w9.frozen? ⟨b4,4,none⟩=false:=ZH hx9;have E5:w9.frozen? ⟨b4,5,none⟩=false:=ZH hx9;have E6:w9.frozen? ⟨b4,6,none⟩=false:=ZH hx9;have E7:w9.frozen? ⟨b4,7,none⟩=false:=ZH hx9;have E16:w9.frozen? ⟨b4,16,none⟩=false:=ZH hx9;obtain ⟨w10,hw10⟩:=xE ((((((((((w9).setCell ⟨b4,0,none⟩ (.int .i64 s0.V)).setCell ⟨b4,1,none⟩ (.int .i64 s0.L)).setCell ⟨b4,2,none⟩ (.int .i64 s0.R)).setCell ⟨b4,3,none⟩ (.int .i64 s0.U)).setCell ⟨b4,4,none⟩ (.int .i64 s0.D)).setCell ⟨b4,5,none⟩ (.int .i64 s0.Q)).setCell ⟨b4,6,none⟩ (.int .i64 s0.T)).setCell ⟨b4,7,none⟩ (.int .u64 s0.G)).setCell ⟨b4,16,none⟩ (.bool g0));have HE:=zh (show Bl w w10/\w10.heap[b2]?=some (.cells #[.int .i64 0,.int .i64 0,.int .i64 0,.int .i64 0,.int .i64 0,.int .i64 0,.int .i64 0,.int .u64 0,.int .i64 0,.int .i64 0,.int .i64 0,.int .i64 0,.int .i64 0,.int .i64 0,.int .i64 0,.int .u64 0,.bool false,.bool false] 318 (0,0))/\w10.heap[b4]?=some (.cells (Yz s0 ⟨0,0,0,0,0,0,0,0⟩ g0 false) 318 (0,0)) from by
    rw [hw10];exact ⟨ZE (ZE (ZE (ZE (ZE (ZE (ZE (ZE (ZE (hb9) HBB.o.2.2) HBB.o.2.2) HBB.o.2.2) HBB.o.2.2) HBB.o.2.2) HBB.o.2.2) HBB.o.2.2) HBB.o.2.2) HBB.o.2.2,(ZG HBB.o.2.1).trans ((ZG HBB.o.2.1).trans ((ZG HBB.o.2.1).trans ((ZG HBB.o.2.1).trans ((ZG HBB.o.2.1).trans ((ZG HBB.o.2.1).trans ((ZG HBB.o.2.1).trans ((ZG HBB.o.2.1).trans ((ZG HBB.o.2.1).trans (hy9))))))))),(ZI (ZI (ZI (ZI (ZI (ZI (ZI (ZI (ZI (hx9)))))))))).trans (congrArg (fun z=>some (Obj.cells z 318 (0,0))) (by kernel_rfl))⟩)
   clear hb9 hx9 hy9 z0 z1 z2 z3 z4 z5 z6 z7;go_wp2_with fail;rw [<-hw10];exact ⟨⟨1,by omega,rfl,HE.o.1,HE.o.2.1,HE.o.2.2⟩,by simp [intOf]⟩
 ·go_upto_region 7 with fail
  obtain ⟨w5,hw5⟩:=xE (V.alloc (.cells #[.int .u64 0,.int .u64 0,.int .u64 0,.int .u64 0,.int .u64 0,.int .u64 0,.int .u64 0,.int .u64 0] 328));obtain ⟨b7,hb7⟩:=xE V.heap.size;have HB5:=zh (show Bl V w5 by rw [hw5];exact ZA bR);have HR5:=zh (show Row w5 b7 328 8 (wdC c 8 0) by
   rw [hw5,hb7];refine ⟨_,ZC V _,Nat.le_refl 8,fun y hy=>?_⟩;rcases (show y=0\/y=1\/y=2\/y=3\/y=4\/y=5\/y=6\/y=7 by omega) with rfl|rfl|rfl|rfl|rfl|rfl|rfl|rfl <;> rfl)
  have HB7:=zh (show V.heap.size<=b7 by omega);rw [<-hw5,<-hb7];clear hw5 hb7;go_wp2_with fail
  go_loopw [14] (fun j wq=>∃ m:Nat,m<=8/\j=.int .i64 m/\Bl V wq/\Row wq b7 328 8 (wdC c 8 m)) (fun j _=>8 - (intOf j).toNat)
  case atStart=>exact ⟨0,by omega,rfl,HB5.o,HR5.o⟩
  case round=>
  obtain ⟨m,hm,rfl,hb,hr⟩:=hrel;have HB6:=zh hb;have HR6:=zh hr;have HBW:=zh (HB2.o.trans (hb.mono HB2.o.size));clear hb hr
  by_cases hlt:m < 8
  ·have b8:(m:Int) < 8:=by omega
   have HM:=zh hlt;have HL2:=zh (show Calls prog 52 #[.pointer (some ⟨A.t 0,0,none⟩),.int .u64 (64+(m:Int) * 8)] wr (fun r w'=>r=.returned (.int .u64 (c (8+m):Nat))/\wr=w') from by
    have:=HLD.o _ HBW.o (8+m) (by omega);rw [show ((8 * (8+m):Nat):Int)=(64+(m:Int) * 8) by omega] at this;exact this)
   have z7:=HR6.o.cell m (by omega);have f7:=HR6.o.free m;have hcv:IntKind.u64.wrap ((64+(m:Int) * 8))=(64+(m:Int) * 8):=by
    show ((64+(m:Int) * 8)) % 18446744073709551616=(64+(m:Int) * 8);omega
   obtain ⟨cv,hcvv⟩:=xE (c (8+m));rw [<-hcvv] at HL2;have HCV:=zh hcvv;clear hlt hm hcvv;go_wp2_with (first|(go_invoke;go_simp;go_at_call 52;refine HL2.o.mono ?_;rintro e' V1 ⟨rfl,rfl⟩));have HE:=zh (show Row (wr.setCell ⟨b7,m,none⟩ (.int .u64 (cv:Nat))) b7 328 8 (wdC c 8 (m+1)) from (HR6.o.set m _).congr fun y hy=>by
    unfold wdC
    by_cases e:y=m
    ·rw [ZLX e,ZLX (by omega),HCV.o,e]
    ·rw [ZLU e]
     by_cases e2:y < m
     ·rw [ZLX (by omega),ZLX e2]
     ·rw [ZLU (by omega),ZLU e2])
   go_wp2_with fail;exact ⟨⟨m+1,by have:=HM.o;omega,rfl,ZE HB6.o HB7.o,HE.o⟩,by have:=HM.o;simp [intOf];omega⟩
  ·obtain rfl:m=8:=by omega
   clear hlt hm;have z0:=HR6.o.cell 0 (by omega);have z1:=HR6.o.cell 1 (by omega);have z2:=HR6.o.cell 2 (by omega);have z3:=HR6.o.cell 3 (by omega);have z4:=HR6.o.cell 4 (by omega);have z5:=HR6.o.cell 5 (by omega);have z6:=HR6.o.cell 6 (by omega);have z7:=HR6.o.cell 7 (by omega);simp only [wdC] at z0 z1 z2 z3 z4 z5 z6 z7;go_wp2_with fail;refine (HD1.o _ HBW.o).mono ?_;rintro e w9 ⟨rfl,hb9⟩;have hx9:w9.heap[b4]?=some (.cells (Yz s0 ⟨0,0,0,0,0,0,0,0⟩ g0 false) 318 (0,0)):=((HB6.o.trans (hb9.mono HB6.o.size)).block b4 (heap_lt HY4.o)).trans HY4.o;have hy9:w9.heap[b2]?=_:=((HB6.o.trans (hb9.mono HB6.o.size)).block b2 (heap_lt HY2.o)).trans HY2.o;have hb9:Bl w w9:=HBW.o.trans (hb9.mono HBW.o.size);have D8:w9.cell? ⟨b4,8,none⟩=some (.int .i64 0):=(ZD hx9).trans rfl;have D9:w9.cell? ⟨b4,9,none⟩=some (.int .i64 0):=(ZD hx9).trans rfl;have D10:w9.cell? ⟨b4,10,none⟩=some (.int .i64 0):=(ZD hx9).trans rfl;have D11:w9.cell? ⟨b4,11,none⟩=some (.int .i64 0):=(ZD hx9).trans rfl;have D12:w9.cell? ⟨b4,12,none⟩=some (.int .i64 0):=(ZD hx9).trans rfl;have D13:w9.cell? ⟨b4,13,none⟩=some (.int .i64 0):=(ZD hx9).trans rfl;have D14:w9.cell? ⟨b4,14,none⟩=some (.int .i64 0):=(ZD hx9).trans rfl;have D15:w9.cell? ⟨b4,15,none⟩=some (.int .u64 0):=(ZD hx9).trans rfl;have D17:w9.cell? ⟨b4,17,none⟩=some (.bool false):=(ZD hx9).trans rfl;have E8:w9.frozen? ⟨b4,8,none⟩=false:=ZH hx9;have E9:w9.frozen? ⟨b4,9,none⟩=false:=ZH hx9;have E10:w9.frozen? ⟨b4,10,none⟩=false:=ZH hx9;have E11:w9.frozen? ⟨b4,11,none⟩=false:=ZH hx9;have E12:w9.frozen? ⟨b4,12,none⟩=false:=ZH hx9;have E13:w9.frozen? ⟨b4,13,none⟩=false:=ZH hx9;have E14:w9.frozen? ⟨b4,14,none⟩=false:=ZH hx9;have E15:w9.frozen? ⟨b4,15,none⟩=false:=ZH hx9;have E17:w9.frozen? ⟨b4,17,none⟩=false:=ZH hx9;obtain ⟨w10,hw10⟩:=xE ((((((((((w9).setCell ⟨b4,8,none⟩ (.int .i64 s1.V)).setCell ⟨b4,9,none⟩ (.int .i64 s1.L)).setCell ⟨b4,10,none⟩ (.int .i64 s1.R)).setCell ⟨b4,11,none⟩ (.int .i64 s1.U)).setCell ⟨b4,12,none⟩ (.int .i64 s1.D)).setCell ⟨b4,13,none⟩ (.int .i64 s1.Q)).setCell ⟨b4,14,none⟩ (.int .i64 s1.T)).setCell ⟨b4,15,none⟩ (.int .u64 s1.G)).setCell ⟨b4,17,none⟩ (.bool g1));have HE:=zh (show Bl w w10/\w10.heap[b2]?=some (.cells #[.int .i64 0,.int .i64 0,.int .i64 0,.int .i64 0,.int .i64 0,.int .i64 0,.int .i64 0,.int .u64 0,.int .i64 0,.int .i64 0,.int .i64 0,.int .i64 0,.int .i64 0,.int .i64 0,.int .i64 0,.int .u64 0,.bool false,.bool false] 318 (0,0))/\w10.heap[b4]?=some (.cells (Yz s0 s1 g0 g1) 318 (0,0)) from by
    rw [hw10];exact ⟨ZE (ZE (ZE (ZE (ZE (ZE (ZE (ZE (ZE (hb9) HBB.o.2.2) HBB.o.2.2) HBB.o.2.2) HBB.o.2.2) HBB.o.2.2) HBB.o.2.2) HBB.o.2.2) HBB.o.2.2) HBB.o.2.2,(ZG HBB.o.2.1).trans ((ZG HBB.o.2.1).trans ((ZG HBB.o.2.1).trans ((ZG HBB.o.2.1).trans ((ZG HBB.o.2.1).trans ((ZG HBB.o.2.1).trans ((ZG HBB.o.2.1).trans ((ZG HBB.o.2.1).trans ((ZG HBB.o.2.1).trans (hy9))))))))),(ZI (ZI (ZI (ZI (ZI (ZI (ZI (ZI (ZI (hx9)))))))))).trans (congrArg (fun z=>some (Obj.cells z 318 (0,0))) (by kernel_rfl))⟩)
   clear hb9 hx9 hy9 z0 z1 z2 z3 z4 z5 z6 z7;go_wp2_with fail;rw [<-hw10];exact ⟨⟨2,by omega,rfl,HE.o.1,HE.o.2.1,HE.o.2.2⟩,by simp [intOf]⟩
 ·have hy4:V.heap[b4]?=some (.cells (Yz s0 s1 g0 g1) 318 (0,0)):=HY4.o
  go_upto_region 14 with fail;obtain ⟨CS,hCS⟩:=xE (Yz s0 s1 g0 g1);have HCS:=zh hCS;have HCZ:=zh (show CS.size=18 by rw [hCS];rfl);rw [<-hCS] at hy4;have HS0:=zh (show Bl w V.drew/\∀ j v,CS.toList[j]?=some v->V.drew.cell? ⟨b4,0+j,none⟩=some v from ⟨ZB HB2.o,fun j v hj=>by
   rw [ZLu,show V.drew.cell? ⟨b4,j,none⟩=V.cell? ⟨b4,j,none⟩ from rfl,ZD hy4,<-ZLx];exact hj⟩)
  have hall:CS.all (·.oneCell')=true:=by rw [hCS];simp [Yz,Value.oneCell']
  clear hCS;refine Zy 4 (fun wx=>Bl w wx/\∀ j v,CS.toList[j]?=some v->wx.cell? ⟨b4,0+j,none⟩=some v) (by kernel_rfl) ?_;refine Zj (i:=0) (z:=4) (v:=.agg CS) (by decide) rfl (by kernel_rfl) (by kernel_rfl) (by kernel_rfl) (by kernel_rfl) (by kernel_rfl) (fun _ _ _ h=>h) HS0.o (Or.inl ⟨by rfl,fun w' hc=>?_⟩) ?_
  ·have hl:=Yu (P:=prog) w' b4 0 318 CS _ hc.2 underlying318 rfl (by rw [HCZ.o];kernel_rfl);simp [execOp,Act.eval,Instr.loadAt,Instr.sureAddr,hl]
  (try simp only [Act.put,ZLe,ZLY,ZLa,ZLT,ZLV,ZLW])
  refine Zj (i:=1) (z:=4) (v:=.iface 116 (.pointer (some ⟨A.t 0,0,none⟩))) (by decide) rfl (by kernel_rfl) (by kernel_rfl) (by kernel_rfl) (by kernel_rfl) (by kernel_rfl) (fun _ _ _ h=>h) HS0.o (Or.inl ⟨by rfl,fun w' hc=>?_⟩) ?_
  ·go_simp
  (try simp only [Act.put,ZLe,ZLY,ZLa,ZLT,ZLV,ZLW])
  refine YA (j:=2) (z:=4) (by kernel_rfl) rfl (fun K hK=>?_);refine Yw rfl (HER.o _ HS0.o.1) (by kernel_rfl) ?_;rintro e6 w6 ⟨rfl,rfl⟩;refine ⟨_,rfl,hK _ _ HS0.o ?_⟩;clear hK K
  (try simp only [Act.put,ZLe,ZLY,ZLa,ZLT,ZLV,ZLW])
  refine YA (j:=3) (z:=4) (by kernel_rfl) rfl (fun K hK=>?_);have hgg:V.drew.heap[b2]?=some (.cells #[.int .i64 0,.int .i64 0,.int .i64 0,.int .i64 0,.int .i64 0,.int .i64 0,.int .i64 0,.int .u64 0,.int .i64 0,.int .i64 0,.int .i64 0,.int .i64 0,.int .i64 0,.int .i64 0,.int .i64 0,.int .u64 0,.bool false,.bool false] 318 (0,0)):=HY2.o;refine Xg rfl 318 (.tmp 2) (.tmp 41) rfl b2 CS rfl rfl 318 _ hgg (by rw [HCZ.o];kernel_rfl) (by rw [HCZ.o];rfl) hall ?_;have HW9:=zh (show Bl w (V.drew.setRow b2 CS)/\(V.drew.setRow b2 CS).heap[b2]?=some (.cells CS 318 (0,0)) from ⟨Yi HS0.o.1 HBB.o.1 CS,setRow_heap _ _ _ _ _ _ hgg⟩);refine hK _ _ ⟨HW9.o.1,fun j v hj=>?_⟩ ?_
  ·have hne:b4≠b2:=fun e=>HBB.o.2.1 e.symm
   rw [cell_setRow_other _ _ _ _ hne];exact HS0.o.2 j v hj
  clear hK K hgg;obtain ⟨w9,hw9⟩:=xE (V.drew.setRow b2 CS);rw [<-hw9] at HW9 ⊢;clear hw9 HS0
  (try simp only [Act.put,ZLe,ZLY,ZLa,ZLT,ZLV,ZLW])
  refine Vm (z:=4) (by kernel_rfl) rfl (by kernel_rfl) (by kernel_rfl) (fun K hK=>?_);go_simp;refine hK _ _ ?_;clear hK K;go_wp2_with fail;refine bodyPost_ret (VQ rfl _ _ b2 318 CS (0,0) _ rfl HW9.o.2 underlying318 rfl (by rw [HCZ.o];kernel_rfl)) rfl ?_;refine ⟨?_,HW9.o.1⟩;rw [HCS.o];rfl
theorem ZDO (h:Ar w A F L T c)(hL:2<=L)(w1:World)(hb:Bl w w1):Calls prog 193 #[.iface 116 (.pointer (some ⟨A.t 0,0,none⟩))] w1 fun e w'=>e=.returned (.int .i64 0)/\w1=w':=by
 have HS:=zh (ZBh h w1 hb);have HE:=zh (Zs h (i:=0) (by omega) w1 hb);have hL2:(2:Int)<=L:=by omega
 clear h hb hL;go_in;go_wp2_with fail;refine HS.o.mono ?_;rintro e w' ⟨rfl,rfl⟩;go_wp2_with (first|(go_invoke;go_simp;go_at_call 78;refine HE.o.mono ?_;rintro e w' ⟨rfl,rfl⟩));go_returns;exact ⟨rfl,rfl⟩
theorem ZJN {s0 s1:Sup}:Calls prog 205 #[.agg (Yz s0 s1 true false)] w fun e w'=>e=.returned (.tuple #[.int .i64 0,.bool true])/\Bl w w':=by
 unfold Yz;have HB:=zh (Below.refl w.heap.size w);go_in;go_wp2_with fail
 go_region
 go_wp2;go_returns;exact ⟨rfl,by repeat (with_reducible first|exact HB.o|apply ZA|apply ZB)⟩
theorem ZJK:Calls prog 195 #[.bool false] w fun e w'=>e=.returned (.int .i64 10)/\w=w':=by
 go_in;go_wp2;go_returns;exact ⟨rfl,rfl⟩
theorem ZGN (h:Ar w A F L T c)(hL:2<=L)(hz:∀ y,y < 16->c y=0):
 Calls prog 126 #[.iface 116 (.pointer (some ⟨A.t 0,0,none⟩))] w fun e w'=>e=.returned (.tuple #[.int .i64 10,.int .i64 10])/\Bl w w':=by
 have HU:=zh (ZDO h hL);have HS:=zh (ZA5 (s0:=Sup.zero) (s1:=Sup.zero) (g0:=false) (g1:=false) h hL (.inl ⟨by simp [hz],rfl,rfl⟩) (.inl ⟨by simp [hz],rfl,rfl⟩));have HC:=zh (fun (wx:World)=>ZJK (w:=wx));have HB:=zh (Below.refl w.heap.size w);unfold Yz at HS;clear h hL hz;go_in;go_wp2_with fail;refine (HU.o _ HB.o).mono ?_;rintro e w' ⟨rfl,rfl⟩;go_wp2_with fail;refine HS.o.mono ?_;rintro e w1 ⟨rfl,hb1⟩;have HB1:=zh hb1;clear hb1;obtain ⟨CP,hCP⟩:∃ CP:Array Value,CP=#[.int .i64 (Sup.zero.V:Nat),.int .i64 (Sup.zero.L:Nat),.int .i64 (Sup.zero.R:Nat),.int .i64 (Sup.zero.U:Nat),.int .i64 (Sup.zero.D:Nat),.int .i64 (Sup.zero.Q:Nat),.int .i64 (Sup.zero.T:Nat),.int .u64 (Sup.zero.G:Nat),.int .i64 (Sup.zero.V:Nat),.int .i64 (Sup.zero.L:Nat),.int .i64 (Sup.zero.R:Nat),.int .i64 (Sup.zero.U:Nat),.int .i64 (Sup.zero.D:Nat),.int .i64 (Sup.zero.Q:Nat),.int .i64 (Sup.zero.T:Nat),.int .u64 (Sup.zero.G:Nat),.bool false,.bool false]:=⟨_,rfl⟩
 go_upto_region 8 with fail;rw [<-hCP];obtain ⟨w2,hw2⟩:=xE (w1.alloc (.cells CP 318));have hx2:w2.heap[w1.heap.size]?=some (.cells CP 318 (0,0)):=by rw [hw2];exact ZC _ _
 obtain ⟨cb,hcb⟩:=xE w1.heap.size;have HB2:=zh (show Bl w w2 by rw [hw2];exact ZA HB1.o);have c16:w2.cell? ⟨w1.heap.size,16,none⟩=some (.bool false):=by rw [ZD hx2,hCP];rfl
 have c17:w2.cell? ⟨w1.heap.size,17,none⟩=some (.bool false):=by rw [ZD hx2,hCP];rfl
 rw [<-hcb] at c16 c17;rw [<-hw2,<-hcb];clear hw2 hcb hx2 hCP
 go_region_held3 (fun wx=>wx.cell? ⟨cb,16,none⟩=some (.bool false)/\wx.cell? ⟨cb,17,none⟩=some (.bool false))
  (first|assumption|exact ⟨c16,c17⟩)
  (first
    |(go_at_call 195;refine (HC.o _).mono ?_;rintro e' V2 ⟨rfl,rfl⟩))
 go_wp2;go_returns;exact ⟨rfl,ZB HB2.o⟩
end
end Go.Proofs.YtbpeehmepehkdaaGreatDoor.Dv
