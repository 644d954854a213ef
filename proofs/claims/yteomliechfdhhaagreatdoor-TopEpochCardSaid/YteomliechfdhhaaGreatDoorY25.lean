/- Part 25. -/
import Derived.Test.YteomliechfdhhaaGreatDoorY24
set_option maxHeartbeats 8000000
set_option maxRecDepth 20000
set_option linter.all false
namespace Go.Proofs.YteomliechfdhhaaGreatDoor.Dv
open Tryz
section
open Go.RowKit
structure Sup where
 V:Nat
 L:Nat
 R:Nat
 U:Nat
 D:Nat
 Q:Nat
 T:Nat
 G:Nat
def Sup.val (s:Sup):Value:=.agg #[.int .i64 s.V,.int .i64 s.L,.int .i64 s.R,.int .i64 s.U,.int .i64 s.D,.int .i64 s.Q,.int .i64 s.T,.int .u64 s.G]
def Sup.hl (s:Sup):Nat:=11+s.R+s.U+s.D+s.Q+s.T
def Sup.heap (s:Sup):Nat:=(s.L - s.hl) / 32 * 32
structure Sup.Ok (s:Sup):Prop where
 v:1<=s.V/\s.V<=65535
 l:s.L<=4096
 r:1<=s.R/\1<=s.U/\1<=s.D
 h:s.hl+32<=s.L
 g:s.G < 18446744073709551616
theorem ZAh {w:World}{s:Sup}(h:s.Ok):Calls prog 87 #[s.val] w fun e w'=>e=.returned (.int .i64 (s.heap:Nat))/\Bl w w':=by
 obtain ⟨V,L,R,U,D,Q,T,G⟩:=s;have hh:=h.h;have hl:=h.l;unfold Sup.heap Sup.val Sup.hl at *;dsimp only at *;clear h;have b1:(L:Int)<=4096:=by omega
 have b2:(R:Int)<=4096:=by omega
 have b3:(U:Int)<=4096:=by omega
 have b4:(D:Int)<=4096:=by omega
 have b5:(Q:Int)<=4096:=by omega
 have b6:(T:Int)<=4096:=by omega
 have e:(((L - (11+R+U+D+Q+T)) / 32 * 32:Nat):Int)=((L:Int) - 2 - 8 - R - U - D - 1 - Q - T) - ((L:Int) - 2 - 8 - R - U - D - 1 - Q - T) % 32:=by omega
 rw [e];have d1:decide ((L:Int) - 2 - 8 - R - U - D - 1 - Q - T < 32)=false:=ZLB (by omega);have d2:¬ ((L:Int) - 2 - 8 - R - U - D - 1 - Q - T < 32):=by omega
 have d3:0<=(L:Int) - 2 - 8 - R - U - D - 1 - Q - T:=by omega
 clear e hh hl;go_in;go_wp2;go_returns;exact ⟨rfl,ZA bR⟩
def mx (x y:Int):Int:=if y > x then y else x
theorem ZCc {P:Program}(ts:Array TypeId)(t:TypeId)(w:World)(a b c d e:Int):(Builtin.max_ ts t #[.int .i64 a,.int .i64 b,.int .i64 c,.int .i64 d,.int .i64 e]).run P w=.ok (.int .i64 (mx (mx (mx (mx a b) c) d) e)) w:=by
 simp [Builtin.max_,Builtin.max2,mx]
theorem VA {w:World}{s:Sup}(h:s.Ok):Calls prog 45 #[s.val] w fun e w'=>e=.returned (.bool true)/\Bl w w':=by
 have HH:=zh (fun (w1:World)=>ZAh (w:=w1) h);have hge:32<=s.heap:=by have:=h.h;unfold Sup.heap;omega
 obtain ⟨k,hk⟩:=xE s.heap;rw [<-hk] at HH hge;obtain ⟨V,L,R,U,D,Q,T,G⟩:=s;have hh:=h.h;have hl:=h.l;have hr:=h.r;have hv:=h.v;unfold Sup.val Sup.hl at *;dsimp only at *;clear h hk;have b0:(32:Int)<=k:=by omega
 have b1:(L:Int)<=4096:=by omega
 have a0:(1:Int)<=V:=by omega
 have a1:(V:Int)<=65535:=by omega
 have a2:(1:Int)<=L:=by omega
 have m1:¬ (min (min (R:Int) U) D < 1):=by omega
 have m2:¬ (min (Q:Int) T < 0):=by omega
 have hmx:=fun (ts:Array TypeId) (t:TypeId) (w:World)=>ZCc (P:=prog) ts t w R U D Q T
 obtain ⟨M,hM⟩:=xE (mx (mx (mx (mx (R:Int) U) D) Q) T);have m3:M<=L:=by rw [hM];unfold mx;omega
 rw [<-hM] at hmx;clear hh hl hr hv hge hM;go_in;go_wp2_with fail
 all_goals
  refine (HH.o _).mono ?_;rintro e w1 ⟨rfl,hb⟩;have HB:=zh ((ZA (Below.refl _ w)).trans (hb.mono (by simp)));clear hb;go_wp2;go_returns;exact ⟨rfl,HB.o⟩
theorem ZFE {w:World}{A:DAd}{s:DSt}{F:Nat->Option ZK}(h:Dev w A s F){i:Nat}(hi:i < 8):
 Calls prog 151 #[Xg (A.t i)] w fun e w'=>e=.returned (.int .u64 (s.L:Nat))/\w=w':=by
 have HS:=zh (ZAn h hi);have hL:=h.ok.lines;have e1:((s.L * 64:Nat):Int) / 64=(s.L:Int):=by omega
 obtain ⟨M,hM⟩:∃ M:Int,M=((s.L * 64:Nat):Int):=⟨_,rfl⟩
 rw [<-hM] at HS e1;have b1:0<=M:=by omega
 have b2:M < 18446744073709551616:=by omega
 clear h hM;unfold Xg ptr at *;rw [<-e1];clear e1;go_in;go_wp2_with fail;refine HS.o.mono ?_;rintro e w' ⟨rfl,rfl⟩;go_wp2;go_returns;exact ⟨rfl,rfl⟩
def Sup.sizes (s:Sup):List Nat:=[2,8,s.R,s.U,s.D,1,s.Q,s.T,s.heap]
def Sup.at (s:Sup)(r:Nat):Nat:=(s.sizes.take r).sum
theorem Sup.at_succ (s:Sup){r:Nat}(h:r < 9):s.at (r+1)=s.at r+s.sizes.getD r 0:=by
 have hl:r < s.sizes.length:=h;unfold Sup.at
 rw [List.take_add_one,ZK9 hl,List.sum_append];simp [List.getD,hl]
def SupAt (w:World)(b:Nat)(s:Sup):Prop:=w.cell? ⟨b,0,none⟩=some (.int .i64 s.V)/\w.cell? ⟨b,1,none⟩=some (.int .i64 s.L)/\w.cell? ⟨b,2,none⟩=some (.int .i64 s.R)/\w.cell? ⟨b,3,none⟩=some (.int .i64 s.U)/\w.cell? ⟨b,4,none⟩=some (.int .i64 s.D)/\
 w.cell? ⟨b,5,none⟩=some (.int .i64 s.Q)/\w.cell? ⟨b,6,none⟩=some (.int .i64 s.T)/\w.cell? ⟨b,7,none⟩=some (.int .u64 s.G)
theorem SupAt.below {a w:World}{b:Nat}{s:Sup}(h:SupAt a b s)(hb:Bl a w):SupAt w b s:=by
 have hl:=ZK2 _ _ h.1;have k:∀ i u,a.cell? ⟨b,i,none⟩=some u->w.cell? ⟨b,i,none⟩=some u:=fun i u hu=>(hb.cell (show (Addr.mk b i none).block < _ from hl)).trans hu
 exact ⟨k _ _ h.1,k _ _ h.2.1,k _ _ h.2.2.1,k _ _ h.2.2.2.1,k _ _ h.2.2.2.2.1,k _ _ h.2.2.2.2.2.1,k _ _ h.2.2.2.2.2.2.1,k _ _ h.2.2.2.2.2.2.2⟩
theorem SupAt.new (w:World)(s:Sup):SupAt (w.alloc (.cells #[.int .i64 s.V,.int .i64 s.L,.int .i64 s.R,.int .i64 s.U,.int .i64 s.D,.int .i64 s.Q,.int .i64 s.T,.int .u64 s.G] 86)) w.heap.size s:=by
 have k:∀ i u,(#[.int .i64 s.V,.int .i64 s.L,.int .i64 s.R,.int .i64 s.U,.int .i64 s.D,.int .i64 s.Q,.int .i64 s.T,.int .u64 s.G]:Array Value)[i]?=some u->(w.alloc (.cells #[.int .i64 s.V,.int .i64 s.L,.int .i64 s.R,.int .i64 s.U,.int .i64 s.D,.int .i64 s.Q,.int .i64 s.T,.int .u64 s.G] 86)).cell? ⟨w.heap.size,i,none⟩=some u:=fun i u hk=>(ZC (ZB w _)).trans hk
 exact ⟨k _ _ rfl,k _ _ rfl,k _ _ rfl,k _ _ rfl,k _ _ rfl,k _ _ rfl,k _ _ rfl,k _ _ rfl⟩
theorem ZAm (w:World)(c:Array Value)(e:TypeId):(w.alloc (.cells c e)).there w.heap.size 0 c.size:=fun j hj=>by
 have hn:=ZB w (.cells c e);refine ⟨?_,ZG hn⟩;rw [ZLI,ZC hn,ZLW hj];rfl
theorem ZDz {w w':World}{b o n:Nat}(h:w.there b o n)(hl:ZFz w w')(hb:b < w.heap.size):w'.there b o n:=fun j hj=>by
 rw [hl.1 b _ hb,hl.2.1 b _ hb];exact h j hj
theorem Ji {w:World}{b:Nat}{s:Sup}(h:w.there b 0 9):∀ k,k < 9->(w.setCells b 0 [.int .i64 2,.int .i64 8,.int .i64 (s.R:Int),.int .i64 (s.U:Int),.int .i64 (s.D:Int),.int .i64 1,.int .i64 (s.Q:Int),.int .i64 (s.T:Int),.int .i64 (s.heap:Int)]).cell? ⟨b,k,none⟩=some (.int .i64 (s.sizes.getD k 0:Nat)):=by
 have e:∀ k,k < 9->([.int .i64 2,.int .i64 8,.int .i64 (s.R:Int),.int .i64 (s.U:Int),.int .i64 (s.D:Int),.int .i64 1,.int .i64 (s.Q:Int),.int .i64 (s.T:Int),.int .i64 (s.heap:Int)]:List Value)[k]?=some (.int .i64 (s.sizes.getD k 0:Nat)):=by
  intro k hk;have hk9:k=0\/k=1\/k=2\/k=3\/k=4\/k=5\/k=6\/k=7\/k=8:=by omega
  rcases hk9 with rfl|rfl|rfl|rfl|rfl|rfl|rfl|rfl|rfl <;> rfl
 have hl:([.int .i64 2,.int .i64 8,.int .i64 (s.R:Int),.int .i64 (s.U:Int),.int .i64 (s.D:Int),.int .i64 1,.int .i64 (s.Q:Int),.int .i64 (s.T:Int),.int .i64 (s.heap:Int)]:List Value).length=9:=rfl;generalize ([.int .i64 2,.int .i64 8,.int .i64 (s.R:Int),.int .i64 (s.U:Int),.int .i64 (s.D:Int),.int .i64 1,.int .i64 (s.Q:Int),.int .i64 (s.T:Int),.int .i64 (s.heap:Int)]:List Value)=l at e hl ⊢;intro k hk;have hr:=World.rangeAt_setCells_same w b 0 l (by rw [hl];exact h) k _ (e k hk);rw [ZLI] at hr;exact hr
theorem Sup.Ok.at_le {s:Sup}(h:s.Ok){k:Nat}(hk:k<=9):s.at k<=4096:=by
 have h1:=h.l;have h2:=h.h;have h3:s.heap<=s.L - s.hl:=by unfold Sup.heap;omega
 have hk9:k=0\/k=1\/k=2\/k=3\/k=4\/k=5\/k=6\/k=7\/k=8\/k=9:=by omega
 unfold Sup.at Sup.sizes;unfold Sup.hl at h2 h3;rcases hk9 with rfl|rfl|rfl|rfl|rfl|rfl|rfl|rfl|rfl|rfl <;> simp <;> omega
def ZJr (w:World)(s:Sup)(v:Value)(wc:World):Prop:=∃ b,v=.pointer (some ⟨b,0,none⟩)/\Bl w wc/\w.heap.size<=b/\∀ k,k < 9->wc.cell? ⟨b,k,none⟩=some (.int .i64 (s.sizes.getD k 0:Nat))
theorem Va {w:World}{s:Sup}(h:s.Ok){r:Nat}(hr:r < 9):Calls prog 89 #[s.val,.int .u8 (r+1:Nat)] w fun e w'=>e=.returned (.tuple #[.int .i64 (s.at r:Nat),.int .i64 (s.sizes.getD r 0:Nat),.int .i64 (0:Nat)])/\Bl w w':=by
 have HV:=zh (fun (w1:World)=>VA (w:=w1) h);have HH:=zh (fun (w1:World)=>ZAh (w:=w1) h);have HO:=zh h;have er:((r+1:Nat):Int)=(r:Int)+1:=by omega
 rw [er];have b1:(r:Int) < 9:=by omega
 clear h er;unfold Sup.val at *;go_in;go_wp2_with fail;refine (HV.o _).mono ?_;rintro e w1 ⟨rfl,hb⟩;have hS:=(SupAt.new w s).below hb;have HS:=zh hS;have hbw:Bl w w1:=(ZA (Below.refl _ w)).trans (hb.mono (by simp));have HB:=zh hbw;have HB1:=zh (Below.refl w1.heap.size w1);have HHB:=zh (fun (w2:World) (hb2:Bl w1 w2)=>Xs (HH.o w2) hb2);obtain ⟨c0,c1,c2,c3,c4,c5,c6,c7⟩:=id hS;have hone:∀ v∈([.int .i64 2,.int .i64 8,.int .i64 (s.R:Int),.int .i64 (s.U:Int),.int .i64 (s.D:Int),.int .i64 1,.int .i64 (s.Q:Int),.int .i64 (s.T:Int),.int .i64 (s.heap:Int)]:List Value),v.oneCell'=true:=by
  intro v hv;simp only [List.mem_cons,List.not_mem_nil,or_false] at hv;rcases hv with rfl|rfl|rfl|rfl|rfl|rfl|rfl|rfl|rfl <;> rfl
 have hinf:Option.map (fun x=>x.size) (prog.info? 279)=some ([.int .i64 2,.int .i64 8,.int .i64 (s.R:Int),.int .i64 (s.U:Int),.int .i64 (s.D:Int),.int .i64 1,.int .i64 (s.Q:Int),.int .i64 (s.T:Int),.int .i64 (s.heap:Int)]:List Value).length:=by kernel_rfl
 clear hb hS hbw;go_upto_region 3 with (fail)
 go_cut [7] (fun v wc=>ZJr w s v wc)
 case first=>
  go_region_held3 (fun w'=>w'.cell? ⟨w.heap.size,0,none⟩=some (.int .i64 s.V)/\w'.cell? ⟨w.heap.size,1,none⟩=some (.int .i64 s.L)/\w'.cell? ⟨w.heap.size,2,none⟩=some (.int .i64 s.R)/\w'.cell? ⟨w.heap.size,3,none⟩=some (.int .i64 s.U)/\w'.cell? ⟨w.heap.size,4,none⟩=some (.int .i64 s.D)/\w'.cell? ⟨w.heap.size,5,none⟩=some (.int .i64 s.Q)/\w'.cell? ⟨w.heap.size,6,none⟩=some (.int .i64 s.T)/\w'.cell? ⟨w.heap.size,7,none⟩=some (.int .u64 s.G))
   (exact SupAt.below HS.o (by repeat (first|with_reducible assumption|with_reducible exact HB1.o|with_reducible apply ZA|with_reducible apply ZD|with_reducible apply Yk|with_reducible apply ZE|with_reducible exact nR|exact Below.size (by with_reducible assumption))))
   (first
     |(go_at_call 87;refine (HHB.o _ (by repeat (first|assumption|exact HB1.o|apply ZA|apply ZD))).mono ?_;rintro e V1 ⟨rfl,hb1,hl1⟩;have htA:(V1.alloc (.cells #[.int .i64 0,.int .i64 0,.int .i64 0,.int .i64 0,.int .i64 0,.int .i64 0,.int .i64 0,.int .i64 0,.int .i64 0] 279)).there V1.heap.size 0 ([.int .i64 2,.int .i64 8,.int .i64 (s.R:Int),.int .i64 (s.U:Int),.int .i64 (s.D:Int),.int .i64 1,.int .i64 (s.Q:Int),.int .i64 (s.T:Int),.int .i64 (s.heap:Int)]:List Value).length:=ZAm V1 _ _;(try have htB:V1.there w1.heap.size 0 ([.int .i64 2,.int .i64 8,.int .i64 (s.R:Int),.int .i64 (s.U:Int),.int .i64 (s.D:Int),.int .i64 1,.int .i64 (s.Q:Int),.int .i64 (s.T:Int),.int .i64 (s.heap:Int)]:List Value).length:=ZDz (show (w1.drew.alloc (.cells #[.int .i64 0,.int .i64 0,.int .i64 0,.int .i64 0,.int .i64 0,.int .i64 0,.int .i64 0,.int .i64 0,.int .i64 0] 279)).there w1.heap.size 0 ([.int .i64 2,.int .i64 8,.int .i64 (s.R:Int),.int .i64 (s.U:Int),.int .i64 (s.D:Int),.int .i64 1,.int .i64 (s.Q:Int),.int .i64 (s.T:Int),.int .i64 (s.heap:Int)]:List Value).length from ZAm w1.drew _ _) hl1 (by show w1.heap.size < (w1.heap.push _).size;simp));obtain ⟨hm1,hm2,hm3,HB2⟩:=hl1))
  ·go_wp2_with fail
   go_meet;have hb9:=Yk [.int .i64 2,.int .i64 8,.int .i64 (s.R:Int),.int .i64 (s.U:Int),.int .i64 (s.D:Int),.int .i64 1,.int .i64 (s.Q:Int),.int .i64 (s.T:Int),.int .i64 (s.heap:Int)] (i:=0) (ZA (o:=.cells #[.int .i64 0,.int .i64 0,.int .i64 0,.int .i64 0,.int .i64 0,.int .i64 0,.int .i64 0,.int .i64 0,.int .i64 0] 279) hb1) hb1.size;exact ⟨V1.heap.size,rfl,HB.o.trans (hb9.mono HB.o.size),ZK6 HB.o.size hb1.size,Ji htA⟩
  ·go_wp2_with fail
   go_meet;have hb9:=Yk [.int .i64 2,.int .i64 8,.int .i64 (s.R:Int),.int .i64 (s.U:Int),.int .i64 (s.D:Int),.int .i64 1,.int .i64 (s.Q:Int),.int .i64 (s.T:Int),.int .i64 (s.heap:Int)] (b:=w1.heap.size) (i:=0) hb1 nR;exact ⟨w1.heap.size,rfl,HB.o.trans (hb9.mono HB.o.size),HB.o.size,Ji htB⟩
 case rest=>
  obtain ⟨b,rfl,hbc,hwb,hcells⟩:=hcut;have HBC:=zh hbc;have HCE:=zh hcells;have hal:prog.arrayLen 279=9:=by kernel_rfl
  have hsl:∀ W,(Instr.sliceAt 279 (.pointer (some ⟨b,0,none⟩)) none (some (.int .i64 (r:Int))) none).run prog W=.ok (.slice (some ⟨b,0,none⟩) r 9) W:=fun W=>by
   rw [run_sliceAt_array_h W 279 ⟨b,0,none⟩ (by simp [Program.arrayLen,Program.elem,underlying279]) .i64 (r:Int) (by omega) (by rw [hal];omega)];go_simp
  have HHO:=zh (fun k (hk:k<=9)=>HO.o.at_le hk);clear hbc hcells HS HB HB1 HHB c0 c1 c2 c3 c4 c5 c6 c7;go_wp2_with fail
  go_loop [4,10,41] (fun l _ i=>∃ k:Nat,k<=r/\i=.int .i64 (k:Nat)/\l=.int .i64 (s.at k:Nat)) (fun _ _ i=>r - (intOf i).toNat)
  case atStart=>exact ⟨0,by omega,rfl,rfl⟩
  case round=>
   obtain ⟨k,hk,rfl,rfl⟩:=hrel
   by_cases hlt:k < r
   ·have hlt2:(k:Int) < r:=by omega
    have ck:wc.cell? ⟨b,k,none⟩=some (.int .i64 (s.sizes.getD k 0:Nat)):=HCE.o k (by omega);have hat:=s.at_succ (r:=k) (by omega);have hle:=HHO.o (k+1) (by omega);obtain ⟨x,hx⟩:=xE (s.at k);obtain ⟨y,hy⟩:=xE (s.sizes.getD k 0);rw [<-hy] at ck;rw [<-hx] at hat ⊢;rw [hat,<-hy] at hle;have b2:(x:Int)+y<=4096:=by omega
    have HAT:=zh (hat.trans (by rw [<-hy]));clear hat hle hx hy;go_wp2_with fail;go_round
    case rel=>exact ⟨k+1,by omega,by go_num,by rw [HAT.o];go_num⟩
    case measure=>simp [intOf];omega
   ·obtain rfl:k=r:=by omega
    have ck:wc.cell? ⟨b,k,none⟩=some (.int .i64 (s.sizes.getD k 0:Nat)):=HCE.o k hr;go_wp2_with fail
    go_region
    all_goals
     go_wp2;go_returns;exact ⟨rfl,ZD HBC.o⟩
open Go.Proofs.YteomliechfdhhaaGreatDoor.Size
variable {w w':World}{A:DAd}{F F':Nat->Option ZK}{L x x':Nat}{T c c':Nat->Nat}{H:HAd}
def sup0:Sup:=⟨1,160,26,26,8,0,0,1⟩
theorem J0:sup0.Ok:=⟨by decide,by decide,by decide,by decide,by decide⟩
def poC (A:DAd)(hb rb kb mb:Nat):Array Value:=#[.pointer (some ⟨A.d,0,none⟩),.int .i64 1,.int .i64 160,.int .i64 26,.int .i64 26,.int .i64 8,.int .i64 0,.int .i64 0,.int .u64 1,.pointer (some ⟨hb,0,none⟩),.pointer (some ⟨rb,0,none⟩),.pointer (some ⟨kb,0,none⟩),.pointer (some ⟨mb,0,none⟩),.pointer none,.int .u8 0]
def PoB (w:World)(A:DAd)(pb hb rb kb mb:Nat):Prop:=w.heap[pb]?=some (.cells (poC A hb rb kb mb) 92 (0,0))
variable {pb hb rb kb mb:Nat}
theorem PoB.below (h:PoB w A pb hb rb kb mb)(hb2:Bl w w'):PoB w' A pb hb rb kb mb:=(hb2.block _ (heap_lt h)).trans h
theorem PoB.parts (h:PoB w A pb hb rb kb mb):w.cell? ⟨pb,0,none⟩=some (.pointer (some ⟨A.d,0,none⟩))/\w.cell? ⟨pb,9,none⟩=some (.pointer (some ⟨hb,0,none⟩))/\w.cell? ⟨pb,10,none⟩=some (.pointer (some ⟨rb,0,none⟩))/\w.cell? ⟨pb,11,none⟩=some (.pointer (some ⟨kb,0,none⟩)):=by
 refine ⟨?_,?_,?_,?_⟩ <;> exact (ZC h).trans rfl
theorem PoB.sup (h:PoB w A pb hb rb kb mb):w.cell? ⟨pb,1,none⟩=some (.int .i64 1)/\w.cell? ⟨pb,2,none⟩=some (.int .i64 160)/\w.cell? ⟨pb,3,none⟩=some (.int .i64 26)/\w.cell? ⟨pb,4,none⟩=some (.int .i64 26)/\w.cell? ⟨pb,5,none⟩=some (.int .i64 8)/\w.cell? ⟨pb,6,none⟩=some (.int .i64 0)/\w.cell? ⟨pb,7,none⟩=some (.int .i64 0)/\w.cell? ⟨pb,8,none⟩=some (.int .u64 1):=by
 refine ⟨?_,?_,?_,?_,?_,?_,?_,?_⟩ <;> exact (ZC h).trans rfl
theorem ZFQ (h:PoB w A pb hb rb kb mb):Calls prog 103 #[.pointer (some ⟨pb,0,none⟩)] w fun e w'=>e=.returned (.pointer (some ⟨A.d,0,none⟩))/\w=w':=by
 obtain ⟨c0,c1,c2,c3⟩:=h.parts;clear h;go_in;go_wp2;go_returns;exact ⟨rfl,rfl⟩
theorem QY (h:PoB w A pb hb rb kb mb):Calls prog 6 #[.pointer (some ⟨pb,0,none⟩)] w fun e w'=>e=.returned (.pointer (some ⟨rb,0,none⟩))/\w=w':=by
 obtain ⟨c0,c1,c2,c3⟩:=h.parts;clear h;go_in;go_wp2;go_returns;exact ⟨rfl,rfl⟩
theorem JF (h:PoB w A pb hb rb kb mb):Calls prog 5 #[.pointer (some ⟨pb,0,none⟩)] w fun e w'=>e=.returned (.pointer (some ⟨kb,0,none⟩))/\w=w':=by
 obtain ⟨c0,c1,c2,c3⟩:=h.parts;clear h;go_in;go_wp2;go_returns;exact ⟨rfl,rfl⟩
theorem ZFS (h:PoB w A pb hb rb kb mb)(ha:Ar w A F L T c){i:Nat}(hi:i < 8):Calls prog 51 #[.pointer (some ⟨pb,0,none⟩),.int .i64 i] w fun e w'=>e=.returned (.pointer (some ⟨A.t i,0,none⟩))/\w=w':=by
 have HD:=zh (ZFQ h);have HT:=zh (Vc ha hi w bR);clear h ha hi;go_in
 go_wp2_with (first
  |(go_at_call 103;refine HD.o.mono ?_;rintro e w' ⟨rfl,rfl⟩)
  |(go_at_call 30;refine HT.o.mono ?_;rintro e w' ⟨rfl,rfl⟩))
 go_returns;exact ⟨rfl,rfl⟩
theorem Je (ha:Ar w A F 160 T c){t:Nat}(ht:t < 8):Calls prog 146 #[.iface 97 (.pointer (some ⟨A.t t,0,none⟩)),.int .i64 10,.int .i64 26] w fun e w'=>e=.returned (.tuple #[.pointer (some ⟨w.heap.size,0,none⟩),.int .i64 0])/\w'=w.alloc (.cells #[.iface 97 (.pointer (some ⟨A.t t,0,none⟩)),.int .u64 640,.int .u64 1664] 234):=by
 have HS:=zh (XZ ha ht w bR);rw [show ((160 * 64:Nat):Int)=10240 by rfl] at HS;clear ha ht;go_in;go_wp2_with fail;refine HS.o.mono ?_;rintro e w' ⟨rfl,rfl⟩;go_wp2;go_returns;exact ⟨rfl,rfl⟩
theorem ZAc (ha:Ar w A F 160 T c){t:Nat}(ht:t < 8):Calls prog 104 #[.iface 97 (.pointer (some ⟨A.t t,0,none⟩)),.int .i64 10,.int .i64 26] w fun e w'=>e=.returned (.tuple #[.pointer (some ⟨w.heap.size,0,none⟩),.int .i64 0])/\w'=w.alloc (.cells #[.iface 97 (.pointer (some ⟨A.t t,0,none⟩)),.int .u64 640,.int .u64 1664] 234):=by
 have HS:=zh (Je ha ht);clear ha ht;go_in;go_wp2_with fail;refine HS.o.mono ?_;rintro e w' ⟨rfl,hww⟩;have HE:=zh hww;clear hww;go_wp2;go_returns;exact ⟨rfl,HE.o⟩
def ZHi (w:World)(A:DAd)(t:Nat)(lb:Nat)(w':World):Prop:=Bl w w'/\w.heap.size<=lb/\Lg w' lb A t 640 1664
theorem ZIN (h:PoB w A pb hb rb kb mb)(ha:Ar w A F 160 T c){t:Nat}(ht:t < 8):Calls prog 52 #[.pointer (some ⟨pb,0,none⟩),.pointer (some ⟨A.t t,0,none⟩)] w fun e w'=>∃ lb,e=.returned (.tuple #[.pointer (some ⟨lb,0,none⟩),.int .i64 0])/\ZHi w A t lb w':=by
 have HR:=zh (show Calls prog 89 #[.agg #[.int .i64 1,.int .i64 160,.int .i64 26,.int .i64 26,.int .i64 8,.int .i64 0,.int .i64 0,.int .u64 1],.int .u8 3] w (fun e w'=>e=.returned (.tuple #[.int .i64 10,.int .i64 26,.int .i64 0])/\Bl w w') from Va (w:=w) J0 (r:=2) (by omega));have HO:=zh (fun (w1:World) (hb1:Bl w w1)=>ZAc (ha.below hb1) ht);obtain ⟨c1,c2,c3,c4,c5,c6,c7,c8⟩:=h.sup;clear h ha ht;go_in;go_wp2_with fail;refine HR.o.mono ?_;rintro e w1 ⟨rfl,hb1⟩;have HB:=zh hb1;clear hb1 c1 c2 c3 c4 c5 c6 c7 c8;go_wp2_with fail;refine (HO.o _ HB.o).mono ?_;rintro e w2 ⟨rfl,hww⟩;have HE:=zh (show ZHi w A t w1.heap.size w2 from ⟨HB.o.trans (by rw [hww];exact (ZA bR).mono HB.o.size),HB.o.size,by rw [hww];exact ZB _ _⟩);clear hww;go_wp2;go_returns;exact ⟨_,rfl,HE.o⟩
theorem newdirect_yes {hb tb lb:Nat}:Calls prog 53 #[.pointer (some ⟨hb,0,none⟩),.pointer (some ⟨tb,0,none⟩),.pointer (some ⟨lb,0,none⟩)] w fun e w'=>e=.returned (.pointer (some ⟨w.heap.size,0,none⟩))/\w'=w.alloc (.cells #[.pointer (some ⟨hb,0,none⟩),.pointer (some ⟨tb,0,none⟩),.pointer (some ⟨lb,0,none⟩)] 109):=by
 go_in;go_wp2;go_returns;exact ⟨rfl,rfl⟩
theorem ZFR (h:PoB w A pb hb rb kb mb)(ha:Ar w A F 160 T c){t:Nat}(ht:t < 8):Calls prog 22 #[.pointer (some ⟨pb,0,none⟩),.int .i64 t] w fun e w'=>∃ db lb,e=.returned (.pointer (some ⟨db,0,none⟩))/\ZHi w A t lb w'/\w.heap.size<=db/\w'.heap[db]?=some (.cells #[.pointer (some ⟨hb,0,none⟩),.pointer (some ⟨A.t t,0,none⟩),.pointer (some ⟨lb,0,none⟩)] 109 (0,0)):=by
 have HT:=zh (ZFS h ha ht);have HR:=zh (ZIN h ha ht);have HP:=zh h;clear h ha ht;go_in;go_wp2_with fail;refine HT.o.mono ?_;rintro e w' ⟨rfl,rfl⟩;go_wp2_with fail;refine HR.o.mono ?_;rintro e w1 ⟨lb,rfl,hb1,hlb,hlg⟩;have HB:=zh hb1;have HLB:=zh hlb;have HLG:=zh hlg;clear hb1 hlb hlg HR HT;obtain ⟨c0,c1,c2,c3⟩:=(HP.o.below HB.o).parts;go_wp2_with fail;refine newdirect_yes.mono ?_;rintro e w2 ⟨rfl,hww⟩;have HE:=zh (show ZHi w A t lb w2/\w.heap.size<=w1.heap.size/\w2.heap[w1.heap.size]?=some (.cells #[.pointer (some ⟨hb,0,none⟩),.pointer (some ⟨A.t t,0,none⟩),.pointer (some ⟨lb,0,none⟩)] 109 (0,0)) from by
  have hb3:Bl w1 w2:=by rw [hww];exact ZA bR
  exact ⟨⟨HB.o.trans (hb3.mono HB.o.size),HLB.o,HLG.o.below hb3⟩,HB.o.size,by rw [hww];exact ZB _ _⟩)
 clear hww;go_wp2;go_returns;exact ⟨_,lb,rfl,HE.o⟩
def JC (a n:Int):Nat:=((a.tmod n+n).tmod n).toNat
theorem ZIC {a n:Int}(hn:0 < n):(JC a n:Int) < n/\((a.tmod n+n).tmod n)=(JC a n:Int):=by
 have h1:=Int.tmod_lt_of_pos a hn;have h2:=Int.lt_tmod_of_pos a hn;have h3:=Int.tmod_lt_of_pos (a.tmod n+n) hn;have h4:=Int.tmod_nonneg n (a:=a.tmod n+n) (by omega);unfold JC;omega
theorem ZAS {P i v:Nat}(hp:P < 18446744073709551616)(h0:P≠0)(hi:i < 60):
 Calls prog 40 #[.int .u64 P,.int .i64 i,.int .u64 v] w fun e w'=>e=.returned (.slice (some ⟨w.heap.size,0,none⟩) 1 1)/\w'=w.alloc (.cells #[.int .u64 ((ZM P+8 * i:Nat):Int),.int .u64 v] 155):=by
 have HA:=zh (YK (w:=w) hp h0 hi);obtain ⟨O,hO⟩:∃ O:Int,O=((ZM P+8 * i:Nat):Int):=⟨_,rfl⟩
 rw [<-hO] at HA ⊢;clear hO hp h0 hi;go_in;go_wp2_with fail;refine HA.o.mono ?_;rintro e w' ⟨rfl,rfl⟩;go_wp2;go_returns;exact ⟨rfl,rfl⟩
def rcl (l:List (Nat×Nat)):List Value:=l.flatMap fun y=>[.int .u64 y.1,.int .u64 y.2]
def RitW (w:World)(B:Nat)(v:Value)(l:List (Nat×Nat)):Prop:=w.ownsRow B 452 2 v l.length (rcl l)
def Rit (w:World)(v:Value)(l:List (Nat×Nat)):Prop:=∃ a cap,v=.slice a l.length cap/\(0 < l.length->∃ g,a=some ⟨g,0,none⟩/\Seen w g 0 (rcl l))
theorem RitW.rit {B:Nat}{v:Value}{l:List (Nat×Nat)}(h:RitW w B v l):Rit w v l:=by
 obtain ⟨a,cap,rfl⟩:=ZR h;refine ⟨a,cap,rfl,fun h0=>?_⟩;obtain ⟨g,cap',e,hs,_⟩:=Zi h h0;cases e;exact ⟨g,rfl,hs⟩
theorem Rit.below {v:Value}{l:List (Nat×Nat)}(h:Rit w v l)(hb:Bl w w'):Rit w' v l:=by
 obtain ⟨a,cap,e,hg⟩:=h;refine ⟨a,cap,e,fun h0=>?_⟩;obtain ⟨g,e2,hs⟩:=hg h0;exact ⟨g,e2,hs.below hb nR⟩
theorem ZEb {y x:Nat}(hy:y < 2 ^ 64)(hx:x < 64)(h:y / 2 ^ x % 2=0):(y+2 ^ x) &&& (2 ^ 64 - 1 - 2 ^ x)=y:=by
 rw [<-ZDg h];have hp:2 ^ x < 2 ^ 64:=Nat.pow_lt_pow_right (by omega) hx;apply Nat.eq_of_testBit_eq;intro i;have hb:y.testBit x=false:=by rw [Nat.testBit_eq_decide_div_mod_eq,h];rfl
 have hs:2 ^ 64 - 1 - 2 ^ x=2 ^ 64 - (2 ^ x+1):=by omega
 rw [Nat.testBit_and,Nat.testBit_or,hs,Nat.testBit_two_pow_sub_succ hp,Nat.testBit_two_pow]
 by_cases e:i=x
 ·subst e;simp [hb]
 ·have e2:¬ x=i:=fun q=>e q.symm
  by_cases hi:i < 64
  ·simp [hi,e2]
  ·have:y.testBit i=false:=Nat.testBit_lt_two_pow (ZLC hy (Nat.pow_le_pow_right (by omega) (by omega)))
   simp [hi,this]
theorem Qj {y x:Nat}(hy:y+2 ^ x < 18446744073709551616)(hx:x < 64)(h:y / 2 ^ x % 2=0):bits .andNot .u64 ((y+2 ^ x:Nat):Int) ((2 ^ x:Nat):Int)=(y:Int):=by
 have hy2:y < 18446744073709551616:=Nat.lt_of_le_of_lt (Nat.le_add_right _ _) hy;have hx2:2 ^ x < 18446744073709551616:=Nat.lt_of_le_of_lt (Nat.le_add_left _ _) hy;show IntKind.u64.wrap ((BitVec.ofInt 64 ((y+2 ^ x:Nat):Int) &&& ~~~ BitVec.ofInt 64 ((2 ^ x:Nat):Int)).toNat:Int)=_;rw [BitVec.toNat_and,BitVec.toNat_not,ofInt_u64 _ hy,ofInt_u64 _ hx2,ZEb hy2 hx h,IntKind.wrap_u64];exact Int.emod_eq_of_lt (by omega) (by omega)
end
end Go.Proofs.YteomliechfdhhaaGreatDoor.Dv
