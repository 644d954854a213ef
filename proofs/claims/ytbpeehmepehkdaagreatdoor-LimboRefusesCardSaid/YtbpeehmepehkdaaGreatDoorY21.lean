/- Part 21. -/
import Derived.Test.YtbpeehmepehkdaaGreatDoorY20
set_option maxHeartbeats 8000000
set_option maxRecDepth 20000
set_option linter.all false
namespace Go.Proofs.YtbpeehmepehkdaaGreatDoor.Dv
open Tryz
section
open Go.RowKit Go.Proofs.YtbpeehmepehkdaaGreatDoor.Size
variable {w w':World}{A:DAd}{F F':Nat->Option ZM}{L:Nat}{T c c':Nat->Nat}{x x':Nat}{H:HAd}
def sup0:Sup:=⟨1,160,26,26,8,0,0,1⟩
theorem QI:sup0.Ok:=⟨by decide,by decide,by decide,by decide,by decide⟩
def poC (A:DAd)(hb rb kb mb:Nat):Array Value:=#[.pointer (some ⟨A.d,0,none⟩),.int .i64 1,.int .i64 160,.int .i64 26,.int .i64 26,.int .i64 8,.int .i64 0,.int .i64 0,.int .u64 1,.pointer (some ⟨hb,0,none⟩),.pointer (some ⟨rb,0,none⟩),.pointer (some ⟨kb,0,none⟩),.pointer (some ⟨mb,0,none⟩),.pointer none,.int .u8 0]
def PoB (w:World)(A:DAd)(pb hb rb kb mb:Nat):Prop:=w.heap[pb]?=some (.cells (poC A hb rb kb mb) 111 (0,0))
variable {pb hb rb kb mb:Nat}
theorem PoB.below (h:PoB w A pb hb rb kb mb)(hb2:Bl w w'):PoB w' A pb hb rb kb mb:=(hb2.block _ (heap_lt h)).trans h
theorem PoB.parts (h:PoB w A pb hb rb kb mb):w.cell? ⟨pb,0,none⟩=some (.pointer (some ⟨A.d,0,none⟩))/\w.cell? ⟨pb,9,none⟩=some (.pointer (some ⟨hb,0,none⟩))/\w.cell? ⟨pb,10,none⟩=some (.pointer (some ⟨rb,0,none⟩))/\w.cell? ⟨pb,11,none⟩=some (.pointer (some ⟨kb,0,none⟩)):=by
 refine ⟨?_,?_,?_,?_⟩ <;> exact (ZD h).trans rfl
theorem PoB.sup (h:PoB w A pb hb rb kb mb):w.cell? ⟨pb,1,none⟩=some (.int .i64 1)/\w.cell? ⟨pb,2,none⟩=some (.int .i64 160)/\w.cell? ⟨pb,3,none⟩=some (.int .i64 26)/\w.cell? ⟨pb,4,none⟩=some (.int .i64 26)/\w.cell? ⟨pb,5,none⟩=some (.int .i64 8)/\w.cell? ⟨pb,6,none⟩=some (.int .i64 0)/\w.cell? ⟨pb,7,none⟩=some (.int .i64 0)/\w.cell? ⟨pb,8,none⟩=some (.int .u64 1):=by
 refine ⟨?_,?_,?_,?_,?_,?_,?_,?_⟩ <;> exact (ZD h).trans rfl
theorem ZF9 (h:PoB w A pb hb rb kb mb):Calls prog 48 #[.pointer (some ⟨pb,0,none⟩)] w fun e w'=>e=.returned (.pointer (some ⟨A.d,0,none⟩))/\w=w':=by
 obtain ⟨c0,c1,c2,c3⟩:=h.parts;clear h;go_in;go_wp2;go_returns;exact ⟨rfl,rfl⟩
theorem Ux (h:PoB w A pb hb rb kb mb):Calls prog 13 #[.pointer (some ⟨pb,0,none⟩)] w fun e w'=>e=.returned (.pointer (some ⟨rb,0,none⟩))/\w=w':=by
 obtain ⟨c0,c1,c2,c3⟩:=h.parts;clear h;go_in;go_wp2;go_returns;exact ⟨rfl,rfl⟩
theorem Yo (h:PoB w A pb hb rb kb mb):Calls prog 23 #[.pointer (some ⟨pb,0,none⟩)] w fun e w'=>e=.returned (.pointer (some ⟨kb,0,none⟩))/\w=w':=by
 obtain ⟨c0,c1,c2,c3⟩:=h.parts;clear h;go_in;go_wp2;go_returns;exact ⟨rfl,rfl⟩
theorem ZGA (h:PoB w A pb hb rb kb mb)(ha:Ar w A F L T c){i:Nat}(hi:i < 8):Calls prog 83 #[.pointer (some ⟨pb,0,none⟩),.int .i64 i] w fun e w'=>e=.returned (.pointer (some ⟨A.t i,0,none⟩))/\w=w':=by
 have HD:=zh (ZF9 h);have HT:=zh (Q4 ha hi w bR);clear h ha hi;go_in
 go_wp2_with (first
  |(go_at_call 48;refine HD.o.mono ?_;rintro e w' ⟨rfl,rfl⟩)
  |(go_at_call 77;refine HT.o.mono ?_;rintro e w' ⟨rfl,rfl⟩))
 go_returns;exact ⟨rfl,rfl⟩
theorem Js (ha:Ar w A F 160 T c){t:Nat}(ht:t < 8):Calls prog 197 #[.iface 116 (.pointer (some ⟨A.t t,0,none⟩)),.int .i64 10,.int .i64 26] w fun e w'=>e=.returned (.tuple #[.pointer (some ⟨w.heap.size,0,none⟩),.int .i64 0])/\w'=w.alloc (.cells #[.iface 116 (.pointer (some ⟨A.t t,0,none⟩)),.int .u64 640,.int .u64 1664] 271):=by
 have HS:=zh (Xp ha ht w bR);rw [show ((160 * 64:Nat):Int)=10240 by rfl] at HS;clear ha ht;go_in;go_wp2_with fail;refine HS.o.mono ?_;rintro e w' ⟨rfl,rfl⟩;go_wp2;go_returns;exact ⟨rfl,rfl⟩
theorem ZA0 (ha:Ar w A F 160 T c){t:Nat}(ht:t < 8):Calls prog 141 #[.iface 116 (.pointer (some ⟨A.t t,0,none⟩)),.int .i64 10,.int .i64 26] w fun e w'=>e=.returned (.tuple #[.pointer (some ⟨w.heap.size,0,none⟩),.int .i64 0])/\w'=w.alloc (.cells #[.iface 116 (.pointer (some ⟨A.t t,0,none⟩)),.int .u64 640,.int .u64 1664] 271):=by
 have HS:=zh (Js ha ht);clear ha ht;go_in;go_wp2_with fail;refine HS.o.mono ?_;rintro e w' ⟨rfl,hww⟩;have HE:=zh hww;clear hww;go_wp2;go_returns;exact ⟨rfl,HE.o⟩
def ZIT (w:World)(A:DAd)(t:Nat)(lb:Nat)(w':World):Prop:=Bl w w'/\w.heap.size<=lb/\Lg w' lb A t 640 1664
theorem ZJB (h:PoB w A pb hb rb kb mb)(ha:Ar w A F 160 T c){t:Nat}(ht:t < 8):Calls prog 84 #[.pointer (some ⟨pb,0,none⟩),.pointer (some ⟨A.t t,0,none⟩)] w fun e w'=>∃ lb,e=.returned (.tuple #[.pointer (some ⟨lb,0,none⟩),.int .i64 0])/\ZIT w A t lb w':=by
 have HR:=zh (show Calls prog 127 #[.agg #[.int .i64 1,.int .i64 160,.int .i64 26,.int .i64 26,.int .i64 8,.int .i64 0,.int .i64 0,.int .u64 1],.int .u8 3] w (fun e w'=>e=.returned (.tuple #[.int .i64 10,.int .i64 26,.int .i64 0])/\Bl w w') from Vt (w:=w) QI (r:=2) (by omega));have HO:=zh (fun (w1:World) (hb1:Bl w w1)=>ZA0 (ha.below hb1) ht);obtain ⟨c1,c2,c3,c4,c5,c6,c7,c8⟩:=h.sup;clear h ha ht;go_in;go_wp2_with fail;refine HR.o.mono ?_;rintro e w1 ⟨rfl,hb1⟩;have HB:=zh hb1;clear hb1 c1 c2 c3 c4 c5 c6 c7 c8;go_wp2_with fail;refine (HO.o _ HB.o).mono ?_;rintro e w2 ⟨rfl,hww⟩;have HE:=zh (show ZIT w A t w1.heap.size w2 from ⟨HB.o.trans (by rw [hww];exact (ZA bR).mono HB.o.size),HB.o.size,by rw [hww];exact ZC _ _⟩);clear hww;go_wp2;go_returns;exact ⟨_,rfl,HE.o⟩
theorem newdirect_yes {hb tb lb:Nat}:Calls prog 85 #[.pointer (some ⟨hb,0,none⟩),.pointer (some ⟨tb,0,none⟩),.pointer (some ⟨lb,0,none⟩)] w fun e w'=>e=.returned (.pointer (some ⟨w.heap.size,0,none⟩))/\w'=w.alloc (.cells #[.pointer (some ⟨hb,0,none⟩),.pointer (some ⟨tb,0,none⟩),.pointer (some ⟨lb,0,none⟩)] 119):=by
 go_in;go_wp2;go_returns;exact ⟨rfl,rfl⟩
theorem ZAx (h:PoB w A pb hb rb kb mb)(ha:Ar w A F 160 T c){t:Nat}(ht:t < 8):Calls prog 34 #[.pointer (some ⟨pb,0,none⟩),.int .i64 t] w fun e w'=>∃ db lb,e=.returned (.pointer (some ⟨db,0,none⟩))/\ZIT w A t lb w'/\w.heap.size<=db/\w'.heap[db]?=some (.cells #[.pointer (some ⟨hb,0,none⟩),.pointer (some ⟨A.t t,0,none⟩),.pointer (some ⟨lb,0,none⟩)] 119 (0,0)):=by
 have HT:=zh (ZGA h ha ht);have HR:=zh (ZJB h ha ht);have HP:=zh h;clear h ha ht;go_in;go_wp2_with fail;refine HT.o.mono ?_;rintro e w' ⟨rfl,rfl⟩;go_wp2_with fail;refine HR.o.mono ?_;rintro e w1 ⟨lb,rfl,hb1,hlb,hlg⟩;have HB:=zh hb1;have HLB:=zh hlb;have HLG:=zh hlg;clear hb1 hlb hlg HR HT;obtain ⟨c0,c1,c2,c3⟩:=(HP.o.below HB.o).parts;go_wp2_with fail;refine newdirect_yes.mono ?_;rintro e w2 ⟨rfl,hww⟩;have HE:=zh (show ZIT w A t lb w2/\w.heap.size<=w1.heap.size/\w2.heap[w1.heap.size]?=some (.cells #[.pointer (some ⟨hb,0,none⟩),.pointer (some ⟨A.t t,0,none⟩),.pointer (some ⟨lb,0,none⟩)] 119 (0,0)) from by
  have hb3:Bl w1 w2:=by rw [hww];exact ZA bR
  exact ⟨⟨HB.o.trans (hb3.mono HB.o.size),HLB.o,HLG.o.below hb3⟩,HB.o.size,by rw [hww];exact ZC _ _⟩)
 clear hww;go_wp2;go_returns;exact ⟨_,lb,rfl,HE.o⟩
def ZX (a n:Int):Nat:=((a.tmod n+n).tmod n).toNat
theorem ZEy {a n:Int}(hn:0 < n):(ZX a n:Int) < n/\((a.tmod n+n).tmod n)=(ZX a n:Int):=by
 have h1:=Int.tmod_lt_of_pos a hn;have h2:=Int.lt_tmod_of_pos a hn;have h3:=Int.tmod_lt_of_pos (a.tmod n+n) hn;have h4:=Int.tmod_nonneg n (a:=a.tmod n+n) (by omega);unfold ZX;omega
theorem Zh {a n:Int}(hn:0 < n/\n<=40):Calls prog 26 #[.int .i64 a,.int .i64 n] w fun e w'=>e=.returned (.int .i64 (ZX a n:Nat))/\w=w':=by
 have h1:=Int.tmod_lt_of_pos a hn.1;have h2:=Int.lt_tmod_of_pos a hn.1;obtain ⟨h3,h4⟩:=ZEy (a:=a) hn.1;obtain ⟨R,hR⟩:∃ R:Int,R=(ZX a n:Nat):=⟨_,rfl⟩
 rw [<-hR] at h3 h4 ⊢;obtain ⟨M,hM⟩:=xE (a.tmod n);rw [<-hM] at h1 h2 h4;have h5:IntKind.i64.wrap (M+n)=M+n:=by rw [IntWalk.i64_in] <;> omega
 have h6:IntKind.i64.wrap M=M:=by rw [IntWalk.i64_in] <;> omega
 have h7:IntKind.i64.wrap R=R:=by
  have:0<=R:=by omega
  rw [IntWalk.i64_in] <;> omega
 have hn0:¬ n=0:=by omega
 have hn1:¬ n=-1:=by omega
 have HE:=zh (show (a.tmod n+n) % n=R from by
  rw [<-hM,<-Int.tmod_eq_emod_of_nonneg (by omega)];exact h4)
 clear hR h3 h4;go_in;go_wp2;go_returns;refine ⟨?_,rfl⟩;show Ending.returned (Value.int .i64 ((a.tmod n+n) % n))=_;rw [HE.o]
theorem ZFx {P i v:Nat}(hp:P < 18446744073709551616)(h0:P≠0)(hi:i < 60):
 Calls prog 61 #[.int .u64 P,.int .i64 i,.int .u64 v] w fun e w'=>e=.returned (.slice (some ⟨w.heap.size,0,none⟩) 1 1)/\w'=w.alloc (.cells #[.int .u64 ((ZP P+8 * i:Nat):Int),.int .u64 v] 138):=by
 have HA:=zh (XE (w:=w) hp h0 hi);obtain ⟨O,hO⟩:∃ O:Int,O=((ZP P+8 * i:Nat):Int):=⟨_,rfl⟩
 rw [<-hO] at HA ⊢;clear hO hp h0 hi;go_in;go_wp2_with fail;refine HA.o.mono ?_;rintro e w' ⟨rfl,rfl⟩;go_wp2;go_returns;exact ⟨rfl,rfl⟩
theorem Us {wb P i v:Nat}(ha:w.cell? ⟨wb,3,none⟩=some (.int .u64 P))(hp:P < 18446744073709551616)(h0:P≠0)(hi:i < 60):
 Calls prog 21 #[.pointer (some ⟨wb,0,none⟩),.int .i64 i,.int .u64 v] w fun e w'=>e=.returned (.slice (some ⟨w.heap.size,0,none⟩) 1 1)/\w'=w.alloc (.cells #[.int .u64 ((ZP P+8 * i:Nat):Int),.int .u64 v] 138):=by
 have HA:=zh (ZFx (w:=w) (v:=v) hp h0 hi);obtain ⟨O,hO⟩:∃ O:Int,O=((ZP P+8 * i:Nat):Int):=⟨_,rfl⟩
 rw [<-hO] at HA ⊢;clear hO hp h0 hi;go_in;go_wp2_with fail;refine HA.o.mono ?_;rintro e w' ⟨rfl,hww⟩;have HW:=zh hww;clear hww;go_wp2;go_returns;exact ⟨rfl,HW.o⟩
theorem QB {a:Option Addr}{n c m:Nat}(hnc:n<=c)(hc:c<=maxLen)(hm:m<=100)(ha:a=none->n=0):
 Calls prog 10 #[.slice a n c,.int .i64 m] w fun e w'=>∃ c',e=.returned (.slice a (min n m) c')/\min n m<=c'/\c'<=c/\w=w':=by
 by_cases h:m < n
 ·have d1:(m:Int) < n:=by omega
  have b1:(m:Int)<=100:=by omega
  have d2:(m:Int)<=c:=by omega
  rw [show min n m=m by omega];cases a with
  |none=>exact absurd (ha rfl) (by omega)
  |some ad=>
   obtain ⟨b,o,z⟩:=ad;go_in;go_wp2;go_returns;exact ⟨c,rfl,by omega,nR,rfl⟩
 ·have d1:¬ (m:Int) < n:=by omega
  rw [show min n m=n by omega];go_in;go_wp2;go_returns;exact ⟨c,rfl,hnc,nR,rfl⟩
def Zg (now:Nat)(ann:Nat->Nat)(e:Nat):Bool:=decide (e < now) && (List.range 8).all fun t=>decide (ann t=0\/e < ann t)
theorem ZE4 {now e:Nat}{ann:Nat->Nat}{t:Nat}(ht:t < 8)(h0:ann t≠0)(h1:ann t<=e):Zg now ann e=false:=by
 unfold Zg;rw [Bool.and_eq_false_iff];right;rw [List.all_eq_false];exact ⟨t,ZLz.2 ht,by simp;omega⟩
theorem ZC4 {now e:Nat}{ann:Nat->Nat}(h:∀ t,t < 8->ann t=0\/e < ann t):Zg now ann e=decide (e < now):=by
 unfold Zg;have:((List.range 8).all fun t=>decide (ann t=0\/e < ann t))=true:=List.all_eq_true.2 fun t ht=>ZLp (h t (ZLz.1 ht))
 rw [this,Bool.and_true]
def ck9 (now:Nat)(an:Nat->Nat):Array Value:=#[.int .u64 now,.int .u64 (an 0),.int .u64 (an 1),.int .u64 (an 2),.int .u64 (an 3),.int .u64 (an 4),.int .u64 (an 5),.int .u64 (an 6),.int .u64 (an 7)]
theorem ZCq {w:World}{b:Nat}{e:TypeId}{a0 a1 a2 a3 a4 a5 a6 a7 a8:Value}(h:w.heap[b]?=some (.cells #[a0,a1,a2,a3,a4,a5,a6,a7,a8] e (0,0))):(w.cell? ⟨b,0,none⟩=some a0/\w.cell? ⟨b,1,none⟩=some a1/\w.cell? ⟨b,2,none⟩=some a2/\w.cell? ⟨b,3,none⟩=some a3/\w.cell? ⟨b,4,none⟩=some a4/\w.cell? ⟨b,5,none⟩=some a5/\w.cell? ⟨b,6,none⟩=some a6/\w.cell? ⟨b,7,none⟩=some a7/\w.cell? ⟨b,8,none⟩=some a8)/\∀ i,w.frozen? ⟨b,i,none⟩=false:=
 ⟨⟨(ZD h).trans rfl,(ZD h).trans rfl,(ZD h).trans rfl,(ZD h).trans rfl,(ZD h).trans rfl,(ZD h).trans rfl,(ZD h).trans rfl,(ZD h).trans rfl,(ZD h).trans rfl⟩,fun i=>ZH h⟩
theorem XK (a0 a1 a2 a3 a4 a5 a6 a7:Value)(w:World):(Instr.index 42 (.agg #[a0,a1,a2,a3,a4,a5,a6,a7]) (.int .i64 0)).run prog w=.ok a0 w:=by kernel_rfl
theorem XL (a0 a1 a2 a3 a4 a5 a6 a7:Value)(w:World):(Instr.index 42 (.agg #[a0,a1,a2,a3,a4,a5,a6,a7]) (.int .i64 1)).run prog w=.ok a1 w:=by kernel_rfl
theorem XM (a0 a1 a2 a3 a4 a5 a6 a7:Value)(w:World):(Instr.index 42 (.agg #[a0,a1,a2,a3,a4,a5,a6,a7]) (.int .i64 2)).run prog w=.ok a2 w:=by kernel_rfl
theorem XN (a0 a1 a2 a3 a4 a5 a6 a7:Value)(w:World):(Instr.index 42 (.agg #[a0,a1,a2,a3,a4,a5,a6,a7]) (.int .i64 3)).run prog w=.ok a3 w:=by kernel_rfl
theorem XO (a0 a1 a2 a3 a4 a5 a6 a7:Value)(w:World):(Instr.index 42 (.agg #[a0,a1,a2,a3,a4,a5,a6,a7]) (.int .i64 4)).run prog w=.ok a4 w:=by kernel_rfl
theorem XP (a0 a1 a2 a3 a4 a5 a6 a7:Value)(w:World):(Instr.index 42 (.agg #[a0,a1,a2,a3,a4,a5,a6,a7]) (.int .i64 5)).run prog w=.ok a5 w:=by kernel_rfl
theorem XR (a0 a1 a2 a3 a4 a5 a6 a7:Value)(w:World):(Instr.index 42 (.agg #[a0,a1,a2,a3,a4,a5,a6,a7]) (.int .i64 6)).run prog w=.ok a6 w:=by kernel_rfl
theorem XS (a0 a1 a2 a3 a4 a5 a6 a7:Value)(w:World):(Instr.index 42 (.agg #[a0,a1,a2,a3,a4,a5,a6,a7]) (.int .i64 7)).run prog w=.ok a7 w:=by kernel_rfl
theorem ZGL {now e:Nat}{an:Nat->Nat}:
 Calls prog 101 #[.agg (ck9 now an),.int .u64 e] w fun r w'=>r=.returned (.bool (Zg now an e))/\Bl w w':=by
 obtain ⟨r,hr⟩:=xE (Zg now an e);have HNO:=zh (fun (t:Nat) (ht:t < 8) (h0:an t≠0) (h1:an t<=e)=>hr.trans (ZE4 (now:=now) ht h0 h1));have HYS:=zh (fun (h:∀ t,t < 8->an t=0\/e < an t)=>hr.trans (ZC4 (now:=now) h));rw [<-hr];clear hr;obtain ⟨a0,h0⟩:=xE (an 0);obtain ⟨w1,hw1⟩:=xE (w.alloc (.cells (ck9 now an) 44));have HB:=zh (show Bl w w1 by rw [hw1];exact ZA bR);have hn:w1.heap[w.heap.size]?=some (.cells (ck9 now an) 44 (0,0)):=by rw [hw1];exact ZC _ _
 obtain ⟨⟨c0,c1,c2,c3,c4,c5,c6,c7,c8⟩,_⟩:=ZCq hn;have HW1:=zh hw1;unfold ck9 at HW1 ⊢;clear hn hw1 h0;go_in;go_wp2_with fail;rw [<-HW1.o]
 go_loop [9] (fun i=>∃ n:Nat,n<=8/\i=.int .i64 n/\∀ t,t < n->an t=0\/e < an t) (fun i=>8 - (intOf i).toNat)
 case atStart=>exact ⟨0,by omega,rfl,fun t ht=>by omega⟩
 case round=>
 obtain ⟨n,hn,rfl,hall⟩:=hrel
 by_cases h8:n=8
 ·subst h8
  have hR:=HYS.o hall;have e1:decide ((e:Int) < now)=decide (e < now):=by rw [Bool.eq_iff_iff];simp
  clear hall hn;go_wp2;go_returns;exact ⟨by first|rfl|rw [hR],HB.o⟩
 ·have ha:an n=0\/an n≠0/\an n<=e\/an n≠0/\e < an n:=by omega
  rcases (show n=0\/n=1\/n=2\/n=3\/n=4\/n=5\/n=6\/n=7 by omega) with hn'|hn'|hn'|hn'|hn'|hn'|hn'|hn' <;> subst hn'
  ·rcases ha with h0|⟨h0,h1⟩|⟨h0,h1⟩
   ·have HN:=zh (show ∀ t,t < 1->an t=0\/e < an t from fun t ht=>(show t < 0\/t=0 by omega).elim (hall t) (fun q=>by rw [q];exact .inl h0))
    have hix:=XK;have d1:(an 0:Int)=0:=by omega
    clear hall h0;go_wp2_with fail;exact ⟨⟨1,by omega,rfl,HN.o⟩,by simp [intOf]⟩
   ·have hR:=HNO.o 0 (by omega) h0 h1
    have hix:=XK;have d1:¬ (an 0:Int)=0:=by omega
    have d2:(an 0:Int)<=e:=by omega
    clear hall h0 h1;go_wp2;go_returns;exact ⟨by first|rfl|rw [hR],HB.o⟩
   ·have HN:=zh (show ∀ t,t < 1->an t=0\/e < an t from fun t ht=>(show t < 0\/t=0 by omega).elim (hall t) (fun q=>by rw [q];exact .inr h1))
    have hix:=XK;have d1:¬ (an 0:Int)=0:=by omega
    have d2:¬ (an 0:Int)<=e:=by omega
    clear hall h0 h1;go_wp2_with fail;exact ⟨⟨1,by omega,rfl,HN.o⟩,by simp [intOf]⟩
  ·rcases ha with h0|⟨h0,h1⟩|⟨h0,h1⟩
   ·have HN:=zh (show ∀ t,t < 2->an t=0\/e < an t from fun t ht=>(show t < 1\/t=1 by omega).elim (hall t) (fun q=>by rw [q];exact .inl h0))
    have hix:=XL;have d1:(an 1:Int)=0:=by omega
    clear hall h0;go_wp2_with fail;exact ⟨⟨2,by omega,rfl,HN.o⟩,by simp [intOf]⟩
   ·have hR:=HNO.o 1 (by omega) h0 h1
    have hix:=XL;have d1:¬ (an 1:Int)=0:=by omega
    have d2:(an 1:Int)<=e:=by omega
    clear hall h0 h1;go_wp2;go_returns;exact ⟨by first|rfl|rw [hR],HB.o⟩
   ·have HN:=zh (show ∀ t,t < 2->an t=0\/e < an t from fun t ht=>(show t < 1\/t=1 by omega).elim (hall t) (fun q=>by rw [q];exact .inr h1))
    have hix:=XL;have d1:¬ (an 1:Int)=0:=by omega
    have d2:¬ (an 1:Int)<=e:=by omega
    clear hall h0 h1;go_wp2_with fail;exact ⟨⟨2,by omega,rfl,HN.o⟩,by simp [intOf]⟩
  ·rcases ha with h0|⟨h0,h1⟩|⟨h0,h1⟩
   ·have HN:=zh (show ∀ t,t < 3->an t=0\/e < an t from fun t ht=>(show t < 2\/t=2 by omega).elim (hall t) (fun q=>by rw [q];exact .inl h0))
    have hix:=XM;have d1:(an 2:Int)=0:=by omega
    clear hall h0;go_wp2_with fail;exact ⟨⟨3,by omega,rfl,HN.o⟩,by simp [intOf]⟩
   ·have hR:=HNO.o 2 (by omega) h0 h1
    have hix:=XM;have d1:¬ (an 2:Int)=0:=by omega
    have d2:(an 2:Int)<=e:=by omega
    clear hall h0 h1;go_wp2;go_returns;exact ⟨by first|rfl|rw [hR],HB.o⟩
   ·have HN:=zh (show ∀ t,t < 3->an t=0\/e < an t from fun t ht=>(show t < 2\/t=2 by omega).elim (hall t) (fun q=>by rw [q];exact .inr h1))
    have hix:=XM;have d1:¬ (an 2:Int)=0:=by omega
    have d2:¬ (an 2:Int)<=e:=by omega
    clear hall h0 h1;go_wp2_with fail;exact ⟨⟨3,by omega,rfl,HN.o⟩,by simp [intOf]⟩
  ·rcases ha with h0|⟨h0,h1⟩|⟨h0,h1⟩
   ·have HN:=zh (show ∀ t,t < 4->an t=0\/e < an t from fun t ht=>(show t < 3\/t=3 by omega).elim (hall t) (fun q=>by rw [q];exact .inl h0))
    have hix:=XN;have d1:(an 3:Int)=0:=by omega
    clear hall h0;go_wp2_with fail;exact ⟨⟨4,by omega,rfl,HN.o⟩,by simp [intOf]⟩
   ·have hR:=HNO.o 3 (by omega) h0 h1
    have hix:=XN;have d1:¬ (an 3:Int)=0:=by omega
    have d2:(an 3:Int)<=e:=by omega
    clear hall h0 h1;go_wp2;go_returns;exact ⟨by first|rfl|rw [hR],HB.o⟩
   ·have HN:=zh (show ∀ t,t < 4->an t=0\/e < an t from fun t ht=>(show t < 3\/t=3 by omega).elim (hall t) (fun q=>by rw [q];exact .inr h1))
    have hix:=XN;have d1:¬ (an 3:Int)=0:=by omega
    have d2:¬ (an 3:Int)<=e:=by omega
    clear hall h0 h1;go_wp2_with fail;exact ⟨⟨4,by omega,rfl,HN.o⟩,by simp [intOf]⟩
  ·rcases ha with h0|⟨h0,h1⟩|⟨h0,h1⟩
   ·have HN:=zh (show ∀ t,t < 5->an t=0\/e < an t from fun t ht=>(show t < 4\/t=4 by omega).elim (hall t) (fun q=>by rw [q];exact .inl h0))
    have hix:=XO;have d1:(an 4:Int)=0:=by omega
    clear hall h0;go_wp2_with fail;exact ⟨⟨5,by omega,rfl,HN.o⟩,by simp [intOf]⟩
   ·have hR:=HNO.o 4 (by omega) h0 h1
    have hix:=XO;have d1:¬ (an 4:Int)=0:=by omega
    have d2:(an 4:Int)<=e:=by omega
    clear hall h0 h1;go_wp2;go_returns;exact ⟨by first|rfl|rw [hR],HB.o⟩
   ·have HN:=zh (show ∀ t,t < 5->an t=0\/e < an t from fun t ht=>(show t < 4\/t=4 by omega).elim (hall t) (fun q=>by rw [q];exact .inr h1))
    have hix:=XO;have d1:¬ (an 4:Int)=0:=by omega
    have d2:¬ (an 4:Int)<=e:=by omega
    clear hall h0 h1;go_wp2_with fail;exact ⟨⟨5,by omega,rfl,HN.o⟩,by simp [intOf]⟩
  ·rcases ha with h0|⟨h0,h1⟩|⟨h0,h1⟩
   ·have HN:=zh (show ∀ t,t < 6->an t=0\/e < an t from fun t ht=>(show t < 5\/t=5 by omega).elim (hall t) (fun q=>by rw [q];exact .inl h0))
    have hix:=XP;have d1:(an 5:Int)=0:=by omega
    clear hall h0;go_wp2_with fail;exact ⟨⟨6,by omega,rfl,HN.o⟩,by simp [intOf]⟩
   ·have hR:=HNO.o 5 (by omega) h0 h1
    have hix:=XP;have d1:¬ (an 5:Int)=0:=by omega
    have d2:(an 5:Int)<=e:=by omega
    clear hall h0 h1;go_wp2;go_returns;exact ⟨by first|rfl|rw [hR],HB.o⟩
   ·have HN:=zh (show ∀ t,t < 6->an t=0\/e < an t from fun t ht=>(show t < 5\/t=5 by omega).elim (hall t) (fun q=>by rw [q];exact .inr h1))
    have hix:=XP;have d1:¬ (an 5:Int)=0:=by omega
    have d2:¬ (an 5:Int)<=e:=by omega
    clear hall h0 h1;go_wp2_with fail;exact ⟨⟨6,by omega,rfl,HN.o⟩,by simp [intOf]⟩
  ·rcases ha with h0|⟨h0,h1⟩|⟨h0,h1⟩
   ·have HN:=zh (show ∀ t,t < 7->an t=0\/e < an t from fun t ht=>(show t < 6\/t=6 by omega).elim (hall t) (fun q=>by rw [q];exact .inl h0))
    have hix:=XR;have d1:(an 6:Int)=0:=by omega
    clear hall h0;go_wp2_with fail;exact ⟨⟨7,by omega,rfl,HN.o⟩,by simp [intOf]⟩
   ·have hR:=HNO.o 6 (by omega) h0 h1
    have hix:=XR;have d1:¬ (an 6:Int)=0:=by omega
    have d2:(an 6:Int)<=e:=by omega
    clear hall h0 h1;go_wp2;go_returns;exact ⟨by first|rfl|rw [hR],HB.o⟩
   ·have HN:=zh (show ∀ t,t < 7->an t=0\/e < an t from fun t ht=>(show t < 6\/t=6 by omega).elim (hall t) (fun q=>by rw [q];exact .inr h1))
    have hix:=XR;have d1:¬ (an 6:Int)=0:=by omega
    have d2:¬ (an 6:Int)<=e:=by omega
    clear hall h0 h1;go_wp2_with fail;exact ⟨⟨7,by omega,rfl,HN.o⟩,by simp [intOf]⟩
  ·rcases ha with h0|⟨h0,h1⟩|⟨h0,h1⟩
   ·have HN:=zh (show ∀ t,t < 8->an t=0\/e < an t from fun t ht=>(show t < 7\/t=7 by omega).elim (hall t) (fun q=>by rw [q];exact .inl h0))
    have hix:=XS;have d1:(an 7:Int)=0:=by omega
    clear hall h0;go_wp2_with fail;exact ⟨⟨8,by omega,rfl,HN.o⟩,by simp [intOf]⟩
   ·have hR:=HNO.o 7 (by omega) h0 h1
    have hix:=XS;have d1:¬ (an 7:Int)=0:=by omega
    have d2:(an 7:Int)<=e:=by omega
    clear hall h0 h1;go_wp2;go_returns;exact ⟨by first|rfl|rw [hR],HB.o⟩
   ·have HN:=zh (show ∀ t,t < 8->an t=0\/e < an t from fun t ht=>(show t < 7\/t=7 by omega).elim (hall t) (fun q=>by rw [q];exact .inr h1))
    have hix:=XS;have d1:¬ (an 7:Int)=0:=by omega
    have d2:¬ (an 7:Int)<=e:=by omega
    clear hall h0 h1;go_wp2_with fail;exact ⟨⟨8,by omega,rfl,HN.o⟩,by simp [intOf]⟩
def k0:Chk:=⟨4,0,1,fun j=>if j=0 then ⟨1,12,177⟩ else if j=1 then ⟨1,64,177⟩ else ⟨1,0,176⟩⟩
def chs (k:Chk):Nat->Chk:=ZDo (fun _=>k0) 1 k
theorem Jj (k:Chk):chs k 0=k0:=rfl
theorem XF (k:Chk):chs k 1=k:=rfl
theorem ZEj (k k':Chk):ZDo (chs k) 1 k'=chs k':=by
 funext m
 unfold chs ZDo;split <;> rfl
theorem QH:perN k0=4:=by decide
theorem U5:Zu k0=61:=by decide
theorem QG {T c:Nat->Nat}{k:Chk}(hR:HRep T c 71 2 (chs k)){x:Nat}(h:577<=x/\x < 637\/638<=x/\x < 698\/x < 568):Pay 71 2 (chs k) x:=by
 rcases h with h|h|h
 ·have:=Pay.word hR (k:=0) (j:=0) (a:=x - 576) (by omega) (by rw [Jj,QH];omega) (by omega) (by rw [Jj,U5];omega)
  have e:8 * (71+32 * 0)+hdN (chs k 0) 0+(x - 576)=x:=by rw [Jj];unfold hdN;rw [U5];omega
  rw [e] at this;exact this
 ·have:=Pay.word hR (k:=0) (j:=1) (a:=x - 637) (by omega) (by rw [Jj,QH];omega) (by omega) (by rw [Jj,U5];omega)
  have e:8 * (71+32 * 0)+hdN (chs k 0) 1+(x - 637)=x:=by rw [Jj];unfold hdN;rw [U5];omega
  rw [e] at this;exact this
 ·exact Pay.low (by omega)
theorem lcm {c:Nat->Nat}{v:Nat}{l:List (Nat×Nat)}(hs:l.length<=96)(hl:∀ p∈l,p.1 % 8=0){y:Nat}(hy:y < 80\/288<=y):wrs c (cmL 640 v l).flatten y=wrs c l y:=
 ZJr (off:=640) (size:=1664) (by omega) (by omega) hl (by omega)
theorem ZEr {T c:Nat->Nat}{k:Chk}(h:HRep T c 71 2 (chs k))(h0:0<=k.cl){tk:List (Nat×Nat)}{dr:List Nat}(hc:k.Can tk dr){lw:List (Nat×Nat)}(hlw:∀ q∈lw,Pay 71 2 (chs k) (q.1 / 8)){v:Nat}(hs:(lw++ZR T 103 k tk dr).length<=96)(hl:∀ p∈lw++ZR T 103 k tk dr,p.1 % 8=0):
 HRep T (wrs c (cmL 640 v (lw++ZR T 103 k tk dr)).flatten) 71 2 (chs (k.after tk dr)):=by
 have h1:=(h.wrs hlw).after (k:=1) (by omega) (by rw [XF];exact h0) (by rw [XF];exact hc);rw [XF,ZEj,<-YF] at h1;refine h1.congr fun x hx=>lcm hs hl (.inr ?_)
 rcases Nat.lt_or_ge x 288 with h|h
 ·exact absurd (Pay.low (by omega)) hx
 ·exact h
theorem ZHL {T c:Nat->Nat}{k:Chk}(h:HRep T c 71 2 (chs k)){lw:List (Nat×Nat)}(hlw:∀ q∈lw,Pay 71 2 (chs k) (q.1 / 8)){v:Nat}(hs:lw.length<=96)(hl:∀ p∈lw,p.1 % 8=0):
 HRep T (wrs c (cmL 640 v lw).flatten) 71 2 (chs k):=by
 refine (h.wrs hlw).congr fun x hx=>lcm hs hl (.inr ?_)
 rcases Nat.lt_or_ge x 288 with h|h
 ·exact absurd (Pay.low (by omega)) hx
 ·exact h
theorem Ug {T:Nat->Nat}{line:Nat}{k:Chk}{tk:List (Nat×Nat)}{dr:List Nat}:∀ p∈ZR T line k tk dr,p.1 % 8=0:=by
 intro p hp;unfold ZR YR Ye ZAB hdW at hp;simp only [ZLZ,ZLb,ZLt] at hp;rcases hp with (⟨q,_,rfl⟩|⟨q,_,rfl⟩)|rfl <;> omega
theorem ZAT {T:Nat->Nat}{line:Nat}{k:Chk}{tk:List (Nat×Nat)}{dr:List Nat}:∀ p∈ZR T line k tk dr,8 * line<=p.1 / 8:=by
 intro p hp;unfold ZR YR Ye ZAB hdW at hp;simp only [ZLZ,ZLb,ZLt] at hp;rcases hp with (⟨q,_,rfl⟩|⟨q,_,rfl⟩)|rfl <;> simp only <;> omega
theorem XC (T:Nat->Nat)(line:Nat)(k:Chk)(tk:List (Nat×Nat))(dr:List Nat):(ZR T line k tk dr).length=tk.length+dr.length+1:=by
 unfold ZR YR Ye;simp;omega
theorem ZBf {T c:Nat->Nat}{k:Chk}{tk:List (Nat×Nat)}{dr:List Nat}{lw:List (Nat×Nat)}{v:Nat}(hs:(lw++ZR T 103 k tk dr).length<=96)(hl:∀ p∈lw,p.1 % 8=0){y:Nat}(hy:y < 80\/288<=y/\y < 824):
 wrs c (cmL 640 v (lw++ZR T 103 k tk dr)).flatten y=wrs c lw y:=by
 rw [lcm hs (fun p hp=>(ZLZ.1 hp).elim (hl p) (Ug p)) (by omega),YF];exact YU fun p hp=>by have:=ZAT p hp;omega
def Yx (a b:Nat×Nat):Bool:=decide (a.2 < b.2\/a.2=b.2/\a.1 % 4294967296 < b.1 % 4294967296)
def YK (x:Nat×Nat):List (Nat×Nat)->List (Nat×Nat)
 |[]=>[x]
 |y:: l=>if Yx x y then x:: y:: l else y:: YK x l
theorem VH (x:Nat×Nat):∀ l,(YK x l).Perm (x:: l)
 |[]=>.refl _
 |y:: l=>by
  unfold YK;split
  ·exact .refl _
  ·exact ((VH x l).cons y).trans (.swap x y l)
def Its (l:List (Nat×Nat)):Prop:=l.Pairwise fun a b=>Yx a b=true
theorem ZD2 {a b d:Nat×Nat}(h1:Yx a b=true)(h2:Yx b d=true):Yx a d=true:=by
 unfold Yx at *;simp only [decide_eq_true_eq] at *;omega
theorem ZFp {a b:Nat×Nat}(h1:Yx a b=true)(h2:Yx b a=true):a=b:=by
 unfold Yx at *;simp only [decide_eq_true_eq] at *;omega
theorem ZD1 {a b:Nat×Nat}(h:a.1 % 4294967296≠b.1 % 4294967296)(h1:Yx a b=false):Yx b a=true:=by
 unfold Yx at *;simp only [decide_eq_true_eq,decide_eq_false_iff_not] at *;omega
theorem ZAp {x:Nat×Nat}:∀ {l:List (Nat×Nat)},Its l->(∀ y∈l,x.1 % 4294967296≠y.1 % 4294967296)->Its (YK x l)
 |[],_,_=>by unfold YK Its;simp
 |y:: l,h,hx=>by
  have h':=List.pairwise_cons.1 h;unfold YK;split
  ·rename_i e
   exact List.pairwise_cons.2 ⟨fun z hz=>(List.mem_cons.1 hz).elim (fun q=>q▸e) (fun q=>ZD2 e (h'.1 z q)),h⟩
  ·rename_i e
   have e2:=ZD1 (hx y (.head _)) (by simpa using e);refine List.pairwise_cons.2 ⟨fun z hz=>?_,ZAp h'.2 (fun z hz=>hx z (.tail _ hz))⟩;rcases List.mem_cons.1 ((VH x l).mem_iff.1 hz) with q|q
   ·exact q▸e2
   ·exact h'.1 z q
theorem Its.unique {l l':List (Nat×Nat)}(h:Its l)(h':Its l')(hp:l.Perm l'):l=l':=
 hp.eq_of_pairwise (fun a b _ _ h1 h2=>ZFp h1 h2) h h'
structure LS where
 k:Chk
 lp:Nat->Nat
 en:List (Nat×Nat)
 its:List (Nat×Nat)
 fr:List Nat
 now:Nat
 ann:Nat->Nat
 na:Nat
 nr:Nat
def LivP (k:Chk)(P j:Nat):Prop:=j < 62/\(k.blk j).st=177/\(k.blk j).kind=65/\P=k.ptr 103 j 65
def full (en:List (Nat×Nat)):List (Nat×Nat):=en.filter fun x=>x.1 != 0
def LS.live (s:LS):List Nat:=((List.range 40).map s.lp++s.en.map (·.1)).filter (· != 0)
structure LS.Ok (s:LS):Prop where
 cl:(s.k.cl=-1/\s.na=0)\/(s.k.cl=0/\s.k.ow=0)
 blk:∀ j,j < 62->(s.k.blk j).st=176\/(s.k.blk j).st=177
 gen:∀ j,(s.k.blk j).gen<=s.fr.length+1/\1<=(s.k.blk j).gen
 liv:∀ P,P∈s.live->∃ j,LivP s.k P j
 nd:s.live.Nodup
 use:∀ j,j < 62->(s.k.blk j).st=177->∃ P∈s.live,LivP s.k P j
 its:Its s.its
 per:s.its.Perm (full s.en)
 ep:∀ x∈s.en,1<=x.2/\x.2<=s.now
 fm:s.en=[]\/full s.en≠[]
 fr:∀ P∈s.fr,∃ j g,j < 62/\1<=g/\g < (s.k.blk j).gen/\P=Yr (s.k.pay 103 j) g 65
 now:2<=s.now
 ann:∀ t,s.ann t<=s.now
 cnt:(((List.range 40).map s.lp).filter (· != 0)).length+s.nr=s.na
 len:s.en.length<=s.nr
 fl:s.fr.length+(full s.en).length<=s.nr
structure LS.Rep (T c c0:Nat->Nat)(s:LS):Prop where
 rep:HRep T c 71 2 (chs s.k)
 log:c 80=0
 nxt:c 577=0
 num:c 578=s.en.length
 ptr:∀ i,i < 29->c (579+2 * i)=(s.en.getD i (0,0)).1
 epo:∀ i,i < s.en.length->c (580+2 * i)=(s.en.getD i (0,0)).2
 lnk:∀ i,i < 40->c (638+i)=s.lp i
 clk:c 560=7309464666214760448+s.now
 rts:∀ y,16<=y->y < 80->c y=c0 y
 n29:s.en.length<=29
end
end Go.Proofs.YtbpeehmepehkdaaGreatDoor.Dv
