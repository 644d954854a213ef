/- Part 24. -/
import Derived.Test.YtbpeehmepehkdaaGreatDoorY23
import Derived.Deep.RegionLaw
set_option maxHeartbeats 8000000
set_option maxRecDepth 20000
set_option linter.all false
namespace Go.Proofs.YtbpeehmepehkdaaGreatDoor.Dv
open Tryz
section
open Go.RowKit Go.Proofs.YtbpeehmepehkdaaGreatDoor.Size
theorem ZHF {k:Chk}(hk:k.Head){j:Nat}(hj:j < perN k){line off:Nat}(ho:off=k.pay line j):k.find line off=((j:Int),true):=by
 have hle:=YI hk hj;have hst:=U4 hk hj;have e:(off - 64 * line) / 8=hdN k j+1:=by rw [ho];unfold Chk.pay;omega
 unfold Chk.find;rw [ZLU (by rw [ho];unfold Chk.pay;omega),e];exact ZHG hk hj
structure InC (P:Nat):Prop where
 ok:PtrOk P
 lo:64 * 103<=ZP P
 hi:ZP P < 64 * 103+2048
theorem ZHZ {k:Chk}(hk:k.Head)(hc:k.cl=0){j g P:Nat}(hj:j < 62)(hg:1<=g/\g < 65536)(hP:P=Yr (k.pay 103 j) g 65):InC P/\ZP P=(833+4 * j) * 8/\UF P=g/\Z9 P=65/\k.find 103 (ZP P)=((j:Int),true):=by
 have hpay:=ZE0 hc j;obtain ⟨e1,e2,e3⟩:=Jo (off:=k.pay 103 j) (gen:=g) (kind:=65) (by rw [hpay];omega) (by rw [hpay];omega) hg.2 (by omega);rw [<-hP] at e1 e2 e3;have hf:k.find 103 (ZP P)=((j:Int),true):=ZHF hk (by rw [Xd hc];exact hj) e1;refine ⟨⟨⟨?_,by rw [e2];exact hg.1,by rw [e3];omega,by rw [e1,hpay];omega⟩,by rw [e1,hpay];omega,by rw [e1,hpay];omega⟩,e1.trans hpay,e2,e3,hf⟩;rw [hP];unfold Yr;rw [hpay];omega
theorem LivP.chk {k:Chk}(hk:k.Head)(hc:k.cl=0)(hg:∀ j,1<=(k.blk j).gen/\(k.blk j).gen < 65536){P j:Nat}(h:LivP k P j):InC P/\ZP P=(833+4 * j) * 8/\Z9 P=65/\k.block 103 P=((j:Int),0):=by
 obtain ⟨h1,h2,h3,h4⟩:=h;obtain ⟨a1,a2,a3,a4,a5⟩:=ZHZ hk hc h1 (hg j) h4;refine ⟨a1,a2,a4,?_⟩;have hlt:=a1.ok.lt;unfold Chk.block;rw [ZLU a1.ok.ne,a5];simp only [Int.toNat_natCast];rw [ZLU (by simp;omega),ZLU (by rw [h2,a3];simp),ZLU (by rw [h3,a4];simp)]
theorem stale_chk {k:Chk}(hk:k.Head)(hc:k.cl=0)(hg:∀ j,1<=(k.blk j).gen/\(k.blk j).gen < 65536){P j g:Nat}(hj:j < 62)(h1:1<=g)(h2:g < (k.blk j).gen)(hP:P=Yr (k.pay 103 j) g 65):InC P/\(k.block 103 P).2=12:=by
 obtain ⟨a1,a2,a3,a4,a5⟩:=ZHZ hk hc hj ⟨h1,by have:=hg j;omega⟩ hP;refine ⟨a1,?_⟩;have hlt:=a1.ok.lt;unfold Chk.block;rw [ZLU a1.ok.ne,a5];simp only [Int.toNat_natCast];rw [ZLU (by simp;omega),ZLX (.inr (by rw [a3];omega))]
theorem LS.Inv.gens {s:LS}{n:Nat}(h:s.Inv n)(hn:n<=60)(j:Nat):1<=(s.k.blk j).gen/\(s.k.blk j).gen < 65536:=by
 have h1:=h.ok.gen j;have h2:=h.nr;have h3:=h.ok.fl;omega
theorem LS.Ok.na_live {s:LS}(h:s.Ok){P:Nat}(hP:P∈s.live):s.na≠0:=fun e=>by
 have:=(h.zero e).2.2.2.1;rw [this] at hP;cases hP
theorem LS.Inv.live_chk {s:LS}{n:Nat}(h:s.Inv n)(hn:n<=60)(hk:s.k.Head){P:Nat}(hP:P∈s.live):s.k.cl=0/\InC P/\Z9 P=65/\(s.k.block 103 P).2=0:=by
 obtain ⟨j,hL⟩:=h.ok.liv P hP;have hc:=(h.cl0 (h.ok.na_live hP)).1;obtain ⟨h1,_,h3,h4⟩:=hL.chk hk hc (h.gens hn);exact ⟨hc,h1,h3,by rw [h4]⟩
theorem LS.Inv.stale_chk {s:LS}{n:Nat}(h:s.Inv n)(hn:n<=60)(hk:s.k.Head){P:Nat}(hP:P∈s.fr):s.k.cl=0/\InC P/\(s.k.block 103 P).2=12:=by
 obtain ⟨j,g,h1,h2,h3,h4⟩:=h.ok.fr P hP;have hc:=(h.cl0 (fun e=>by have:=(h.ok.zero e).2.2.1;rw [this] at hP;cases hP)).1;obtain ⟨h5,h6⟩:=Dv.stale_chk hk hc (h.gens hn) h1 h2 h3 h4;exact ⟨hc,h5,h6⟩
theorem ZEu:k0.block 71 3377704015495745=(0,0):=by decide
theorem ZFq:k0.block 71 18014402804449918=(1,0):=by decide
theorem XV:PtrOk 3377704015495745/\ZP 3377704015495745=4616/\Z9 3377704015495745=12:=by
 refine ⟨⟨?_,?_,?_,?_⟩,?_,?_⟩ <;> decide
theorem Jp:PtrOk 18014402804449918/\ZP 18014402804449918=5104/\Z9 18014402804449918=64:=by
 refine ⟨⟨?_,?_,?_,?_⟩,?_,?_⟩ <;> decide
variable {w w':World}
theorem ZIr:(prog.info? 54).map (fun i=>(i.zero,i.size,i.bytes))=some (some (.agg #[.int .u64 0,.int .u64 0]),2,16):=by kernel_rfl
theorem ZAd:El prog 41 54 2 16:=El.of underlying41 ZIr rfl (by omega)
def rcl (l:List (Nat×Nat)):List Value:=l.flatMap fun y=>[.int .u64 y.1,.int .u64 y.2]
theorem ZE1 (a b:List (Nat×Nat)):rcl (a++b)=rcl a++rcl b:=by simp [rcl]
theorem VP:∀ {l:List (Nat×Nat)} {i:Nat} {y:Nat×Nat},l[i]?=some y->(rcl l)[2 * i]?=some (.int .u64 y.1)/\(rcl l)[2 * i+1]?=some (.int .u64 y.2)
 |[],i,y,h=>by simp at h
 |z:: l,0,y,h=>by
  have:z=y:=by simpa using h
  subst this;exact ⟨rfl,rfl⟩
 |z:: l,i+1,y,h=>by
  have ih:=VP (l:=l) (i:=i) (y:=y) (by simpa using h);have e:rcl (z:: l)=[.int .u64 z.1,.int .u64 z.2]++rcl l:=rfl;rw [e];refine ⟨?_,?_⟩
  ·rw [ZL6 (by simp;omega)]
   rw [show 2 * (i+1) - [Value.int .u64 z.1,.int .u64 z.2].length=2 * i by simp;omega];exact ih.1
  ·rw [ZL6 (by simp;omega)]
   rw [show 2 * (i+1)+1 - [Value.int .u64 z.1,.int .u64 z.2].length=2 * i+1 by simp;omega];exact ih.2
def RitW (w:World)(B:Nat)(v:Value)(l:List (Nat×Nat)):Prop:=w.ownsRow B 54 2 v l.length (rcl l)
def Rit (w:World)(v:Value)(l:List (Nat×Nat)):Prop:=∃ a cap,v=.slice a l.length cap/\(0 < l.length->∃ g,a=some ⟨g,0,none⟩/\Seen w g 0 (rcl l))
theorem RitW.rit {B:Nat}{v:Value}{l:List (Nat×Nat)}(h:RitW w B v l):Rit w v l:=by
 obtain ⟨a,cap,rfl⟩:=ZN h;refine ⟨a,cap,rfl,fun h0=>?_⟩;obtain ⟨g,cap',e,hs,_⟩:=Zb h h0;cases e;exact ⟨g,rfl,hs⟩
theorem Rit.below {v:Value}{l:List (Nat×Nat)}(h:Rit w v l)(hb:Bl w w'):Rit w' v l:=by
 obtain ⟨a,cap,e,hg⟩:=h;refine ⟨a,cap,e,fun h0=>?_⟩;obtain ⟨g,e2,hs⟩:=hg h0;exact ⟨g,e2,hs.below hb nR⟩
theorem Vq {B:Nat}{v:Value}{l:List (Nat×Nat)}{y:Nat×Nat}{n:Nat}(hn:n=l.length+1)(h:w.ownsRow B 54 2 v n (rcl l++[.int .u64 y.1,.int .u64 y.2])):RitW w B v (l++[y]):=by
 unfold RitW;rw [ZLc,ZE1,List.length_singleton,<-hn];exact h
def ClR (w:World)(now:Nat)(an:Nat->Nat)(l:List (Nat×Nat))(i s6 s7:Value)(wr:World):Prop:=
 ∃ n:Nat,n<=l.length/\i=.int .i64 n/\Bl w wr/\RitW wr w.heap.size s6 ((l.take n).filter fun y=>!Zg now an y.2)/\RitW wr w.heap.size s7 ((l.take n).filter fun y=>Zg now an y.2)/\s6.ownBlock≠s7.ownBlock
theorem ZBq {v:Value}{l:List (Nat×Nat)}(hv:Rit w v l)(hl:l.length<=100){now:Nat}{an:Nat->Nat}:
 Calls prog 40 #[v,.agg (ck9 now an)] w fun e w'=>∃ s f,e=.returned (.tuple #[s,f])/\RitW w' w.heap.size s (l.filter fun y=>!Zg now an y.2)/\RitW w' w.heap.size f (l.filter fun y=>Zg now an y.2)/\Bl w w':=by
 have HV:=zh hv;have HSF:=zh (fun (w1:World) (e:Nat)=>ZGL (w:=w1) (now:=now) (e:=e) (an:=an));obtain ⟨a,cap,rfl,hg⟩:=hv;have HG:=zh hg;obtain ⟨N,hN⟩:=xE l.length;have HN:=zh hN;rw [<-hN] at hl ⊢;clear hg hN;obtain ⟨w0,hw0⟩:=xE (w.alloc (.cells (ck9 now an) 44));have hb0:Bl w w0:=by rw [hw0];exact ZA bR
 have hbx:w0.heap[w.heap.size]?=some (.cells (ck9 now an) 44 (0,0)):=by rw [hw0];exact ZC _ _
 have HB0:=zh hb0;have HBX:=zh hbx;have HW0:=zh hw0;have HST:=zh (show ClR w0 now an l (.int .i64 0) (.slice (some ⟨w0.heap.size,0,none⟩) 0 0) (.slice (some ⟨w0.heap.size+1,0,none⟩) 0 0) ((w0.alloc (.cells #[] 54)).alloc (.cells #[] 54)) from by
  refine ⟨0,Nat.zero_le _,rfl,ZA (ZA bR),?_,?_,fun e=>by have:=ZLd e;simp at this⟩
  ·refine ⟨rfl,.inr ⟨w0.heap.size,0,#[],rfl,nR,?_,nR,by unfold maxLen;omega,rfl,rfl⟩⟩
   rw [ZK (by simp)];exact ZC _ _
  ·refine ⟨rfl,.inr ⟨w0.heap.size+1,0,#[],rfl,by omega,?_,nR,by unfold maxLen;omega,rfl,rfl⟩⟩
   have:=ZC (w0.alloc (.cells #[] 54)) (.cells #[] 54);simpa using this)
 unfold ck9 at HW0 HBX HSF ⊢;clear hb0 hbx hw0;go_in;go_wp2_with fail;rw [<-HW0.o]
 go_loopw [14,6,7] (fun i s6 s7 wr=>ClR w0 now an l i s6 s7 wr) (fun i _ _ _=>N - (intOf i).toNat)
 case atStart=>simpa [HW0.o] using HST.o
 case round=>
 obtain ⟨n,hn,rfl,hb,ho6,ho7,hne⟩:=hrel;have HB:=zh hb;have HO6:=zh ho6;have HO7:=zh ho7;have HNE:=zh hne;rw [<-HN.o] at hn;obtain ⟨a6,c6,rfl⟩:=ZN ho6;obtain ⟨a7,c7,rfl⟩:=ZN ho7;obtain ⟨K6,hK6⟩:=xE (((l.take n).filter fun y=>!Zg now an y.2).length);obtain ⟨K7,hK7⟩:=xE (((l.take n).filter fun y=>Zg now an y.2).length);have HK6:=zh hK6;have HK7:=zh hK7;rw [<-hK6] at HO6 HNE ⊢;rw [<-hK7] at HO7 HNE ⊢;clear hb ho6 ho7 hne hK6 hK7 HST
 by_cases hlt:n < N
 ·have b1:(n:Int) < N:=by omega
  have b2:(n:Int) < 100:=by omega
  obtain ⟨g,rfl,hs⟩:=HG.o (by have:=HN.o;omega);have hnl:n < l.length:=by have:=HN.o;omega
  obtain ⟨y,hy⟩:=xE (l[n]);have hget:l[n]?=some y:=by rw [hy];exact ZLg hnl
  obtain ⟨e0,e1⟩:=VP hget;have hs2:=(hs.below HB0.o nR).below HB.o (by have:=HB0.o.size;omega);have t0:=hs2 _ _ e0;have t1:=hs2 _ _ e1;rw [show 0+2 * n=n * 2 by omega] at t0;rw [show 0+(2 * n+1)=n * 2+1 by omega] at t1;have HY:=zh (show l.take (n+1)=l.take n++[y] by rw [ZLk hnl,hy]);obtain ⟨yp,ye⟩:=y;simp only at t0 t1;have HS7:=zh (fun (w1:World)=>HSF.o w1 ye);have hbw:=(HB.o.block _ (heap_lt HBX.o)).trans HBX.o;obtain ⟨⟨k0,k1,k2,k3,k4,k5,k6,k7,k8⟩,_⟩:=ZCq ((ZK (o:=.cells #[.int .u64 yp,.int .u64 ye] 54) (heap_lt hbw)).trans hbw);clear hs hs2 e0 e1 hget hy hnl hbw;go_wp2_with fail;refine (HS7.o _).mono ?_;rintro e w5 ⟨rfl,hb5⟩;have hb6:Bl wr w5:=(ZA bR).trans (hb5.mono (by simp));have HB5:=zh (HB.o.trans (hb6.mono HB.o.size));have HO65:=zh (ZO HO6.o hb6);have HO75:=zh (ZO HO7.o hb6);have hn5:=(hb5.block wr.heap.size (by simp)).trans (ZC wr (.cells #[.int .u64 yp,.int .u64 ye] 54));obtain ⟨y0,y1,_⟩:=Yd hn5;obtain ⟨B,hB⟩:=xE (Zg now an ye);have HBB:=zh hB;rw [<-hB];clear hB hb5 hb6 hn5 t0 t1 k0 k1 k2 k3 k4 k5 k6 k7 k8 HO6 HO7 HB HS7;have HLE:=zh (show ((l.take n).filter fun y=>!Zg now an y.2).length<=100/\((l.take n).filter fun y=>Zg now an y.2).length<=100 from by
   have h1:=ZL0 (fun y:Nat×Nat=>!Zg now an y.2) (l.take n);have h2:=ZL0 (fun y:Nat×Nat=>Zg now an y.2) (l.take n);have h3:=List.length_take_le n l;omega)
  cases B with
  |true=>
   go_wp2_with (at_builtin;refine ZS ZAd rfl _ _ rfl HO75.o rfl rfl ?c1 rfl ?c2 ?c3 ?c4 ?c5 ?_)
   case c1=>rfl
   case c2=>exact ⟨rfl,rfl⟩
   case c3=>have:=HLE.o;unfold maxLen;omega
   case c4=>have:=HLE.o;omega
   case c5=>exact HB5.o.size
   intro g9 cap9 w9 hop hgr hg9;have HQ:=zh (show ClR w0 now an l (.int .i64 ((n+1:Nat):Int)) (.slice a6 K6 c6) (.slice (some ⟨g9,0,none⟩) (((l.take n).filter fun y=>Zg now an y.2).length+1) cap9) w9 from by
    have hlt9:∀ k,(Value.slice a6 K6 c6).ownBlock=some k->k < w5.heap.size:=fun k hk=>(HO65.o.lt k hk).2
    have hne9:(Value.slice a6 K6 c6).ownBlock≠some g9:=fun e=>by
     rcases hg9 with q|q
     ·exact HNE.o (e.trans q.symm)
     ·have:=hlt9 g9 e;omega
    refine ⟨n+1,by have:=HN.o;omega,rfl,ZL HB5.o hgr HB5.o.size (fun k hk=>(HO75.o.lt k hk).1),?_,?_,hne9⟩
    ·rw [HY.o,ZL5]
     have e1:([(yp,ye)]:List (Nat×Nat)).filter (fun y=>!Zg now an y.2)=[]:=by simp [<-HBB.o]
     rw [e1];rw [List.append_nil];exact World.ownsRow.kept HO65.o hgr (.inr HNE.o)
    ·rw [HY.o,ZL5]
     have e1:([(yp,ye)]:List (Nat×Nat)).filter (fun y=>Zg now an y.2)=[(yp,ye)]:=by simp [<-HBB.o]
     rw [e1];exact Vq rfl hop)
   clear hop hgr hg9 y0 y1;go_wp2_with fail;go_round
   case rel=>simpa using HQ.o
   case measure=>simp [intOf];omega
  |false=>
   go_wp2_with (at_builtin;refine ZS ZAd rfl _ _ rfl HO65.o rfl rfl ?c1 rfl ?c2 ?c3 ?c4 ?c5 ?_)
   case c1=>rfl
   case c2=>exact ⟨rfl,rfl⟩
   case c3=>have:=HLE.o;unfold maxLen;omega
   case c4=>have:=HLE.o;omega
   case c5=>exact HB5.o.size
   intro g9 cap9 w9 hop hgr hg9;have HQ:=zh (show ClR w0 now an l (.int .i64 ((n+1:Nat):Int)) (.slice (some ⟨g9,0,none⟩) (((l.take n).filter fun y=>!Zg now an y.2).length+1) cap9) (.slice a7 K7 c7) w9 from by
    have hlt9:∀ k,(Value.slice a7 K7 c7).ownBlock=some k->k < w5.heap.size:=fun k hk=>(HO75.o.lt k hk).2
    have hne9:(Value.slice a7 K7 c7).ownBlock≠some g9:=fun e=>by
     rcases hg9 with q|q
     ·exact HNE.o (q.trans e.symm)
     ·have:=hlt9 g9 e;omega
    refine ⟨n+1,by have:=HN.o;omega,rfl,ZL HB5.o hgr HB5.o.size (fun k hk=>(HO65.o.lt k hk).1),?_,?_,fun e=>hne9 e.symm⟩
    ·rw [HY.o,ZL5]
     have e1:([(yp,ye)]:List (Nat×Nat)).filter (fun y=>!Zg now an y.2)=[(yp,ye)]:=by simp [<-HBB.o]
     rw [e1];exact Vq rfl hop
    ·rw [HY.o,ZL5]
     have e1:([(yp,ye)]:List (Nat×Nat)).filter (fun y=>Zg now an y.2)=[]:=by simp [<-HBB.o]
     rw [e1];rw [List.append_nil];exact World.ownsRow.kept HO75.o hgr (.inr (Ne.symm HNE.o)))
   clear hop hgr hg9 y0 y1;go_wp2_with fail;go_round
   case rel=>simpa using HQ.o
   case measure=>simp [intOf];omega
 ·obtain rfl:n=N:=by omega
  have HE:=zh (show RitW wr w.heap.size (.slice a6 K6 c6) (l.filter fun y=>!Zg now an y.2)/\RitW wr w.heap.size (.slice a7 K7 c7) (l.filter fun y=>Zg now an y.2)/\Bl w wr from by
   have e:l.take n=l:=ZL1 (by have:=HN.o;omega);have h6:=HO6.o;have h7:=HO7.o;rw [e] at h6 h7;refine ⟨⟨h6.1,h6.2.imp id ?_⟩,⟨h7.1,h7.2.imp id ?_⟩,HB0.o.trans (HB.o.mono HB0.o.size)⟩
   ·rintro ⟨g,cp,cur,e1,hg,rest⟩;exact ⟨g,cp,cur,e1,ZLi HB0.o.size hg,rest⟩
   ·rintro ⟨g,cp,cur,e1,hg,rest⟩;exact ⟨g,cp,cur,e1,ZLi HB0.o.size hg,rest⟩)
  have d1:¬ ((n:Int) < n):=by omega
  clear HO6 HO7;go_wp2;go_returns;exact ⟨_,_,rfl,HE.o⟩
theorem Qj {x:Nat×Nat}:∀ {l:List (Nat×Nat)},(∀ y∈l,Yx x y=false)->YK x l=l++[x]
 |[],_=>rfl
 |y:: l,h=>by
  unfold YK;rw [ZLU (by rw [h y (.head _)];simp),Qj fun z hz=>h z (.tail _ hz)];rfl
theorem ZCX {x z:Nat×Nat}:∀ {l:List (Nat×Nat)},(∃ y∈l,Yx x y=true)->YK x (l++[z])=YK x l++[z]
 |[],h=>by obtain ⟨y,hy,_⟩:=h;cases hy
 |y:: l,h=>by
  show YK x (y:: (l++[z]))=_;unfold YK
  by_cases e:Yx x y=true
  ·rw [ZLX e,ZLX e];rfl
  ·rw [ZLU e,ZLU e,ZCX]
   ·rfl
   ·obtain ⟨u,hu,h2⟩:=h
    rcases List.mem_cons.1 hu with rfl|hu
    ·exact absurd h2 e
    ·exact ⟨u,hu,h2⟩
theorem ZAo {x z:Nat×Nat}:∀ {l:List (Nat×Nat)},(∀ y∈l,Yx x y=false)->Yx x z=true->YK x (l++[z])=l++[x]++[z]
 |[],_,h=>by show YK x [z]=_;unfold YK;rw [ZLX h];rfl
 |y:: l,h,h2=>by
  show YK x (y:: (l++[z]))=_;unfold YK;rw [ZLU (by rw [h y (.head _)];simp),ZAo (fun u hu=>h u (.tail _ hu)) h2];rfl
theorem ZH4 {q:Nat}:Calls prog 100 #[.int .u64 q] w fun e w'=>e=.returned (.int .u64 ((q % 4294967296:Nat):Int))/\w=w':=by
 have e:((q % 4294967296:Nat):Int)=(q:Int) % 4294967296:=by omega
 rw [e];clear e;go_in;go_wp2;go_returns;exact ⟨rfl,rfl⟩
def AdR (w:World)(x:Nat×Nat)(l:List (Nat×Nat))(i out:Value)(dn:Value)(wr:World):Prop:=
 ∃ (n:Nat) (d:Bool) (ol:List (Nat×Nat)),n<=l.length/\i=.int .i64 n/\dn=.bool d/\Bl w wr/\RitW wr w.heap.size out ol/\
  ((d=true/\(∃ y∈l.take n,Yx x y=true)/\ol=YK x (l.take n))\/(d=false/\(∀ y∈l.take n,Yx x y=false)/\ol=l.take n))
theorem ZHy {v:Value}{l:List (Nat×Nat)}(hv:Rit w v l)(hl:l.length<=100){xp xe:Nat}:
 Calls prog 39 #[v,.agg #[.int .u64 xp,.int .u64 xe]] w fun e w'=>∃ s,e=.returned s/\RitW w' w.heap.size s (YK (xp,xe) l)/\Bl w w':=by
 obtain ⟨a,cap,rfl,hg⟩:=hv;have HG:=zh hg;have HOF:=zh (fun (w1:World) (q:Nat)=>ZH4 (w:=w1) (q:=q));obtain ⟨N,hN⟩:=xE l.length;have HN:=zh hN;rw [<-hN] at hl ⊢;clear hg hN;obtain ⟨w0,hw0⟩:=xE (w.alloc (.cells #[.int .u64 xp,.int .u64 xe] 54));have HB0:=zh (show Bl w w0 by rw [hw0];exact ZA bR);have HBX:=zh (show w0.heap[w.heap.size]?=some (.cells #[.int .u64 xp,.int .u64 xe] 54 (0,0)) by rw [hw0];exact ZC _ _);have HW0:=zh hw0
 have HST:=zh (show AdR w0 (xp,xe) l (.int .i64 0) (.slice (some ⟨w0.heap.size,0,none⟩) 0 0) (.bool false) (w0.alloc (.cells #[] 54)) from
  ⟨0,false,[],Nat.zero_le _,rfl,rfl,ZA bR,⟨rfl,.inr ⟨w0.heap.size,0,#[],rfl,nR,ZC _ _,nR,by unfold maxLen;omega,rfl,rfl⟩⟩,.inr ⟨rfl,fun y hy=>by simp at hy,rfl⟩⟩)
 clear hw0;go_in;go_wp2_with fail;rw [<-HW0.o]
 go_loopw [12,5,6] (fun i o d wr=>AdR w0 (xp,xe) l i o d wr) (fun i _ _ _=>N - (intOf i).toNat)
 case atStart=>simpa [HW0.o] using HST.o
 case round=>
 obtain ⟨n,d,ol,hn,rfl,rfl,hb,ho,hrest⟩:=hrel;have HB:=zh hb;have HO:=zh ho;rw [<-HN.o] at hn;have HLE:=zh (show ol.length<=101 from by
  rcases hrest with ⟨_,_,rfl⟩|⟨_,_,rfl⟩
  ·have h1:=(VH (xp,xe) (l.take n)).length_eq
   have h2:=List.length_take_le n l;rw [List.length_cons] at h1;omega
  ·have h2:=List.length_take_le n l;omega)
 have HRS:=zh hrest;obtain ⟨oa,oc,rfl⟩:=ZN ho;clear hb ho hrest HST
 by_cases hlt:n < N
 ·have b1:(n:Int) < N:=by omega
  have b2:(n:Int) < 100:=by omega
  obtain ⟨g,rfl,hs⟩:=HG.o (by have:=HN.o;omega);have hnl:n < l.length:=by have:=HN.o;omega
  obtain ⟨y,hy⟩:=xE (l[n]);have hget:l[n]?=some y:=by rw [hy];exact ZLg hnl
  obtain ⟨e0,e1⟩:=VP hget;have hs2:=(hs.below HB0.o nR).below HB.o (by have:=HB0.o.size;omega);have t0:=hs2 _ _ e0;have t1:=hs2 _ _ e1;rw [show 0+2 * n=n * 2 by omega] at t0;rw [show 0+(2 * n+1)=n * 2+1 by omega] at t1;have HY:=zh (show l.take (n+1)=l.take n++[y] by rw [ZLk hnl,hy]);obtain ⟨yp,ye⟩:=y;simp only at t0 t1;clear hs hs2 e0 e1 hget hy hnl;go_wp2_with fail;obtain ⟨w5,hw5⟩:=xE (wr.alloc (.cells #[.int .u64 yp,.int .u64 ye] 54));have hb5:Bl wr w5:=by rw [hw5];exact ZA bR
  have HB5:=zh (HB.o.trans (hb5.mono HB.o.size));have HO5:=zh (ZO HO.o hb5);have HX5:=zh ((HB5.o.block _ (heap_lt HBX.o)).trans HBX.o);have HN5:=zh (show w5.heap[wr.heap.size]?=some (.cells #[.int .u64 yp,.int .u64 ye] 54 (0,0)) from by rw [hw5];exact ZC _ _);obtain ⟨NB,hNB⟩:=xE wr.heap.size;have HKL:=zh (show ∀ k,(Value.slice oa ol.length oc).ownBlock=some k->w0.heap.size<=k/\k < wr.heap.size from fun k hk=>HO.o.lt k hk);rw [<-hNB] at HN5 HKL;rw [<-hw5,<-hNB];obtain ⟨XB,hXB⟩:=xE w.heap.size;have HXB:=zh hXB;rw [<-hXB] at HX5 ⊢;clear hw5 hb5 hNB hXB t0 t1 HB HO;obtain ⟨x0,x1,_⟩:=Yd HX5.o;obtain ⟨y0,y1,_⟩:=Yd HN5.o;have HIT:=zh (show Yx (xp,xe) (yp,ye)=decide (xe < ye\/xe=ye/\xp % 4294967296 < yp % 4294967296) from rfl)
  go_cut [40] (fun v wx=>v=.bool (!d && Yx (xp,xe) (yp,ye))/\Bl w5 wx)
  ·cases d with
   |true=>
    go_quiet (first|(go_at_call 100;exact ZZ (HOF.o _ _)))
    (try go_simp)
    (try go_wp2_with fail)
    go_meet;exact ⟨by simp,ZU (n:=nq) (Below.refl w5.heap.size w5)⟩
   |false=>
    by_cases h1:xe < ye
    ·have d1:(xe:Int) < ye:=by omega
     have g1:decide ((xe:Int) < ye)=true:=by simp;omega
     have g2:decide (xe < ye)=true:=by simp;omega
     have hR:Yx (xp,xe) (yp,ye)=true:=by rw [HIT.o];simp [h1]
     go_quiet (first|(go_at_call 100;exact ZZ (HOF.o _ _)))
     (try go_simp)
     (try go_wp2_with fail)
     go_meet;exact ⟨by rw [hR];rfl,ZU (n:=nq) (Below.refl w5.heap.size w5)⟩
    ·have d1:¬ (xe:Int) < ye:=by omega
     have g1:decide ((xe:Int) < ye)=false:=by simp;omega
     have g2:decide (xe < ye)=false:=by simp;omega
     by_cases h2:xe=ye
     ·subst h2
      have hR:Yx (xp,xe) (yp,xe)=decide (xp % 4294967296 < yp % 4294967296):=by rw [HIT.o];simp
      obtain ⟨ox,hox⟩:=xE (xp % 4294967296);obtain ⟨oy,hoy⟩:=xE (yp % 4294967296);have HOX:=zh (fun w1=>HOF.o w1 xp);have HOY:=zh (fun w1=>HOF.o w1 yp);rw [<-hox] at HOX hR;rw [<-hoy] at HOY hR;have hR2:decide ((ox:Int) < oy)=Yx (xp,xe) (yp,xe):=by rw [hR,Bool.eq_iff_iff];simp
      clear hox hoy hR
      go_quiet (first|(go_at_call 100;first|exact ZZ (HOX.o _)|exact ZZ (HOY.o _)))
      (try go_simp)
      (try go_wp2_with fail)
      go_meet;exact ⟨by rw [<-hR2];simp,ZU (n:=nq) (Below.refl w5.heap.size w5)⟩
     ·have d2:¬ (xe:Int)=ye:=by omega
      have g3:((xe:Int) == ye)=false:=by simp;omega
      have g4:decide (xe=ye)=false:=by simp;omega
      have hR:Yx (xp,xe) (yp,ye)=false:=by rw [HIT.o];simp;omega
      go_quiet (first|(go_at_call 100;exact ZZ (HOF.o _ _)))
      (try go_simp)
      (try go_wp2_with fail)
      go_meet;exact ⟨by rw [hR];rfl,ZU (n:=nq) (Below.refl w5.heap.size w5)⟩
  ·obtain ⟨rfl,hb6⟩:=hcut
   obtain ⟨w6,hw6⟩:=xE wc;rw [<-hw6] at hb6 ⊢;have HB6:=zh (HB5.o.trans (hb6.mono HB5.o.size));have HO6:=zh (ZO HO5.o hb6);have HX6:=zh ((hb6.block _ (heap_lt HX5.o)).trans HX5.o);have HN6:=zh ((hb6.block _ (heap_lt HN5.o)).trans HN5.o);clear hb6 hw6 x0 x1 y0 y1;obtain ⟨x0,x1,_⟩:=Yd HX6.o;obtain ⟨y0,y1,_⟩:=Yd HN6.o;obtain ⟨B,hB⟩:=xE ((!d && Yx (xp,xe) (yp,ye)));have HBB:=zh hB;rw [<-hB];clear hB;cases B with
   |true=>
    go_wp2_with (at_builtin;refine ZS ZAd rfl _ _ rfl HO6.o rfl rfl ?c1 rfl ?c2 ?c3 ?c4 ?c5 ?_)
    case c1=>rfl
    case c2=>exact ⟨rfl,rfl⟩
    case c3=>have:=HLE.o;unfold maxLen;omega
    case c4=>have:=HLE.o;omega
    case c5=>exact HB6.o.size
    intro g7 cap7 w7 hop hgr hg7;have HB7:=zh (ZL HB6.o hgr HB6.o.size (fun k hk=>(HO6.o.lt k hk).1));have HO7:=zh hop;have hy7:=(hgr.block NB (heap_lt HN6.o) (fun q=>by have:=(HKL.o NB q.symm).2;omega)).trans HN6.o;have HN7:=zh hy7;clear hop hgr hg7 x0 x1 y0 y1 hy7;obtain ⟨y0,y1,_⟩:=Yd HN7.o;go_wp2_with (at_builtin;refine ZS ZAd rfl _ _ rfl HO7.o rfl rfl ?c1 rfl ?c2 ?c3 ?c4 ?c5 ?_)
    case c1=>rfl
    case c2=>exact ⟨rfl,rfl⟩
    case c3=>have:=HLE.o;unfold maxLen;omega
    case c4=>have:=HLE.o;omega
    case c5=>exact HB7.o.size
    intro g8 cap8 w8 hop8 hgr8 hg8;have HQ:=zh (show AdR w0 (xp,xe) l (.int .i64 ((n+1:Nat):Int)) (.slice (some ⟨g8,0,none⟩) (ol.length+1+1) cap8) (.bool true) w8 from by
     have hd:d=false/\Yx (xp,xe) (yp,ye)=true:=by
      have:=HBB.o;cases d <;> simp at this ⊢
      exact this
     rcases HRS.o with ⟨h1,_⟩|⟨_,h2,h3⟩
     ·rw [hd.1] at h1;cases h1
     ·refine ⟨n+1,true,ol++[(xp,xe)]++[(yp,ye)],by have:=HN.o;omega,rfl,rfl,ZL HB7.o hgr8 HB7.o.size (fun k hk=>(HO7.o.lt k hk).1),?_,.inl ⟨rfl,?_,?_⟩⟩
      ·refine Vq (n:=ol.length+1+1) (by rw [ZLc];rfl) ?_
       rw [ZE1,List.append_assoc];exact hop8
      ·exact ⟨(yp,ye),by rw [HY.o];simp,hd.2⟩
      ·rw [HY.o,h3,ZAo h2 hd.2])
    clear hop8 hgr8 hg8 y0 y1;go_wp2_with fail;go_round
    case rel=>
     simp;exact ⟨_,_,_,_,by simpa using HQ.o,HXB.o,rfl,rfl,rfl,HXB.o,rfl⟩
    case measure=>simp [intOf];omega
   |false=>
    go_wp2_with (at_builtin;refine ZS ZAd rfl _ _ rfl HO6.o rfl rfl ?c1 rfl ?c2 ?c3 ?c4 ?c5 ?_)
    case c1=>rfl
    case c2=>exact ⟨rfl,rfl⟩
    case c3=>have:=HLE.o;unfold maxLen;omega
    case c4=>have:=HLE.o;omega
    case c5=>exact HB6.o.size
    intro g7 cap7 w7 hop hgr hg7;have HQ:=zh (show AdR w0 (xp,xe) l (.int .i64 ((n+1:Nat):Int)) (.slice (some ⟨g7,0,none⟩) (ol.length+1) cap7) (.bool d) w7 from by
     refine ⟨n+1,d,ol++[(yp,ye)],by have:=HN.o;omega,rfl,rfl,ZL HB6.o hgr HB6.o.size (fun k hk=>(HO6.o.lt k hk).1),Vq rfl hop,?_⟩;rcases HRS.o with ⟨h1,h2,h3⟩|⟨h1,h2,h3⟩
     ·refine .inl ⟨h1,?_,by rw [HY.o,ZCX h2,<-h3]⟩
      obtain ⟨u,hu,h4⟩:=h2;exact ⟨u,by rw [HY.o];exact ZLZ.2 (.inl hu),h4⟩
     ·refine .inr ⟨h1,fun u hu=>?_,by rw [HY.o,h3]⟩
      rw [HY.o] at hu;rcases ZLZ.1 hu with hu|hu
      ·exact h2 u hu
      ·have:u=(yp,ye):=by simpa using hu
       subst this;have:=HBB.o;rw [h1] at this;simpa using this.symm)
    clear hop hgr hg7 x0 x1 y0 y1;go_wp2_with fail;go_round
    case rel=>
     simp;exact ⟨_,_,_,_,by simpa using HQ.o,HXB.o,rfl,rfl,rfl,HXB.o,rfl⟩
    case measure=>simp [intOf];omega
 ·obtain rfl:n=N:=by omega
  have hX:=(HB.o.block _ (heap_lt HBX.o)).trans HBX.o;have HX6:=zh hX;obtain ⟨x0,x1,_⟩:=Yd hX;have e:l.take n=l:=ZL1 (by have:=HN.o;omega);have HEQ:=zh e;have d1:¬ ((n:Int) < n):=by omega
  clear hX e;cases d with
  |true=>
   have HE:=zh (show RitW wr w.heap.size (.slice oa ol.length oc) (YK (xp,xe) l)/\Bl w wr from by
    rcases HRS.o with ⟨_,_,h3⟩|⟨h1,_⟩
    ·rw [HEQ.o] at h3
     have ho:=HO.o;rw [<-h3];refine ⟨⟨ho.1,ho.2.imp id ?_⟩,HB0.o.trans (HB.o.mono HB0.o.size)⟩;rintro ⟨g,cp,cur,e1,hg,rest⟩;exact ⟨g,cp,cur,e1,ZLi HB0.o.size hg,rest⟩
    ·cases h1)
   clear HO x0 x1;go_wp2;go_returns;exact ⟨_,rfl,HE.o⟩
  |false=>
   go_wp2_with (at_builtin;refine ZS ZAd rfl _ _ rfl HO.o rfl rfl ?c1 rfl ?c2 ?c3 ?c4 ?c5 ?_)
   case c1=>rfl
   case c2=>exact ⟨rfl,rfl⟩
   case c3=>have:=HLE.o;unfold maxLen;omega
   case c4=>have:=HLE.o;omega
   case c5=>exact HB.o.size
   intro g7 cap7 w7 hop hgr hg7;have HE:=zh (show RitW w7 w.heap.size (.slice (some ⟨g7,0,none⟩) (ol.length+1) cap7) (YK (xp,xe) l)/\Bl w w7 from by
    rcases HRS.o with ⟨h1,_⟩|⟨_,h2,h3⟩
    ·cases h1
    ·rw [HEQ.o] at h2 h3
     have ho:RitW w7 w0.heap.size (.slice (some ⟨g7,0,none⟩) (ol.length+1) cap7) (ol++[(xp,xe)]):=Vq rfl hop;rw [h3,<-Qj h2] at ho;rw [h3];refine ⟨⟨ho.1,ho.2.imp id ?_⟩,HB0.o.trans ((ZL HB.o hgr HB.o.size (fun k hk=>(HO.o.lt k hk).1)).mono HB0.o.size)⟩;rintro ⟨g,cp,cur,e1,hg,rest⟩;exact ⟨g,cp,cur,e1,ZLi HB0.o.size hg,rest⟩)
   clear hop hgr hg7 x0 x1;go_wp2;go_returns;exact ⟨_,rfl,HE.o⟩
theorem XT {P:Program} {ops:Array Oper} {o:Oper} {a:Act} {K:Act->World->Prop} {Q:Exit->Act->World->Prop} {B:Prop} {W:World} {t e T':TypeId} {size bytes:Nat} (E:El P t e size bytes) (hgd:o.guard=none) (s x:Operand)
 (ho:o.op=.call {callee:=.builtin .append,args:=#[s,x],argTypes:=#[t,t]}) {base:Nat} {v:Value} {n:Nat} {xs:List Value} {cs:Array Value} (hown:W.ownsRow base e size v n xs)
 {N:Nat} (hs:a.eval s=v) (hx:a.eval x=.slice (some ⟨N,0,none⟩) 1 1) (hN:N=W.heap.size) (hcs:cs.size=size) (h1:∀ u∈cs.toList,u.oneCell'=true) (h63:n+1<=maxLen) (hbytes:(n+1) * bytes<=140737488355328) (hbase:base<=W.heap.size)
 (h:∀ g cap w',w'.ownsRow base e size (.slice (some ⟨g,0,none⟩) (n+1) cap) (n+1) (xs++cs.toList)->W.grownBy w' v.ownBlock->
   K (a.put o.dst (.slice (some ⟨g,0,none⟩) (n+1) cap)) w'):
 if Region.wanted o (yielded ops a.tmps)=true then Oper.wp P o a (W.alloc (.cells cs T')) K Q else B:=by
 have hw:Region.wanted o (yielded ops a.tmps)=true:=by simp [Region.wanted,hgd]
 rw [ZLX hw];subst hN;obtain ⟨g,cap,w',hrun,how,hgr,hg⟩:=Zo (w:=W.alloc (.cells cs T')) E (hown.alloc _) ⟨W.heap.size,0,none⟩ 1 1 cs.toList (by simpa using hcs) (fun j u hj=>by
  rw [Addr.add_lit,ZLu,ZD (ZC _ _)];simpa using hj) h1 (by omega) h63 hbytes (by simp;omega)
 have hK:=h g cap w' how ((World.grownBy_alloc W (.cells cs T') v.ownBlock).andThen hgr (fun j hj=>.inr hj));have hr:=hrun o.type;unfold Oper.wp;simp [execOp,ho,resolve,invoke,builtin,hs,hx,hr,Result.andThen];exact hK
theorem ZF {P:Program} {ops:Array Oper} {o:Oper} {a:Act} {w:World} {K:Act->World->Prop} {Q:Exit->Act->World->Prop} {B:Prop} (hgd:o.guard=none) {f:FuncId} {fn:Func} (hf:P.funcs[f]?=some fn) (hb:fn.body.isNone=false) (hn:(fn.name == "runtime.NumGoroutine")=false) {args:Array Operand} {tys:Array TypeId}
 (ho:o.op=.call {callee:=.value (.func f),args:=args,argTypes:=tys}) {vs:Array Value} {R:Ending->World->Prop} (hC:Calls P f vs w R) (hv:args.map a.eval=vs)
 (hK:∀ e w',R e w'->∃ v,e=.returned v/\K (a.put o.dst v) w'):
 if Region.wanted o (yielded ops a.tmps)=true then Oper.wp P o a w K Q else B:=by
 have hw:Region.wanted o (yielded ops a.tmps)=true:=by simp [Region.wanted,hgd]
 rw [ZLX hw];unfold Oper.wp;have e:(execOp a.eval o).run P w=.ok (.enter f (args.map a.eval)) w:=by
  have hb2:fn.body≠none:=fun e=>by rw [e] at hb;cases hb
  have hn2:fn.name≠ "runtime.NumGoroutine":=fun e=>by rw [e] at hn;simp at hn
  simp [execOp,ho,resolve,invoke,Act.eval,Deferred.ofValue,callFunc,Result.andThen,hf,hb2,hn2]
 rw [e,Oper.upon_enter,hv];refine hC.mono ?_;intro e w' hr;obtain ⟨v,rfl,hk⟩:=hK e w' hr;exact hk
theorem ZFB {y x:Nat}(hy:y < 2 ^ 64)(hx:x < 64)(h:y / 2 ^ x % 2=0):(y+2 ^ x) &&& (2 ^ 64 - 1 - 2 ^ x)=y:=by
 rw [<-ZEB h];have hp:2 ^ x < 2 ^ 64:=Nat.pow_lt_pow_right (by omega) hx;apply Nat.eq_of_testBit_eq;intro i;have hb:y.testBit x=false:=by rw [Nat.testBit_eq_decide_div_mod_eq,h];rfl
 have hs:2 ^ 64 - 1 - 2 ^ x=2 ^ 64 - (2 ^ x+1):=by omega
 rw [Nat.testBit_and,Nat.testBit_or,hs,Nat.testBit_two_pow_sub_succ hp,Nat.testBit_two_pow]
 by_cases e:i=x
 ·subst e;simp [hb]
 ·have e2:¬ x=i:=fun q=>e q.symm
  by_cases hi:i < 64
  ·simp [hi,e2]
  ·have:y.testBit i=false:=Nat.testBit_lt_two_pow (ZLq hy (Nat.pow_le_pow_right (by omega) (by omega)))
   simp [hi,this]
theorem Q7 {y x:Nat}(hy:y+2 ^ x < 18446744073709551616)(hx:x < 64)(h:y / 2 ^ x % 2=0):bits .andNot .u64 ((y+2 ^ x:Nat):Int) ((2 ^ x:Nat):Int)=(y:Int):=by
 have hy2:y < 18446744073709551616:=Nat.lt_of_le_of_lt (Nat.le_add_right _ _) hy;have hx2:2 ^ x < 18446744073709551616:=Nat.lt_of_le_of_lt (Nat.le_add_left _ _) hy;show IntKind.u64.wrap ((BitVec.ofInt 64 ((y+2 ^ x:Nat):Int) &&& ~~~ BitVec.ofInt 64 ((2 ^ x:Nat):Int)).toNat:Int)=_;rw [BitVec.toNat_and,BitVec.toNat_not,ofInt_u64 _ hy,ofInt_u64 _ hx2,ZFB hy2 hx h,IntKind.wrap_u64];exact Int.emod_eq_of_lt (by omega) (by omega)
end
end Go.Proofs.YtbpeehmepehkdaaGreatDoor.Dv
