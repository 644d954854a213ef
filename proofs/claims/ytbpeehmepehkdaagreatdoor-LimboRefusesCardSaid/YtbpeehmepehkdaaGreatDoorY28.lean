/- Part 28. -/
import Derived.Test.YtbpeehmepehkdaaGreatDoorY27
set_option maxHeartbeats 8000000
set_option maxRecDepth 20000
set_option linter.all false
namespace Go.Proofs.YtbpeehmepehkdaaGreatDoor.Dv
open Tryz
section
open Go.RowKit Go.Proofs.YtbpeehmepehkdaaGreatDoor.Size
variable {w w':World}{A:DAd}{F F':Nat->Option ZM}{L:Nat}{T c c':Nat->Nat}{x x':Nat}{H:HAd}{lk:Bool}{p p':Nat->Plc}{ex:Nat}{res held:Nat->Option Nat}
theorem ZEk {n:Nat}(hn:n<=2147483648):Calls prog 165 #[.int .u64 n] w fun e w'=>e=.returned (.int .u64 ((7309464666214760448+n:Nat):Int))/\w=w':=by
 have e:=u64_or_nat 7309464666214760448 n (by omega) (by omega);have e2:7309464666214760448 ||| n=7309464666214760448+n:=by
  have:=Nat.two_pow_add_eq_or_of_lt (i:=32) (b:=n) (by omega) 1701867363;rw [show 2 ^ 32 * 1701867363=7309464666214760448 by rfl] at this;exact this.symm
 rw [e2] at e;obtain ⟨R,hR⟩:∃ R:Int,R=((7309464666214760448+n:Nat):Int):=⟨_,rfl⟩
 rw [<-hR] at e ⊢;clear hR e2 hn;go_in;go_wp2;go_returns;exact ⟨by first|rfl|(simp;exact e)|(rw [<-e];rfl),rfl⟩
theorem CkB.now {kb now:Nat}{an:Nat->Nat}(h:CkB w A kb now an)(v:Nat):CkB (w.setCell ⟨kb,2,none⟩ (.int .u64 v)) A kb v an:=(ZI h).trans rfl
def BgP (w:World)(A:DAd)(F:Nat->Option ZM)(L:Nat)(T c:Nat->Nat)(x:Nat)(H:HAd)(lk:Bool)(p:Nat->Plc)(ex:Nat)(res held:Nat->Option Nat)(kb now:Nat)(an:Nat->Nat)(w':World):Prop:=
 ∃ F' wm,HW wm A F' L T c x H lk p ex res held/\HMv F F' H w wm/\CkB wm A kb now an/\w'=wm.setCell ⟨kb,2,none⟩ (.int .u64 (now+1:Nat))
theorem ZG3 (h:HW w A F L T c x H lk p ex res held){kb now:Nat}{an:Nat->Nat}(hk:CkB w A kb now an)(hf:Frn F H kb)(hn:now<=2147483647)(hL:4480 < 64 * L){t:Nat}(ht:t < 8)(hx:x+10<=x')(hx':x'<=1000000):
 Calls prog 103 #[.pointer (some ⟨kb,0,none⟩),.pointer (some ⟨A.t t,0,none⟩),.int .u64 (now+1:Nat)] w fun e w'=>e=.returned (.int .i64 0)/\BgP w A F L T (wrs c [(4480,7309464666214760448+(now+1))]) x' H lk p ex res held kb now an w':=by
 have HPK:=zh (fun (w1:World)=>ZEk (w:=w1) (n:=now+1) (by omega));obtain ⟨X,hX⟩:=xE (7309464666214760448+(now+1));have hX64:X < 18446744073709551616:=by omega
 have HST:=zh (Yl (Below.refl w.heap.size w) (M:=4480) (S:=X) (by omega))
 have HRUN:=zh (fun (w1:World) (hb:Bl w w1) (v:Value) (hv:Prg w1 w.heap.size v (Zk [(4480,X)]))=>(ZEs (h.below hb) ht (ls:=[[(4480,X)]]) (by rw [Z2];exact hv) (fun g hg=>h.new hg) (by rw [Z2];exact Zq _) (by simp;omega) (show x+Zw [[(4480,X)]]<=x' by simp [Zw];omega) hx').mono (R':=fun e w'=>e=.returned (.int .i64 0)/\∃ F',HW w' A F' L T (wrs c [(4480,X)]) x' H lk p ex res held/\HMv F F' H w w'/\CkB w' A kb now an) (by
  rintro e w' ⟨h1,F',h2,h3⟩;have hm:=(HMv.of_below (F:=F) (H:=H) hb).trans h3;exact ⟨h1,F',by simpa using h2,hm,(hm.frn hf (heap_lt hk)).1.trans hk⟩))
 rw [<-hX] at HPK;have HKP:=zh (fun (w1:World) (hb:Bl w w1)=>(show w1.cell? ⟨kb,1,none⟩=some (.int .u64 4480) from (hk.below hb).three.2.1));have HR1:=zh (Below.refl w.heap.size w);obtain ⟨c0,c1,c2⟩:=hk.three;obtain ⟨E,hE⟩:=xE (now+1);rw [<-hE] at HPK ⊢;have HE:=zh hE;have HX:=zh hX;rw [<-hE] at hX;rw [<-hX];clear h hk hf hn hL ht hx hx' hX hX64 hE;go_in;go_upto_region 1 with fail
 go_region_held3 (fun wx=>wx.cell? ⟨kb,1,none⟩=some (.int .u64 4480))
  (first|exact hq.2.2.three.2.1|exact HKP.o _ hbz|exact HKP.o _ (by repeat (with_reducible first|assumption|exact HR1.o|apply ZA|apply ZB)))
  (first
    |(go_at_call 165;refine (HPK.o _).mono ?_;rintro e V1 ⟨rfl,rfl⟩)
    |(go_at_call 111;(first|refine (HST.o _ (by repeat (with_reducible first|assumption|exact HR1.o|apply ZA|apply ZB))).mono ?_|refine (HST.o w.drew (by repeat (with_reducible first|assumption|exact HR1.o|apply ZA|apply ZB))).mono ?_|refine (HST.o w.drew.drew (by repeat (with_reducible first|assumption|exact HR1.o|apply ZA|apply ZB))).mono ?_);rintro e V2 ⟨r,rfl,hpr,hbz⟩)
    |(go_at_call 112;refine (HRUN.o _ hbz _ hpr).mono ?_;rintro e V3 ⟨rfl,F3,hq⟩))
 all_goals
  obtain ⟨hq1,hq2,hq3⟩:=hq;have z2:=hq3.three.2.2;have zf:=ZH (i:=2) hq3;have HQ:=zh (show BgP w A F L T (wrs c [(4480,X)]) x' H lk p ex res held kb now an (V3.setCell ⟨kb,2,none⟩ (.int .u64 E)) from ⟨F3,V3,hq1,hq2,hq3,by rw [HE.o]⟩);clear hq1 hq2 hq3 hpr hbz;go_wp2;go_returns;exact ⟨rfl,HQ.o⟩
theorem ZDi (h:HW w A F L T c x H lk p ex res held){kb now:Nat}{an:Nat->Nat}(hk:CkB w A kb now an)(hf:Frn F H kb)(hn:1<=now/\now<=500)(hc:c 560=7309464666214760448+now)(hL:4480 < 64 * L){t:Nat}(ht:t < 8)(hx:x+10<=x')(hx':x'<=1000000):
 Calls prog 45 #[.pointer (some ⟨kb,0,none⟩),.int .i64 t] w fun e w'=>
  (Yy now an/\e=.returned (.tuple #[.int .u64 (now+1:Nat),.int .i64 0])/\BgP w A F L T (wrs c [(4480,7309464666214760448+(now+1))]) x' H lk p ex res held kb now an w')\/
  (¬ Yy now an/\e=.returned (.tuple #[.int .u64 (0:Nat),.int .i64 7])/\w=w'):=by
 have HC:=zh (QU h.ar hk ⟨hn.1,by omega⟩ hc hL ht);have HBG:=zh (ZG3 h hk hf (by omega) hL ht hx hx');obtain ⟨c0,c1,c2⟩:=hk.three;obtain ⟨k0,k1,k2,k3,k4,k5,k6,k7⟩:=hk.eight;have e1:((now+1:Nat):Int)=(now:Int)+1:=by omega
 have b1:(now:Int)<=500:=by omega
 rw [e1] at HBG;rw [e1];clear h hk hf hn hc hL ht hx hx' e1;go_in;go_wp2_with fail;refine HC.o.mono ?_;rintro e w' ⟨rfl,rfl⟩;go_wp2_with fail
 go_loop [26] (fun i=>∃ n:Nat,n<=8/\i=.int .i64 n/\∀ t,t < n->an t=0\/an t=now) (fun i=>8 - (intOf i).toNat)
 case atStart=>exact ⟨0,by omega,rfl,fun t ht=>by omega⟩
 case round=>
 obtain ⟨n,hn,rfl,hall⟩:=hrel
 by_cases h8:n=8
 ·subst h8
  have HALL:=zh (show Yy now an from hall);have d3:¬ (now:Int)=2147483647:=by omega
  clear hall hn;go_wp2_with fail;refine HBG.o.mono ?_;rintro e w1 ⟨rfl,hq⟩;have HQ:=zh hq;clear hq;go_wp2;go_returns;exact .inl ⟨HALL.o,rfl,HQ.o⟩
 ·have ha:an n=0\/an n≠0/\an n≠now\/an n≠0/\an n=now:=by omega
  rcases (show n=0\/n=1\/n=2\/n=3\/n=4\/n=5\/n=6\/n=7 by omega) with hn'|hn'|hn'|hn'|hn'|hn'|hn'|hn' <;> subst hn'
  ·rcases ha with h0|⟨h0,h1⟩|⟨h0,h1⟩
   ·have HN:=zh (show ∀ t,t < 1->an t=0\/an t=now from fun t ht=>(show t < 0\/t=0 by omega).elim (hall t) (fun q=>by rw [q];exact .inl h0))
    have hix:=XK;have d1:(an 0:Int)=0:=by omega
    clear hall h0;go_wp2_with fail
    all_goals first|exact ⟨⟨1,by omega,rfl,HN.o⟩,by simp [intOf]⟩|exact ⟨⟨_,_,_,⟨1,by omega,rfl,HN.o⟩,rfl,rfl,rfl⟩,by simp [intOf]⟩|exact ⟨⟨_,_,_,_,⟨1,by omega,rfl,HN.o⟩,rfl,rfl,rfl,rfl⟩,by simp [intOf]⟩|exact ⟨⟨_,_,_,_,_,⟨1,by omega,rfl,HN.o⟩,rfl,rfl,rfl,rfl,rfl⟩,by simp [intOf]⟩
   ·have HNO:=zh (show ¬ Yy now an from fun q=>(q 0 (by omega)).elim h0 h1)
    have hix:=XK;have d1:¬ (an 0:Int)=0:=by omega
    have d2:¬ (an 0:Int)=now:=by omega
    clear hall;go_wp2_with fail
    all_goals try exact absurd (‹((an 0:Int) != 0)=false\/((an 0:Int) != (now:Int))=false›) (by simp [d1,d2];omega)
    go_returns;exact .inr ⟨HNO.o,rfl,rfl⟩
   ·have HN:=zh (show ∀ t,t < 1->an t=0\/an t=now from fun t ht=>(show t < 0\/t=0 by omega).elim (hall t) (fun q=>by rw [q];exact .inr h1))
    have hix:=XK;have d1:¬ (an 0:Int)=0:=by omega
    have d2:(an 0:Int)=now:=by omega
    clear hall h0 h1;go_wp2_with fail
    all_goals first|exact ⟨⟨1,by omega,rfl,HN.o⟩,by simp [intOf]⟩|exact ⟨⟨_,_,_,⟨1,by omega,rfl,HN.o⟩,rfl,rfl,rfl⟩,by simp [intOf]⟩|exact ⟨⟨_,_,_,_,⟨1,by omega,rfl,HN.o⟩,rfl,rfl,rfl,rfl⟩,by simp [intOf]⟩|exact ⟨⟨_,_,_,_,_,⟨1,by omega,rfl,HN.o⟩,rfl,rfl,rfl,rfl,rfl⟩,by simp [intOf]⟩
  ·rcases ha with h0|⟨h0,h1⟩|⟨h0,h1⟩
   ·have HN:=zh (show ∀ t,t < 2->an t=0\/an t=now from fun t ht=>(show t < 1\/t=1 by omega).elim (hall t) (fun q=>by rw [q];exact .inl h0))
    have hix:=XL;have d1:(an 1:Int)=0:=by omega
    clear hall h0;go_wp2_with fail
    all_goals first|exact ⟨⟨2,by omega,rfl,HN.o⟩,by simp [intOf]⟩|exact ⟨⟨_,_,_,⟨2,by omega,rfl,HN.o⟩,rfl,rfl,rfl⟩,by simp [intOf]⟩|exact ⟨⟨_,_,_,_,⟨2,by omega,rfl,HN.o⟩,rfl,rfl,rfl,rfl⟩,by simp [intOf]⟩|exact ⟨⟨_,_,_,_,_,⟨2,by omega,rfl,HN.o⟩,rfl,rfl,rfl,rfl,rfl⟩,by simp [intOf]⟩
   ·have HNO:=zh (show ¬ Yy now an from fun q=>(q 1 (by omega)).elim h0 h1)
    have hix:=XL;have d1:¬ (an 1:Int)=0:=by omega
    have d2:¬ (an 1:Int)=now:=by omega
    clear hall;go_wp2_with fail
    all_goals try exact absurd (‹((an 1:Int) != 0)=false\/((an 1:Int) != (now:Int))=false›) (by simp [d1,d2];omega)
    go_returns;exact .inr ⟨HNO.o,rfl,rfl⟩
   ·have HN:=zh (show ∀ t,t < 2->an t=0\/an t=now from fun t ht=>(show t < 1\/t=1 by omega).elim (hall t) (fun q=>by rw [q];exact .inr h1))
    have hix:=XL;have d1:¬ (an 1:Int)=0:=by omega
    have d2:(an 1:Int)=now:=by omega
    clear hall h0 h1;go_wp2_with fail
    all_goals first|exact ⟨⟨2,by omega,rfl,HN.o⟩,by simp [intOf]⟩|exact ⟨⟨_,_,_,⟨2,by omega,rfl,HN.o⟩,rfl,rfl,rfl⟩,by simp [intOf]⟩|exact ⟨⟨_,_,_,_,⟨2,by omega,rfl,HN.o⟩,rfl,rfl,rfl,rfl⟩,by simp [intOf]⟩|exact ⟨⟨_,_,_,_,_,⟨2,by omega,rfl,HN.o⟩,rfl,rfl,rfl,rfl,rfl⟩,by simp [intOf]⟩
  ·rcases ha with h0|⟨h0,h1⟩|⟨h0,h1⟩
   ·have HN:=zh (show ∀ t,t < 3->an t=0\/an t=now from fun t ht=>(show t < 2\/t=2 by omega).elim (hall t) (fun q=>by rw [q];exact .inl h0))
    have hix:=XM;have d1:(an 2:Int)=0:=by omega
    clear hall h0;go_wp2_with fail
    all_goals first|exact ⟨⟨3,by omega,rfl,HN.o⟩,by simp [intOf]⟩|exact ⟨⟨_,_,_,⟨3,by omega,rfl,HN.o⟩,rfl,rfl,rfl⟩,by simp [intOf]⟩|exact ⟨⟨_,_,_,_,⟨3,by omega,rfl,HN.o⟩,rfl,rfl,rfl,rfl⟩,by simp [intOf]⟩|exact ⟨⟨_,_,_,_,_,⟨3,by omega,rfl,HN.o⟩,rfl,rfl,rfl,rfl,rfl⟩,by simp [intOf]⟩
   ·have HNO:=zh (show ¬ Yy now an from fun q=>(q 2 (by omega)).elim h0 h1)
    have hix:=XM;have d1:¬ (an 2:Int)=0:=by omega
    have d2:¬ (an 2:Int)=now:=by omega
    clear hall;go_wp2_with fail
    all_goals try exact absurd (‹((an 2:Int) != 0)=false\/((an 2:Int) != (now:Int))=false›) (by simp [d1,d2];omega)
    go_returns;exact .inr ⟨HNO.o,rfl,rfl⟩
   ·have HN:=zh (show ∀ t,t < 3->an t=0\/an t=now from fun t ht=>(show t < 2\/t=2 by omega).elim (hall t) (fun q=>by rw [q];exact .inr h1))
    have hix:=XM;have d1:¬ (an 2:Int)=0:=by omega
    have d2:(an 2:Int)=now:=by omega
    clear hall h0 h1;go_wp2_with fail
    all_goals first|exact ⟨⟨3,by omega,rfl,HN.o⟩,by simp [intOf]⟩|exact ⟨⟨_,_,_,⟨3,by omega,rfl,HN.o⟩,rfl,rfl,rfl⟩,by simp [intOf]⟩|exact ⟨⟨_,_,_,_,⟨3,by omega,rfl,HN.o⟩,rfl,rfl,rfl,rfl⟩,by simp [intOf]⟩|exact ⟨⟨_,_,_,_,_,⟨3,by omega,rfl,HN.o⟩,rfl,rfl,rfl,rfl,rfl⟩,by simp [intOf]⟩
  ·rcases ha with h0|⟨h0,h1⟩|⟨h0,h1⟩
   ·have HN:=zh (show ∀ t,t < 4->an t=0\/an t=now from fun t ht=>(show t < 3\/t=3 by omega).elim (hall t) (fun q=>by rw [q];exact .inl h0))
    have hix:=XN;have d1:(an 3:Int)=0:=by omega
    clear hall h0;go_wp2_with fail
    all_goals first|exact ⟨⟨4,by omega,rfl,HN.o⟩,by simp [intOf]⟩|exact ⟨⟨_,_,_,⟨4,by omega,rfl,HN.o⟩,rfl,rfl,rfl⟩,by simp [intOf]⟩|exact ⟨⟨_,_,_,_,⟨4,by omega,rfl,HN.o⟩,rfl,rfl,rfl,rfl⟩,by simp [intOf]⟩|exact ⟨⟨_,_,_,_,_,⟨4,by omega,rfl,HN.o⟩,rfl,rfl,rfl,rfl,rfl⟩,by simp [intOf]⟩
   ·have HNO:=zh (show ¬ Yy now an from fun q=>(q 3 (by omega)).elim h0 h1)
    have hix:=XN;have d1:¬ (an 3:Int)=0:=by omega
    have d2:¬ (an 3:Int)=now:=by omega
    clear hall;go_wp2_with fail
    all_goals try exact absurd (‹((an 3:Int) != 0)=false\/((an 3:Int) != (now:Int))=false›) (by simp [d1,d2];omega)
    go_returns;exact .inr ⟨HNO.o,rfl,rfl⟩
   ·have HN:=zh (show ∀ t,t < 4->an t=0\/an t=now from fun t ht=>(show t < 3\/t=3 by omega).elim (hall t) (fun q=>by rw [q];exact .inr h1))
    have hix:=XN;have d1:¬ (an 3:Int)=0:=by omega
    have d2:(an 3:Int)=now:=by omega
    clear hall h0 h1;go_wp2_with fail
    all_goals first|exact ⟨⟨4,by omega,rfl,HN.o⟩,by simp [intOf]⟩|exact ⟨⟨_,_,_,⟨4,by omega,rfl,HN.o⟩,rfl,rfl,rfl⟩,by simp [intOf]⟩|exact ⟨⟨_,_,_,_,⟨4,by omega,rfl,HN.o⟩,rfl,rfl,rfl,rfl⟩,by simp [intOf]⟩|exact ⟨⟨_,_,_,_,_,⟨4,by omega,rfl,HN.o⟩,rfl,rfl,rfl,rfl,rfl⟩,by simp [intOf]⟩
  ·rcases ha with h0|⟨h0,h1⟩|⟨h0,h1⟩
   ·have HN:=zh (show ∀ t,t < 5->an t=0\/an t=now from fun t ht=>(show t < 4\/t=4 by omega).elim (hall t) (fun q=>by rw [q];exact .inl h0))
    have hix:=XO;have d1:(an 4:Int)=0:=by omega
    clear hall h0;go_wp2_with fail
    all_goals first|exact ⟨⟨5,by omega,rfl,HN.o⟩,by simp [intOf]⟩|exact ⟨⟨_,_,_,⟨5,by omega,rfl,HN.o⟩,rfl,rfl,rfl⟩,by simp [intOf]⟩|exact ⟨⟨_,_,_,_,⟨5,by omega,rfl,HN.o⟩,rfl,rfl,rfl,rfl⟩,by simp [intOf]⟩|exact ⟨⟨_,_,_,_,_,⟨5,by omega,rfl,HN.o⟩,rfl,rfl,rfl,rfl,rfl⟩,by simp [intOf]⟩
   ·have HNO:=zh (show ¬ Yy now an from fun q=>(q 4 (by omega)).elim h0 h1)
    have hix:=XO;have d1:¬ (an 4:Int)=0:=by omega
    have d2:¬ (an 4:Int)=now:=by omega
    clear hall;go_wp2_with fail
    all_goals try exact absurd (‹((an 4:Int) != 0)=false\/((an 4:Int) != (now:Int))=false›) (by simp [d1,d2];omega)
    go_returns;exact .inr ⟨HNO.o,rfl,rfl⟩
   ·have HN:=zh (show ∀ t,t < 5->an t=0\/an t=now from fun t ht=>(show t < 4\/t=4 by omega).elim (hall t) (fun q=>by rw [q];exact .inr h1))
    have hix:=XO;have d1:¬ (an 4:Int)=0:=by omega
    have d2:(an 4:Int)=now:=by omega
    clear hall h0 h1;go_wp2_with fail
    all_goals first|exact ⟨⟨5,by omega,rfl,HN.o⟩,by simp [intOf]⟩|exact ⟨⟨_,_,_,⟨5,by omega,rfl,HN.o⟩,rfl,rfl,rfl⟩,by simp [intOf]⟩|exact ⟨⟨_,_,_,_,⟨5,by omega,rfl,HN.o⟩,rfl,rfl,rfl,rfl⟩,by simp [intOf]⟩|exact ⟨⟨_,_,_,_,_,⟨5,by omega,rfl,HN.o⟩,rfl,rfl,rfl,rfl,rfl⟩,by simp [intOf]⟩
  ·rcases ha with h0|⟨h0,h1⟩|⟨h0,h1⟩
   ·have HN:=zh (show ∀ t,t < 6->an t=0\/an t=now from fun t ht=>(show t < 5\/t=5 by omega).elim (hall t) (fun q=>by rw [q];exact .inl h0))
    have hix:=XP;have d1:(an 5:Int)=0:=by omega
    clear hall h0;go_wp2_with fail
    all_goals first|exact ⟨⟨6,by omega,rfl,HN.o⟩,by simp [intOf]⟩|exact ⟨⟨_,_,_,⟨6,by omega,rfl,HN.o⟩,rfl,rfl,rfl⟩,by simp [intOf]⟩|exact ⟨⟨_,_,_,_,⟨6,by omega,rfl,HN.o⟩,rfl,rfl,rfl,rfl⟩,by simp [intOf]⟩|exact ⟨⟨_,_,_,_,_,⟨6,by omega,rfl,HN.o⟩,rfl,rfl,rfl,rfl,rfl⟩,by simp [intOf]⟩
   ·have HNO:=zh (show ¬ Yy now an from fun q=>(q 5 (by omega)).elim h0 h1)
    have hix:=XP;have d1:¬ (an 5:Int)=0:=by omega
    have d2:¬ (an 5:Int)=now:=by omega
    clear hall;go_wp2_with fail
    all_goals try exact absurd (‹((an 5:Int) != 0)=false\/((an 5:Int) != (now:Int))=false›) (by simp [d1,d2];omega)
    go_returns;exact .inr ⟨HNO.o,rfl,rfl⟩
   ·have HN:=zh (show ∀ t,t < 6->an t=0\/an t=now from fun t ht=>(show t < 5\/t=5 by omega).elim (hall t) (fun q=>by rw [q];exact .inr h1))
    have hix:=XP;have d1:¬ (an 5:Int)=0:=by omega
    have d2:(an 5:Int)=now:=by omega
    clear hall h0 h1;go_wp2_with fail
    all_goals first|exact ⟨⟨6,by omega,rfl,HN.o⟩,by simp [intOf]⟩|exact ⟨⟨_,_,_,⟨6,by omega,rfl,HN.o⟩,rfl,rfl,rfl⟩,by simp [intOf]⟩|exact ⟨⟨_,_,_,_,⟨6,by omega,rfl,HN.o⟩,rfl,rfl,rfl,rfl⟩,by simp [intOf]⟩|exact ⟨⟨_,_,_,_,_,⟨6,by omega,rfl,HN.o⟩,rfl,rfl,rfl,rfl,rfl⟩,by simp [intOf]⟩
  ·rcases ha with h0|⟨h0,h1⟩|⟨h0,h1⟩
   ·have HN:=zh (show ∀ t,t < 7->an t=0\/an t=now from fun t ht=>(show t < 6\/t=6 by omega).elim (hall t) (fun q=>by rw [q];exact .inl h0))
    have hix:=XR;have d1:(an 6:Int)=0:=by omega
    clear hall h0;go_wp2_with fail
    all_goals first|exact ⟨⟨7,by omega,rfl,HN.o⟩,by simp [intOf]⟩|exact ⟨⟨_,_,_,⟨7,by omega,rfl,HN.o⟩,rfl,rfl,rfl⟩,by simp [intOf]⟩|exact ⟨⟨_,_,_,_,⟨7,by omega,rfl,HN.o⟩,rfl,rfl,rfl,rfl⟩,by simp [intOf]⟩|exact ⟨⟨_,_,_,_,_,⟨7,by omega,rfl,HN.o⟩,rfl,rfl,rfl,rfl,rfl⟩,by simp [intOf]⟩
   ·have HNO:=zh (show ¬ Yy now an from fun q=>(q 6 (by omega)).elim h0 h1)
    have hix:=XR;have d1:¬ (an 6:Int)=0:=by omega
    have d2:¬ (an 6:Int)=now:=by omega
    clear hall;go_wp2_with fail
    all_goals try exact absurd (‹((an 6:Int) != 0)=false\/((an 6:Int) != (now:Int))=false›) (by simp [d1,d2];omega)
    go_returns;exact .inr ⟨HNO.o,rfl,rfl⟩
   ·have HN:=zh (show ∀ t,t < 7->an t=0\/an t=now from fun t ht=>(show t < 6\/t=6 by omega).elim (hall t) (fun q=>by rw [q];exact .inr h1))
    have hix:=XR;have d1:¬ (an 6:Int)=0:=by omega
    have d2:(an 6:Int)=now:=by omega
    clear hall h0 h1;go_wp2_with fail
    all_goals first|exact ⟨⟨7,by omega,rfl,HN.o⟩,by simp [intOf]⟩|exact ⟨⟨_,_,_,⟨7,by omega,rfl,HN.o⟩,rfl,rfl,rfl⟩,by simp [intOf]⟩|exact ⟨⟨_,_,_,_,⟨7,by omega,rfl,HN.o⟩,rfl,rfl,rfl,rfl⟩,by simp [intOf]⟩|exact ⟨⟨_,_,_,_,_,⟨7,by omega,rfl,HN.o⟩,rfl,rfl,rfl,rfl,rfl⟩,by simp [intOf]⟩
  ·rcases ha with h0|⟨h0,h1⟩|⟨h0,h1⟩
   ·have HN:=zh (show ∀ t,t < 8->an t=0\/an t=now from fun t ht=>(show t < 7\/t=7 by omega).elim (hall t) (fun q=>by rw [q];exact .inl h0))
    have hix:=XS;have d1:(an 7:Int)=0:=by omega
    clear hall h0;go_wp2_with fail
    all_goals first|exact ⟨⟨8,by omega,rfl,HN.o⟩,by simp [intOf]⟩|exact ⟨⟨_,_,_,⟨8,by omega,rfl,HN.o⟩,rfl,rfl,rfl⟩,by simp [intOf]⟩|exact ⟨⟨_,_,_,_,⟨8,by omega,rfl,HN.o⟩,rfl,rfl,rfl,rfl⟩,by simp [intOf]⟩|exact ⟨⟨_,_,_,_,_,⟨8,by omega,rfl,HN.o⟩,rfl,rfl,rfl,rfl,rfl⟩,by simp [intOf]⟩
   ·have HNO:=zh (show ¬ Yy now an from fun q=>(q 7 (by omega)).elim h0 h1)
    have hix:=XS;have d1:¬ (an 7:Int)=0:=by omega
    have d2:¬ (an 7:Int)=now:=by omega
    clear hall;go_wp2_with fail
    all_goals try exact absurd (‹((an 7:Int) != 0)=false\/((an 7:Int) != (now:Int))=false›) (by simp [d1,d2];omega)
    go_returns;exact .inr ⟨HNO.o,rfl,rfl⟩
   ·have HN:=zh (show ∀ t,t < 8->an t=0\/an t=now from fun t ht=>(show t < 7\/t=7 by omega).elim (hall t) (fun q=>by rw [q];exact .inr h1))
    have hix:=XS;have d1:¬ (an 7:Int)=0:=by omega
    have d2:(an 7:Int)=now:=by omega
    clear hall h0 h1;go_wp2_with fail
    all_goals first|exact ⟨⟨8,by omega,rfl,HN.o⟩,by simp [intOf]⟩|exact ⟨⟨_,_,_,⟨8,by omega,rfl,HN.o⟩,rfl,rfl,rfl⟩,by simp [intOf]⟩|exact ⟨⟨_,_,_,_,⟨8,by omega,rfl,HN.o⟩,rfl,rfl,rfl,rfl⟩,by simp [intOf]⟩|exact ⟨⟨_,_,_,_,_,⟨8,by omega,rfl,HN.o⟩,rfl,rfl,rfl,rfl,rfl⟩,by simp [intOf]⟩
theorem ZB9 {w:World}{cs:Array Value}{t:TypeId}{j:Nat}{u:Value}(h:cs.toList[j]?=some u):(w.alloc (.cells cs t)).cell? ⟨w.heap.size,j,none⟩=some u:=by
 rw [ZD (ZC w _)];simpa using h
theorem ZFo {a:Nat}:Calls prog 115 #[.int .u64 a] w fun e w'=>e=.returned (.bool false)/\w'=w:=by
 go_in;go_wp2;go_returns;exact ⟨by simp,rfl⟩
def cpN (a b:Nat):Int:=if a < b then -1 else if b < a then 1 else 0
theorem Jk {a b:Nat}:Calls prog 68 #[.int .u64 a,.int .u64 b] w fun e w'=>e=.returned (.int .i64 (cpN a b))/\w'=w:=by
 have HN:=zh (fun (a:Nat)=>ZFo (w:=w) (a:=a));unfold cpN
 by_cases h1:a < b
 ·have d1:decide ((a:Int) < (b:Int))=true:=by simp;omega
  have d2:(a:Int) < (b:Int):=by omega
  rw [ZLX h1];clear h1;go_in;go_wp2_with fail;refine (HN.o _).mono ?_;rintro e w' ⟨rfl,rfl⟩;go_wp2_with fail;refine (HN.o _).mono ?_;rintro e w' ⟨rfl,rfl⟩;go_wp2;go_returns;exact ⟨rfl,rfl⟩
 ·rw [ZLU h1]
  have d2:¬ (a:Int) < (b:Int):=by omega
  by_cases h2:b < a
  ·have d3:(b:Int) < (a:Int):=by omega
   have d4:(a:Int) > (b:Int):=by omega
   rw [ZLX h2];clear h1 h2;go_in;go_wp2_with fail;refine (HN.o _).mono ?_;rintro e w' ⟨rfl,rfl⟩;go_wp2_with fail;refine (HN.o _).mono ?_;rintro e w' ⟨rfl,rfl⟩;go_wp2;go_returns;exact ⟨rfl,rfl⟩
  ·have d3:¬ (b:Int) < (a:Int):=by omega
   have d4:¬ (a:Int) > (b:Int):=by omega
   rw [ZLU h2];clear h1 h2;go_in;go_wp2_with fail;refine (HN.o _).mono ?_;rintro e w' ⟨rfl,rfl⟩;go_wp2_with fail;refine (HN.o _).mono ?_;rintro e w' ⟨rfl,rfl⟩;go_wp2;go_returns;exact ⟨rfl,rfl⟩
theorem ZKC {g:Nat}{a b:Int}(h0:w.cell? ⟨g,0,none⟩=some (.int .i64 a))(h1:w.cell? ⟨g,1,none⟩=some (.int .i64 b)):Calls prog 67 #[.slice (some ⟨g,0,none⟩) 2 2] w fun e w'=>e=.returned (.int .i64 (if a=0 then b else a))/\w'=w:=by
 obtain ⟨R,hR⟩:=xE ((if a=0 then b else a));rw [<-hR];go_in;go_wp2_with fail;refine wp_loop_rounds 3 ?_;rw [rounds_succ]
 by_cases ha:a=0
 ·have d1:(a != 0)=false:=by simp [ha]
  rw [ZLX ha] at hR;have HR:=zh hR;clear hR;go_wp2_with fail;rw [rounds_succ]
  by_cases hb:b=0
  ·have d2:(b != 0)=false:=by simp [hb]
   go_wp2_with fail;rw [rounds_succ];go_wp2;go_returns;exact ⟨by rw [HR.o,hb];rfl,rfl⟩
  ·have d2:(b != 0)=true:=by simp [hb]
   go_wp2;go_returns;exact ⟨by rw [HR.o];rfl,rfl⟩
 ·have d1:(a != 0)=true:=by simp [ha]
  rw [ZLU ha] at hR;have HR:=zh hR;clear hR;go_wp2;go_returns;exact ⟨by rw [HR.o];rfl,rfl⟩
def cfI (x y:Nat×Nat×Nat):Int:=if cpN x.2.2 y.2.2=0 then cpN (ZP (x.2.1 % 18446744073709551616)) (ZP (y.2.1 % 18446744073709551616)) else cpN x.2.2 y.2.2
def encI (x:Nat×Nat×Nat):List Value:=[.int .i64 x.1,.int .u64 ((x.2.1 % 18446744073709551616:Nat):Int),.int .u64 x.2.2]
theorem ZDa (x y:Nat×Nat×Nat):Calls prog 66 #[.agg (encI x).toArray,.agg (encI y).toArray] w fun e w'=>e=.returned (.int .i64 (cfI x y))/\∃ q os,w'=Sort.grow (w.drewN q) os:=by
 obtain ⟨xi,xq,xe⟩:=x;obtain ⟨yi,yq,ye⟩:=y;unfold cfI encI;simp only;obtain ⟨XQ,hXQ⟩:=xE (xq % 18446744073709551616);obtain ⟨YQ,hYQ⟩:=xE (yq % 18446744073709551616);rw [<-hXQ,<-hYQ];obtain ⟨w1,hw1⟩:=xE ((w.alloc (.cells #[.int .i64 xi,.int .u64 XQ,.int .u64 xe] 132)).alloc (.cells #[.int .i64 yi,.int .u64 YQ,.int .u64 ye] 132));obtain ⟨XB,hXB⟩:=xE w.heap.size;obtain ⟨YB,hYB⟩:=xE (w.heap.size+1);have hx1:w1.heap[XB]?=some (.cells #[.int .i64 xi,.int .u64 XQ,.int .u64 xe] 132 (0,0)):=by rw [hw1,hXB];rw [ZK (by simp)];exact ZC _ _
 have hy1:w1.heap[YB]?=some (.cells #[.int .i64 yi,.int .u64 YQ,.int .u64 ye] 132 (0,0)):=by
  rw [hw1,hYB];have:=ZC (w.alloc (.cells #[.int .i64 xi,.int .u64 XQ,.int .u64 xe] 132)) (.cells #[.int .i64 yi,.int .u64 YQ,.int .u64 ye] 132);simpa using this
 have HW1:=zh hw1;have HOX:=zh (fun (w1:World)=>show Calls prog 53 #[.int .u64 XQ] w1 (fun e w'=>e=.returned (.int .u64 (ZP XQ:Nat))/\w'=w1) from (YJ (w:=w1) (p:=XQ) (by omega)).mono fun e w' h=>⟨h.1,h.2.symm⟩);have HOY:=zh (fun (w1:World)=>show Calls prog 53 #[.int .u64 YQ] w1 (fun e w'=>e=.returned (.int .u64 (ZP YQ:Nat))/\w'=w1) from (YJ (w:=w1) (p:=YQ) (by omega)).mono fun e w' h=>⟨h.1,h.2.symm⟩);obtain ⟨OX,hOX⟩:=xE (ZP XQ);obtain ⟨OY,hOY⟩:=xE (ZP YQ);rw [<-hOX] at HOX;rw [<-hOY] at HOY;rw [<-hOX,<-hOY];obtain ⟨C1,hC1⟩:=xE (cpN xe ye);obtain ⟨C2,hC2⟩:=xE (cpN OX OY);have HC1:=zh (fun (w1:World)=>Jk (w:=w1) (a:=xe) (b:=ye));have HC2:=zh (fun (w1:World)=>Jk (w:=w1) (a:=OX) (b:=OY));rw [<-hC1] at HC1;rw [<-hC2] at HC2;rw [<-hC1,<-hC2];have HOR:=zh (fun (w1:World) (g:Nat) (h0:w1.cell? ⟨g,0,none⟩=some (.int .i64 C1)) (h1:w1.cell? ⟨g,1,none⟩=some (.int .i64 C2))=>ZKC h0 h1);obtain ⟨R,hR⟩:=xE ((if C1=0 then C2 else C1));rw [<-hR] at HOR ⊢;have HR1:=zh (Below.refl w1.heap.size w1);have HS1:=zh (fun (wx:World) (hb:Bl w1 wx)=>show wx.cell? ⟨XB,1,none⟩=some (.int .u64 XQ)/\wx.cell? ⟨XB,2,none⟩=some (.int .u64 xe)/\wx.cell? ⟨YB,1,none⟩=some (.int .u64 YQ)/\wx.cell? ⟨YB,2,none⟩=some (.int .u64 ye) from by
  have h1:=ZY ((hb.block _ (heap_lt hx1)).trans hx1);have h2:=ZY ((hb.block _ (heap_lt hy1)).trans hy1);exact ⟨h1.2.1,h1.2.2.1,h2.2.1,h2.2.2.1⟩)
 clear hw1 hx1 hy1 hXQ hYQ hOX hOY hC1 hC2 hR;go_in;go_upto_region 1 with fail;rw [<-HW1.o,<-hYB,<-hXB];clear hXB hYB
 go_region_held3 (fun wx=>wx.cell? ⟨XB,1,none⟩=some (.int .u64 XQ)/\wx.cell? ⟨XB,2,none⟩=some (.int .u64 xe)/\wx.cell? ⟨YB,1,none⟩=some (.int .u64 YQ)/\wx.cell? ⟨YB,2,none⟩=some (.int .u64 ye))
  (exact HS1.o _ (by repeat (with_reducible first|assumption|exact HR1.o|apply ZA|apply ZB)))
  (first
    |(refine ZF rfl func68 rfl rfl rfl (HC1.o _) (by first|(simp [Act.eval];done)|(simp [Act.eval];rfl)) ?_;rintro e' V2 ⟨rfl,rfl⟩;refine ⟨_,rfl,?_⟩)
    |(refine ZF rfl func68 rfl rfl rfl (HC2.o _) (by first|(simp [Act.eval];done)|(simp [Act.eval];rfl)) ?_;rintro e' V2 ⟨rfl,rfl⟩;refine ⟨_,rfl,?_⟩)
    |(refine ZF rfl func53 rfl rfl rfl (HOX.o _) (by first|(simp [Act.eval];done)|(simp [Act.eval];rfl)) ?_;rintro e' V2 ⟨rfl,rfl⟩;refine ⟨_,rfl,?_⟩)
    |(refine ZF rfl func53 rfl rfl rfl (HOY.o _) (by first|(simp [Act.eval];done)|(simp [Act.eval];rfl)) ?_;rintro e' V2 ⟨rfl,rfl⟩;refine ⟨_,rfl,?_⟩)
    |(refine ZF rfl func67 rfl rfl rfl (HOR.o _ _ (ZB9 (j:=0) rfl) (ZB9 (j:=1) rfl)) (by first|(simp [Act.eval];done)|(simp [Act.eval];rfl)) ?_;rintro e' V2 ⟨rfl,rfl⟩;refine ⟨_,rfl,?_⟩))
 all_goals
  go_wp2;go_returns;refine ⟨rfl,1,#[.cells #[.int .i64 xi,.int .u64 XQ,.int .u64 xe] 132 (0,0),.cells #[.int .i64 yi,.int .u64 YQ,.int .u64 ye] 132 (0,0),.cells #[.int .i64 C1,.int .i64 C2] 3 (0,0)],?_⟩;rw [HW1.o]
  first
   |rfl
   |(simp only [Sort.alloc_eq_grow,Sort.drew_grow,Sort.grow_grow];rfl)
   |(simp [Sort.alloc_eq_grow,Sort.drew_grow,Sort.grow_grow];done)
end
end Go.Proofs.YtbpeehmepehkdaaGreatDoor.Dv
