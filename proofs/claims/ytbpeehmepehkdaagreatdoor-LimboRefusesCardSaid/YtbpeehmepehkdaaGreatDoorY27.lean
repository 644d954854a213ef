/- Part 27. -/
import Derived.Test.YtbpeehmepehkdaaGreatDoorY25
set_option maxHeartbeats 8000000
set_option maxRecDepth 20000
set_option linter.all false
namespace Go.Proofs.YtbpeehmepehkdaaGreatDoor.Dv
open Tryz
section
open Go.RowKit Go.Proofs.YtbpeehmepehkdaaGreatDoor.Size
variable {w w':World}{A:DAd}{F:Nat->Option ZM}{L:Nat}{T c c':Nat->Nat}{x x':Nat}{H:HAd}
theorem CkB.put {kb now:Nat}{an:Nat->Nat}(h:CkB w A kb now an){t:Nat}(ht:t < 8)(v:Nat):CkB (w.setCell ⟨kb,3+t,none⟩ (.int .u64 v)) A kb now (upd an t v):=by
 have:=ZI (i:=3+t) (v:=.int .u64 v) h;unfold CkB;rw [this];rcases (show t=0\/t=1\/t=2\/t=3\/t=4\/t=5\/t=6\/t=7 by omega) with rfl|rfl|rfl|rfl|rfl|rfl|rfl|rfl <;> simp [ckC,upd]
theorem CkB.free {kb now:Nat}{an:Nat->Nat}(h:CkB w A kb now an)(i:Nat):w.frozen? ⟨kb,i,none⟩=false:=ZH h
theorem ZIa (h:Ar w A F L T c){kb now e:Nat}{an:Nat->Nat}(hk:CkB w A kb now an):
 Calls prog 64 #[.pointer (some ⟨kb,0,none⟩),.int .u64 e] w fun r w'=>r=.returned (.bool (Zg now an e))/\w=w':=by
 have HN:=zh (ZBN h hk);obtain ⟨c0,c1,c2⟩:=hk.three;obtain ⟨k0,k1,k2,k3,k4,k5,k6,k7⟩:=hk.eight;clear h hk;obtain ⟨r,hr⟩:=xE (Zg now an e);rw [<-hr]
 by_cases hne:now<=e
 ·have hR:r=false:=by
   rw [hr];unfold Zg;rw [Bool.and_eq_false_iff];left;simp;omega
  have b1:(now:Int)<=e:=by omega
  clear hr hne;go_in;go_wp2_with (first|(go_at_call 27;refine HN.o.mono ?_;rintro e w' ⟨rfl,rfl⟩));go_returns;exact ⟨by first|rfl|(rw [hR];rfl),rfl⟩
 have HNO:=zh (fun (t:Nat) (ht:t < 8) (h0:an t≠0) (h1:an t<=e)=>hr.trans (ZE4 (now:=now) ht h0 h1));have HYS:=zh (fun (h:∀ t,t < 8->an t=0\/e < an t)=>(hr.trans (ZC4 (now:=now) h)).trans (ZLp (show e < now by omega)));have b1:¬ (now:Int)<=e:=by omega
 clear hr hne;go_in;go_wp2_with (first|(go_at_call 27;refine HN.o.mono ?_;rintro e w' ⟨rfl,rfl⟩))
 go_loop [19] (fun i=>∃ n:Nat,n<=8/\i=.int .i64 n/\∀ t,t < n->an t=0\/e < an t) (fun i=>8 - (intOf i).toNat)
 case atStart=>exact ⟨0,by omega,rfl,fun t ht=>by omega⟩
 case round=>
 obtain ⟨n,hn,rfl,hall⟩:=hrel
 by_cases h8:n=8
 ·subst h8
  have hR:=HYS.o hall;clear hall hn;go_wp2;go_returns;exact ⟨by first|rfl|(rw [hR];rfl),rfl⟩
 ·have ha:an n=0\/an n≠0/\an n<=e\/an n≠0/\e < an n:=by omega
  rcases (show n=0\/n=1\/n=2\/n=3\/n=4\/n=5\/n=6\/n=7 by omega) with hn'|hn'|hn'|hn'|hn'|hn'|hn'|hn' <;> subst hn'
  ·rcases ha with h0|⟨h0,h1⟩|⟨h0,h1⟩
   ·have HN2:=zh (show ∀ t,t < 1->an t=0\/e < an t from fun t ht=>(show t < 0\/t=0 by omega).elim (hall t) (fun q=>by rw [q];exact .inl h0))
    have hix:=XK;have d1:(an 0:Int)=0:=by omega
    clear hall h0;go_wp2_with fail
    all_goals first|exact ⟨⟨1,by omega,rfl,HN2.o⟩,by simp [intOf]⟩|exact ⟨⟨_,_,_,⟨1,by omega,rfl,HN2.o⟩,rfl,rfl,rfl⟩,by simp [intOf]⟩|exact ⟨⟨_,_,⟨1,by omega,rfl,HN2.o⟩,rfl,rfl⟩,by simp [intOf]⟩
   ·have hR:=HNO.o 0 (by omega) h0 h1
    have hix:=XK;have d1:¬ (an 0:Int)=0:=by omega
    have d2:(an 0:Int)<=e:=by omega
    clear hall h0 h1;go_wp2;go_returns;exact ⟨by first|rfl|(rw [hR];rfl),rfl⟩
   ·have HN2:=zh (show ∀ t,t < 1->an t=0\/e < an t from fun t ht=>(show t < 0\/t=0 by omega).elim (hall t) (fun q=>by rw [q];exact .inr h1))
    have hix:=XK;have d1:¬ (an 0:Int)=0:=by omega
    have d2:¬ (an 0:Int)<=e:=by omega
    clear hall h0 h1;go_wp2_with fail
    all_goals first|exact ⟨⟨1,by omega,rfl,HN2.o⟩,by simp [intOf]⟩|exact ⟨⟨_,_,_,⟨1,by omega,rfl,HN2.o⟩,rfl,rfl,rfl⟩,by simp [intOf]⟩|exact ⟨⟨_,_,⟨1,by omega,rfl,HN2.o⟩,rfl,rfl⟩,by simp [intOf]⟩
  ·rcases ha with h0|⟨h0,h1⟩|⟨h0,h1⟩
   ·have HN2:=zh (show ∀ t,t < 2->an t=0\/e < an t from fun t ht=>(show t < 1\/t=1 by omega).elim (hall t) (fun q=>by rw [q];exact .inl h0))
    have hix:=XL;have d1:(an 1:Int)=0:=by omega
    clear hall h0;go_wp2_with fail
    all_goals first|exact ⟨⟨2,by omega,rfl,HN2.o⟩,by simp [intOf]⟩|exact ⟨⟨_,_,_,⟨2,by omega,rfl,HN2.o⟩,rfl,rfl,rfl⟩,by simp [intOf]⟩|exact ⟨⟨_,_,⟨2,by omega,rfl,HN2.o⟩,rfl,rfl⟩,by simp [intOf]⟩
   ·have hR:=HNO.o 1 (by omega) h0 h1
    have hix:=XL;have d1:¬ (an 1:Int)=0:=by omega
    have d2:(an 1:Int)<=e:=by omega
    clear hall h0 h1;go_wp2;go_returns;exact ⟨by first|rfl|(rw [hR];rfl),rfl⟩
   ·have HN2:=zh (show ∀ t,t < 2->an t=0\/e < an t from fun t ht=>(show t < 1\/t=1 by omega).elim (hall t) (fun q=>by rw [q];exact .inr h1))
    have hix:=XL;have d1:¬ (an 1:Int)=0:=by omega
    have d2:¬ (an 1:Int)<=e:=by omega
    clear hall h0 h1;go_wp2_with fail
    all_goals first|exact ⟨⟨2,by omega,rfl,HN2.o⟩,by simp [intOf]⟩|exact ⟨⟨_,_,_,⟨2,by omega,rfl,HN2.o⟩,rfl,rfl,rfl⟩,by simp [intOf]⟩|exact ⟨⟨_,_,⟨2,by omega,rfl,HN2.o⟩,rfl,rfl⟩,by simp [intOf]⟩
  ·rcases ha with h0|⟨h0,h1⟩|⟨h0,h1⟩
   ·have HN2:=zh (show ∀ t,t < 3->an t=0\/e < an t from fun t ht=>(show t < 2\/t=2 by omega).elim (hall t) (fun q=>by rw [q];exact .inl h0))
    have hix:=XM;have d1:(an 2:Int)=0:=by omega
    clear hall h0;go_wp2_with fail
    all_goals first|exact ⟨⟨3,by omega,rfl,HN2.o⟩,by simp [intOf]⟩|exact ⟨⟨_,_,_,⟨3,by omega,rfl,HN2.o⟩,rfl,rfl,rfl⟩,by simp [intOf]⟩|exact ⟨⟨_,_,⟨3,by omega,rfl,HN2.o⟩,rfl,rfl⟩,by simp [intOf]⟩
   ·have hR:=HNO.o 2 (by omega) h0 h1
    have hix:=XM;have d1:¬ (an 2:Int)=0:=by omega
    have d2:(an 2:Int)<=e:=by omega
    clear hall h0 h1;go_wp2;go_returns;exact ⟨by first|rfl|(rw [hR];rfl),rfl⟩
   ·have HN2:=zh (show ∀ t,t < 3->an t=0\/e < an t from fun t ht=>(show t < 2\/t=2 by omega).elim (hall t) (fun q=>by rw [q];exact .inr h1))
    have hix:=XM;have d1:¬ (an 2:Int)=0:=by omega
    have d2:¬ (an 2:Int)<=e:=by omega
    clear hall h0 h1;go_wp2_with fail
    all_goals first|exact ⟨⟨3,by omega,rfl,HN2.o⟩,by simp [intOf]⟩|exact ⟨⟨_,_,_,⟨3,by omega,rfl,HN2.o⟩,rfl,rfl,rfl⟩,by simp [intOf]⟩|exact ⟨⟨_,_,⟨3,by omega,rfl,HN2.o⟩,rfl,rfl⟩,by simp [intOf]⟩
  ·rcases ha with h0|⟨h0,h1⟩|⟨h0,h1⟩
   ·have HN2:=zh (show ∀ t,t < 4->an t=0\/e < an t from fun t ht=>(show t < 3\/t=3 by omega).elim (hall t) (fun q=>by rw [q];exact .inl h0))
    have hix:=XN;have d1:(an 3:Int)=0:=by omega
    clear hall h0;go_wp2_with fail
    all_goals first|exact ⟨⟨4,by omega,rfl,HN2.o⟩,by simp [intOf]⟩|exact ⟨⟨_,_,_,⟨4,by omega,rfl,HN2.o⟩,rfl,rfl,rfl⟩,by simp [intOf]⟩|exact ⟨⟨_,_,⟨4,by omega,rfl,HN2.o⟩,rfl,rfl⟩,by simp [intOf]⟩
   ·have hR:=HNO.o 3 (by omega) h0 h1
    have hix:=XN;have d1:¬ (an 3:Int)=0:=by omega
    have d2:(an 3:Int)<=e:=by omega
    clear hall h0 h1;go_wp2;go_returns;exact ⟨by first|rfl|(rw [hR];rfl),rfl⟩
   ·have HN2:=zh (show ∀ t,t < 4->an t=0\/e < an t from fun t ht=>(show t < 3\/t=3 by omega).elim (hall t) (fun q=>by rw [q];exact .inr h1))
    have hix:=XN;have d1:¬ (an 3:Int)=0:=by omega
    have d2:¬ (an 3:Int)<=e:=by omega
    clear hall h0 h1;go_wp2_with fail
    all_goals first|exact ⟨⟨4,by omega,rfl,HN2.o⟩,by simp [intOf]⟩|exact ⟨⟨_,_,_,⟨4,by omega,rfl,HN2.o⟩,rfl,rfl,rfl⟩,by simp [intOf]⟩|exact ⟨⟨_,_,⟨4,by omega,rfl,HN2.o⟩,rfl,rfl⟩,by simp [intOf]⟩
  ·rcases ha with h0|⟨h0,h1⟩|⟨h0,h1⟩
   ·have HN2:=zh (show ∀ t,t < 5->an t=0\/e < an t from fun t ht=>(show t < 4\/t=4 by omega).elim (hall t) (fun q=>by rw [q];exact .inl h0))
    have hix:=XO;have d1:(an 4:Int)=0:=by omega
    clear hall h0;go_wp2_with fail
    all_goals first|exact ⟨⟨5,by omega,rfl,HN2.o⟩,by simp [intOf]⟩|exact ⟨⟨_,_,_,⟨5,by omega,rfl,HN2.o⟩,rfl,rfl,rfl⟩,by simp [intOf]⟩|exact ⟨⟨_,_,⟨5,by omega,rfl,HN2.o⟩,rfl,rfl⟩,by simp [intOf]⟩
   ·have hR:=HNO.o 4 (by omega) h0 h1
    have hix:=XO;have d1:¬ (an 4:Int)=0:=by omega
    have d2:(an 4:Int)<=e:=by omega
    clear hall h0 h1;go_wp2;go_returns;exact ⟨by first|rfl|(rw [hR];rfl),rfl⟩
   ·have HN2:=zh (show ∀ t,t < 5->an t=0\/e < an t from fun t ht=>(show t < 4\/t=4 by omega).elim (hall t) (fun q=>by rw [q];exact .inr h1))
    have hix:=XO;have d1:¬ (an 4:Int)=0:=by omega
    have d2:¬ (an 4:Int)<=e:=by omega
    clear hall h0 h1;go_wp2_with fail
    all_goals first|exact ⟨⟨5,by omega,rfl,HN2.o⟩,by simp [intOf]⟩|exact ⟨⟨_,_,_,⟨5,by omega,rfl,HN2.o⟩,rfl,rfl,rfl⟩,by simp [intOf]⟩|exact ⟨⟨_,_,⟨5,by omega,rfl,HN2.o⟩,rfl,rfl⟩,by simp [intOf]⟩
  ·rcases ha with h0|⟨h0,h1⟩|⟨h0,h1⟩
   ·have HN2:=zh (show ∀ t,t < 6->an t=0\/e < an t from fun t ht=>(show t < 5\/t=5 by omega).elim (hall t) (fun q=>by rw [q];exact .inl h0))
    have hix:=XP;have d1:(an 5:Int)=0:=by omega
    clear hall h0;go_wp2_with fail
    all_goals first|exact ⟨⟨6,by omega,rfl,HN2.o⟩,by simp [intOf]⟩|exact ⟨⟨_,_,_,⟨6,by omega,rfl,HN2.o⟩,rfl,rfl,rfl⟩,by simp [intOf]⟩|exact ⟨⟨_,_,⟨6,by omega,rfl,HN2.o⟩,rfl,rfl⟩,by simp [intOf]⟩
   ·have hR:=HNO.o 5 (by omega) h0 h1
    have hix:=XP;have d1:¬ (an 5:Int)=0:=by omega
    have d2:(an 5:Int)<=e:=by omega
    clear hall h0 h1;go_wp2;go_returns;exact ⟨by first|rfl|(rw [hR];rfl),rfl⟩
   ·have HN2:=zh (show ∀ t,t < 6->an t=0\/e < an t from fun t ht=>(show t < 5\/t=5 by omega).elim (hall t) (fun q=>by rw [q];exact .inr h1))
    have hix:=XP;have d1:¬ (an 5:Int)=0:=by omega
    have d2:¬ (an 5:Int)<=e:=by omega
    clear hall h0 h1;go_wp2_with fail
    all_goals first|exact ⟨⟨6,by omega,rfl,HN2.o⟩,by simp [intOf]⟩|exact ⟨⟨_,_,_,⟨6,by omega,rfl,HN2.o⟩,rfl,rfl,rfl⟩,by simp [intOf]⟩|exact ⟨⟨_,_,⟨6,by omega,rfl,HN2.o⟩,rfl,rfl⟩,by simp [intOf]⟩
  ·rcases ha with h0|⟨h0,h1⟩|⟨h0,h1⟩
   ·have HN2:=zh (show ∀ t,t < 7->an t=0\/e < an t from fun t ht=>(show t < 6\/t=6 by omega).elim (hall t) (fun q=>by rw [q];exact .inl h0))
    have hix:=XR;have d1:(an 6:Int)=0:=by omega
    clear hall h0;go_wp2_with fail
    all_goals first|exact ⟨⟨7,by omega,rfl,HN2.o⟩,by simp [intOf]⟩|exact ⟨⟨_,_,_,⟨7,by omega,rfl,HN2.o⟩,rfl,rfl,rfl⟩,by simp [intOf]⟩|exact ⟨⟨_,_,⟨7,by omega,rfl,HN2.o⟩,rfl,rfl⟩,by simp [intOf]⟩
   ·have hR:=HNO.o 6 (by omega) h0 h1
    have hix:=XR;have d1:¬ (an 6:Int)=0:=by omega
    have d2:(an 6:Int)<=e:=by omega
    clear hall h0 h1;go_wp2;go_returns;exact ⟨by first|rfl|(rw [hR];rfl),rfl⟩
   ·have HN2:=zh (show ∀ t,t < 7->an t=0\/e < an t from fun t ht=>(show t < 6\/t=6 by omega).elim (hall t) (fun q=>by rw [q];exact .inr h1))
    have hix:=XR;have d1:¬ (an 6:Int)=0:=by omega
    have d2:¬ (an 6:Int)<=e:=by omega
    clear hall h0 h1;go_wp2_with fail
    all_goals first|exact ⟨⟨7,by omega,rfl,HN2.o⟩,by simp [intOf]⟩|exact ⟨⟨_,_,_,⟨7,by omega,rfl,HN2.o⟩,rfl,rfl,rfl⟩,by simp [intOf]⟩|exact ⟨⟨_,_,⟨7,by omega,rfl,HN2.o⟩,rfl,rfl⟩,by simp [intOf]⟩
  ·rcases ha with h0|⟨h0,h1⟩|⟨h0,h1⟩
   ·have HN2:=zh (show ∀ t,t < 8->an t=0\/e < an t from fun t ht=>(show t < 7\/t=7 by omega).elim (hall t) (fun q=>by rw [q];exact .inl h0))
    have hix:=XS;have d1:(an 7:Int)=0:=by omega
    clear hall h0;go_wp2_with fail
    all_goals first|exact ⟨⟨8,by omega,rfl,HN2.o⟩,by simp [intOf]⟩|exact ⟨⟨_,_,_,⟨8,by omega,rfl,HN2.o⟩,rfl,rfl,rfl⟩,by simp [intOf]⟩|exact ⟨⟨_,_,⟨8,by omega,rfl,HN2.o⟩,rfl,rfl⟩,by simp [intOf]⟩
   ·have hR:=HNO.o 7 (by omega) h0 h1
    have hix:=XS;have d1:¬ (an 7:Int)=0:=by omega
    have d2:(an 7:Int)<=e:=by omega
    clear hall h0 h1;go_wp2;go_returns;exact ⟨by first|rfl|(rw [hR];rfl),rfl⟩
   ·have HN2:=zh (show ∀ t,t < 8->an t=0\/e < an t from fun t ht=>(show t < 7\/t=7 by omega).elim (hall t) (fun q=>by rw [q];exact .inr h1))
    have hix:=XS;have d1:¬ (an 7:Int)=0:=by omega
    have d2:¬ (an 7:Int)<=e:=by omega
    clear hall h0 h1;go_wp2_with fail
    all_goals first|exact ⟨⟨8,by omega,rfl,HN2.o⟩,by simp [intOf]⟩|exact ⟨⟨_,_,_,⟨8,by omega,rfl,HN2.o⟩,rfl,rfl,rfl⟩,by simp [intOf]⟩|exact ⟨⟨_,_,⟨8,by omega,rfl,HN2.o⟩,rfl,rfl⟩,by simp [intOf]⟩
theorem ZBM {kb now:Nat}{an:Nat->Nat}(hk:CkB w A kb now an){t:Nat}(ht:t < 8):
 Calls prog 28 #[.pointer (some ⟨kb,0,none⟩),.int .i64 t] w fun r w'=>r=.returned (.tuple #[.int .u64 (an t),.bool (decide (an t≠0))])/\w=w':=by
 have c0:=hk.at ht;have hi2:(t:Int) < 8:=by omega
 have d1:decide ((t:Int) < 0)=false:=by simp
 have d2:decide (8<=(t:Int))=false:=by simp;omega
 clear hk
 by_cases h0:an t=0
 ·have e1:(an t:Int)=0:=by omega
  have e2:decide (an t≠0)=false:=by simp [h0]
  rw [e2];go_in;go_wp2;go_returns;exact ⟨by simp [h0],rfl⟩
 ·have e1:¬ (an t:Int)=0:=by omega
  have e2:decide (an t≠0)=true:=by simp [h0]
  rw [e2];go_in;go_wp2;go_returns;exact ⟨rfl,rfl⟩
theorem ZG4 (h:Ar w A F L T c){kb now:Nat}{an:Nat->Nat}(hk:CkB w A kb now an)(hn:1<=now/\now<=2147483647)(hc:c 560=7309464666214760448+now)(hL:4480 < 64 * L){t:Nat}(ht:t < 8):
 Calls prog 41 #[.pointer (some ⟨kb,0,none⟩),.int .i64 t] w fun r w'=>r=.returned (if an t=0 then .tuple #[.int .u64 now,.int .i64 0] else .tuple #[.int .u64 (0:Nat),.int .i64 8])/\CkB w' A kb now (if an t=0 then upd an t now else an)/\Only (fun k=>k=kb) w w':=by
 have HC:=zh (QU h hk hn hc hL ht);have c0:=hk.at ht;have f0:=hk.free (3+t);have HP:=zh (hk.put ht now);have HK:=zh hk;have hi2:(t:Int) < 8:=by omega
 have d1:decide ((t:Int) < 0)=false:=by simp
 have d2:decide (8<=(t:Int))=false:=by simp;omega
 clear h hk hn hc ht
 by_cases h0:an t=0
 ·have e1:(an t:Int)=0:=by omega
  rw [ZLX h0,ZLX h0];go_in;go_wp2_with fail;refine HC.o.mono ?_;rintro e w' ⟨rfl,rfl⟩;go_wp2;go_returns;exact ⟨rfl,HP.o,(Only.refl (fun k=>k=kb) w).set (b:=kb) (i:=3+t) rfl _⟩
 ·have e1:¬ (an t:Int)=0:=by omega
  rw [ZLU h0,ZLU h0];go_in;go_wp2_with fail;refine HC.o.mono ?_;rintro e w' ⟨rfl,rfl⟩;go_wp2;go_returns;exact ⟨rfl,HK.o,Only.refl _ _⟩
theorem ZIZ (h:Ar w A F L T c){kb now:Nat}{an:Nat->Nat}(hk:CkB w A kb now an)(hn:1<=now/\now<=2147483647)(hc:c 560=7309464666214760448+now)(hL:4480 < 64 * L){t:Nat}(ht:t < 8):
 Calls prog 43 #[.pointer (some ⟨kb,0,none⟩),.int .i64 t] w fun r w'=>r=.returned (if an t=0 then .int .i64 8 else .int .i64 0)/\CkB w' A kb now (if an t=0 then an else upd an t 0)/\Only (fun k=>k=kb) w w':=by
 have HC:=zh (QU h hk hn hc hL ht);have c0:=hk.at ht;have f0:=hk.free (3+t);have HP:=zh (hk.put ht 0);have HK:=zh hk;have hi2:(t:Int) < 8:=by omega
 have d1:decide ((t:Int) < 0)=false:=by simp
 have d2:decide (8<=(t:Int))=false:=by simp;omega
 clear h hk hn hc ht
 by_cases h0:an t=0
 ·have e1:(an t:Int)=0:=by omega
  rw [ZLX h0,ZLX h0];go_in;go_wp2_with fail;refine HC.o.mono ?_;rintro e w' ⟨rfl,rfl⟩;go_wp2;go_returns;exact ⟨rfl,HK.o,Only.refl _ _⟩
 ·have e1:¬ (an t:Int)=0:=by omega
  rw [ZLU h0,ZLU h0];go_in;go_wp2_with fail;refine HC.o.mono ?_;rintro e w' ⟨rfl,rfl⟩;go_wp2;go_returns;exact ⟨rfl,HP.o,(Only.refl (fun k=>k=kb) w).set (b:=kb) (i:=3+t) rfl _⟩
def ZKn (md:Region.Mode)(ops:Array Oper)(z i:Nat)(L:Array Bool):Bool:=(i != z) && ZBB md ops z i && Region.noSelect ops && Region.free md ops L i && (Region.ready md ops L).contains i && !(L.getD z true)
theorem Y0 {P:Program} {md:Region.Mode} {ops:Array Oper} {Q:Exit->Act->World->Prop} {S0:World->Prop} {i z:Nat} {oi:Oper} {v:Value} {n:Nat} {L:Array Bool} {a:Act} {w:World} (hi:ops[i]?=some oi) (hc:ZKn md ops z i L=true)
 (hQ:∀ c a w,Q (.panic c) (a.put oi.dst v) w->Q (.panic c) a w) (hS:S0 w) (hg:Region.wanted oi (yielded ops a.tmps)=true) (hy:∀ w',S0 w'->(execOp a.eval oi).run P w'=.ok (.value v) w')
 (h:AnyL P md ops Q (SL z S0) n (L.setIfInBounds i true) (a.put oi.dst v) w):AnyL P md ops Q (SL z S0) (n+1) L a w:=by
 unfold ZKn at hc;simp only [Bool.and_eq_true,bne_iff_ne,ne_eq,Bool.not_eq_true'] at hc;obtain ⟨⟨⟨⟨⟨a1,a2⟩,a3⟩,a4⟩,a5⟩,a6⟩:=hc;exact Zj a1 hi a2 a3 a4 a5 a6 hQ hS (Or.inl ⟨hg,hy⟩) h
theorem ZC9 {w:World}{B g n cap:Nat}{e:TypeId}{z:Nat}{xs:List Value}(h:w.ownsRow B e z (.slice (some ⟨g,0,none⟩) n cap) n xs):Seen w g 0 xs:=fun j u hj=>by
 have:=h.cells (g:=g) rfl j u hj;rw [Addr.add_lit] at this;exact this
def RtB (w:World)(A:DAd)(rb:Nat):Prop:=w.heap[rb]?=some (.cells #[.iface 116 (.pointer (some ⟨A.t 0,0,none⟩)),.int .u64 (128:Nat)] 183 (0,0))
theorem Yu {P:Program} (w:World) (g o:Nat) (ty:TypeId) (cs:Array Value) (d:TypeDesc) (hc:∀ j v,cs.toList[j]?=some v->w.cell? ⟨g,o+j,none⟩=some v)
 (hu:P.underlying ty=some d)(hd:(match d with|.struct _|.array _ _=>true|_=>false)=true)(hi:(P.info? ty).map (·.size)=some cs.size):
 (loadVar ty ⟨g,o,none⟩).run P w=.ok (.agg cs) w:=by
 have hl:(loadCells ⟨g,o,none⟩ cs.toList.length).run P w=.ok cs.toList.toArray w:=
  run_loadCells_list (P:=P) w ⟨g,o,none⟩ cs.toList (fun j v hv=>by
   rw [Addr.add_lit];exact hc j v hv)
 cases hq:P.info? ty with
 |none=>simp [hq] at hi
 |some i=>
  have hs:i.size=cs.size:=by simpa [hq] using hi
  have hagg:(isAgg ty).run P w=.ok true w:=by
   unfold isAgg;rw [Sem.run_bind,run_underlying hu w];cases d <;> simp_all
  simp only [Array.length_toList,Array.toArray_toList] at hl;simp [loadVar,Sem.run_bind,hagg,sizeOf,typeInfo,hq,hs,hl]
theorem Vw {P:Program} {ops:Array Oper} {rest:List Oper} {o:Oper} {a:Act} {w:World} {Q:Exit->Act->World->Prop} (hgd:o.guard=none) (ty:TypeId) (x:Operand) (ho:o.op=.load ty x)
 (g k:Nat) (hx:a.eval x=.pointer (some ⟨g,k,none⟩)) (cs:Array Value) (d:TypeDesc) (hg:∀ j v,cs.toList[j]?=some v->w.cell? ⟨g,k+j,none⟩=some v)
 (hu:P.underlying ty=some d) (hd:(match d with|.struct _|.array _ _=>true|_=>false)=true) (hi:(P.info? ty).map (·.size)=some cs.size)
 (h:wpList P ops Q rest (a.put o.dst (.agg cs)) w):wpList P ops Q (o:: rest) a w:=
 wpList_plain hgd fun K hK=>by
  unfold Oper.wp execOp;simp only [ho,hx,Instr.loadAt,Instr.sureAddr,Sem.run_bind,Sem.run_pure,Result.andThen_ok,Yu w g k ty cs d hg hu hd hi];exact hK _ _ h
theorem ZEH {now t:Nat}{an:Nat->Nat}(ht:t < 8):
 Calls prog 42 #[.agg (ck9 now an),.int .i64 t] w fun r w'=>r=.returned (if an t=0 then .tuple #[.agg (ck9 now (upd an t now)),.int .u64 now,.int .i64 0] else .tuple #[.agg (ck9 now an),.int .u64 (0:Nat),.int .i64 8])/\Bl w w':=by
 unfold ck9;go_in;rcases (show t=0\/t=1\/t=2\/t=3\/t=4\/t=5\/t=6\/t=7 by omega) with hn'|hn'|hn'|hn'|hn'|hn'|hn'|hn' <;> subst hn'
 ·by_cases h0:an 0=0
  ·have d1:(an 0:Int)=0:=by omega
   rw [ZLX h0];simp only [upd];go_wp2_with fail
   go_region
   all_goals
    go_wp2;go_returns
    trace_state
    refine ⟨by simp [h0],?_⟩
    repeat (first|exact bR|with_reducible first|apply ZA|apply ZB|refine ZE ?_ (by simp)|refine ZJ _ ?_ (by simp))
  ·have d1:¬ (an 0:Int)=0:=by omega
   rw [ZLU h0];go_wp2;go_returns;refine ⟨rfl,?_⟩
   repeat (first|exact bR|with_reducible first|apply ZA|apply ZB|refine ZE ?_ (by simp)|refine ZJ _ ?_ (by simp))
 ·by_cases h0:an 1=0
  ·have d1:(an 1:Int)=0:=by omega
   rw [ZLX h0];simp only [upd];go_wp2_with fail
   go_region
   all_goals
    go_wp2;go_returns;refine ⟨by simp [h0],?_⟩
    repeat (first|exact bR|with_reducible first|apply ZA|apply ZB|refine ZE ?_ (by simp)|refine ZJ _ ?_ (by simp))
  ·have d1:¬ (an 1:Int)=0:=by omega
   rw [ZLU h0];go_wp2;go_returns;refine ⟨rfl,?_⟩
   repeat (first|exact bR|with_reducible first|apply ZA|apply ZB|refine ZE ?_ (by simp)|refine ZJ _ ?_ (by simp))
 ·by_cases h0:an 2=0
  ·have d1:(an 2:Int)=0:=by omega
   rw [ZLX h0];simp only [upd];go_wp2_with fail
   go_region
   all_goals
    go_wp2;go_returns;refine ⟨by simp [h0],?_⟩
    repeat (first|exact bR|with_reducible first|apply ZA|apply ZB|refine ZE ?_ (by simp)|refine ZJ _ ?_ (by simp))
  ·have d1:¬ (an 2:Int)=0:=by omega
   rw [ZLU h0];go_wp2;go_returns;refine ⟨rfl,?_⟩
   repeat (first|exact bR|with_reducible first|apply ZA|apply ZB|refine ZE ?_ (by simp)|refine ZJ _ ?_ (by simp))
 ·by_cases h0:an 3=0
  ·have d1:(an 3:Int)=0:=by omega
   rw [ZLX h0];simp only [upd];go_wp2_with fail
   go_region
   all_goals
    go_wp2;go_returns;refine ⟨by simp [h0],?_⟩
    repeat (first|exact bR|with_reducible first|apply ZA|apply ZB|refine ZE ?_ (by simp)|refine ZJ _ ?_ (by simp))
  ·have d1:¬ (an 3:Int)=0:=by omega
   rw [ZLU h0];go_wp2;go_returns;refine ⟨rfl,?_⟩
   repeat (first|exact bR|with_reducible first|apply ZA|apply ZB|refine ZE ?_ (by simp)|refine ZJ _ ?_ (by simp))
 ·by_cases h0:an 4=0
  ·have d1:(an 4:Int)=0:=by omega
   rw [ZLX h0];simp only [upd];go_wp2_with fail
   go_region
   all_goals
    go_wp2;go_returns;refine ⟨by simp [h0],?_⟩
    repeat (first|exact bR|with_reducible first|apply ZA|apply ZB|refine ZE ?_ (by simp)|refine ZJ _ ?_ (by simp))
  ·have d1:¬ (an 4:Int)=0:=by omega
   rw [ZLU h0];go_wp2;go_returns;refine ⟨rfl,?_⟩
   repeat (first|exact bR|with_reducible first|apply ZA|apply ZB|refine ZE ?_ (by simp)|refine ZJ _ ?_ (by simp))
 ·by_cases h0:an 5=0
  ·have d1:(an 5:Int)=0:=by omega
   rw [ZLX h0];simp only [upd];go_wp2_with fail
   go_region
   all_goals
    go_wp2;go_returns;refine ⟨by simp [h0],?_⟩
    repeat (first|exact bR|with_reducible first|apply ZA|apply ZB|refine ZE ?_ (by simp)|refine ZJ _ ?_ (by simp))
  ·have d1:¬ (an 5:Int)=0:=by omega
   rw [ZLU h0];go_wp2;go_returns;refine ⟨rfl,?_⟩
   repeat (first|exact bR|with_reducible first|apply ZA|apply ZB|refine ZE ?_ (by simp)|refine ZJ _ ?_ (by simp))
 ·by_cases h0:an 6=0
  ·have d1:(an 6:Int)=0:=by omega
   rw [ZLX h0];simp only [upd];go_wp2_with fail
   go_region
   all_goals
    go_wp2;go_returns;refine ⟨by simp [h0],?_⟩
    repeat (first|exact bR|with_reducible first|apply ZA|apply ZB|refine ZE ?_ (by simp)|refine ZJ _ ?_ (by simp))
  ·have d1:¬ (an 6:Int)=0:=by omega
   rw [ZLU h0];go_wp2;go_returns;refine ⟨rfl,?_⟩
   repeat (first|exact bR|with_reducible first|apply ZA|apply ZB|refine ZE ?_ (by simp)|refine ZJ _ ?_ (by simp))
 ·by_cases h0:an 7=0
  ·have d1:(an 7:Int)=0:=by omega
   rw [ZLX h0];simp only [upd];go_wp2_with fail
   go_region
   all_goals
    go_wp2;go_returns;refine ⟨by simp [h0],?_⟩
    repeat (first|exact bR|with_reducible first|apply ZA|apply ZB|refine ZE ?_ (by simp)|refine ZJ _ ?_ (by simp))
  ·have d1:¬ (an 7:Int)=0:=by omega
   rw [ZLU h0];go_wp2;go_returns;refine ⟨rfl,?_⟩
   repeat (first|exact bR|with_reducible first|apply ZA|apply ZB|refine ZE ?_ (by simp)|refine ZJ _ ?_ (by simp))
end
end Go.Proofs.YtbpeehmepehkdaaGreatDoor.Dv
