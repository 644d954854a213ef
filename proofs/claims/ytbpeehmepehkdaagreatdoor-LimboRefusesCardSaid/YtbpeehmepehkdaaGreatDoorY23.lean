/- Part 23. -/
import Derived.Test.YtbpeehmepehkdaaGreatDoorY22
set_option maxHeartbeats 8000000
set_option maxRecDepth 20000
set_option linter.all false
namespace Go.Proofs.YtbpeehmepehkdaaGreatDoor.Dv
open Tryz
section
open Go.RowKit
variable {w w':World}
theorem ZGH {now t:Nat}{an:Nat->Nat}(ht:t < 8):
 Calls prog 44 #[.agg (ck9 now an),.int .i64 t] w fun r w'=>r=.returned (if an t=0 then .tuple #[.agg (ck9 now an),.int .i64 8] else .tuple #[.agg (ck9 now (upd an t 0)),.int .i64 0])/\Bl w w':=by
 unfold ck9;go_in;rcases (show t=0\/t=1\/t=2\/t=3\/t=4\/t=5\/t=6\/t=7 by omega) with hn'|hn'|hn'|hn'|hn'|hn'|hn'|hn' <;> subst hn'
 ·by_cases h0:an 0=0
  ·have d1:(an 0:Int)=0:=by omega
   rw [ZLX h0];go_wp2;go_returns;refine ⟨by simp [h0],?_⟩
   repeat (first|exact bR|with_reducible first|apply ZA|apply ZB|refine ZE ?_ (by simp)|refine ZJ _ ?_ (by simp))
  ·have d1:¬ (an 0:Int)=0:=by omega
   rw [ZLU h0];simp only [upd];go_wp2;go_returns;refine ⟨by simp,?_⟩
   repeat (first|exact bR|with_reducible first|apply ZA|apply ZB|refine ZE ?_ (by simp)|refine ZJ _ ?_ (by simp))
 ·by_cases h0:an 1=0
  ·have d1:(an 1:Int)=0:=by omega
   rw [ZLX h0];go_wp2;go_returns;refine ⟨by simp [h0],?_⟩
   repeat (first|exact bR|with_reducible first|apply ZA|apply ZB|refine ZE ?_ (by simp)|refine ZJ _ ?_ (by simp))
  ·have d1:¬ (an 1:Int)=0:=by omega
   rw [ZLU h0];simp only [upd];go_wp2;go_returns;refine ⟨by simp,?_⟩
   repeat (first|exact bR|with_reducible first|apply ZA|apply ZB|refine ZE ?_ (by simp)|refine ZJ _ ?_ (by simp))
 ·by_cases h0:an 2=0
  ·have d1:(an 2:Int)=0:=by omega
   rw [ZLX h0];go_wp2;go_returns;refine ⟨by simp [h0],?_⟩
   repeat (first|exact bR|with_reducible first|apply ZA|apply ZB|refine ZE ?_ (by simp)|refine ZJ _ ?_ (by simp))
  ·have d1:¬ (an 2:Int)=0:=by omega
   rw [ZLU h0];simp only [upd];go_wp2;go_returns;refine ⟨by simp,?_⟩
   repeat (first|exact bR|with_reducible first|apply ZA|apply ZB|refine ZE ?_ (by simp)|refine ZJ _ ?_ (by simp))
 ·by_cases h0:an 3=0
  ·have d1:(an 3:Int)=0:=by omega
   rw [ZLX h0];go_wp2;go_returns;refine ⟨by simp [h0],?_⟩
   repeat (first|exact bR|with_reducible first|apply ZA|apply ZB|refine ZE ?_ (by simp)|refine ZJ _ ?_ (by simp))
  ·have d1:¬ (an 3:Int)=0:=by omega
   rw [ZLU h0];simp only [upd];go_wp2;go_returns;refine ⟨by simp,?_⟩
   repeat (first|exact bR|with_reducible first|apply ZA|apply ZB|refine ZE ?_ (by simp)|refine ZJ _ ?_ (by simp))
 ·by_cases h0:an 4=0
  ·have d1:(an 4:Int)=0:=by omega
   rw [ZLX h0];go_wp2;go_returns;refine ⟨by simp [h0],?_⟩
   repeat (first|exact bR|with_reducible first|apply ZA|apply ZB|refine ZE ?_ (by simp)|refine ZJ _ ?_ (by simp))
  ·have d1:¬ (an 4:Int)=0:=by omega
   rw [ZLU h0];simp only [upd];go_wp2;go_returns;refine ⟨by simp,?_⟩
   repeat (first|exact bR|with_reducible first|apply ZA|apply ZB|refine ZE ?_ (by simp)|refine ZJ _ ?_ (by simp))
 ·by_cases h0:an 5=0
  ·have d1:(an 5:Int)=0:=by omega
   rw [ZLX h0];go_wp2;go_returns;refine ⟨by simp [h0],?_⟩
   repeat (first|exact bR|with_reducible first|apply ZA|apply ZB|refine ZE ?_ (by simp)|refine ZJ _ ?_ (by simp))
  ·have d1:¬ (an 5:Int)=0:=by omega
   rw [ZLU h0];simp only [upd];go_wp2;go_returns;refine ⟨by simp,?_⟩
   repeat (first|exact bR|with_reducible first|apply ZA|apply ZB|refine ZE ?_ (by simp)|refine ZJ _ ?_ (by simp))
 ·by_cases h0:an 6=0
  ·have d1:(an 6:Int)=0:=by omega
   rw [ZLX h0];go_wp2;go_returns;refine ⟨by simp [h0],?_⟩
   repeat (first|exact bR|with_reducible first|apply ZA|apply ZB|refine ZE ?_ (by simp)|refine ZJ _ ?_ (by simp))
  ·have d1:¬ (an 6:Int)=0:=by omega
   rw [ZLU h0];simp only [upd];go_wp2;go_returns;refine ⟨by simp,?_⟩
   repeat (first|exact bR|with_reducible first|apply ZA|apply ZB|refine ZE ?_ (by simp)|refine ZJ _ ?_ (by simp))
 ·by_cases h0:an 7=0
  ·have d1:(an 7:Int)=0:=by omega
   rw [ZLX h0];go_wp2;go_returns;refine ⟨by simp [h0],?_⟩
   repeat (first|exact bR|with_reducible first|apply ZA|apply ZB|refine ZE ?_ (by simp)|refine ZJ _ ?_ (by simp))
  ·have d1:¬ (an 7:Int)=0:=by omega
   rw [ZLU h0];simp only [upd];go_wp2;go_returns;refine ⟨by simp,?_⟩
   repeat (first|exact bR|with_reducible first|apply ZA|apply ZB|refine ZE ?_ (by simp)|refine ZJ _ ?_ (by simp))
def Yy (now:Nat)(an:Nat->Nat):Prop:=∀ t,t < 8->an t=0\/an t=now
instance (now:Nat) (an:Nat->Nat):Decidable (Yy now an):=by unfold Yy;infer_instance
theorem ZHz {now t:Nat}{an:Nat->Nat}(ht:t < 8)(hnow:now<=2147483647):
 Calls prog 46 #[.agg (ck9 now an),.int .i64 t] w fun r w'=>r=.returned (if Yy now an then .tuple #[.agg (ck9 (now+1) an),.int .u64 (now+1:Nat),.int .i64 0] else .tuple #[.agg (ck9 now an),.int .u64 (0:Nat),.int .i64 7])/\Bl w w':=by
 obtain ⟨R,hR⟩:=xE ((if Yy now an then Value.tuple #[.agg (ck9 (now+1) an),.int .u64 (now+1:Nat),.int .i64 0] else .tuple #[.agg (ck9 now an),.int .u64 (0:Nat),.int .i64 7]));have HNO:=zh (fun (t:Nat) (ht:t < 8) (h0:an t≠0) (h1:an t≠now)=>hR.trans (ZLU (fun q=>(q t ht).elim h0 h1)));have HYS:=zh (fun (h:Yy now an)=>hR.trans (ZLX h));rw [<-hR];clear hR;have t1:¬ (t:Int) < 0:=by omega
 have t2:¬ (t:Int) > 7:=by omega
 have e1:((now+1:Nat):Int)=(now:Int)+1:=by omega
 have b1:(now:Int)<=2147483647:=by omega
 rw [e1] at HYS;unfold ck9 at *;rw [e1] at HYS;clear e1 hnow ht;go_in;go_wp2_with fail
 go_loop [18] (fun i=>∃ n:Nat,n<=8/\i=.int .i64 n/\∀ t,t < n->an t=0\/an t=now) (fun i=>8 - (intOf i).toNat)
 case atStart=>exact ⟨0,by omega,rfl,fun t ht=>by omega⟩
 case round=>
 obtain ⟨n,hn,rfl,hall⟩:=hrel
 by_cases h8:n=8
 ·subst h8
  have hR:=HYS.o hall;subst hR;clear hall hn HYS HNO;go_wp2_with fail
  go_region
  all_goals
   go_wp2;go_returns;refine ⟨by simp,?_⟩
   repeat (first|exact bR|with_reducible first|apply ZA|apply ZB|refine ZE ?_ (by simp)|refine ZJ _ ?_ (by simp))
 ·have ha:an n=0\/an n≠0/\an n≠now\/an n≠0/\an n=now:=by omega
  rcases (show n=0\/n=1\/n=2\/n=3\/n=4\/n=5\/n=6\/n=7 by omega) with hn'|hn'|hn'|hn'|hn'|hn'|hn'|hn' <;> subst hn'
  ·rcases ha with h0|⟨h0,h1⟩|⟨h0,h1⟩
   ·have HN:=zh (show ∀ t,t < 1->an t=0\/an t=now from fun t ht=>(show t < 0\/t=0 by omega).elim (hall t) (fun q=>by rw [q];exact .inl h0))
    have hix:=XK;have d1:(an 0:Int)=0:=by omega
    clear hall h0;go_wp2_with fail
    all_goals first|exact ⟨⟨1,by omega,rfl,HN.o⟩,by simp [intOf]⟩|exact ⟨⟨_,_,_,_,⟨1,by omega,rfl,HN.o⟩,rfl,rfl,rfl,rfl⟩,by simp [intOf]⟩|exact absurd (‹((an 0:Int) != 0)=true/\((an 0:Int) != (now:Int))=true›) (by simp [d1])
   ·have hR:=HNO.o 0 (by omega) h0 h1
    have hix:=XK;have d1:¬ (an 0:Int)=0:=by omega
    have d2:¬ (an 0:Int)=now:=by omega
    subst hR;clear hall HYS HNO;go_wp2_with fail
    all_goals try exact absurd (‹((an 0:Int) != 0)=false\/((an 0:Int) != (now:Int))=false›) (by simp [d1,d2];omega)
    go_returns;refine ⟨by simp,?_⟩
    repeat (first|exact bR|with_reducible first|apply ZA|apply ZB|refine ZE ?_ (by simp)|refine ZJ _ ?_ (by simp))
   ·have HN:=zh (show ∀ t,t < 1->an t=0\/an t=now from fun t ht=>(show t < 0\/t=0 by omega).elim (hall t) (fun q=>by rw [q];exact .inr h1))
    have hix:=XK;have d1:¬ (an 0:Int)=0:=by omega
    have d2:(an 0:Int)=now:=by omega
    clear hall;go_wp2_with fail
    all_goals first|exact ⟨⟨1,by omega,rfl,HN.o⟩,by simp [intOf]⟩|exact ⟨⟨_,_,_,_,⟨1,by omega,rfl,HN.o⟩,rfl,rfl,rfl,rfl⟩,by simp [intOf]⟩|exact absurd (‹((an 0:Int) != 0)=true/\((an 0:Int) != (now:Int))=true›) (by simp [d2])
  ·rcases ha with h0|⟨h0,h1⟩|⟨h0,h1⟩
   ·have HN:=zh (show ∀ t,t < 2->an t=0\/an t=now from fun t ht=>(show t < 1\/t=1 by omega).elim (hall t) (fun q=>by rw [q];exact .inl h0))
    have hix:=XL;have d1:(an 1:Int)=0:=by omega
    clear hall h0;go_wp2_with fail
    all_goals first|exact ⟨⟨2,by omega,rfl,HN.o⟩,by simp [intOf]⟩|exact ⟨⟨_,_,_,_,⟨2,by omega,rfl,HN.o⟩,rfl,rfl,rfl,rfl⟩,by simp [intOf]⟩|exact absurd (‹((an 1:Int) != 0)=true/\((an 1:Int) != (now:Int))=true›) (by simp [d1])
   ·have hR:=HNO.o 1 (by omega) h0 h1
    have hix:=XL;have d1:¬ (an 1:Int)=0:=by omega
    have d2:¬ (an 1:Int)=now:=by omega
    subst hR;clear hall HYS HNO;go_wp2_with fail
    all_goals try exact absurd (‹((an 1:Int) != 0)=false\/((an 1:Int) != (now:Int))=false›) (by simp [d1,d2];omega)
    go_returns;refine ⟨by simp,?_⟩
    repeat (first|exact bR|with_reducible first|apply ZA|apply ZB|refine ZE ?_ (by simp)|refine ZJ _ ?_ (by simp))
   ·have HN:=zh (show ∀ t,t < 2->an t=0\/an t=now from fun t ht=>(show t < 1\/t=1 by omega).elim (hall t) (fun q=>by rw [q];exact .inr h1))
    have hix:=XL;have d1:¬ (an 1:Int)=0:=by omega
    have d2:(an 1:Int)=now:=by omega
    clear hall;go_wp2_with fail
    all_goals first|exact ⟨⟨2,by omega,rfl,HN.o⟩,by simp [intOf]⟩|exact ⟨⟨_,_,_,_,⟨2,by omega,rfl,HN.o⟩,rfl,rfl,rfl,rfl⟩,by simp [intOf]⟩|exact absurd (‹((an 1:Int) != 0)=true/\((an 1:Int) != (now:Int))=true›) (by simp [d2])
  ·rcases ha with h0|⟨h0,h1⟩|⟨h0,h1⟩
   ·have HN:=zh (show ∀ t,t < 3->an t=0\/an t=now from fun t ht=>(show t < 2\/t=2 by omega).elim (hall t) (fun q=>by rw [q];exact .inl h0))
    have hix:=XM;have d1:(an 2:Int)=0:=by omega
    clear hall h0;go_wp2_with fail
    all_goals first|exact ⟨⟨3,by omega,rfl,HN.o⟩,by simp [intOf]⟩|exact ⟨⟨_,_,_,_,⟨3,by omega,rfl,HN.o⟩,rfl,rfl,rfl,rfl⟩,by simp [intOf]⟩|exact absurd (‹((an 2:Int) != 0)=true/\((an 2:Int) != (now:Int))=true›) (by simp [d1])
   ·have hR:=HNO.o 2 (by omega) h0 h1
    have hix:=XM;have d1:¬ (an 2:Int)=0:=by omega
    have d2:¬ (an 2:Int)=now:=by omega
    subst hR;clear hall HYS HNO;go_wp2_with fail
    all_goals try exact absurd (‹((an 2:Int) != 0)=false\/((an 2:Int) != (now:Int))=false›) (by simp [d1,d2];omega)
    go_returns;refine ⟨by simp,?_⟩
    repeat (first|exact bR|with_reducible first|apply ZA|apply ZB|refine ZE ?_ (by simp)|refine ZJ _ ?_ (by simp))
   ·have HN:=zh (show ∀ t,t < 3->an t=0\/an t=now from fun t ht=>(show t < 2\/t=2 by omega).elim (hall t) (fun q=>by rw [q];exact .inr h1))
    have hix:=XM;have d1:¬ (an 2:Int)=0:=by omega
    have d2:(an 2:Int)=now:=by omega
    clear hall;go_wp2_with fail
    all_goals first|exact ⟨⟨3,by omega,rfl,HN.o⟩,by simp [intOf]⟩|exact ⟨⟨_,_,_,_,⟨3,by omega,rfl,HN.o⟩,rfl,rfl,rfl,rfl⟩,by simp [intOf]⟩|exact absurd (‹((an 2:Int) != 0)=true/\((an 2:Int) != (now:Int))=true›) (by simp [d2])
  ·rcases ha with h0|⟨h0,h1⟩|⟨h0,h1⟩
   ·have HN:=zh (show ∀ t,t < 4->an t=0\/an t=now from fun t ht=>(show t < 3\/t=3 by omega).elim (hall t) (fun q=>by rw [q];exact .inl h0))
    have hix:=XN;have d1:(an 3:Int)=0:=by omega
    clear hall h0;go_wp2_with fail
    all_goals first|exact ⟨⟨4,by omega,rfl,HN.o⟩,by simp [intOf]⟩|exact ⟨⟨_,_,_,_,⟨4,by omega,rfl,HN.o⟩,rfl,rfl,rfl,rfl⟩,by simp [intOf]⟩|exact absurd (‹((an 3:Int) != 0)=true/\((an 3:Int) != (now:Int))=true›) (by simp [d1])
   ·have hR:=HNO.o 3 (by omega) h0 h1
    have hix:=XN;have d1:¬ (an 3:Int)=0:=by omega
    have d2:¬ (an 3:Int)=now:=by omega
    subst hR;clear hall HYS HNO;go_wp2_with fail
    all_goals try exact absurd (‹((an 3:Int) != 0)=false\/((an 3:Int) != (now:Int))=false›) (by simp [d1,d2];omega)
    go_returns;refine ⟨by simp,?_⟩
    repeat (first|exact bR|with_reducible first|apply ZA|apply ZB|refine ZE ?_ (by simp)|refine ZJ _ ?_ (by simp))
   ·have HN:=zh (show ∀ t,t < 4->an t=0\/an t=now from fun t ht=>(show t < 3\/t=3 by omega).elim (hall t) (fun q=>by rw [q];exact .inr h1))
    have hix:=XN;have d1:¬ (an 3:Int)=0:=by omega
    have d2:(an 3:Int)=now:=by omega
    clear hall;go_wp2_with fail
    all_goals first|exact ⟨⟨4,by omega,rfl,HN.o⟩,by simp [intOf]⟩|exact ⟨⟨_,_,_,_,⟨4,by omega,rfl,HN.o⟩,rfl,rfl,rfl,rfl⟩,by simp [intOf]⟩|exact absurd (‹((an 3:Int) != 0)=true/\((an 3:Int) != (now:Int))=true›) (by simp [d2])
  ·rcases ha with h0|⟨h0,h1⟩|⟨h0,h1⟩
   ·have HN:=zh (show ∀ t,t < 5->an t=0\/an t=now from fun t ht=>(show t < 4\/t=4 by omega).elim (hall t) (fun q=>by rw [q];exact .inl h0))
    have hix:=XO;have d1:(an 4:Int)=0:=by omega
    clear hall h0;go_wp2_with fail
    all_goals first|exact ⟨⟨5,by omega,rfl,HN.o⟩,by simp [intOf]⟩|exact ⟨⟨_,_,_,_,⟨5,by omega,rfl,HN.o⟩,rfl,rfl,rfl,rfl⟩,by simp [intOf]⟩|exact absurd (‹((an 4:Int) != 0)=true/\((an 4:Int) != (now:Int))=true›) (by simp [d1])
   ·have hR:=HNO.o 4 (by omega) h0 h1
    have hix:=XO;have d1:¬ (an 4:Int)=0:=by omega
    have d2:¬ (an 4:Int)=now:=by omega
    subst hR;clear hall HYS HNO;go_wp2_with fail
    all_goals try exact absurd (‹((an 4:Int) != 0)=false\/((an 4:Int) != (now:Int))=false›) (by simp [d1,d2];omega)
    go_returns;refine ⟨by simp,?_⟩
    repeat (first|exact bR|with_reducible first|apply ZA|apply ZB|refine ZE ?_ (by simp)|refine ZJ _ ?_ (by simp))
   ·have HN:=zh (show ∀ t,t < 5->an t=0\/an t=now from fun t ht=>(show t < 4\/t=4 by omega).elim (hall t) (fun q=>by rw [q];exact .inr h1))
    have hix:=XO;have d1:¬ (an 4:Int)=0:=by omega
    have d2:(an 4:Int)=now:=by omega
    clear hall;go_wp2_with fail
    all_goals first|exact ⟨⟨5,by omega,rfl,HN.o⟩,by simp [intOf]⟩|exact ⟨⟨_,_,_,_,⟨5,by omega,rfl,HN.o⟩,rfl,rfl,rfl,rfl⟩,by simp [intOf]⟩|exact absurd (‹((an 4:Int) != 0)=true/\((an 4:Int) != (now:Int))=true›) (by simp [d2])
  ·rcases ha with h0|⟨h0,h1⟩|⟨h0,h1⟩
   ·have HN:=zh (show ∀ t,t < 6->an t=0\/an t=now from fun t ht=>(show t < 5\/t=5 by omega).elim (hall t) (fun q=>by rw [q];exact .inl h0))
    have hix:=XP;have d1:(an 5:Int)=0:=by omega
    clear hall h0;go_wp2_with fail
    all_goals first|exact ⟨⟨6,by omega,rfl,HN.o⟩,by simp [intOf]⟩|exact ⟨⟨_,_,_,_,⟨6,by omega,rfl,HN.o⟩,rfl,rfl,rfl,rfl⟩,by simp [intOf]⟩|exact absurd (‹((an 5:Int) != 0)=true/\((an 5:Int) != (now:Int))=true›) (by simp [d1])
   ·have hR:=HNO.o 5 (by omega) h0 h1
    have hix:=XP;have d1:¬ (an 5:Int)=0:=by omega
    have d2:¬ (an 5:Int)=now:=by omega
    subst hR;clear hall HYS HNO;go_wp2_with fail
    all_goals try exact absurd (‹((an 5:Int) != 0)=false\/((an 5:Int) != (now:Int))=false›) (by simp [d1,d2];omega)
    go_returns;refine ⟨by simp,?_⟩
    repeat (first|exact bR|with_reducible first|apply ZA|apply ZB|refine ZE ?_ (by simp)|refine ZJ _ ?_ (by simp))
   ·have HN:=zh (show ∀ t,t < 6->an t=0\/an t=now from fun t ht=>(show t < 5\/t=5 by omega).elim (hall t) (fun q=>by rw [q];exact .inr h1))
    have hix:=XP;have d1:¬ (an 5:Int)=0:=by omega
    have d2:(an 5:Int)=now:=by omega
    clear hall;go_wp2_with fail
    all_goals first|exact ⟨⟨6,by omega,rfl,HN.o⟩,by simp [intOf]⟩|exact ⟨⟨_,_,_,_,⟨6,by omega,rfl,HN.o⟩,rfl,rfl,rfl,rfl⟩,by simp [intOf]⟩|exact absurd (‹((an 5:Int) != 0)=true/\((an 5:Int) != (now:Int))=true›) (by simp [d2])
  ·rcases ha with h0|⟨h0,h1⟩|⟨h0,h1⟩
   ·have HN:=zh (show ∀ t,t < 7->an t=0\/an t=now from fun t ht=>(show t < 6\/t=6 by omega).elim (hall t) (fun q=>by rw [q];exact .inl h0))
    have hix:=XR;have d1:(an 6:Int)=0:=by omega
    clear hall h0;go_wp2_with fail
    all_goals first|exact ⟨⟨7,by omega,rfl,HN.o⟩,by simp [intOf]⟩|exact ⟨⟨_,_,_,_,⟨7,by omega,rfl,HN.o⟩,rfl,rfl,rfl,rfl⟩,by simp [intOf]⟩|exact absurd (‹((an 6:Int) != 0)=true/\((an 6:Int) != (now:Int))=true›) (by simp [d1])
   ·have hR:=HNO.o 6 (by omega) h0 h1
    have hix:=XR;have d1:¬ (an 6:Int)=0:=by omega
    have d2:¬ (an 6:Int)=now:=by omega
    subst hR;clear hall HYS HNO;go_wp2_with fail
    all_goals try exact absurd (‹((an 6:Int) != 0)=false\/((an 6:Int) != (now:Int))=false›) (by simp [d1,d2];omega)
    go_returns;refine ⟨by simp,?_⟩
    repeat (first|exact bR|with_reducible first|apply ZA|apply ZB|refine ZE ?_ (by simp)|refine ZJ _ ?_ (by simp))
   ·have HN:=zh (show ∀ t,t < 7->an t=0\/an t=now from fun t ht=>(show t < 6\/t=6 by omega).elim (hall t) (fun q=>by rw [q];exact .inr h1))
    have hix:=XR;have d1:¬ (an 6:Int)=0:=by omega
    have d2:(an 6:Int)=now:=by omega
    clear hall;go_wp2_with fail
    all_goals first|exact ⟨⟨7,by omega,rfl,HN.o⟩,by simp [intOf]⟩|exact ⟨⟨_,_,_,_,⟨7,by omega,rfl,HN.o⟩,rfl,rfl,rfl,rfl⟩,by simp [intOf]⟩|exact absurd (‹((an 6:Int) != 0)=true/\((an 6:Int) != (now:Int))=true›) (by simp [d2])
  ·rcases ha with h0|⟨h0,h1⟩|⟨h0,h1⟩
   ·have HN:=zh (show ∀ t,t < 8->an t=0\/an t=now from fun t ht=>(show t < 7\/t=7 by omega).elim (hall t) (fun q=>by rw [q];exact .inl h0))
    have hix:=XS;have d1:(an 7:Int)=0:=by omega
    clear hall h0;go_wp2_with fail
    all_goals first|exact ⟨⟨8,by omega,rfl,HN.o⟩,by simp [intOf]⟩|exact ⟨⟨_,_,_,_,⟨8,by omega,rfl,HN.o⟩,rfl,rfl,rfl,rfl⟩,by simp [intOf]⟩|exact absurd (‹((an 7:Int) != 0)=true/\((an 7:Int) != (now:Int))=true›) (by simp [d1])
   ·have hR:=HNO.o 7 (by omega) h0 h1
    have hix:=XS;have d1:¬ (an 7:Int)=0:=by omega
    have d2:¬ (an 7:Int)=now:=by omega
    subst hR;clear hall HYS HNO;go_wp2_with fail
    all_goals try exact absurd (‹((an 7:Int) != 0)=false\/((an 7:Int) != (now:Int))=false›) (by simp [d1,d2];omega)
    go_returns;refine ⟨by simp,?_⟩
    repeat (first|exact bR|with_reducible first|apply ZA|apply ZB|refine ZE ?_ (by simp)|refine ZJ _ ?_ (by simp))
   ·have HN:=zh (show ∀ t,t < 8->an t=0\/an t=now from fun t ht=>(show t < 7\/t=7 by omega).elim (hall t) (fun q=>by rw [q];exact .inr h1))
    have hix:=XS;have d1:¬ (an 7:Int)=0:=by omega
    have d2:(an 7:Int)=now:=by omega
    clear hall;go_wp2_with fail
    all_goals first|exact ⟨⟨8,by omega,rfl,HN.o⟩,by simp [intOf]⟩|exact ⟨⟨_,_,_,_,⟨8,by omega,rfl,HN.o⟩,rfl,rfl,rfl,rfl⟩,by simp [intOf]⟩|exact absurd (‹((an 7:Int) != 0)=true/\((an 7:Int) != (now:Int))=true›) (by simp [d2])
open Go.Proofs.YtbpeehmepehkdaaGreatDoor.Size
def kF:Chk:=⟨-1,-1,1,fun _=>⟨1,0,176⟩⟩
structure LS.Inv (s:LS)(n:Nat):Prop where
 ok:s.Ok
 k1:s.k.cl=-1->s.k=kF
 cnt:s.na+s.nr<=n
 now:s.now<=2+n
theorem LS.Inv.mono {s:LS}{n m:Nat}(h:s.Inv n)(hm:n<=m):s.Inv m:=⟨h.ok,h.k1,ZLi h.cnt hm,ZLi h.now (by omega)⟩
theorem LS.Inv.nr {s:LS}{n:Nat}(h:s.Inv n):2 * s.nr<=n:=by
 have h1:=h.ok.cnt;have h2:=h.cnt;omega
theorem LS.Inv.en {s:LS}{n:Nat}(h:s.Inv n):2 * s.en.length<=n:=by
 have h1:=h.nr;have h2:=h.ok.len;omega
theorem LS.Ok.zero {s:LS}(h:s.Ok)(h0:s.na=0):s.nr=0/\s.en=[]/\s.fr=[]/\s.live=[]/\s.its=[]:=by
 have h1:=h.cnt;have h2:=h.len;have h3:=h.fl;have e1:s.nr=0:=by omega
 have e2:s.en=[]:=ZLr (by omega);have e3:s.fr=[]:=ZLr (by omega);refine ⟨e1,e2,e3,?_,?_⟩
 ·rw [LS.live_eq,e2]
  have:(((List.range 40).map s.lp).filter (· != 0))=[]:=ZLr (by omega);rw [this];rfl
 ·have:=h.per
  rw [e2] at this;exact List.Perm.eq_nil this
theorem LS.Ok.made {s:LS}(h:s.Ok)(h0:s.na=0):({s with k:=Chk.made 0 0 1}:LS).Ok:=by
 obtain ⟨z1,z2,z3,z4,z5⟩:=h.zero h0;refine {h with cl:=.inr ⟨rfl,rfl⟩,blk:=fun j _=>.inl rfl,gen:=fun j=>⟨?_,nR⟩,liv:=fun P hP=>?_,use:=fun j _ h2=>?_,fr:=fun P hP=>?_}
 ·show 1<=s.fr.length+1;omega
 ·have hP:P∈s.live:=hP
  rw [z4] at hP;cases hP
 ·have h2:(176:Nat)=177:=h2
  omega
 ·have hP:P∈s.fr:=hP
  rw [z3] at hP;cases hP
def LS.clm (s:LS):LS:=if s.k.cl=-1 then {s with k:=Chk.made 0 0 1} else s
theorem LS.clm_no {s:LS}(h:s.k.cl=0):s.clm=s:=by unfold LS.clm;rw [ZLU (by omega)]
theorem LS.clm_yes {s:LS}(h:s.k.cl=-1):s.clm={s with k:=Chk.made 0 0 1}:=by unfold LS.clm;rw [ZLX h]
theorem LS.Inv.clm {s:LS}{n:Nat}(h:s.Inv n):s.clm.Inv n/\s.clm.k.cl=0/\s.clm.k.ow=0:=by
 rcases h.ok.cl with ⟨h1,h2⟩|⟨h1,h2⟩
 ·rw [LS.clm_yes h1]
  exact ⟨⟨h.ok.made h2,(fun q=>by cases q),h.cnt,h.now⟩,rfl,rfl⟩
 ·rw [LS.clm_no h1]
  exact ⟨h,h1,h2⟩
theorem LS.Inv.live {s:LS}{n:Nat}(h:s.Inv n):s.live.length<=n:=by
 have h1:=h.cnt;have h2:=h.ok.fl;have h4:=h.ok.cnt;rw [LS.live_eq,ZLc,ZLj];omega
def LS.fj (s:LS):Nat:=(s.k.free 0).toNat
theorem LS.Inv.fj {s:LS}{n:Nat}(h:s.Inv n)(hn:n<=60)(hc:s.k.cl=0):s.fj < 62/\s.k.free 0=(s.fj:Int)/\s.k.used s.fj=false/\(s.k.blk s.fj).st=176:=by
 obtain ⟨j,h1,h2,h3,h4⟩:=h.ok.free hc (by have:=h.live;omega);have e:s.fj=j:=by unfold LS.fj;rw [h2];rfl
 rw [e];exact ⟨h1,h2,h3,h4⟩
def LS.np (s:LS):Nat:=s.clm.k.ptr 103 s.clm.fj 65
def LS.mk0 (s:LS)(i:Nat):LS:=s.clm.make i s.clm.fj s.np
theorem QV (s:LS):s.clm.lp=s.lp/\s.clm.en=s.en/\s.clm.its=s.its/\s.clm.fr=s.fr/\s.clm.now=s.now/\s.clm.ann=s.ann/\s.clm.na=s.na/\s.clm.nr=s.nr:=by
 unfold LS.clm;split <;> exact ⟨rfl,rfl,rfl,rfl,rfl,rfl,rfl,rfl⟩
theorem LS.Inv.mk0 {s:LS}{n:Nat}(h:s.Inv n)(hn:n<=60){i:Nat}(hi:i < 40)(h0:s.lp i=0):(s.mk0 i).Inv (n+1):=by
 obtain ⟨hc,h1,h2⟩:=h.clm;obtain ⟨f1,f2,f3,f4⟩:=hc.fj hn h1;refine ⟨hc.ok.make ⟨h1,h2⟩ hi (by rw [(QV s).1];exact h0) f1 f4 rfl,fun q=>?_,?_,?_⟩
 ·have q:s.clm.k.cl=-1:=q
  omega
 ·have:=hc.cnt
  show s.clm.na+1+s.clm.nr<=n+1;omega
 ·have:=hc.now
  show s.clm.now<=2+(n+1);omega
theorem LS.Inv.cl0 {s:LS}{n:Nat}(h:s.Inv n)(h0:s.na≠0):s.k.cl=0/\s.k.ow=0:=by
 rcases h.ok.cl with ⟨_,h2⟩|h1
 ·exact absurd h2 h0
 ·exact h1
theorem LS.Ok.na_lp {s:LS}(h:s.Ok){i:Nat}(hi:i < 40)(h0:s.lp i≠0):s.na≠0:=by
 intro e;have:=(h.zero e).2.2.2.1;have h2:=LS.mem_lp hi h0;rw [this] at h2;cases h2
theorem LS.Ok.na_en {s:LS}(h:s.Ok)(h0:s.en≠[]):s.na≠0:=fun e=>h0 (h.zero e).2.1
theorem LS.frees_en {s:LS}(h:s.frees≠[]):s.en≠[]:=fun e=>h (by unfold LS.frees;rw [e];rfl)
def LS.stp (s:LS)(kd i t:Nat):LS:=
 if kd=0 then (if s.lp i=0 then s.mk0 i else s)
 else if kd=1 then (if s.lp i=0 then s else s.retire i)
 else if kd=2 then (if s.frees=[] then s else s.collect)
 else if kd=3 then {s with ann:=if s.ann t=0 then upd s.ann t s.now else s.ann}
 else if kd=4 then {s with ann:=if s.ann t=0 then s.ann else upd s.ann t 0}
 else if kd=5 then (if Yy s.now s.ann then s.advance else s)
 else s
theorem LS.Inv.setAnn {s:LS}{n:Nat}(h:s.Inv n){an:Nat->Nat}(ha:∀ t,an t<=s.now):({s with ann:=an}:LS).Inv n:=
 ⟨{h.ok with ann:=ha},h.k1,h.cnt,h.now⟩
theorem LS.Inv.stp {s:LS}{n:Nat}(h:s.Inv n)(hn:n<=60){kd i t:Nat}(hi:i < 40):(s.stp kd i t).Inv (n+1):=by
 unfold LS.stp;split
 ·split
  ·exact h.mk0 hn hi ‹_›
  ·exact h.mono (Nat.le_succ _)
 split
 ·split
  ·exact h.mono (Nat.le_succ _)
  ·rename_i h0
   have hc:=h.cl0 (h.ok.na_lp hi h0);refine ⟨h.ok.retire hc hi h0,h.k1,?_,ZLi h.now (by omega)⟩;have:=h.cnt;show s.na+(s.nr+1)<=n+1;omega
 split
 ·split
  ·exact h.mono (Nat.le_succ _)
  ·rename_i h0
   have hc:=h.cl0 (h.ok.na_en (LS.frees_en h0));refine ⟨h.ok.collect hc (by have:=h.nr;omega),fun q=>?_,ZLi h.cnt (by show n<=n+1;omega),ZLi h.now (by omega)⟩;have q:(s.k.after [] s.drs).cl=-1:=q;rw [(s.k.same_after [] s.drs).cl] at q;omega
 split
 ·refine (h.setAnn (an:=if s.ann t=0 then upd s.ann t s.now else s.ann) fun u=>?_).mono (Nat.le_succ _)
  have:=h.ok.ann u;split
  ·unfold upd;split <;> omega
  ·exact this
 split
 ·refine (h.setAnn (an:=if s.ann t=0 then s.ann else upd s.ann t 0) fun u=>?_).mono (Nat.le_succ _)
  have:=h.ok.ann u;split
  ·exact this
  ·unfold upd;split <;> omega
 split
 ·split
  ·refine ⟨h.ok.advance,h.k1,ZLi h.cnt (Nat.le_succ _),?_⟩
   have:=h.now;show s.now+1<=2+(n+1);omega
  ·exact h.mono (Nat.le_succ _)
 ·exact h.mono (Nat.le_succ _)
theorem LS.Ok.frees_len {s:LS}(h:s.Ok):(s.its.filter s.sf).length=s.frees.length:=(h.per.filter s.sf).length_eq
theorem LS.Ok.frees_nil {s:LS}(h:s.Ok)(h0:s.frees=[]):s.its.filter s.sf=[]/\s.its.filter (fun x=>!s.sf x)=s.its:=by
 have e:s.its.filter s.sf=[]:=ZLr (by rw [h.frees_len,h0];rfl);refine ⟨e,List.filter_eq_self.2 fun x hx=>?_⟩;have:=List.filter_eq_nil_iff.1 e x hx;simpa using this
structure LS.Kept (s:LS)(r:Nat->Option Nat):Prop where
 kept:∀ P e,r P=some e->(P,e)∈full s.en\/(e < s.now/\∀ t,t < 8->s.ann t=0\/e < s.ann t)
theorem ZH9 {now e:Nat}{ann:Nat->Nat}(h:Zg now ann e=true):e < now/\∀ t,t < 8->ann t=0\/e < ann t:=by
 unfold Zg at h;rw [Bool.and_eq_true,List.all_eq_true] at h;exact ⟨of_decide_eq_true h.1,fun t ht=>of_decide_eq_true (h.2 t (ZLz.2 ht))⟩
theorem LS.Kept.stp {s:LS}{r:Nat->Option Nat}(h:s.Kept r)(ho:s.Ok){kd i t:Nat}(hi:i < 40):
 (s.stp kd i t).Kept (if kd=1/\s.lp i≠0 then YN r (s.lp i) s.now else r):=by
 have easy:∀ {s':LS} {r':Nat->Option Nat},r'=r->s'.en=s.en->(∀ e,(e < s.now/\∀ t,t < 8->s.ann t=0\/e < s.ann t)->e < s'.now/\∀ t,t < 8->s'.ann t=0\/e < s'.ann t)->s'.Kept r':=by
  intro s' r' h1 h2 h3;subst h1;refine ⟨fun P e hr=>(h.kept P e hr).imp (fun q=>by rw [h2];exact q) (h3 e)⟩
 unfold LS.stp;split
 ·rename_i k0
  have e1:(if kd=1/\s.lp i≠0 then YN r (s.lp i) s.now else r)=r:=ZLU (by omega);split
  ·exact easy e1 (QV s).2.1 (fun e q=>by
    have e4:(s.mk0 i).now=s.now:=(QV s).2.2.2.2.1;have e5:(s.mk0 i).ann=s.ann:=(QV s).2.2.2.2.2.1;rw [e4,e5];exact q)
  ·exact easy e1 rfl (fun e q=>q)
 split
 ·rename_i k1
  split
  ·rename_i h0
   exact easy (ZLU (fun q=>q.2 h0)) rfl (fun e q=>q)
  ·rename_i h0
   rw [ZLX ⟨k1,h0⟩];refine ⟨fun P e hr=>?_⟩;have ef:full (s.retire i).en=full s.en++[(s.lp i,s.now)]:=by
    show full (s.en++[(s.lp i,s.now)])=_;rw [ZCQ]
    congr 1
    unfold full;simp [h0]
   by_cases hP:P=s.lp i
   ·subst hP
    unfold YN at hr;rw [ZLX rfl] at hr;cases hr;exact .inl (by rw [ef];exact ZLZ.2 (.inr (.head _)))
   ·unfold YN at hr
    rw [ZLU hP] at hr;exact (h.kept P e hr).imp (fun q=>by rw [ef];exact ZLZ.2 (.inl q)) id
 rename_i k0 k1;have e1:(if kd=1/\s.lp i≠0 then YN r (s.lp i) s.now else r)=r:=ZLU (fun q=>k1 q.1);split
 ·split
  ·exact easy e1 rfl (fun e q=>q)
  ·rw [e1]
   refine ⟨fun P e hr=>?_⟩;rcases h.kept P e hr with q|q
   ·have ef:full s.collect.en=(full s.en).filter fun x=>!s.sf x:=s.full_en'
    by_cases hs:s.sf (P,e)=true
    ·exact .inr (ZH9 hs)
    ·exact .inl (by rw [ef];exact ZLv.2 ⟨q,by simpa using hs⟩)
   ·exact .inr q
 split
 ·refine easy e1 rfl (fun e q=>⟨q.1,fun u hu=>?_⟩)
  show (if s.ann t=0 then upd s.ann t s.now else s.ann) u=0\/e < (if s.ann t=0 then upd s.ann t s.now else s.ann) u;split
  ·unfold upd
   split
   ·exact .inr q.1
   ·exact q.2 u hu
  ·exact q.2 u hu
 split
 ·refine easy e1 rfl (fun e q=>⟨q.1,fun u hu=>?_⟩)
  show (if s.ann t=0 then s.ann else upd s.ann t 0) u=0\/e < (if s.ann t=0 then s.ann else upd s.ann t 0) u;split
  ·exact q.2 u hu
  ·unfold upd
   split
   ·exact .inl rfl
   ·exact q.2 u hu
 split
 ·split
  ·refine easy e1 rfl (fun e q=>⟨?_,q.2⟩)
   show e < s.now+1;omega
  ·exact easy e1 rfl (fun e q=>q)
 ·exact easy e1 rfl (fun e q=>q)
variable {A:DAd}{F:Nat->Option ZM}{L:Nat}{T c:Nat->Nat}
def UD (E:Int)(kd p:Nat):Int:=if E=0 then (if kd=0 then 0 else if kd=Z9 p then 0 else 13) else E
theorem Xb (h:Ar w A F L T c){H:HAd}{lk:Bool}(hH:HpW w A H lk){k:Chk}{m:Nat}(hm:m < H.n)(hl:H.l0+32 * m+32<=L)(hR:CRep T c (8 * (H.l0+32 * m)) k)(hk:0<=k.cl){p:Nat}(hp0:p≠0)(hp:p < 72057594037927936)(h1:64 * (H.l0+32 * m)<=ZP p)(h2:ZP p < 64 * (H.l0+32 * m)+2048)(kd:Nat)(hkd:kd < 256):
 Calls prog 51 #[.pointer (some ⟨H.hb,0,none⟩),.int .u64 p,.int .u8 kd] w fun e w'=>e=.returned (.int .i64 (UD (k.block (H.l0+32 * m) p).2 kd p))/\Bl w w':=by
 have HNI:=zh (fun w1=>Zd (w:=w1) (p:=p));rw [ZLh hp0] at HNI;have HER:=zh (fun w1 hb=>Zs h hH.t w1 hb);have HOF:=zh (fun w1=>YJ (w:=w1) (p:=p) (by omega));have HKI:=zh (fun w1=>Xz (w:=w1) (p:=p) (by omega));have HHO:=zh (fun w1 (hb:Bl w w1)=>Qf (hH.below hb) hm h1 h2);obtain ⟨line,hline⟩:=xE (H.l0+32 * m);rw [<-hline] at hl hR HHO ⊢;have HOP:=zh (fun w1 (hb:Bl w w1)=>Y3 (h.below hb) hH.t hl hR hk);have HBL:=zh (fun w1 (hb:Bl w w1)=>ZDf (h.below hb) hH.t hl hR hk (p:=p) (by omega));obtain ⟨B,E,hBE⟩:∃ B E,k.block line p=(B,E):=⟨_,_,rfl⟩
 rw [hBE] at HBL ⊢;simp only at HBL ⊢;obtain ⟨c0,c1,c2,c3,c4,c5,c6,c7,_⟩:=Z5 hH.hp;have d1:((p:Int) / 72057594037927936 != 0)=false:=by simp;omega
 have hHH:=zh hH;have HB:=zh (Below.refl w.heap.size w);have b0:(p:Int) < 18446744073709551616:=by omega
 obtain ⟨ti,hti⟩:=xE H.t;rw [<-hti] at HER HOP HBL c0;have HTI:=zh hti;unfold chV Xv ptr at *;clear h hH hR hl hk hp0 hp h1 h2 hline hm hBE hti;go_in;go_wp2_with fail;refine (HNI.o _).mono ?_;rintro e w' ⟨rfl,rfl⟩;go_wp2_with fail;refine (HER.o _ HB.o).mono ?_;rintro e w' ⟨rfl,rfl⟩;go_wp2_with fail;refine (HOF.o _).mono ?_;rintro e w' ⟨rfl,rfl⟩;go_wp2_with fail;refine (HHO.o _ HB.o).mono ?_;rintro e w' ⟨rfl,rfl⟩;go_wp2_with fail;refine (HOP.o _ HB.o).mono ?_;rintro e x1 ⟨rfl,hb⟩;replace HB:=zh (HB.o.trans (hb.mono HB.o.size));clear hb c0 c1 c2 c3 c4 c5 c6 c7 b0 d1;replace HB:=zh (ZA (o:=.cells #[.iface 116 (.pointer (some ⟨A.t ti,0,none⟩)),.int .i64 line,.int .i64 k.cl,.int .i64 k.ow,.int .u16 k.gen] 211) HB.o);have HN:=zh (ZC x1 (.cells #[.iface 116 (.pointer (some ⟨A.t ti,0,none⟩)),.int .i64 line,.int .i64 k.cl,.int .i64 k.ow,.int .u16 k.gen] 211));obtain ⟨c0,_⟩:=Z5 (hHH.o.below HB.o).hp;rw [<-HTI.o] at c0;go_wp2_with fail;obtain ⟨b0',b1,b2,b3,b4,_⟩:=ZCp HN.o;refine (HER.o _ HB.o).mono ?_;rintro e w' ⟨rfl,rfl⟩;go_wp2_with fail;refine (HBL.o _ HB.o).mono ?_;rintro e x2 ⟨rfl,hb⟩;replace HB:=zh (HB.o.trans (hb.mono HB.o.size));clear hb HBL
 by_cases hE:E=0
 ·subst hE
  by_cases hz:kd=0
  ·subst hz
   have G:=zh (show UD 0 0 p=0 from rfl);go_wp2;go_returns;exact ⟨congrArg (fun z=>Ending.returned (.int .i64 z)) G.o.symm,HB.o⟩
  ·have d2:((kd:Int) != 0)=true:=by simp;omega
   by_cases hq:kd=Z9 p
   ·have G:=zh (show UD 0 kd p=0 by unfold UD;rw [ZLX rfl,ZLU hz,ZLX hq])
    have d3:((kd:Int) != (Z9 p:Int))=false:=by simp;omega
    clear hz hq;go_wp2_with fail;refine (HKI.o _).mono ?_;rintro e w' ⟨rfl,rfl⟩;go_wp2;go_returns;exact ⟨congrArg (fun z=>Ending.returned (.int .i64 z)) G.o.symm,HB.o⟩
   ·have G:=zh (show UD 0 kd p=13 by unfold UD;rw [ZLX rfl,ZLU hz,ZLU hq])
    have d3:((kd:Int) != (Z9 p:Int))=true:=by simp;omega
    clear hz hq;go_wp2_with fail;refine (HKI.o _).mono ?_;rintro e w' ⟨rfl,rfl⟩;go_wp2;go_returns;exact ⟨congrArg (fun z=>Ending.returned (.int .i64 z)) G.o.symm,HB.o⟩
 ·have G:=zh (show UD E kd p=E by unfold UD;rw [ZLU hE])
  have d2:(E != 0)=true:=by simpa using hE
  clear hE;go_wp2;go_returns;exact ⟨congrArg (fun z=>Ending.returned (.int .i64 z)) G.o.symm,HB.o⟩
theorem U4 {k:Chk}(hk:k.Head){j:Nat}(hj:j < perN k):4<=Zu k:=by
 have h2:=hk.cl;have hc:k.cl=-1\/k.cl=0\/k.cl=1\/k.cl=2\/k.cl=3\/k.cl=4:=by omega
 unfold perN at hj;unfold Zu;rcases hc with e|e|e|e|e|e <;> rw [e] at hj ⊢ <;> revert hj
 ·intro hj;exact absurd hj (by simp [per])
 all_goals (intro _;decide)
theorem ZHG {k:Chk}(hk:k.Head){j:Nat}(hj:j < perN k):fnd k.cl ((hdN k j+1:Nat):Int)=((j:Int),true):=by
 obtain ⟨z1,z2,z3,z4,z5,z6⟩:=hk.sizes;have hle:=YI hk hj;have hs4:=U4 hk hj;unfold fnd;rw [z1,z2];have e1:(((hdN k j+1:Nat):Int) - 8 - 1)=((j * Zu k:Nat):Int):=by unfold hdN;omega
 rw [e1];have e2:((j * Zu k:Nat):Int) % ((Zu k:Nat):Int)=0:=by rw [<-Int.natCast_emod,Nat.mul_mod_left];rfl
 have e3:((j * Zu k:Nat):Int) / ((Zu k:Nat):Int)=(j:Int):=by rw [<-Int.natCast_ediv,Nat.mul_div_cancel _ (by omega)]
 rw [e2,e3,ZLU (by unfold hdN at *;omega),ZLU (by omega)]
theorem Qg (h:Ar w A F L T c){H:HAd}{lk:Bool}(hH:HpW w A H lk){k:Chk}{m:Nat}(hm:m < H.n)(hl:H.l0+32 * m+32<=L)(hR:CRep T c (8 * (H.l0+32 * m)) k)(hk:0<=k.cl){p:Nat}(hp:p < 18446744073709551616){j:Nat}(hj:j < perN k)(ho:ZP p=k.pay (H.l0+32 * m) j):
 Calls prog 122 #[.pointer (some ⟨H.hb,0,none⟩),.int .u64 p] w fun e w'=>e=.returned (.tuple #[.int .i64 ((H.l0+32 * m:Nat):Int),.int .i64 j,.int .i64 k.cl])/\Bl w w':=by
 have hle:=YI hR.head hj;have hst:=U4 hR.head hj;have hL:=h.lines;have HOF:=zh (fun w1=>YJ (w:=w1) (p:=p) hp);unfold Chk.pay at ho;have HHO:=zh (fun w1 (hb:Bl w w1)=>Qf (hH.below hb) hm (off:=ZP p) (by omega) (by omega));obtain ⟨line,hline⟩:=xE (H.l0+32 * m);rw [<-hline] at hl hR HHO ho ⊢;have HOP:=zh (fun w1 (hb:Bl w w1)=>Y3 (h.below hb) hH.t hl hR hk);have HCL:=zh (fun w1=>QP (w:=w1) (A:=A) (i:=H.t) (line:=line) (k:=k));have HFN:=zh (fun w1 (hb:Bl w w1)=>ZHG hR.head hj▸find_any k.cl ((hdN k j+1:Nat):Int) w1 (h.below hb).tab);obtain ⟨N,hN⟩:=xE (hdN k j+1);rw [<-hN] at HFN;obtain ⟨O,hO⟩:=xE (ZP p);rw [<-hO] at HOF HHO ho;have e1:((O:Int) - (line:Int) * 64) / 8=(N:Int):=by omega
 have b1:(O:Int)<=1000000:=by omega
 have b2:(line:Int) * 64<=(O:Int):=by omega
 have b3:(line:Int)<=4096:=by omega
 have b4:(N:Int)<=256:=by omega
 obtain ⟨c0,c1,c2,c3,c4,c5,c6,c7,_⟩:=Z5 hH.hp;have hHH:=zh hH;have HB:=zh (Below.refl w.heap.size w);obtain ⟨ti,hti⟩:=xE H.t;rw [<-hti] at HOP HCL c0;unfold chV Xv ptr at *;clear h hH hR hl hk hp hline hm hti hle hst hL ho hN hO hj;go_in;go_wp2_with fail;refine (HOF.o _).mono ?_;rintro e w' ⟨rfl,rfl⟩;go_wp2_with fail;refine (HHO.o _ HB.o).mono ?_;rintro e w' ⟨rfl,rfl⟩;go_wp2_with fail;refine (HOP.o _ HB.o).mono ?_;rintro e x1 ⟨rfl,hb⟩;replace HB:=zh (HB.o.trans (hb.mono HB.o.size));clear hb c0 c1 c2 c3 c4 c5 c6 c7;go_wp2_with fail;obtain ⟨v1,hv1⟩:∃ v:World,v=x1.alloc (.cells #[.iface 116 (.pointer (some ⟨A.t ti,0,none⟩)),.int .i64 line,.int .i64 k.cl,.int .i64 k.ow,.int .u16 k.gen] 211):=⟨_,rfl⟩
 have HN:=zh (show v1.heap[x1.heap.size]?=some (.cells #[.iface 116 (.pointer (some ⟨A.t ti,0,none⟩)),.int .i64 line,.int .i64 k.cl,.int .i64 k.ow,.int .u16 k.gen] 211) by rw [hv1];exact ZC x1 _);have hb:Bl x1 v1:=by rw [hv1];exact ZA bR
 replace HB:=zh (HB.o.trans (hb.mono HB.o.size));rw [<-hv1];clear hb hv1;obtain ⟨b0',b1',b2',b3',b4',_⟩:=ZCp HN.o;refine (HOF.o _).mono ?_;rintro e w' ⟨rfl,rfl⟩;go_wp2_with fail;refine (HCL.o _).mono ?_;rintro e v2 ⟨rfl,hb⟩;replace HN:=zh ((hb.block _ (heap_lt HN.o)).trans HN.o);replace HB:=zh (HB.o.trans (hb.mono HB.o.size));clear hb;go_wp2_with fail;clear b0' b1' b2' b3' b4';obtain ⟨b0',b1',b2',b3',b4',_⟩:=ZCp HN.o;refine (HFN.o _ HB.o).mono ?_;rintro e w' ⟨rfl,rfl⟩;go_wp2_with fail;refine (HCL.o _).mono ?_;rintro e v9 ⟨rfl,hb⟩;replace HB:=zh (HB.o.trans (hb.mono HB.o.size));clear hb b0' b1' b2' b3' b4';go_wp2;go_returns;exact ⟨rfl,HB.o⟩
variable {c':Nat->Nat}{x x':Nat}{H:HAd}
theorem JT {i:Nat}(hi:i < 1000):Calls prog 58 #[.int .i64 i] w fun e w'=>e=.returned (.int .i64 ((2+2 * i:Nat):Int))/\w=w':=by
 have b1:(i:Int) < 1000:=by omega
 have e:((2+2 * i:Nat):Int)=2+2 * (i:Int):=by omega
 rw [e];clear hi e;go_in;go_wp2;go_returns;exact ⟨rfl,rfl⟩
theorem Jl {i:Nat}(hi:i < 1000):Calls prog 59 #[.int .i64 i] w fun e w'=>e=.returned (.int .i64 ((3+2 * i:Nat):Int))/\w=w':=by
 have b1:(i:Int) < 1000:=by omega
 have e:((3+2 * i:Nat):Int)=3+2 * (i:Int):=by omega
 rw [e];clear hi e;go_in;go_wp2;go_returns;exact ⟨rfl,rfl⟩
structure PtrOk (p:Nat):Prop where
 lt:p < 72057594037927936
 gen:1<=UF p
 kind:1<=Z9 p/\Z9 p<=127
 off:0 < ZP p
theorem PtrOk.ne {p:Nat}(h:PtrOk p):p≠0:=fun e=>by
 have:=h.off;subst e;unfold ZP at this;omega
theorem ZCv {p:Nat}(h:PtrOk p):Calls prog 149 #[.int .u64 p] w fun e w'=>e=.returned (.bool true)/\w=w':=by
 have hp:p < 18446744073709551616:=by have:=h.lt;omega
 have HO:=zh (fun w1=>YJ (w:=w1) hp);have HG:=zh (fun w1=>ZCw (w:=w1) hp);have HK:=zh (fun w1=>Xz (w:=w1) hp);have d1:((p:Int) / 72057594037927936 == 0)=true:=by have:=h.lt;simp;omega
 have d2:((ZP p:Int) != 0)=true:=by have:=h.off;simp;omega
 have d3:((UF p:Int) != 0)=true:=by have:=h.gen;simp;omega
 have d4:((Z9 p:Int) != 0)=true:=by have:=h.kind;simp;omega
 have d5:decide ((Z9 p:Int)<=127)=true:=by have:=h.kind;simp;omega
 have b0:0<=(p:Int):=by omega
 have b1:(p:Int) < 18446744073709551616:=by omega
 obtain ⟨O,hO⟩:=xE (ZP p);obtain ⟨G,hG⟩:=xE (UF p);obtain ⟨K,hK⟩:=xE (Z9 p);rw [<-hO] at HO d2;rw [<-hG] at HG d3;rw [<-hK] at HK d4 d5;clear h hp hO hG hK;go_in
 go_wp2_with (first
  |(go_at_call 53;refine (HO.o _).mono ?_;rintro e w' ⟨rfl,rfl⟩)
  |(go_at_call 169;refine (HG.o _).mono ?_;rintro e w' ⟨rfl,rfl⟩)
  |(go_at_call 17;refine (HK.o _).mono ?_;rintro e w' ⟨rfl,rfl⟩))
 go_returns;exact ⟨rfl,rfl⟩
theorem Qx {p size:Nat}(h:PtrOk p)(hs:ZP p < size)(hz:size < 18446744073709551616):Calls prog 91 #[.int .u64 p,.int .u64 size] w fun e w'=>e=.returned (.bool true)/\w=w':=by
 have hp:p < 18446744073709551616:=by have:=h.lt;omega
 have HO:=zh (fun w1=>YJ (w:=w1) hp);have HF:=zh (fun w1=>ZCv (w:=w1) h);have d2:decide ((ZP p:Int) < size)=true:=by simp;omega
 obtain ⟨O,hO⟩:=xE (ZP p);rw [<-hO] at HO d2 hs;have HS:=zh hs;clear h hp hO hs hz;go_in
 go_wp2_with (first
  |(go_at_call 53;refine (HO.o _).mono ?_;rintro e w' ⟨rfl,rfl⟩)
  |(go_at_call 149;refine (HF.o _).mono ?_;rintro e w' ⟨rfl,rfl⟩))
 go_returns;exact ⟨by have:=HS.o;simp [this],rfl⟩
theorem Xw (w:World)(v:Value)(k:Nat):(nilAhead (k+1) 37 v "Load").run prog w=.ok (some false) w:=by kernel_rfl
theorem Yk (w:World)(v:Value)(k:Nat):(nilAhead (k+1) 37 v "Check").run prog w=.ok (some false) w:=by kernel_rfl
end
end Go.Proofs.YtbpeehmepehkdaaGreatDoor.Dv
