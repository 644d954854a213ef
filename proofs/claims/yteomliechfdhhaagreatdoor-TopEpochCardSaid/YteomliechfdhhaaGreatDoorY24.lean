/- Part 24. -/
import Derived.Test.YteomliechfdhhaaGreatDoorY23
import Derived.Deep.RegionLaw
set_option maxHeartbeats 8000000
set_option maxRecDepth 20000
set_option linter.all false
namespace Go.Proofs.YteomliechfdhhaaGreatDoor.Dv
open Tryz
section
open Go.RowKit Go.Proofs.YteomliechfdhhaaGreatDoor.Size
variable {w w':World}{A:DAd}{F:Nat->Option ZK}{L:Nat}{T c c':Nat->Nat}{x x':Nat}{H:HAd}
theorem CkB.put {kb now:Nat}{an:Nat->Nat}(h:CkB w A kb now an){t:Nat}(ht:t < 8)(v:Nat):CkB (w.setCell ⟨kb,3+t,none⟩ (.int .u64 v)) A kb now (upd an t v):=by
 have:=ZH (i:=3+t) (v:=.int .u64 v) h;unfold CkB;rw [this];rcases (show t=0\/t=1\/t=2\/t=3\/t=4\/t=5\/t=6\/t=7 by omega) with rfl|rfl|rfl|rfl|rfl|rfl|rfl|rfl <;> simp [ckC,upd]
theorem CkB.free {kb now:Nat}{an:Nat->Nat}(h:CkB w A kb now an)(i:Nat):w.frozen? ⟨kb,i,none⟩=false:=ZG h
theorem ZHm (h:Ar w A F L T c){kb now e:Nat}{an:Nat->Nat}(hk:CkB w A kb now an):
 Calls prog 39 #[.pointer (some ⟨kb,0,none⟩),.int .u64 e] w fun r w'=>r=.returned (.bool (YG now an e))/\w=w':=by
 have HN:=zh (ZDF h hk);obtain ⟨c0,c1,c2⟩:=hk.three;obtain ⟨k0,k1,k2,k3,k4,k5,k6,k7⟩:=hk.eight;clear h hk;obtain ⟨r,hr⟩:=xE (YG now an e);rw [<-hr]
 by_cases hne:now<=e
 ·have hR:r=false:=by
   rw [hr];unfold YG;rw [Bool.and_eq_false_iff];left;simp;omega
  have b1:(now:Int)<=e:=by omega
  clear hr hne;go_in;go_wp2_with (first|(go_at_call 27;refine HN.o.mono ?_;rintro e w' ⟨rfl,rfl⟩));go_returns;exact ⟨by first|rfl|(rw [hR];rfl),rfl⟩
 have HNO:=zh (fun (t:Nat) (ht:t < 8) (h0:an t≠0) (h1:an t<=e)=>hr.trans (ZIW (now:=now) ht h0 h1));have HYS:=zh (fun (h:∀ t,t < 8->an t=0\/e < an t)=>(hr.trans (ZHP (now:=now) h)).trans (ZLG (show e < now by omega)));have b1:¬ (now:Int)<=e:=by omega
 clear hr hne;go_in;go_wp2_with (first|(go_at_call 27;refine HN.o.mono ?_;rintro e w' ⟨rfl,rfl⟩))
 go_loop [19] (fun i=>∃ n:Nat,n<=8/\i=.int .i64 n/\∀ t,t < n->an t=0\/e < an t) (fun i=>8 - (intOf i).toNat)
 case atStart=>exact ⟨0,by omega,rfl,fun t ht=>by omega⟩
 case round=>
 obtain ⟨n,hn,rfl,hall⟩:=hrel
 by_cases h8:n=8
 ·subst h8
  have hR:=HYS.o hall;clear hall hn;go_wp2;go_returns;exact ⟨by first|rfl|(rw [hR];rfl),rfl⟩
 ·have ha:an n=0\/an n≠0/\an n<=e\/an n≠0/\e < an n:=by omega
  rcases (show n=0\/n=1\/n=2\/n=3\/n=4\/n=5\/n=6\/n=7 by omega) with hn'|hn'|hn'|hn'|hn'|hn'|hn'|hn' <;> subst hn'
  ·rcases ha with h0|⟨h0,h1⟩|⟨h0,h1⟩
   ·have HN2:=zh (show ∀ t,t < 1->an t=0\/e < an t from fun t ht=>(show t < 0\/t=0 by omega).elim (hall t) (fun q=>by rw [q];exact .inl h0))
    have hix:=U1;have d1:(an 0:Int)=0:=by omega
    clear hall h0;go_wp2_with fail
    all_goals first|exact ⟨⟨1,by omega,rfl,HN2.o⟩,by simp [intOf]⟩|exact ⟨⟨_,_,_,⟨1,by omega,rfl,HN2.o⟩,rfl,rfl,rfl⟩,by simp [intOf]⟩|exact ⟨⟨_,_,⟨1,by omega,rfl,HN2.o⟩,rfl,rfl⟩,by simp [intOf]⟩
   ·have hR:=HNO.o 0 (by omega) h0 h1
    have hix:=U1;have d1:¬ (an 0:Int)=0:=by omega
    have d2:(an 0:Int)<=e:=by omega
    clear hall h0 h1;go_wp2;go_returns;exact ⟨by first|rfl|(rw [hR];rfl),rfl⟩
   ·have HN2:=zh (show ∀ t,t < 1->an t=0\/e < an t from fun t ht=>(show t < 0\/t=0 by omega).elim (hall t) (fun q=>by rw [q];exact .inr h1))
    have hix:=U1;have d1:¬ (an 0:Int)=0:=by omega
    have d2:¬ (an 0:Int)<=e:=by omega
    clear hall h0 h1;go_wp2_with fail
    all_goals first|exact ⟨⟨1,by omega,rfl,HN2.o⟩,by simp [intOf]⟩|exact ⟨⟨_,_,_,⟨1,by omega,rfl,HN2.o⟩,rfl,rfl,rfl⟩,by simp [intOf]⟩|exact ⟨⟨_,_,⟨1,by omega,rfl,HN2.o⟩,rfl,rfl⟩,by simp [intOf]⟩
  ·rcases ha with h0|⟨h0,h1⟩|⟨h0,h1⟩
   ·have HN2:=zh (show ∀ t,t < 2->an t=0\/e < an t from fun t ht=>(show t < 1\/t=1 by omega).elim (hall t) (fun q=>by rw [q];exact .inl h0))
    have hix:=U2;have d1:(an 1:Int)=0:=by omega
    clear hall h0;go_wp2_with fail
    all_goals first|exact ⟨⟨2,by omega,rfl,HN2.o⟩,by simp [intOf]⟩|exact ⟨⟨_,_,_,⟨2,by omega,rfl,HN2.o⟩,rfl,rfl,rfl⟩,by simp [intOf]⟩|exact ⟨⟨_,_,⟨2,by omega,rfl,HN2.o⟩,rfl,rfl⟩,by simp [intOf]⟩
   ·have hR:=HNO.o 1 (by omega) h0 h1
    have hix:=U2;have d1:¬ (an 1:Int)=0:=by omega
    have d2:(an 1:Int)<=e:=by omega
    clear hall h0 h1;go_wp2;go_returns;exact ⟨by first|rfl|(rw [hR];rfl),rfl⟩
   ·have HN2:=zh (show ∀ t,t < 2->an t=0\/e < an t from fun t ht=>(show t < 1\/t=1 by omega).elim (hall t) (fun q=>by rw [q];exact .inr h1))
    have hix:=U2;have d1:¬ (an 1:Int)=0:=by omega
    have d2:¬ (an 1:Int)<=e:=by omega
    clear hall h0 h1;go_wp2_with fail
    all_goals first|exact ⟨⟨2,by omega,rfl,HN2.o⟩,by simp [intOf]⟩|exact ⟨⟨_,_,_,⟨2,by omega,rfl,HN2.o⟩,rfl,rfl,rfl⟩,by simp [intOf]⟩|exact ⟨⟨_,_,⟨2,by omega,rfl,HN2.o⟩,rfl,rfl⟩,by simp [intOf]⟩
  ·rcases ha with h0|⟨h0,h1⟩|⟨h0,h1⟩
   ·have HN2:=zh (show ∀ t,t < 3->an t=0\/e < an t from fun t ht=>(show t < 2\/t=2 by omega).elim (hall t) (fun q=>by rw [q];exact .inl h0))
    have hix:=U3;have d1:(an 2:Int)=0:=by omega
    clear hall h0;go_wp2_with fail
    all_goals first|exact ⟨⟨3,by omega,rfl,HN2.o⟩,by simp [intOf]⟩|exact ⟨⟨_,_,_,⟨3,by omega,rfl,HN2.o⟩,rfl,rfl,rfl⟩,by simp [intOf]⟩|exact ⟨⟨_,_,⟨3,by omega,rfl,HN2.o⟩,rfl,rfl⟩,by simp [intOf]⟩
   ·have hR:=HNO.o 2 (by omega) h0 h1
    have hix:=U3;have d1:¬ (an 2:Int)=0:=by omega
    have d2:(an 2:Int)<=e:=by omega
    clear hall h0 h1;go_wp2;go_returns;exact ⟨by first|rfl|(rw [hR];rfl),rfl⟩
   ·have HN2:=zh (show ∀ t,t < 3->an t=0\/e < an t from fun t ht=>(show t < 2\/t=2 by omega).elim (hall t) (fun q=>by rw [q];exact .inr h1))
    have hix:=U3;have d1:¬ (an 2:Int)=0:=by omega
    have d2:¬ (an 2:Int)<=e:=by omega
    clear hall h0 h1;go_wp2_with fail
    all_goals first|exact ⟨⟨3,by omega,rfl,HN2.o⟩,by simp [intOf]⟩|exact ⟨⟨_,_,_,⟨3,by omega,rfl,HN2.o⟩,rfl,rfl,rfl⟩,by simp [intOf]⟩|exact ⟨⟨_,_,⟨3,by omega,rfl,HN2.o⟩,rfl,rfl⟩,by simp [intOf]⟩
  ·rcases ha with h0|⟨h0,h1⟩|⟨h0,h1⟩
   ·have HN2:=zh (show ∀ t,t < 4->an t=0\/e < an t from fun t ht=>(show t < 3\/t=3 by omega).elim (hall t) (fun q=>by rw [q];exact .inl h0))
    have hix:=U4;have d1:(an 3:Int)=0:=by omega
    clear hall h0;go_wp2_with fail
    all_goals first|exact ⟨⟨4,by omega,rfl,HN2.o⟩,by simp [intOf]⟩|exact ⟨⟨_,_,_,⟨4,by omega,rfl,HN2.o⟩,rfl,rfl,rfl⟩,by simp [intOf]⟩|exact ⟨⟨_,_,⟨4,by omega,rfl,HN2.o⟩,rfl,rfl⟩,by simp [intOf]⟩
   ·have hR:=HNO.o 3 (by omega) h0 h1
    have hix:=U4;have d1:¬ (an 3:Int)=0:=by omega
    have d2:(an 3:Int)<=e:=by omega
    clear hall h0 h1;go_wp2;go_returns;exact ⟨by first|rfl|(rw [hR];rfl),rfl⟩
   ·have HN2:=zh (show ∀ t,t < 4->an t=0\/e < an t from fun t ht=>(show t < 3\/t=3 by omega).elim (hall t) (fun q=>by rw [q];exact .inr h1))
    have hix:=U4;have d1:¬ (an 3:Int)=0:=by omega
    have d2:¬ (an 3:Int)<=e:=by omega
    clear hall h0 h1;go_wp2_with fail
    all_goals first|exact ⟨⟨4,by omega,rfl,HN2.o⟩,by simp [intOf]⟩|exact ⟨⟨_,_,_,⟨4,by omega,rfl,HN2.o⟩,rfl,rfl,rfl⟩,by simp [intOf]⟩|exact ⟨⟨_,_,⟨4,by omega,rfl,HN2.o⟩,rfl,rfl⟩,by simp [intOf]⟩
  ·rcases ha with h0|⟨h0,h1⟩|⟨h0,h1⟩
   ·have HN2:=zh (show ∀ t,t < 5->an t=0\/e < an t from fun t ht=>(show t < 4\/t=4 by omega).elim (hall t) (fun q=>by rw [q];exact .inl h0))
    have hix:=U5;have d1:(an 4:Int)=0:=by omega
    clear hall h0;go_wp2_with fail
    all_goals first|exact ⟨⟨5,by omega,rfl,HN2.o⟩,by simp [intOf]⟩|exact ⟨⟨_,_,_,⟨5,by omega,rfl,HN2.o⟩,rfl,rfl,rfl⟩,by simp [intOf]⟩|exact ⟨⟨_,_,⟨5,by omega,rfl,HN2.o⟩,rfl,rfl⟩,by simp [intOf]⟩
   ·have hR:=HNO.o 4 (by omega) h0 h1
    have hix:=U5;have d1:¬ (an 4:Int)=0:=by omega
    have d2:(an 4:Int)<=e:=by omega
    clear hall h0 h1;go_wp2;go_returns;exact ⟨by first|rfl|(rw [hR];rfl),rfl⟩
   ·have HN2:=zh (show ∀ t,t < 5->an t=0\/e < an t from fun t ht=>(show t < 4\/t=4 by omega).elim (hall t) (fun q=>by rw [q];exact .inr h1))
    have hix:=U5;have d1:¬ (an 4:Int)=0:=by omega
    have d2:¬ (an 4:Int)<=e:=by omega
    clear hall h0 h1;go_wp2_with fail
    all_goals first|exact ⟨⟨5,by omega,rfl,HN2.o⟩,by simp [intOf]⟩|exact ⟨⟨_,_,_,⟨5,by omega,rfl,HN2.o⟩,rfl,rfl,rfl⟩,by simp [intOf]⟩|exact ⟨⟨_,_,⟨5,by omega,rfl,HN2.o⟩,rfl,rfl⟩,by simp [intOf]⟩
  ·rcases ha with h0|⟨h0,h1⟩|⟨h0,h1⟩
   ·have HN2:=zh (show ∀ t,t < 6->an t=0\/e < an t from fun t ht=>(show t < 5\/t=5 by omega).elim (hall t) (fun q=>by rw [q];exact .inl h0))
    have hix:=U6;have d1:(an 5:Int)=0:=by omega
    clear hall h0;go_wp2_with fail
    all_goals first|exact ⟨⟨6,by omega,rfl,HN2.o⟩,by simp [intOf]⟩|exact ⟨⟨_,_,_,⟨6,by omega,rfl,HN2.o⟩,rfl,rfl,rfl⟩,by simp [intOf]⟩|exact ⟨⟨_,_,⟨6,by omega,rfl,HN2.o⟩,rfl,rfl⟩,by simp [intOf]⟩
   ·have hR:=HNO.o 5 (by omega) h0 h1
    have hix:=U6;have d1:¬ (an 5:Int)=0:=by omega
    have d2:(an 5:Int)<=e:=by omega
    clear hall h0 h1;go_wp2;go_returns;exact ⟨by first|rfl|(rw [hR];rfl),rfl⟩
   ·have HN2:=zh (show ∀ t,t < 6->an t=0\/e < an t from fun t ht=>(show t < 5\/t=5 by omega).elim (hall t) (fun q=>by rw [q];exact .inr h1))
    have hix:=U6;have d1:¬ (an 5:Int)=0:=by omega
    have d2:¬ (an 5:Int)<=e:=by omega
    clear hall h0 h1;go_wp2_with fail
    all_goals first|exact ⟨⟨6,by omega,rfl,HN2.o⟩,by simp [intOf]⟩|exact ⟨⟨_,_,_,⟨6,by omega,rfl,HN2.o⟩,rfl,rfl,rfl⟩,by simp [intOf]⟩|exact ⟨⟨_,_,⟨6,by omega,rfl,HN2.o⟩,rfl,rfl⟩,by simp [intOf]⟩
  ·rcases ha with h0|⟨h0,h1⟩|⟨h0,h1⟩
   ·have HN2:=zh (show ∀ t,t < 7->an t=0\/e < an t from fun t ht=>(show t < 6\/t=6 by omega).elim (hall t) (fun q=>by rw [q];exact .inl h0))
    have hix:=U7;have d1:(an 6:Int)=0:=by omega
    clear hall h0;go_wp2_with fail
    all_goals first|exact ⟨⟨7,by omega,rfl,HN2.o⟩,by simp [intOf]⟩|exact ⟨⟨_,_,_,⟨7,by omega,rfl,HN2.o⟩,rfl,rfl,rfl⟩,by simp [intOf]⟩|exact ⟨⟨_,_,⟨7,by omega,rfl,HN2.o⟩,rfl,rfl⟩,by simp [intOf]⟩
   ·have hR:=HNO.o 6 (by omega) h0 h1
    have hix:=U7;have d1:¬ (an 6:Int)=0:=by omega
    have d2:(an 6:Int)<=e:=by omega
    clear hall h0 h1;go_wp2;go_returns;exact ⟨by first|rfl|(rw [hR];rfl),rfl⟩
   ·have HN2:=zh (show ∀ t,t < 7->an t=0\/e < an t from fun t ht=>(show t < 6\/t=6 by omega).elim (hall t) (fun q=>by rw [q];exact .inr h1))
    have hix:=U7;have d1:¬ (an 6:Int)=0:=by omega
    have d2:¬ (an 6:Int)<=e:=by omega
    clear hall h0 h1;go_wp2_with fail
    all_goals first|exact ⟨⟨7,by omega,rfl,HN2.o⟩,by simp [intOf]⟩|exact ⟨⟨_,_,_,⟨7,by omega,rfl,HN2.o⟩,rfl,rfl,rfl⟩,by simp [intOf]⟩|exact ⟨⟨_,_,⟨7,by omega,rfl,HN2.o⟩,rfl,rfl⟩,by simp [intOf]⟩
  ·rcases ha with h0|⟨h0,h1⟩|⟨h0,h1⟩
   ·have HN2:=zh (show ∀ t,t < 8->an t=0\/e < an t from fun t ht=>(show t < 7\/t=7 by omega).elim (hall t) (fun q=>by rw [q];exact .inl h0))
    have hix:=U8;have d1:(an 7:Int)=0:=by omega
    clear hall h0;go_wp2_with fail
    all_goals first|exact ⟨⟨8,by omega,rfl,HN2.o⟩,by simp [intOf]⟩|exact ⟨⟨_,_,_,⟨8,by omega,rfl,HN2.o⟩,rfl,rfl,rfl⟩,by simp [intOf]⟩|exact ⟨⟨_,_,⟨8,by omega,rfl,HN2.o⟩,rfl,rfl⟩,by simp [intOf]⟩
   ·have hR:=HNO.o 7 (by omega) h0 h1
    have hix:=U8;have d1:¬ (an 7:Int)=0:=by omega
    have d2:(an 7:Int)<=e:=by omega
    clear hall h0 h1;go_wp2;go_returns;exact ⟨by first|rfl|(rw [hR];rfl),rfl⟩
   ·have HN2:=zh (show ∀ t,t < 8->an t=0\/e < an t from fun t ht=>(show t < 7\/t=7 by omega).elim (hall t) (fun q=>by rw [q];exact .inr h1))
    have hix:=U8;have d1:¬ (an 7:Int)=0:=by omega
    have d2:¬ (an 7:Int)<=e:=by omega
    clear hall h0 h1;go_wp2_with fail
    all_goals first|exact ⟨⟨8,by omega,rfl,HN2.o⟩,by simp [intOf]⟩|exact ⟨⟨_,_,_,⟨8,by omega,rfl,HN2.o⟩,rfl,rfl,rfl⟩,by simp [intOf]⟩|exact ⟨⟨_,_,⟨8,by omega,rfl,HN2.o⟩,rfl,rfl⟩,by simp [intOf]⟩
theorem ZHl (h:Ar w A F L T c){kb now:Nat}{an:Nat->Nat}(hk:CkB w A kb now an)(hn:1<=now/\now<=2147483647)(hc:c 560=7309464666214760448+now)(hL:4480 < 64 * L){t:Nat}(ht:t < 8):
 Calls prog 11 #[.pointer (some ⟨kb,0,none⟩),.int .i64 t] w fun r w'=>r=.returned (if an t=0 then .int .i64 8 else .int .i64 0)/\CkB w' A kb now (if an t=0 then an else upd an t 0)/\Only (fun k=>k=kb) w w':=by
 have HC:=zh (ZBn h hk hn hc hL ht);have c0:=hk.at ht;have f0:=hk.free (3+t);have HP:=zh (hk.put ht 0);have HK:=zh hk;have hi2:(t:Int) < 8:=by omega
 have d1:decide ((t:Int) < 0)=false:=by simp
 have d2:decide (8<=(t:Int))=false:=by simp;omega
 clear h hk hn hc ht
 by_cases h0:an t=0
 ·have e1:(an t:Int)=0:=by omega
  rw [ZKv h0,ZKv h0];go_in;go_wp2_with fail;refine HC.o.mono ?_;rintro e w' ⟨rfl,rfl⟩;go_wp2;go_returns;exact ⟨rfl,HK.o,Only.refl _ _⟩
 ·have e1:¬ (an t:Int)=0:=by omega
  rw [ZKu h0,ZKu h0];go_in;go_wp2_with fail;refine HC.o.mono ?_;rintro e w' ⟨rfl,rfl⟩;go_wp2;go_returns;exact ⟨rfl,HP.o,(Only.refl (fun k=>k=kb) w).set (b:=kb) (i:=3+t) rfl _⟩
variable {F':Nat->Option ZK}{lk:Bool}{p p':Nat->Plc}{ex:Nat}{res held:Nat->Option Nat}
structure Frn (F:Nat->Option ZK)(H:HAd)(b:Nat):Prop where
 f:F b=none
 o:¬ H.own b
 h:b≠H.hb/\b≠H.sb
 t:b≠1/\b≠0
theorem HMv.frn (h:HMv F F' H w w'){b:Nat}(hf:Frn F H b)(hb:b < w.heap.size):w'.heap[b]?=w.heap[b]?/\Frn F' H b:=by
 refine ⟨h.only.block b hb ?_,⟨by rw [h.same b hb];exact hf.f,hf.o,hf.h,hf.t⟩⟩;rintro (q|q)
 ·exact q hf.f
 ·exact hf.o q
theorem HW.only (h:HW w A F L T c x H lk p ex res held){G:Nat->Prop}(ho:Only G w w')(hG:∀ k,k < w.heap.size->G k->Frn F H k):HW w' A F L T c x H lk p ex res held:=by
 have hbl:∀ k,k < w.heap.size->¬ Frn F H k->w'.heap[k]?=w.heap[k]?:=fun k hk hn=>ho.block k hk fun q=>hn (hG k hk q)
 obtain ⟨s,h1,h2,h3,h4⟩:=h.aq.dev;refine ⟨h.aq.agree (fun k hk=>?_) ho.size,h.hp.agree (hbl _ (heap_lt h.hp.hp) fun q=>q.h.1 rfl),h.set.agree (hbl _ (heap_lt h.set.set) fun q=>q.h.2 rfl) (hbl _ h.set.row.lt fun q=>q.o (.inl rfl)),h.rm.kept (hbl _ h.rm.lt fun q=>q.o (.inr (.inl rfl))),h.vm.kept (hbl _ h.vm.lt fun q=>q.o (.inr (.inr rfl))),h.fh,h.fs,h.fo,h.rv,h.hn,h.nt⟩;rcases hk with hk|rfl|rfl
 ·exact hbl k (h1.lt k hk) fun q=>hk q.f
 ·exact hbl _ h.aq.nib.lt fun q=>q.t.1 rfl
 ·exact hbl _ h.aq.tab.lt fun q=>q.t.2 rfl
theorem DrW.only {t db lb off size:Nat}(h:DrW w A F H t db lb off size){G:Nat->Prop}(ho:Only G w w')(h1:¬ G db)(h2:¬ G lb):DrW w' A F H t db lb off size:=
 ⟨(ho.block _ (heap_lt h.dr) h1).trans h.dr,(ho.block _ (heap_lt h.lg) h2).trans h.lg,h.t,h.fd,h.fl⟩
theorem ZED {n:Nat}(hn:n<=2147483648):Calls prog 75 #[.int .u64 n] w fun e w'=>e=.returned (.int .u64 ((7309464666214760448+n:Nat):Int))/\w=w':=by
 have e:=u64_or_nat 7309464666214760448 n (by omega) (by omega);have e2:7309464666214760448 ||| n=7309464666214760448+n:=by
  have:=Nat.two_pow_add_eq_or_of_lt (i:=32) (b:=n) (by omega) 1701867363;rw [show 2 ^ 32 * 1701867363=7309464666214760448 by rfl] at this;exact this.symm
 rw [e2] at e;obtain ⟨R,hR⟩:∃ R:Int,R=((7309464666214760448+n:Nat):Int):=⟨_,rfl⟩
 rw [<-hR] at e ⊢;clear hR e2 hn;go_in;go_wp2;go_returns;exact ⟨by first|rfl|(simp;exact e)|(rw [<-e];rfl),rfl⟩
theorem CkB.now {kb now:Nat}{an:Nat->Nat}(h:CkB w A kb now an)(v:Nat):CkB (w.setCell ⟨kb,2,none⟩ (.int .u64 v)) A kb v an:=(ZH h).trans rfl
def BgP (w:World)(A:DAd)(F:Nat->Option ZK)(L:Nat)(T c:Nat->Nat)(x:Nat)(H:HAd)(lk:Bool)(p:Nat->Plc)(ex:Nat)(res held:Nat->Option Nat)(kb now:Nat)(an:Nat->Nat)(w':World):Prop:=
 ∃ F' wm,HW wm A F' L T c x H lk p ex res held/\HMv F F' H w wm/\CkB wm A kb now an/\w'=wm.setCell ⟨kb,2,none⟩ (.int .u64 (now+1:Nat))
theorem ZGC (h:HW w A F L T c x H lk p ex res held){kb now:Nat}{an:Nat->Nat}(hk:CkB w A kb now an)(hf:Frn F H kb)(hn:now<=2147483647)(hL:4480 < 64 * L){t:Nat}(ht:t < 8)(hx:x+10<=x')(hx':x'<=1000000):
 Calls prog 36 #[.pointer (some ⟨kb,0,none⟩),.pointer (some ⟨A.t t,0,none⟩),.int .u64 (now+1:Nat)] w fun e w'=>e=.returned (.int .i64 0)/\BgP w A F L T (wrs c [(4480,7309464666214760448+(now+1))]) x' H lk p ex res held kb now an w':=by
 have HPK:=zh (fun (w1:World)=>ZED (w:=w1) (n:=now+1) (by omega));obtain ⟨X,hX⟩:=xE (7309464666214760448+(now+1));have hX64:X < 18446744073709551616:=by omega
 have HST:=zh (Yg (Below.refl w.heap.size w) (M:=4480) (S:=X) (by omega))
 have HRUN:=zh (fun (w1:World) (hb:Bl w w1) (v:Value) (hv:Prg w1 w.heap.size v (Zf [(4480,X)]))=>(ZEJ (h.below hb) ht (ls:=[[(4480,X)]]) (by rw [Zs];exact hv) (fun g hg=>h.new hg) (by rw [Zs];exact Zl _) (by simp;omega) (show x+Zn [[(4480,X)]]<=x' by simp [Zn];omega) hx').mono (R':=fun e w'=>e=.returned (.int .i64 0)/\∃ F',HW w' A F' L T (wrs c [(4480,X)]) x' H lk p ex res held/\HMv F F' H w w'/\CkB w' A kb now an) (by
  rintro e w' ⟨h1,F',h2,h3⟩;have hm:=(HMv.of_below (F:=F) (H:=H) hb).trans h3;exact ⟨h1,F',by simpa using h2,hm,(hm.frn hf (heap_lt hk)).1.trans hk⟩))
 rw [<-hX] at HPK;have HKP:=zh (fun (w1:World) (hb:Bl w w1)=>(show w1.cell? ⟨kb,1,none⟩=some (.int .u64 4480) from (hk.below hb).three.2.1));have HR1:=zh (Below.refl w.heap.size w);obtain ⟨c0,c1,c2⟩:=hk.three;obtain ⟨E,hE⟩:=xE (now+1);rw [<-hE] at HPK ⊢;have HE:=zh hE;have HX:=zh hX;rw [<-hE] at hX;rw [<-hX];clear h hk hf hn hL ht hx hx' hX hX64 hE;go_in;go_upto_region 1 with fail
 go_region_held3 (fun wx=>wx.cell? ⟨kb,1,none⟩=some (.int .u64 4480))
  (first|exact hq.2.2.three.2.1|exact HKP.o _ hbz|exact HKP.o _ (by repeat (with_reducible first|assumption|exact HR1.o|apply ZA|apply ZD)))
  (first
    |(go_at_call 75;refine (HPK.o _).mono ?_;rintro e V1 ⟨rfl,rfl⟩)
    |(go_at_call 74;(first|refine (HST.o _ (by repeat (with_reducible first|assumption|exact HR1.o|apply ZA|apply ZD))).mono ?_|refine (HST.o w.drew (by repeat (with_reducible first|assumption|exact HR1.o|apply ZA|apply ZD))).mono ?_|refine (HST.o w.drew.drew (by repeat (with_reducible first|assumption|exact HR1.o|apply ZA|apply ZD))).mono ?_);rintro e V2 ⟨r,rfl,hpr,hbz⟩)
    |(go_at_call 76;refine (HRUN.o _ hbz _ hpr).mono ?_;rintro e V3 ⟨rfl,F3,hq⟩))
 all_goals
  obtain ⟨hq1,hq2,hq3⟩:=hq;have z2:=hq3.three.2.2;have zf:=ZG (i:=2) hq3;have HQ:=zh (show BgP w A F L T (wrs c [(4480,X)]) x' H lk p ex res held kb now an (V3.setCell ⟨kb,2,none⟩ (.int .u64 E)) from ⟨F3,V3,hq1,hq2,hq3,by rw [HE.o]⟩);clear hq1 hq2 hq3 hpr hbz;go_wp2;go_returns;exact ⟨rfl,HQ.o⟩
theorem ZDE (h:HW w A F L T c x H lk p ex res held){kb now:Nat}{an:Nat->Nat}(hk:CkB w A kb now an)(hf:Frn F H kb)(hn:1<=now/\now<=500)(hc:c 560=7309464666214760448+now)(hL:4480 < 64 * L){t:Nat}(ht:t < 8)(hx:x+10<=x')(hx':x'<=1000000):
 Calls prog 15 #[.pointer (some ⟨kb,0,none⟩),.int .i64 t] w fun e w'=>
  (XA now an/\e=.returned (.tuple #[.int .u64 (now+1:Nat),.int .i64 0])/\BgP w A F L T (wrs c [(4480,7309464666214760448+(now+1))]) x' H lk p ex res held kb now an w')\/
  (¬ XA now an/\e=.returned (.tuple #[.int .u64 (0:Nat),.int .i64 7])/\w=w'):=by
 have HC:=zh (ZBn h.ar hk ⟨hn.1,by omega⟩ hc hL ht);have HBG:=zh (ZGC h hk hf (by omega) hL ht hx hx');obtain ⟨c0,c1,c2⟩:=hk.three;obtain ⟨k0,k1,k2,k3,k4,k5,k6,k7⟩:=hk.eight;have e1:((now+1:Nat):Int)=(now:Int)+1:=by omega
 have b1:(now:Int)<=500:=by omega
 rw [e1] at HBG;rw [e1];clear h hk hf hn hc hL ht hx hx' e1;go_in;go_wp2_with fail;refine HC.o.mono ?_;rintro e w' ⟨rfl,rfl⟩;go_wp2_with fail
 go_loop [26] (fun i=>∃ n:Nat,n<=8/\i=.int .i64 n/\∀ t,t < n->an t=0\/an t=now) (fun i=>8 - (intOf i).toNat)
 case atStart=>exact ⟨0,by omega,rfl,fun t ht=>by omega⟩
 case round=>
 obtain ⟨n,hn,rfl,hall⟩:=hrel
 by_cases h8:n=8
 ·subst h8
  have HALL:=zh (show XA now an from hall);have d3:¬ (now:Int)=2147483647:=by omega
  clear hall hn;go_wp2_with fail;refine HBG.o.mono ?_;rintro e w1 ⟨rfl,hq⟩;have HQ:=zh hq;clear hq;go_wp2;go_returns;exact .inl ⟨HALL.o,rfl,HQ.o⟩
 ·have ha:an n=0\/an n≠0/\an n≠now\/an n≠0/\an n=now:=by omega
  rcases (show n=0\/n=1\/n=2\/n=3\/n=4\/n=5\/n=6\/n=7 by omega) with hn'|hn'|hn'|hn'|hn'|hn'|hn'|hn' <;> subst hn'
  ·rcases ha with h0|⟨h0,h1⟩|⟨h0,h1⟩
   ·have HN:=zh (show ∀ t,t < 1->an t=0\/an t=now from fun t ht=>(show t < 0\/t=0 by omega).elim (hall t) (fun q=>by rw [q];exact .inl h0))
    have hix:=U1;have d1:(an 0:Int)=0:=by omega
    clear hall h0;go_wp2_with fail
    all_goals first|exact ⟨⟨1,by omega,rfl,HN.o⟩,by simp [intOf]⟩|exact ⟨⟨_,_,_,⟨1,by omega,rfl,HN.o⟩,rfl,rfl,rfl⟩,by simp [intOf]⟩|exact ⟨⟨_,_,_,_,⟨1,by omega,rfl,HN.o⟩,rfl,rfl,rfl,rfl⟩,by simp [intOf]⟩|exact ⟨⟨_,_,_,_,_,⟨1,by omega,rfl,HN.o⟩,rfl,rfl,rfl,rfl,rfl⟩,by simp [intOf]⟩
   ·have HNO:=zh (show ¬ XA now an from fun q=>(q 0 (by omega)).elim h0 h1)
    have hix:=U1;have d1:¬ (an 0:Int)=0:=by omega
    have d2:¬ (an 0:Int)=now:=by omega
    clear hall;go_wp2_with fail
    all_goals try exact absurd (‹((an 0:Int) != 0)=false\/((an 0:Int) != (now:Int))=false›) (by simp [d1,d2];omega)
    go_returns;exact .inr ⟨HNO.o,rfl,rfl⟩
   ·have HN:=zh (show ∀ t,t < 1->an t=0\/an t=now from fun t ht=>(show t < 0\/t=0 by omega).elim (hall t) (fun q=>by rw [q];exact .inr h1))
    have hix:=U1;have d1:¬ (an 0:Int)=0:=by omega
    have d2:(an 0:Int)=now:=by omega
    clear hall h0 h1;go_wp2_with fail
    all_goals first|exact ⟨⟨1,by omega,rfl,HN.o⟩,by simp [intOf]⟩|exact ⟨⟨_,_,_,⟨1,by omega,rfl,HN.o⟩,rfl,rfl,rfl⟩,by simp [intOf]⟩|exact ⟨⟨_,_,_,_,⟨1,by omega,rfl,HN.o⟩,rfl,rfl,rfl,rfl⟩,by simp [intOf]⟩|exact ⟨⟨_,_,_,_,_,⟨1,by omega,rfl,HN.o⟩,rfl,rfl,rfl,rfl,rfl⟩,by simp [intOf]⟩
  ·rcases ha with h0|⟨h0,h1⟩|⟨h0,h1⟩
   ·have HN:=zh (show ∀ t,t < 2->an t=0\/an t=now from fun t ht=>(show t < 1\/t=1 by omega).elim (hall t) (fun q=>by rw [q];exact .inl h0))
    have hix:=U2;have d1:(an 1:Int)=0:=by omega
    clear hall h0;go_wp2_with fail
    all_goals first|exact ⟨⟨2,by omega,rfl,HN.o⟩,by simp [intOf]⟩|exact ⟨⟨_,_,_,⟨2,by omega,rfl,HN.o⟩,rfl,rfl,rfl⟩,by simp [intOf]⟩|exact ⟨⟨_,_,_,_,⟨2,by omega,rfl,HN.o⟩,rfl,rfl,rfl,rfl⟩,by simp [intOf]⟩|exact ⟨⟨_,_,_,_,_,⟨2,by omega,rfl,HN.o⟩,rfl,rfl,rfl,rfl,rfl⟩,by simp [intOf]⟩
   ·have HNO:=zh (show ¬ XA now an from fun q=>(q 1 (by omega)).elim h0 h1)
    have hix:=U2;have d1:¬ (an 1:Int)=0:=by omega
    have d2:¬ (an 1:Int)=now:=by omega
    clear hall;go_wp2_with fail
    all_goals try exact absurd (‹((an 1:Int) != 0)=false\/((an 1:Int) != (now:Int))=false›) (by simp [d1,d2];omega)
    go_returns;exact .inr ⟨HNO.o,rfl,rfl⟩
   ·have HN:=zh (show ∀ t,t < 2->an t=0\/an t=now from fun t ht=>(show t < 1\/t=1 by omega).elim (hall t) (fun q=>by rw [q];exact .inr h1))
    have hix:=U2;have d1:¬ (an 1:Int)=0:=by omega
    have d2:(an 1:Int)=now:=by omega
    clear hall h0 h1;go_wp2_with fail
    all_goals first|exact ⟨⟨2,by omega,rfl,HN.o⟩,by simp [intOf]⟩|exact ⟨⟨_,_,_,⟨2,by omega,rfl,HN.o⟩,rfl,rfl,rfl⟩,by simp [intOf]⟩|exact ⟨⟨_,_,_,_,⟨2,by omega,rfl,HN.o⟩,rfl,rfl,rfl,rfl⟩,by simp [intOf]⟩|exact ⟨⟨_,_,_,_,_,⟨2,by omega,rfl,HN.o⟩,rfl,rfl,rfl,rfl,rfl⟩,by simp [intOf]⟩
  ·rcases ha with h0|⟨h0,h1⟩|⟨h0,h1⟩
   ·have HN:=zh (show ∀ t,t < 3->an t=0\/an t=now from fun t ht=>(show t < 2\/t=2 by omega).elim (hall t) (fun q=>by rw [q];exact .inl h0))
    have hix:=U3;have d1:(an 2:Int)=0:=by omega
    clear hall h0;go_wp2_with fail
    all_goals first|exact ⟨⟨3,by omega,rfl,HN.o⟩,by simp [intOf]⟩|exact ⟨⟨_,_,_,⟨3,by omega,rfl,HN.o⟩,rfl,rfl,rfl⟩,by simp [intOf]⟩|exact ⟨⟨_,_,_,_,⟨3,by omega,rfl,HN.o⟩,rfl,rfl,rfl,rfl⟩,by simp [intOf]⟩|exact ⟨⟨_,_,_,_,_,⟨3,by omega,rfl,HN.o⟩,rfl,rfl,rfl,rfl,rfl⟩,by simp [intOf]⟩
   ·have HNO:=zh (show ¬ XA now an from fun q=>(q 2 (by omega)).elim h0 h1)
    have hix:=U3;have d1:¬ (an 2:Int)=0:=by omega
    have d2:¬ (an 2:Int)=now:=by omega
    clear hall;go_wp2_with fail
    all_goals try exact absurd (‹((an 2:Int) != 0)=false\/((an 2:Int) != (now:Int))=false›) (by simp [d1,d2];omega)
    go_returns;exact .inr ⟨HNO.o,rfl,rfl⟩
   ·have HN:=zh (show ∀ t,t < 3->an t=0\/an t=now from fun t ht=>(show t < 2\/t=2 by omega).elim (hall t) (fun q=>by rw [q];exact .inr h1))
    have hix:=U3;have d1:¬ (an 2:Int)=0:=by omega
    have d2:(an 2:Int)=now:=by omega
    clear hall h0 h1;go_wp2_with fail
    all_goals first|exact ⟨⟨3,by omega,rfl,HN.o⟩,by simp [intOf]⟩|exact ⟨⟨_,_,_,⟨3,by omega,rfl,HN.o⟩,rfl,rfl,rfl⟩,by simp [intOf]⟩|exact ⟨⟨_,_,_,_,⟨3,by omega,rfl,HN.o⟩,rfl,rfl,rfl,rfl⟩,by simp [intOf]⟩|exact ⟨⟨_,_,_,_,_,⟨3,by omega,rfl,HN.o⟩,rfl,rfl,rfl,rfl,rfl⟩,by simp [intOf]⟩
  ·rcases ha with h0|⟨h0,h1⟩|⟨h0,h1⟩
   ·have HN:=zh (show ∀ t,t < 4->an t=0\/an t=now from fun t ht=>(show t < 3\/t=3 by omega).elim (hall t) (fun q=>by rw [q];exact .inl h0))
    have hix:=U4;have d1:(an 3:Int)=0:=by omega
    clear hall h0;go_wp2_with fail
    all_goals first|exact ⟨⟨4,by omega,rfl,HN.o⟩,by simp [intOf]⟩|exact ⟨⟨_,_,_,⟨4,by omega,rfl,HN.o⟩,rfl,rfl,rfl⟩,by simp [intOf]⟩|exact ⟨⟨_,_,_,_,⟨4,by omega,rfl,HN.o⟩,rfl,rfl,rfl,rfl⟩,by simp [intOf]⟩|exact ⟨⟨_,_,_,_,_,⟨4,by omega,rfl,HN.o⟩,rfl,rfl,rfl,rfl,rfl⟩,by simp [intOf]⟩
   ·have HNO:=zh (show ¬ XA now an from fun q=>(q 3 (by omega)).elim h0 h1)
    have hix:=U4;have d1:¬ (an 3:Int)=0:=by omega
    have d2:¬ (an 3:Int)=now:=by omega
    clear hall;go_wp2_with fail
    all_goals try exact absurd (‹((an 3:Int) != 0)=false\/((an 3:Int) != (now:Int))=false›) (by simp [d1,d2];omega)
    go_returns;exact .inr ⟨HNO.o,rfl,rfl⟩
   ·have HN:=zh (show ∀ t,t < 4->an t=0\/an t=now from fun t ht=>(show t < 3\/t=3 by omega).elim (hall t) (fun q=>by rw [q];exact .inr h1))
    have hix:=U4;have d1:¬ (an 3:Int)=0:=by omega
    have d2:(an 3:Int)=now:=by omega
    clear hall h0 h1;go_wp2_with fail
    all_goals first|exact ⟨⟨4,by omega,rfl,HN.o⟩,by simp [intOf]⟩|exact ⟨⟨_,_,_,⟨4,by omega,rfl,HN.o⟩,rfl,rfl,rfl⟩,by simp [intOf]⟩|exact ⟨⟨_,_,_,_,⟨4,by omega,rfl,HN.o⟩,rfl,rfl,rfl,rfl⟩,by simp [intOf]⟩|exact ⟨⟨_,_,_,_,_,⟨4,by omega,rfl,HN.o⟩,rfl,rfl,rfl,rfl,rfl⟩,by simp [intOf]⟩
  ·rcases ha with h0|⟨h0,h1⟩|⟨h0,h1⟩
   ·have HN:=zh (show ∀ t,t < 5->an t=0\/an t=now from fun t ht=>(show t < 4\/t=4 by omega).elim (hall t) (fun q=>by rw [q];exact .inl h0))
    have hix:=U5;have d1:(an 4:Int)=0:=by omega
    clear hall h0;go_wp2_with fail
    all_goals first|exact ⟨⟨5,by omega,rfl,HN.o⟩,by simp [intOf]⟩|exact ⟨⟨_,_,_,⟨5,by omega,rfl,HN.o⟩,rfl,rfl,rfl⟩,by simp [intOf]⟩|exact ⟨⟨_,_,_,_,⟨5,by omega,rfl,HN.o⟩,rfl,rfl,rfl,rfl⟩,by simp [intOf]⟩|exact ⟨⟨_,_,_,_,_,⟨5,by omega,rfl,HN.o⟩,rfl,rfl,rfl,rfl,rfl⟩,by simp [intOf]⟩
   ·have HNO:=zh (show ¬ XA now an from fun q=>(q 4 (by omega)).elim h0 h1)
    have hix:=U5;have d1:¬ (an 4:Int)=0:=by omega
    have d2:¬ (an 4:Int)=now:=by omega
    clear hall;go_wp2_with fail
    all_goals try exact absurd (‹((an 4:Int) != 0)=false\/((an 4:Int) != (now:Int))=false›) (by simp [d1,d2];omega)
    go_returns;exact .inr ⟨HNO.o,rfl,rfl⟩
   ·have HN:=zh (show ∀ t,t < 5->an t=0\/an t=now from fun t ht=>(show t < 4\/t=4 by omega).elim (hall t) (fun q=>by rw [q];exact .inr h1))
    have hix:=U5;have d1:¬ (an 4:Int)=0:=by omega
    have d2:(an 4:Int)=now:=by omega
    clear hall h0 h1;go_wp2_with fail
    all_goals first|exact ⟨⟨5,by omega,rfl,HN.o⟩,by simp [intOf]⟩|exact ⟨⟨_,_,_,⟨5,by omega,rfl,HN.o⟩,rfl,rfl,rfl⟩,by simp [intOf]⟩|exact ⟨⟨_,_,_,_,⟨5,by omega,rfl,HN.o⟩,rfl,rfl,rfl,rfl⟩,by simp [intOf]⟩|exact ⟨⟨_,_,_,_,_,⟨5,by omega,rfl,HN.o⟩,rfl,rfl,rfl,rfl,rfl⟩,by simp [intOf]⟩
  ·rcases ha with h0|⟨h0,h1⟩|⟨h0,h1⟩
   ·have HN:=zh (show ∀ t,t < 6->an t=0\/an t=now from fun t ht=>(show t < 5\/t=5 by omega).elim (hall t) (fun q=>by rw [q];exact .inl h0))
    have hix:=U6;have d1:(an 5:Int)=0:=by omega
    clear hall h0;go_wp2_with fail
    all_goals first|exact ⟨⟨6,by omega,rfl,HN.o⟩,by simp [intOf]⟩|exact ⟨⟨_,_,_,⟨6,by omega,rfl,HN.o⟩,rfl,rfl,rfl⟩,by simp [intOf]⟩|exact ⟨⟨_,_,_,_,⟨6,by omega,rfl,HN.o⟩,rfl,rfl,rfl,rfl⟩,by simp [intOf]⟩|exact ⟨⟨_,_,_,_,_,⟨6,by omega,rfl,HN.o⟩,rfl,rfl,rfl,rfl,rfl⟩,by simp [intOf]⟩
   ·have HNO:=zh (show ¬ XA now an from fun q=>(q 5 (by omega)).elim h0 h1)
    have hix:=U6;have d1:¬ (an 5:Int)=0:=by omega
    have d2:¬ (an 5:Int)=now:=by omega
    clear hall;go_wp2_with fail
    all_goals try exact absurd (‹((an 5:Int) != 0)=false\/((an 5:Int) != (now:Int))=false›) (by simp [d1,d2];omega)
    go_returns;exact .inr ⟨HNO.o,rfl,rfl⟩
   ·have HN:=zh (show ∀ t,t < 6->an t=0\/an t=now from fun t ht=>(show t < 5\/t=5 by omega).elim (hall t) (fun q=>by rw [q];exact .inr h1))
    have hix:=U6;have d1:¬ (an 5:Int)=0:=by omega
    have d2:(an 5:Int)=now:=by omega
    clear hall h0 h1;go_wp2_with fail
    all_goals first|exact ⟨⟨6,by omega,rfl,HN.o⟩,by simp [intOf]⟩|exact ⟨⟨_,_,_,⟨6,by omega,rfl,HN.o⟩,rfl,rfl,rfl⟩,by simp [intOf]⟩|exact ⟨⟨_,_,_,_,⟨6,by omega,rfl,HN.o⟩,rfl,rfl,rfl,rfl⟩,by simp [intOf]⟩|exact ⟨⟨_,_,_,_,_,⟨6,by omega,rfl,HN.o⟩,rfl,rfl,rfl,rfl,rfl⟩,by simp [intOf]⟩
  ·rcases ha with h0|⟨h0,h1⟩|⟨h0,h1⟩
   ·have HN:=zh (show ∀ t,t < 7->an t=0\/an t=now from fun t ht=>(show t < 6\/t=6 by omega).elim (hall t) (fun q=>by rw [q];exact .inl h0))
    have hix:=U7;have d1:(an 6:Int)=0:=by omega
    clear hall h0;go_wp2_with fail
    all_goals first|exact ⟨⟨7,by omega,rfl,HN.o⟩,by simp [intOf]⟩|exact ⟨⟨_,_,_,⟨7,by omega,rfl,HN.o⟩,rfl,rfl,rfl⟩,by simp [intOf]⟩|exact ⟨⟨_,_,_,_,⟨7,by omega,rfl,HN.o⟩,rfl,rfl,rfl,rfl⟩,by simp [intOf]⟩|exact ⟨⟨_,_,_,_,_,⟨7,by omega,rfl,HN.o⟩,rfl,rfl,rfl,rfl,rfl⟩,by simp [intOf]⟩
   ·have HNO:=zh (show ¬ XA now an from fun q=>(q 6 (by omega)).elim h0 h1)
    have hix:=U7;have d1:¬ (an 6:Int)=0:=by omega
    have d2:¬ (an 6:Int)=now:=by omega
    clear hall;go_wp2_with fail
    all_goals try exact absurd (‹((an 6:Int) != 0)=false\/((an 6:Int) != (now:Int))=false›) (by simp [d1,d2];omega)
    go_returns;exact .inr ⟨HNO.o,rfl,rfl⟩
   ·have HN:=zh (show ∀ t,t < 7->an t=0\/an t=now from fun t ht=>(show t < 6\/t=6 by omega).elim (hall t) (fun q=>by rw [q];exact .inr h1))
    have hix:=U7;have d1:¬ (an 6:Int)=0:=by omega
    have d2:(an 6:Int)=now:=by omega
    clear hall h0 h1;go_wp2_with fail
    all_goals first|exact ⟨⟨7,by omega,rfl,HN.o⟩,by simp [intOf]⟩|exact ⟨⟨_,_,_,⟨7,by omega,rfl,HN.o⟩,rfl,rfl,rfl⟩,by simp [intOf]⟩|exact ⟨⟨_,_,_,_,⟨7,by omega,rfl,HN.o⟩,rfl,rfl,rfl,rfl⟩,by simp [intOf]⟩|exact ⟨⟨_,_,_,_,_,⟨7,by omega,rfl,HN.o⟩,rfl,rfl,rfl,rfl,rfl⟩,by simp [intOf]⟩
  ·rcases ha with h0|⟨h0,h1⟩|⟨h0,h1⟩
   ·have HN:=zh (show ∀ t,t < 8->an t=0\/an t=now from fun t ht=>(show t < 7\/t=7 by omega).elim (hall t) (fun q=>by rw [q];exact .inl h0))
    have hix:=U8;have d1:(an 7:Int)=0:=by omega
    clear hall h0;go_wp2_with fail
    all_goals first|exact ⟨⟨8,by omega,rfl,HN.o⟩,by simp [intOf]⟩|exact ⟨⟨_,_,_,⟨8,by omega,rfl,HN.o⟩,rfl,rfl,rfl⟩,by simp [intOf]⟩|exact ⟨⟨_,_,_,_,⟨8,by omega,rfl,HN.o⟩,rfl,rfl,rfl,rfl⟩,by simp [intOf]⟩|exact ⟨⟨_,_,_,_,_,⟨8,by omega,rfl,HN.o⟩,rfl,rfl,rfl,rfl,rfl⟩,by simp [intOf]⟩
   ·have HNO:=zh (show ¬ XA now an from fun q=>(q 7 (by omega)).elim h0 h1)
    have hix:=U8;have d1:¬ (an 7:Int)=0:=by omega
    have d2:¬ (an 7:Int)=now:=by omega
    clear hall;go_wp2_with fail
    all_goals try exact absurd (‹((an 7:Int) != 0)=false\/((an 7:Int) != (now:Int))=false›) (by simp [d1,d2];omega)
    go_returns;exact .inr ⟨HNO.o,rfl,rfl⟩
   ·have HN:=zh (show ∀ t,t < 8->an t=0\/an t=now from fun t ht=>(show t < 7\/t=7 by omega).elim (hall t) (fun q=>by rw [q];exact .inr h1))
    have hix:=U8;have d1:¬ (an 7:Int)=0:=by omega
    have d2:(an 7:Int)=now:=by omega
    clear hall h0 h1;go_wp2_with fail
    all_goals first|exact ⟨⟨8,by omega,rfl,HN.o⟩,by simp [intOf]⟩|exact ⟨⟨_,_,_,⟨8,by omega,rfl,HN.o⟩,rfl,rfl,rfl⟩,by simp [intOf]⟩|exact ⟨⟨_,_,_,_,⟨8,by omega,rfl,HN.o⟩,rfl,rfl,rfl,rfl⟩,by simp [intOf]⟩|exact ⟨⟨_,_,_,_,_,⟨8,by omega,rfl,HN.o⟩,rfl,rfl,rfl,rfl,rfl⟩,by simp [intOf]⟩
theorem Y8 {P:Program} {ops:Array Oper} {o:Oper} {a:Act} {K:Act->World->Prop} {Q:Exit->Act->World->Prop} {B:Prop} {W:World} {t e T':TypeId} {size bytes:Nat} (E:El P t e size bytes) (hgd:o.guard=none) (s x:Operand)
 (ho:o.op=.call {callee:=.builtin .append,args:=#[s,x],argTypes:=#[t,t]}) {base:Nat} {v:Value} {n:Nat} {xs:List Value} {cs:Array Value} (hown:W.ownsRow base e size v n xs)
 {N:Nat} (hs:a.eval s=v) (hx:a.eval x=.slice (some ⟨N,0,none⟩) 1 1) (hN:N=W.heap.size) (hcs:cs.size=size) (h1:∀ u∈cs.toList,u.oneCell'=true) (h63:n+1<=maxLen) (hbytes:(n+1) * bytes<=140737488355328) (hbase:base<=W.heap.size)
 (h:∀ g cap w',w'.ownsRow base e size (.slice (some ⟨g,0,none⟩) (n+1) cap) (n+1) (xs++cs.toList)->W.grownBy w' v.ownBlock->
   K (a.put o.dst (.slice (some ⟨g,0,none⟩) (n+1) cap)) w'):
 if Region.wanted o (yielded ops a.tmps)=true then Oper.wp P o a (W.alloc (.cells cs T')) K Q else B:=by
 have hw:Region.wanted o (yielded ops a.tmps)=true:=by simp [Region.wanted,hgd]
 rw [ZKv hw];subst hN;obtain ⟨g,cap,w',hrun,how,hgr,hg⟩:=Zm (w:=W.alloc (.cells cs T')) E (hown.alloc _) ⟨W.heap.size,0,none⟩ 1 1 cs.toList (by simpa using hcs) (fun j u hj=>by
  rw [Addr.add_lit,ZLI,ZC (ZB _ _)];simpa using hj) h1 (by omega) h63 hbytes (by simp;omega)
 have hK:=h g cap w' how ((World.grownBy_alloc W (.cells cs T') v.ownBlock).andThen hgr (fun j hj=>.inr hj));have hr:=hrun o.type;unfold Oper.wp;simp [execOp,ho,resolve,invoke,builtin,hs,hx,hr,Result.andThen];exact hK
theorem ZJ {P:Program} {ops:Array Oper} {o:Oper} {a:Act} {w:World} {K:Act->World->Prop} {Q:Exit->Act->World->Prop} {B:Prop} (hgd:o.guard=none) {f:FuncId} {fn:Func} (hf:P.funcs[f]?=some fn) (hb:fn.body.isNone=false) (hn:(fn.name == "runtime.NumGoroutine")=false) {args:Array Operand} {tys:Array TypeId}
 (ho:o.op=.call {callee:=.value (.func f),args:=args,argTypes:=tys}) {vs:Array Value} {R:Ending->World->Prop} (hC:Calls P f vs w R) (hv:args.map a.eval=vs)
 (hK:∀ e w',R e w'->∃ v,e=.returned v/\K (a.put o.dst v) w'):
 if Region.wanted o (yielded ops a.tmps)=true then Oper.wp P o a w K Q else B:=by
 have hw:Region.wanted o (yielded ops a.tmps)=true:=by simp [Region.wanted,hgd]
 rw [ZKv hw];unfold Oper.wp;have e:(execOp a.eval o).run P w=.ok (.enter f (args.map a.eval)) w:=by
  have hb2:fn.body≠none:=fun e=>by rw [e] at hb;cases hb
  have hn2:fn.name≠ "runtime.NumGoroutine":=fun e=>by rw [e] at hn;simp at hn
  simp [execOp,ho,resolve,invoke,Act.eval,Deferred.ofValue,callFunc,Result.andThen,hf,hb2,hn2]
 rw [e,Oper.upon_enter,hv];refine hC.mono ?_;intro e w' hr;obtain ⟨v,rfl,hk⟩:=hK e w' hr;exact hk
end
end Go.Proofs.YteomliechfdhhaaGreatDoor.Dv
