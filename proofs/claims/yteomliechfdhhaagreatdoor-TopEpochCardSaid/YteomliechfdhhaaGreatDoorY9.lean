/- Part 9. -/
import Derived.Deep.Cut
import Derived.Test.YteomliechfdhhaaGreatDoorY8
import Derived.Sort.AssemblyPlain
import Derived.Lib.AgreeW
import Derived.Test.YteomliechfdhhaaGreatDoorY6
import Derived.Test.YteomliechfdhhaaGreatDoorY7
set_option maxHeartbeats 8000000
set_option maxRecDepth 20000
set_option linter.all false
namespace Go.Proofs.YteomliechfdhhaaGreatDoor.Srt
open Tryz
section
open Go.Sort Go.RowKit
variable {α:Type} [Inhabited α]
def At (enc:α->Value)(w:World)(blk off:Nat)(d:Array α)(wr:World):Prop:=∃ n os,wr=grow (putRow enc (Sort.ahead w n) blk off d) os
section
variable {enc:α->Value}{w wr w1:World}{blk off:Nat}{d d' d0:Array α}
theorem At.refl (h:Holds enc w blk off d):At enc w blk off d w:=⟨0,#[],by rw [grow_empty,ahead_zero,putRow_self enc w blk off d h]⟩
theorem At.holds (h:At enc w blk off d wr)(h0:Holds enc w blk off d0)(hs:d.size=d0.size)(hb:blk < w.heap.size):Holds enc wr blk off d/\blk < wr.heap.size:=by
 obtain ⟨n,os,rfl⟩:=h;exact ⟨holds_grow enc _ os blk off d (by simpa using hb) (holds_putRow enc _ blk off d0 d (holds_ahead enc w n blk off d0 h0) hs),by simp;omega⟩
theorem At.step (h:At enc w blk off d wr)(hb:blk < w.heap.size)(hs:d'.size=d.size)(h1:∃ m,w1=putRow enc (Sort.ahead wr m) blk off d'):At enc w blk off d' w1:=by
 obtain ⟨n,os,rfl⟩:=h;obtain ⟨m,rfl⟩:=h1;exact ⟨n+m,os,grow_step enc w os n m blk off d d' hb hs⟩
theorem At.stepG (h:At enc w blk off d wr)(hb:blk < w.heap.size)(hs:d'.size=d.size)(h1:∃ m os',w1=grow (putRow enc (Sort.ahead wr m) blk off d') os'):At enc w blk off d' w1:=by
 obtain ⟨n,os,rfl⟩:=h;obtain ⟨m,os',rfl⟩:=h1;exact ⟨n+m,os++os',grow_step_grow enc w os os' n m blk off d d' hb hs⟩
theorem At.same (h:At enc w blk off d wr)(h0:Holds enc w blk off d0)(hs:d.size=d0.size)(hb:blk < w.heap.size)(h1:∃ m os',w1=grow (Sort.ahead wr m) os'):At enc w blk off d w1:=by
 obtain ⟨m,os',rfl⟩:=h1;refine h.stepG hb rfl ⟨m,os',?_⟩;rw [putRow_self enc (Sort.ahead wr m) blk off d (holds_ahead enc wr m blk off d (h.holds h0 hs hb).1)]
theorem At.ahead (h:At enc w blk off d wr)(m:Nat):At enc w blk off d (Sort.ahead wr m):=by
 obtain ⟨n,os,rfl⟩:=h;exact ⟨n+m,os,by rw [<-ahead_ahead];rfl⟩
end
section
variable (lt:α->α->Bool)
structure Rd (α:Type) where
 d1:Array α
 lim:Nat
 c:Nat×Hint
 d2:Array α
 pivot:Nat
 hint:Hint
 pi:Array α×Bool
def rd (d:Array α)(a b limit:Nat)(wb wp:Bool):Rd α:=
 let d1:=if !wb then breakPatterns d a b else d
 let c:=choosePivot lt d1 a b
 let d2:=if c.2=.decreasing then reverseRange d1 a b else d1
 let hint:=if c.2=.decreasing then Hint.increasing else c.2
 {d1:=d1,lim:=if !wb then limit - 1 else limit,c:=c,d2:=d2,pivot:=if c.2=.decreasing then (b - 1) - (c.1 - a) else c.1,hint:=hint,
  pi:=if wb && wp && hint=.increasing then partialInsertionSort lt d2 a b else (d2,false)}
variable {lt}{d:Array α}{a b limit:Nat}{wb wp:Bool}
theorem Y0:pdq lt d a b limit wb wp=
 if b - a<=12 then insertionSort lt d a b else
 if limit=0 then heapSort lt d a b else
 if (rd lt d a b limit wb wp).pi.2=true then (rd lt d a b limit wb wp).pi.1 else
 if (decide (a > 0) && !lt (rd lt d a b limit wb wp).pi.1[a - 1]! (rd lt d a b limit wb wp).pi.1[(rd lt d a b limit wb wp).pivot]!)=true then
  (if a < (partitionEqual lt (rd lt d a b limit wb wp).pi.1 a b (rd lt d a b limit wb wp).pivot).1/\(partitionEqual lt (rd lt d a b limit wb wp).pi.1 a b (rd lt d a b limit wb wp).pivot).1<=b then pdq lt (partitionEqual lt (rd lt d a b limit wb wp).pi.1 a b (rd lt d a b limit wb wp).pivot).2 (partitionEqual lt (rd lt d a b limit wb wp).pi.1 a b (rd lt d a b limit wb wp).pivot).1 b (rd lt d a b limit wb wp).lim wb wp else (partitionEqual lt (rd lt d a b limit wb wp).pi.1 a b (rd lt d a b limit wb wp).pivot).2)
 else
  (if a<=(partition lt (rd lt d a b limit wb wp).pi.1 a b (rd lt d a b limit wb wp).pivot).1/\(partition lt (rd lt d a b limit wb wp).pi.1 a b (rd lt d a b limit wb wp).pivot).1 < b then
    (if (partition lt (rd lt d a b limit wb wp).pi.1 a b (rd lt d a b limit wb wp).pivot).1 - a < b - (partition lt (rd lt d a b limit wb wp).pi.1 a b (rd lt d a b limit wb wp).pivot).1 then
      pdq lt (pdq lt (partition lt (rd lt d a b limit wb wp).pi.1 a b (rd lt d a b limit wb wp).pivot).2.2 a (partition lt (rd lt d a b limit wb wp).pi.1 a b (rd lt d a b limit wb wp).pivot).1 (rd lt d a b limit wb wp).lim true true) ((partition lt (rd lt d a b limit wb wp).pi.1 a b (rd lt d a b limit wb wp).pivot).1+1) b (rd lt d a b limit wb wp).lim (decide ((partition lt (rd lt d a b limit wb wp).pi.1 a b (rd lt d a b limit wb wp).pivot).1 - a>=(b - a) / 8)) (partition lt (rd lt d a b limit wb wp).pi.1 a b (rd lt d a b limit wb wp).pivot).2.1
    else
     pdq lt (pdq lt (partition lt (rd lt d a b limit wb wp).pi.1 a b (rd lt d a b limit wb wp).pivot).2.2 ((partition lt (rd lt d a b limit wb wp).pi.1 a b (rd lt d a b limit wb wp).pivot).1+1) b (rd lt d a b limit wb wp).lim true true) a (partition lt (rd lt d a b limit wb wp).pi.1 a b (rd lt d a b limit wb wp).pivot).1 (rd lt d a b limit wb wp).lim (decide (b - (partition lt (rd lt d a b limit wb wp).pi.1 a b (rd lt d a b limit wb wp).pivot).1>=(b - a) / 8)) (partition lt (rd lt d a b limit wb wp).pi.1 a b (rd lt d a b limit wb wp).pivot).2.1)
  else (partition lt (rd lt d a b limit wb wp).pi.1 a b (rd lt d a b limit wb wp).pivot).2.2):=by
 rw [pdq];rfl
theorem ZFO (h:b - a<=12):pdq lt d a b limit wb wp=insertionSort lt d a b:=by rw [Y0,if_pos h]
theorem ZGx (h:¬ b - a<=12)(h0:limit=0):pdq lt d a b limit wb wp=heapSort lt d a b:=by rw [Y0,if_neg h,if_pos h0]
theorem ZGw (h:¬ b - a<=12)(h0:¬ limit=0)(h1:(rd lt d a b limit wb wp).pi.2=true):pdq lt d a b limit wb wp=(rd lt d a b limit wb wp).pi.1:=by rw [Y0,if_neg h,if_neg h0,if_pos h1]
theorem ZJS (h:¬ b - a<=12)(h0:¬ limit=0)(h1:(rd lt d a b limit wb wp).pi.2=false)(h2:(decide (a > 0) && !lt (rd lt d a b limit wb wp).pi.1[a - 1]! (rd lt d a b limit wb wp).pi.1[(rd lt d a b limit wb wp).pivot]!)=true)(h3:a < (partitionEqual lt (rd lt d a b limit wb wp).pi.1 a b (rd lt d a b limit wb wp).pivot).1/\(partitionEqual lt (rd lt d a b limit wb wp).pi.1 a b (rd lt d a b limit wb wp).pivot).1<=b):
 pdq lt d a b limit wb wp=pdq lt (partitionEqual lt (rd lt d a b limit wb wp).pi.1 a b (rd lt d a b limit wb wp).pivot).2 (partitionEqual lt (rd lt d a b limit wb wp).pi.1 a b (rd lt d a b limit wb wp).pivot).1 b (rd lt d a b limit wb wp).lim wb wp:=by
 rw [Y0,if_neg h,if_neg h0,if_neg (by rw [h1];exact Bool.false_ne_true),if_pos h2,if_pos h3]
theorem ZGy (h:¬ b - a<=12)(h0:¬ limit=0)(h1:(rd lt d a b limit wb wp).pi.2=false)(h2:(decide (a > 0) && !lt (rd lt d a b limit wb wp).pi.1[a - 1]! (rd lt d a b limit wb wp).pi.1[(rd lt d a b limit wb wp).pivot]!)=false)(h3:a<=(partition lt (rd lt d a b limit wb wp).pi.1 a b (rd lt d a b limit wb wp).pivot).1/\(partition lt (rd lt d a b limit wb wp).pi.1 a b (rd lt d a b limit wb wp).pivot).1 < b)(h4:(partition lt (rd lt d a b limit wb wp).pi.1 a b (rd lt d a b limit wb wp).pivot).1 - a < b - (partition lt (rd lt d a b limit wb wp).pi.1 a b (rd lt d a b limit wb wp).pivot).1):
 pdq lt d a b limit wb wp=pdq lt (pdq lt (partition lt (rd lt d a b limit wb wp).pi.1 a b (rd lt d a b limit wb wp).pivot).2.2 a (partition lt (rd lt d a b limit wb wp).pi.1 a b (rd lt d a b limit wb wp).pivot).1 (rd lt d a b limit wb wp).lim true true) ((partition lt (rd lt d a b limit wb wp).pi.1 a b (rd lt d a b limit wb wp).pivot).1+1) b (rd lt d a b limit wb wp).lim (decide ((partition lt (rd lt d a b limit wb wp).pi.1 a b (rd lt d a b limit wb wp).pivot).1 - a>=(b - a) / 8)) (partition lt (rd lt d a b limit wb wp).pi.1 a b (rd lt d a b limit wb wp).pivot).2.1:=by
 rw [Y0,if_neg h,if_neg h0,if_neg (by rw [h1];exact Bool.false_ne_true),if_neg (by rw [h2];exact Bool.false_ne_true),if_pos h3,if_pos h4]
theorem ZFN (h:¬ b - a<=12)(h0:¬ limit=0)(h1:(rd lt d a b limit wb wp).pi.2=false)(h2:(decide (a > 0) && !lt (rd lt d a b limit wb wp).pi.1[a - 1]! (rd lt d a b limit wb wp).pi.1[(rd lt d a b limit wb wp).pivot]!)=false)(h3:a<=(partition lt (rd lt d a b limit wb wp).pi.1 a b (rd lt d a b limit wb wp).pivot).1/\(partition lt (rd lt d a b limit wb wp).pi.1 a b (rd lt d a b limit wb wp).pivot).1 < b)(h4:¬ (partition lt (rd lt d a b limit wb wp).pi.1 a b (rd lt d a b limit wb wp).pivot).1 - a < b - (partition lt (rd lt d a b limit wb wp).pi.1 a b (rd lt d a b limit wb wp).pivot).1):
 pdq lt d a b limit wb wp=pdq lt (pdq lt (partition lt (rd lt d a b limit wb wp).pi.1 a b (rd lt d a b limit wb wp).pivot).2.2 ((partition lt (rd lt d a b limit wb wp).pi.1 a b (rd lt d a b limit wb wp).pivot).1+1) b (rd lt d a b limit wb wp).lim true true) a (partition lt (rd lt d a b limit wb wp).pi.1 a b (rd lt d a b limit wb wp).pivot).1 (rd lt d a b limit wb wp).lim (decide (b - (partition lt (rd lt d a b limit wb wp).pi.1 a b (rd lt d a b limit wb wp).pivot).1>=(b - a) / 8)) (partition lt (rd lt d a b limit wb wp).pi.1 a b (rd lt d a b limit wb wp).pivot).2.1:=by
 rw [Y0,if_neg h,if_neg h0,if_neg (by rw [h1];exact Bool.false_ne_true),if_neg (by rw [h2];exact Bool.false_ne_true),if_pos h3,if_neg h4]
theorem ZJY (hh:(rd lt d a b limit wb wp).c.2=.decreasing):
 (rd lt d a b limit wb wp).d2=reverseRange (rd lt d a b limit wb wp).d1 a b/\(rd lt d a b limit wb wp).pivot=(b - 1) - ((rd lt d a b limit wb wp).c.1 - a)/\(rd lt d a b limit wb wp).hint=.increasing:=⟨if_pos hh,if_pos hh,if_pos hh⟩
theorem ZJZ (hh:(rd lt d a b limit wb wp).c.2≠.decreasing):
 (rd lt d a b limit wb wp).d2=(rd lt d a b limit wb wp).d1/\(rd lt d a b limit wb wp).pivot=(rd lt d a b limit wb wp).c.1/\(rd lt d a b limit wb wp).hint=(rd lt d a b limit wb wp).c.2:=⟨if_neg hh,if_neg hh,if_neg hh⟩
theorem ZFX (hc:(wb && wp && decide ((rd lt d a b limit wb wp).hint=.increasing))=true):(rd lt d a b limit wb wp).pi=partialInsertionSort lt (rd lt d a b limit wb wp).d2 a b:=if_pos hc
theorem ZHF (hc:(wb && wp && decide ((rd lt d a b limit wb wp).hint=.increasing))=false):(rd lt d a b limit wb wp).pi=((rd lt d a b limit wb wp).d2,false):=if_neg (fun h=>Bool.false_ne_true (hc.symm.trans h))
theorem Xl:(rd lt d a b limit wb wp).lim<=limit:=by
 show (if (!wb)=true then limit - 1 else limit)<=limit;split <;> omega
theorem ZHE (h:SWO lt)(hpi:partialInsertionSort_stmt lt)(hrev:reverseRange_stmt α)(hab:a < b)(hb:b<=d.size)(hB:Sort.Below lt a b d):
 (rd lt d a b limit wb wp).d1.size=d.size/\Sort.Below lt a b (rd lt d a b limit wb wp).d1/\(a<=(rd lt d a b limit wb wp).c.1/\(rd lt d a b limit wb wp).c.1 < b)/\
 (rd lt d a b limit wb wp).d2.size=d.size/\Sort.Below lt a b (rd lt d a b limit wb wp).d2/\(a<=(rd lt d a b limit wb wp).pivot/\(rd lt d a b limit wb wp).pivot < b)/\
 (rd lt d a b limit wb wp).pi.1.size=d.size/\Sort.Below lt a b (rd lt d a b limit wb wp).pi.1:=by
 have p1:PermIn a b d (rd lt d a b limit wb wp).d1:=step_break d (Nat.le_of_lt hab) hb ((!wb)=true);have s1:=p1.1;have B1:=hB.perm hb p1;have c1:a<=(rd lt d a b limit wb wp).c.1/\(rd lt d a b limit wb wp).c.1 < b:=choosePivot_holds lt (rd lt d a b limit wb wp).d1 a b hab;have p2:PermIn a b (rd lt d a b limit wb wp).d1 (rd lt d a b limit wb wp).d2:=step_reverse hrev (rd lt d a b limit wb wp).d1 (Nat.le_of_lt hab) (by rw [s1];exact hb) ((rd lt d a b limit wb wp).c.2=.decreasing);have s2:=p2.1.trans s1;have B2:=B1.perm (by rw [s1];exact hb) p2;have pv:a<=(rd lt d a b limit wb wp).pivot/\(rd lt d a b limit wb wp).pivot < b:=pivot_range c1.1 c1.2 ((rd lt d a b limit wb wp).c.2=.decreasing);have p3:PermIn a b (rd lt d a b limit wb wp).d2 (rd lt d a b limit wb wp).pi.1:=(step_partial hpi h (rd lt d a b limit wb wp).d2 hab (by rw [s2];exact hb) B2 ((wb && wp && decide ((rd lt d a b limit wb wp).hint=.increasing))=true)).1;exact ⟨s1,B1,c1,s2,B2,pv,p3.1.trans s2,B2.perm (by rw [s2];exact hb) p3⟩
end
structure Callees13:Prop where
 ins:∀ (blk off cap a b:Nat) (d:Array Int) (w:World),Holds Zd w blk off d->a<=b->b<=d.size->d.size < 4611686018427387904->
  Calls prog 223 #[.slice (some ⟨blk,off,none⟩) d.size cap,.int .i64 a,.int .i64 b] w fun e w'=>e=.returned (.tuple #[])/\∃ n,w'=putRow Zd (Sort.ahead w n) blk off (insertionSort ltInt d a b)
 brk:∀ (blk off cap a b:Nat) (d:Array Int) (w:World),Holds Zd w blk off d->blk < w.heap.size->a<=b->b<=d.size->d.size < 4611686018427387904->
  Calls prog 225 #[.slice (some ⟨blk,off,none⟩) d.size cap,.int .i64 a,.int .i64 b] w fun e w'=>e=.returned (.tuple #[])/\∃ n os,w'=grow (putRow Zd (Sort.ahead w n) blk off (breakPatterns d a b)) os
 piv:∀ (blk off cap a b:Nat) (d:Array Int) (w:World),Holds Zd w blk off d->blk < w.heap.size->a < b->b<=d.size->d.size < 4611686018427387904->
  Calls prog 226 #[.slice (some ⟨blk,off,none⟩) d.size cap,.int .i64 a,.int .i64 b] w fun e w'=>e=.returned (.tuple #[.int .i64 (choosePivot ltInt d a b).1,.int .i64 (hintCode (choosePivot ltInt d a b).2)])/\∃ n os,w'=grow (Sort.ahead w n) os
 par:∀ (blk off cap a b:Nat) (d:Array Int) (w:World),Holds Zd w blk off d->a < b->b<=d.size->d.size < 4611686018427387904->
  Calls prog 228 #[.slice (some ⟨blk,off,none⟩) d.size cap,.int .i64 a,.int .i64 b] w fun e w'=>e=.returned (.bool (partialInsertionSort ltInt d a b).2)/\∃ n,w'=putRow Zd (Sort.ahead w n) blk off (partialInsertionSort ltInt d a b).1
 peq:∀ (blk off cap a b pivot:Nat) (d:Array Int) (w:World),Holds Zd w blk off d->a<=pivot->pivot < b->b<=d.size->d.size < 4611686018427387904->
  Calls prog 230 #[.slice (some ⟨blk,off,none⟩) d.size cap,.int .i64 a,.int .i64 b,.int .i64 pivot] w fun e w'=>e=.returned (.int .i64 (partitionEqual ltInt d a b pivot).1)/\∃ n,w'=putRow Zd (Sort.ahead w n) blk off (partitionEqual ltInt d a b pivot).2
 prt:∀ (blk off cap a b pivot:Nat) (d:Array Int) (w:World),Holds Zd w blk off d->a<=pivot->pivot < b->b<=d.size->d.size < 4611686018427387904->
  Calls prog 231 #[.slice (some ⟨blk,off,none⟩) d.size cap,.int .i64 a,.int .i64 b,.int .i64 pivot] w fun e w'=>e=.returned (.tuple #[.int .i64 (partition ltInt d a b pivot).1,.bool (partition ltInt d a b pivot).2.1])/\∃ n,w'=putRow Zd (Sort.ahead w n) blk off (partition ltInt d a b pivot).2.2
structure Plain13:Prop where
 swo:SWO ltInt
 ins:insertionSort_stmt ltInt
 par:partialInsertionSort_stmt ltInt
 prt:partition_stmt ltInt
 peq:partitionEqual_stmt ltInt
 pdq:pdq_stmt ltInt
theorem ZBE {h:Hint}(e:hintCode h=2):h=.decreasing:=by cases h <;> simp [hintCode] at e ⊢
theorem ZGM {x y p q:Nat}(h1:q<=p)(h2:y<=x):decide (((x:Int) - (y:Int)) / 8<=(p:Int) - (q:Int))=decide (p - q>=(x - y) / 8):=
 decide_eq_decide.2 ⟨fun h=>by omega,fun h=>by omega⟩
theorem ZCQ (C:Callees13)(S:Plain13):∀ (N blk off cap a b limit:Nat) (d:Array Int) (w:World),b - a < N->Holds Zd w blk off d->blk < w.heap.size->a<=b->b<=d.size->d.size < 4611686018427387904->limit < 4611686018427387904->Below ltInt a b d->
 Calls prog 183 #[.slice (some ⟨blk,off,none⟩) d.size cap,.int .i64 a,.int .i64 b,.int .i64 limit] w fun e w'=>e=.returned (.tuple #[])/\At Zd w blk off (pdq ltInt d a b limit true true) w':=by
 intro N
 induction N with
 |zero=>intro _ _ _ _ _ _ _ _ h;exact absurd h (Nat.not_lt_zero _)
 |succ N ih=>
  intro blk off cap a b limit d w hN hH hblk hab hb hsz hlimit hBel0;go_in;go_wp2
  go_loopg [1,2,3,8,9] (b - a) (fun k s1 s2 s3 s8 s9 wr=>∃ (a' b' lim:Nat) (wb wp:Bool) (dk:Array Int),s1=.int .i64 a'/\s2=.int .i64 b'/\s3=.int .i64 lim/\s8=.bool wb/\s9=.bool wp/\
   a'<=b'/\b'<=d.size/\b' - a'<=k/\k<=b - a/\lim<=limit/\dk.size=d.size/\Below ltInt a' b' dk/\At Zd w blk off dk wr/\pdq ltInt dk a' b' lim wb wp=pdq ltInt d a b limit true true)
  case atStart=>exact ⟨a,b,limit,true,true,d,rfl,rfl,rfl,rfl,rfl,hab,hb,Nat.le_refl _,Nat.le_refl _,Nat.le_refl _,rfl,hBel0,At.refl hH,rfl⟩
  case round=>
   obtain ⟨a',b',lim,wb,wp,dk,rfl,rfl,rfl,rfl,rfl,hab',hb',hk,hkN,hlim,hds,hBel,hAt,heq⟩:=hrel;obtain ⟨hHk,hblk'⟩:=hAt.holds hH hds hblk;have A:Aside (pdq ltInt dk a' b' lim wb wp=pdq ltInt d a b limit true true):=heq;clear heq
   by_cases h12:b' - a'<=12
   ·
    have h12z:(b':Int) - (a':Int)<=12:=by omega
    have hc:=C.ins blk off cap a' b' dk wr hHk hab' (by omega) (by omega);rw [hds] at hc;go_wp2_with (go_at_call 223;refine hc.mono ?_;rintro e w1 ⟨rfl,hw1⟩)
    (try simp only [Exit.inBlock,Exit.then]);refine bodyPost_ret (results_none rfl _ _ _) rfl ?_
    refine ⟨rfl,?_⟩;rw [<-A.out,ZFO h12];exact hAt.step hblk (S.ins S.swo dk a' b' hab' (by omega)).1.1 hw1
   ·have h12z:¬ ((b':Int) - (a':Int)<=12):=by omega
    by_cases hl0:lim=0
    ·
     subst hl0;have hc:=ZBD blk off d.size cap dk hds a' b' wr hHk hab' (by omega) (by omega);go_wp2_with (go_at_call 224;refine hc.mono ?_;rintro e w1 ⟨rfl,hw1⟩)
     (try simp only [Exit.inBlock,Exit.then]);refine bodyPost_ret (results_none rfl _ _ _) rfl ?_
     refine ⟨rfl,?_⟩;rw [<-A.out,ZGx h12 rfl];exact hAt.step hblk (heapSort_holds S.swo dk a' b' hab' (by omega)).1.1 hw1
    ·have hl0z:¬ ((lim:Int)=0):=by omega
     obtain ⟨s1,B1,hc1,s2,B2,hpv,s3,B3⟩:=ZHE (limit:=lim) (wb:=wb) (wp:=wp) S.swo S.par reverseRange_holds (show a' < b' by omega) (show b'<=dk.size by omega) hBel;go_upto_if 35 with fail
     go_cut [3] from 19 (fun s3 wc=>s3=.int .i64 (rd ltInt dk a' b' lim wb wp).lim/\At Zd w blk off (rd ltInt dk a' b' lim wb wp).d1 wc)
     case first=>
      cases wb
      ·have hc:=C.brk blk off cap a' b' dk wr hHk hblk' hab' (by omega) (by omega)
       rw [hds] at hc;go_wp2_with (go_at_call 225;refine hc.mono ?_;rintro e w1 ⟨rfl,hw1⟩);go_meet
       case rel=>
        refine ⟨?_,hAt.stepG hblk s1 hw1⟩;show Value.int .i64 ((lim:Int) - 1)=Value.int .i64 ((lim - 1:Nat):Int)
        congr 1
        omega
      ·go_wp2_with fail
       go_meet
       case rel=>exact ⟨rfl,hAt⟩
     case rest=>
      obtain ⟨rfl,hAt1⟩:=hcut;obtain ⟨hH1,hblk1⟩:=hAt1.holds hH (s1.trans hds) hblk;have hc17:Calls prog 226 #[.slice (some ⟨blk,off,none⟩) d.size cap,.int .i64 a',.int .i64 b'] wc fun e w'=>e=.returned (.tuple #[.int .i64 (rd ltInt dk a' b' lim wb wp).c.1,.int .i64 (hintCode (rd ltInt dk a' b' lim wb wp).c.2)])/\∃ n os,w'=grow (Sort.ahead wc n) os:=by
       have:=C.piv blk off cap a' b' (rd ltInt dk a' b' lim wb wp).d1 wc hH1 hblk1 (by omega) (by omega) (by omega);rw [s1,hds] at this;exact this
      go_upto_if 50 with (go_at_call 226;refine hc17.mono ?_;rintro e w2 ⟨rfl,hw2⟩)
      have hAt2:At Zd w blk off (rd ltInt dk a' b' lim wb wp).d1 w2:=hAt1.same hH (s1.trans hds) hblk hw2;obtain ⟨hH2,hblk2⟩:=hAt2.holds hH (s1.trans hds) hblk
      go_cut [11,12] from 19 (fun s11 s12 wc=>s11=.int .i64 (rd ltInt dk a' b' lim wb wp).pivot/\s12=.int .i64 (hintCode (rd ltInt dk a' b' lim wb wp).hint)/\At Zd w blk off (rd ltInt dk a' b' lim wb wp).d2 wc)
      case first=>
       by_cases hh:(rd ltInt dk a' b' lim wb wp).c.2=.decreasing
       ·have hcode:hintCode (rd ltInt dk a' b' lim wb wp).c.2=2:=by rw [hh];rfl
        obtain ⟨e2,epv,eht⟩:=ZJY hh;have hc18:=JI blk off cap (rd ltInt dk a' b' lim wb wp).d1 a' b' w2 hH2 hab' (by omega) (by omega);rw [s1,hds] at hc18;go_wp2_with (go_at_call 227;refine hc18.mono ?_;rintro e w3 ⟨rfl,hw3⟩);go_meet
        case rel=>
         refine ⟨?_,by rw [eht];rfl,by rw [e2];exact hAt2.step hblk (by rw [<-e2,s2,s1]) hw3⟩;rw [epv]
         congr 1
         omega
       ·have hcode:¬ (hintCode (rd ltInt dk a' b' lim wb wp).c.2=2):=fun h=>hh (ZBE h)
        obtain ⟨e2,epv,eht⟩:=ZJZ hh;go_wp2_with fail;go_meet
        case rel=>exact ⟨by rw [epv],by rw [eht],by rw [e2];exact hAt2⟩
      case rest=>
       obtain ⟨rfl,rfl,hAt3⟩:=hcut;obtain ⟨hH3,hblk3⟩:=hAt3.holds hH (s2.trans hds) hblk;go_upto_region 15 with fail
       go_cut [12,68] from 19 (fun s12 s68 wx=>s12=.int .i64 (hintCode (rd ltInt dk a' b' lim wb wp).hint)/\s68=.bool (wb && wp && decide ((rd ltInt dk a' b' lim wb wp).hint=.increasing))/\wx=wc)
       case first=>
        cases wb <;> cases wp <;> cases hh3:(rd ltInt dk a' b' lim _ _).hint <;>
         (have hcode3:=congrArg hintCode hh3
          simp only [hintCode] at hcode3;go_wp2_with fail;go_meet;exact ⟨by simp [hh3,hintCode],by simp [hh3,hintCode],rfl⟩)
       case rest=>
        obtain ⟨rfl,rfl,rfl⟩:=hcut;go_upto_if 68 with fail
        go_cut [] from 19 (fun wx=>(rd ltInt dk a' b' lim wb wp).pi.2=false/\At Zd w blk off (rd ltInt dk a' b' lim wb wp).pi.1 wx)
        case first=>
         cases h68:(wb && wp && decide ((rd ltInt dk a' b' lim wb wp).hint=.increasing))
         ·have epi:=ZHF h68
          go_wp2_with fail;go_meet
          case rel=>exact ⟨by rw [epi],by rw [epi];exact hAt3⟩
         ·have epi:=ZFX h68
          have hc19:=C.par blk off cap a' b' (rd ltInt dk a' b' lim wb wp).d2 wc hH3 (by omega) (by omega) (by omega);rw [s2,hds,<-epi] at hc19;go_wp2_with (go_at_call 228;refine hc19.mono ?_;rintro e w4 ⟨rfl,hw4⟩)
          all_goals first
           |(have hp2:(rd ltInt dk a' b' lim wb wp).pi.2=false:=by rw [epi];assumption
             go_meet;exact ⟨hp2,hAt3.step hblk (by rw [s3,s2]) hw4⟩)
           |(have hp2:(rd ltInt dk a' b' lim wb wp).pi.2=true:=by rw [epi];assumption
             (try simp only [Exit.inBlock,Exit.then]);refine bodyPost_ret (results_none rfl _ _ _) rfl ?_
             refine ⟨rfl,?_⟩;rw [<-A.out,ZGw h12 hl0 hp2];exact hAt3.step hblk (by rw [s3,s2]) hw4)
        case rest=>
         obtain ⟨hp2,hAt5⟩:=hcut;obtain ⟨hH5,hblk5⟩:=hAt5.holds hH (s3.trans hds) hblk;have hcw:∀ t,t < d.size->wc.cell? ⟨blk,off+t,none⟩=some (.int .u64 (rd ltInt dk a' b' lim wb wp).pi.1[t]!):=fun t ht=>(hH5 t (by omega)).1
         have hfw:∀ t,t < d.size->wc.frozen? ⟨blk,off+t,none⟩=false:=fun t ht=>(hH5 t (by omega)).2
         go_upto_region 17 with fail
         go_cut [87] from 19 (fun s87 wx=>s87=.bool (decide (a' > 0) && !ltInt (rd ltInt dk a' b' lim wb wp).pi.1[a' - 1]! (rd ltInt dk a' b' lim wb wp).pi.1[(rd ltInt dk a' b' lim wb wp).pivot]!)/\At Zd w blk off (rd ltInt dk a' b' lim wb wp).pi.1 wx)
         case first=>
          rcases Nat.eq_zero_or_pos a' with ha0|ha0
          ·have ha0z:decide ((a':Int) > 0)=false:=decide_eq_false (by omega)
           go_big_quiet (first|(go_at_call 229;refine Calls.quiet_of_same (ZL _ _ _)))
           go_wp2_with fail;go_meet
           case rel=>exact ⟨by simp [ha0],hAt5.ahead nq⟩
          ·have ha0z:(a':Int) > 0:=by omega
           go_big_quiet (first|(go_at_call 229;refine Calls.quiet_of_same (ZL _ _ _)))
           go_wp2_with fail;go_meet
           case rel=>exact ⟨by simp [ha0],hAt5.ahead nq⟩
         case rest=>
          obtain ⟨rfl,hAt6⟩:=hcut;obtain ⟨hH6,hblk6⟩:=hAt6.holds hH (s3.trans hds) hblk;clear hcw hfw;cases h87:(decide (a' > 0) && !ltInt (rd ltInt dk a' b' lim wb wp).pi.1[a' - 1]! (rd ltInt dk a' b' lim wb wp).pi.1[(rd ltInt dk a' b' lim wb wp).pivot]!)
          ·
           obtain ⟨mid,ap,d4,hx⟩:∃ mid ap d4,partition ltInt (rd ltInt dk a' b' lim wb wp).pi.1 a' b' (rd ltInt dk a' b' lim wb wp).pivot=(mid,ap,d4):=⟨(partition ltInt (rd ltInt dk a' b' lim wb wp).pi.1 a' b' (rd ltInt dk a' b' lim wb wp).pivot).1,(partition ltInt (rd ltInt dk a' b' lim wb wp).pi.1 a' b' (rd ltInt dk a' b' lim wb wp).pivot).2.1,(partition ltInt (rd ltInt dk a' b' lim wb wp).pi.1 a' b' (rd ltInt dk a' b' lim wb wp).pivot).2.2,rfl⟩
           obtain ⟨r1,r2,r3,r4,r5,r6,r7⟩:=round_part S.swo S.prt hpv.1 hpv.2 (show b'<=(rd ltInt dk a' b' lim wb wp).pi.1.size by omega) B3 hx;have hc22:=C.prt blk off cap a' b' (rd ltInt dk a' b' lim wb wp).pivot (rd ltInt dk a' b' lim wb wp).pi.1 wc hH6 hpv.1 hpv.2 (by omega) (by omega);rw [s3,hds,hx] at hc22;have X:Aside (partition ltInt (rd ltInt dk a' b' lim wb wp).pi.1 a' b' (rd ltInt dk a' b' lim wb wp).pivot=(mid,ap,d4)):=hx;clear hx;go_upto_if 113 with (go_at_call 231;refine hc22.mono ?_;rintro e w7 ⟨rfl,hw7⟩)
           have hx:=X.out;have hAt7:At Zd w blk off d4 w7:=hAt6.step hblk r3 hw7;obtain ⟨hH7,hblk7⟩:=hAt7.holds hH (r3.trans (s3.trans hds)) hblk
           by_cases h4:mid - a' < b' - mid
           ·have h4z:(mid:Int) - (a':Int) < (b':Int) - (mid:Int):=by omega
            have hih:=ih blk off cap a' mid (rd ltInt dk a' b' lim wb wp).lim d4 w7 (by omega) hH7 hblk7 (by omega) (by omega) (by omega) (Nat.lt_of_le_of_lt (Nat.le_trans Xl hlim) hlimit) r4;rw [r3,s3,hds] at hih;obtain ⟨pL,sL⟩:=S.pdq S.swo d4 a' mid (rd ltInt dk a' b' lim wb wp).lim true true (by omega) (by omega) r4;go_wp2_with (go_at_call 183;refine hih.mono ?_;rintro e w8 ⟨rfl,hw8⟩)
            go_roundg (b' - (mid+1))
            case measure=>omega
            case rel=>
             refine ⟨mid+1,b',(rd ltInt dk a' b' lim wb wp).lim,decide (mid - a'>=(b' - a') / 8),ap,pdq ltInt d4 a' mid (rd ltInt dk a' b' lim wb wp).lim true true,by simp,rfl,rfl,?_,rfl,by omega,by omega,Nat.le_refl _,by omega,Nat.le_trans Xl hlim,by rw [pL.1,r3,s3,hds],(r6 _ pL sL).1,hAt7.stepG hblk pL.1 hw8,?_⟩
             ·exact congrArg Value.bool (ZGM (by omega) (by omega))
             ·rw [<-A.out,ZGy h12 hl0 hp2 h87 (by rw [hx];exact ⟨r1,r2⟩) (by rw [hx];exact h4),hx]
           ·have h4z:¬ ((mid:Int) - (a':Int) < (b':Int) - (mid:Int)):=by omega
            have hih:=ih blk off cap (mid+1) b' (rd ltInt dk a' b' lim wb wp).lim d4 w7 (by omega) hH7 hblk7 (by omega) (by omega) (by omega) (Nat.lt_of_le_of_lt (Nat.le_trans Xl hlim) hlimit) r5;rw [r3,s3,hds] at hih;obtain ⟨pL,sL⟩:=S.pdq S.swo d4 (mid+1) b' (rd ltInt dk a' b' lim wb wp).lim true true (by omega) (by omega) r5;go_wp2_with (go_at_call 183;refine hih.mono ?_;rintro e w8 ⟨rfl,hw8⟩)
            go_roundg (mid - a')
            case measure=>omega
            case rel=>
             refine ⟨a',mid,(rd ltInt dk a' b' lim wb wp).lim,decide (b' - mid>=(b' - a') / 8),ap,pdq ltInt d4 (mid+1) b' (rd ltInt dk a' b' lim wb wp).lim true true,rfl,rfl,rfl,?_,rfl,by omega,by omega,Nat.le_refl _,by omega,Nat.le_trans Xl hlim,by rw [pL.1,r3,s3,hds],(r7 _ pL sL).1,hAt7.stepG hblk pL.1 hw8,?_⟩
             ·exact congrArg Value.bool (ZGM (by omega) (by omega))
             ·rw [<-A.out,ZFN h12 hl0 hp2 h87 (by rw [hx];exact ⟨r1,r2⟩) (by rw [hx];exact h4),hx]
          ·
           have h87':=h87;simp only [Bool.and_eq_true,decide_eq_true_eq,Bool.not_eq_true'] at h87';obtain ⟨mid,d4,hx⟩:∃ mid d4,partitionEqual ltInt (rd ltInt dk a' b' lim wb wp).pi.1 a' b' (rd ltInt dk a' b' lim wb wp).pivot=(mid,d4):=⟨(partitionEqual ltInt (rd ltInt dk a' b' lim wb wp).pi.1 a' b' (rd ltInt dk a' b' lim wb wp).pivot).1,(partitionEqual ltInt (rd ltInt dk a' b' lim wb wp).pi.1 a' b' (rd ltInt dk a' b' lim wb wp).pivot).2,rfl⟩
           obtain ⟨r1,r2,r3,r4,_⟩:=round_eq S.swo S.peq h87'.1 hpv.1 hpv.2 (show b'<=(rd ltInt dk a' b' lim wb wp).pi.1.size by omega) B3 h87'.2 hx;have hc21:=C.peq blk off cap a' b' (rd ltInt dk a' b' lim wb wp).pivot (rd ltInt dk a' b' lim wb wp).pi.1 wc hH6 hpv.1 hpv.2 (by omega) (by omega);rw [s3,hds,hx] at hc21;have X:Aside (partitionEqual ltInt (rd ltInt dk a' b' lim wb wp).pi.1 a' b' (rd ltInt dk a' b' lim wb wp).pivot=(mid,d4)):=hx;clear hx;go_wp2_with (go_at_call 230;refine hc21.mono ?_;rintro e w7 ⟨rfl,hw7⟩)
           go_roundg (b' - mid)
           case measure=>omega
           case rel=>
            have hx:=X.out;exact ⟨mid,b',(rd ltInt dk a' b' lim wb wp).lim,wb,wp,d4,rfl,rfl,rfl,rfl,rfl,r2,hb',Nat.le_refl _,by omega,Nat.le_trans Xl hlim,by rw [r3,s3,hds],r4,hAt6.step hblk r3 hw7,by rw [<-A.out,ZJS h12 hl0 hp2 h87 (by rw [hx];exact ⟨r1,r2⟩),hx]⟩
end
section
open Go.Sort Go.RowKit
theorem ZEi:Callees13 where
 ins:=UX
 brk:=UO
 piv:=Jj
 par:=XY
 peq:=XP
 prt:=VV
theorem ZIK:Plain13 where
 swo:=swo_ltInt
 ins:=insertionSort_holds
 par:=partialInsertionSort_holds
 prt:=partition_holds _
 peq:=partitionEqual_holds _
 pdq:=pdq_sorts _
theorem ZDj:Jc:=fun blk off cap a b limit d w hH hb hab hbd hsz hl hB=>
 ZCQ ZEi ZIK (b - a+1) blk off cap a b limit d w (by omega) hH hb hab hbd hsz hl hB
theorem ZCl (zs:List Int):Sort.sort ltInt zs.toArray=(zs.mergeSort fun x y=>decide (x<=y)).toArray:=by
 rw [<-sortInt zs]
theorem slices_Sort_int (blk off cap:Nat)(zs:List Int)(w:World)(hH:Holds (Value.int .u64) w blk off zs.toArray)(hblk:blk < w.heap.size)(hsz:zs.length < 4611686018427387904):
 Calls prog 133 #[.slice (some ⟨blk,off,none⟩) zs.length cap] w fun e w'=>
  e=.returned (.tuple #[])/\∃ n os,w'=grow (putRow (Value.int .u64) (Sort.ahead w n) blk off (zs.mergeSort fun x y=>decide (x<=y)).toArray) os:=by
 have h:=ZF3 ZDj blk off cap zs.toArray w hH hblk (by simpa using hsz);rw [ZCl] at h;simpa using h
end
end Go.Proofs.YteomliechfdhhaaGreatDoor.Srt
