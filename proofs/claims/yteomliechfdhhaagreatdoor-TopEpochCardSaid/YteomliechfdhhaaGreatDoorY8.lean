/- Part 8. -/
import Derived.Sort.LotD3
import Derived.Sort.LotD4
import Derived.Deep.RegionWith
import Derived.RowKit
import Derived.Sort.AtCall
import Derived.Test.YteomliechfdhhaaGreatDoorY5
import Derived.Deep.LoopGhost
import Derived.Sort.LotB
set_option maxHeartbeats 8000000
set_option maxRecDepth 20000
set_option linter.all false
namespace Go.Proofs.YteomliechfdhhaaGreatDoor.Srt
open Tryz
section
open Go.Sort Go.RowKit
abbrev one (s:Nat):Array Int:=#[(s:Int)]
theorem ZCP {w:World}{sb so s:Nat}(h:Holds (Value.int .i64) w sb so (one s)):w.cell? ⟨sb,so,none⟩=some (.int .i64 s)/\w.frozen? ⟨sb,so,none⟩=false:=by simpa using h 0 (by simp)
theorem ZIE {w:World}{sb so s:Nat}(h:Holds (Value.int .i64) w sb so (one s))(t:Nat):w.setCell ⟨sb,so,none⟩ (.int .i64 t)=putRow (Value.int .i64) w sb so (one t):=by
 have:=putRow_set (Value.int .i64) w sb so (one s) 0 (t:Int) (by simp);rw [putRow_self _ _ _ _ _ h] at this;simpa using this
theorem Y5 {w:World}{blk off sb so n t:Nat}{d:Array Int}(h:Holds (Value.int .u64) w blk off d)(hne:sb≠blk):Holds (Value.int .u64) (putRow (Value.int .i64) (Sort.ahead w n) sb so (one t)) blk off d:=fun j hj=>
 ⟨by rw [cell?_putRow_other _ _ _ _ _ _ (Or.inl (Ne.symm hne))];exact (h j hj).1,by rw [frozen?_putRow];exact (h j hj).2⟩
theorem Jy (w:World)(n m sb so s t:Nat):putRow (Value.int .i64) (Sort.ahead (putRow (Value.int .i64) (Sort.ahead w n) sb so (one s)) m) sb so (one t)=putRow (Value.int .i64) (Sort.ahead w (n+m)) sb so (one t):=
 putRow_ahead_putRow _ _ _ _ _ _ _ _ rfl
theorem UE (d:Array Int) (len:Nat) (hlen:d.size=len) (blk off cap a b sb so s:Nat) (w:World) (hH:Holds (Value.int .u64) w blk off d) (ha:a < d.size) (hb:b < d.size)
 (hS:Holds (Value.int .i64) w sb so (one s))(hs:s < 2 ^ 62):
 Calls prog 274 #[.slice (some ⟨blk,off,none⟩) len cap,.int .i64 a,.int .i64 b,.pointer (some ⟨sb,so,none⟩)] w fun e w'=>
  e=.returned (.tuple #[.int .i64 (order2 ltInt d a b s).1,.int .i64 (order2 ltInt d a b s).2.1])/\∃ n,w'=putRow (Value.int .i64) (Sort.ahead w n) sb so (one (order2 ltInt d a b s).2.2):=by
 subst hlen;replace hs:s < 4611686018427387904:=by omega
 have ca:=(hH a ha).1;have cb:=(hH b hb).1;obtain ⟨cs,fs⟩:=ZCP hS;have ea:d[a]! =d[a]:=getElem!_pos d a ha;have eb:d[b]! =d[b]:=getElem!_pos d b hb;go_in;go_wp2
 go_region_with (go_at_call 229;refine (ZL _ _ _).mono ?_;rintro e w' ⟨rfl,rfl⟩)
 all_goals (try go_wp2)
 all_goals first
  |(have hlt:ltInt d[b] d[a]=true:=by assumption
    have e2:order2 ltInt d a b s=(b,a,s+1):=by simp [order2,ea,eb,hlt]
    go_ret2
    rw [e2];refine ⟨rfl,1,?_⟩;rw [putRow_ahead,<-ZIE hS (s+1)];simp [drew_eq_ahead])
  |(have hlt:ltInt d[b] d[a]=false:=by assumption
    have e2:order2 ltInt d a b s=(a,b,s):=by simp [order2,ea,eb,hlt]
    go_ret2
    rw [e2];refine ⟨rfl,1,?_⟩;rw [putRow_ahead,putRow_self _ _ _ _ _ hS];rfl)
theorem ZAW (d:Array Int){a b n:Nat}(s:Nat)(ha:a < n)(hb:b < n):(order2 ltInt d a b s).1 < n/\(order2 ltInt d a b s).2.1 < n:=by
 have:=order2_mem ltInt d a b s;omega
theorem UZ (d:Array Int)(a b s:Nat):(order2 ltInt d a b s).2.2<=s+1:=by
 unfold order2;split <;> simp
theorem XF {w:World}{sb so s n t:Nat}(h:Holds (Value.int .i64) w sb so (one s)):Holds (Value.int .i64) (putRow (Value.int .i64) (Sort.ahead w n) sb so (one t)) sb so (one t):=
 holds_putRow _ _ _ _ (one s) (one t) (holds_ahead _ _ _ _ _ _ h) rfl
theorem QT (d:Array Int) (len:Nat) (hlen:d.size=len) (blk off cap a b c sb so s:Nat) (w:World) (hH:Holds (Value.int .u64) w blk off d) (ha:a < d.size) (hb:b < d.size) (hc:c < d.size) (hne:sb≠blk)
 (hS:Holds (Value.int .i64) w sb so (one s))(hs:s+3 < 2 ^ 62):
 Calls prog 258 #[.slice (some ⟨blk,off,none⟩) len cap,.int .i64 a,.int .i64 b,.int .i64 c,.pointer (some ⟨sb,so,none⟩)] w fun e w'=>
  e=.returned (.int .i64 (median ltInt d a b c s).1)/\∃ n,w'=putRow (Value.int .i64) (Sort.ahead w n) sb so (one (median ltInt d a b c s).2):=by
 subst hlen;have l1:=ZAW d s ha hb;have s1:=UZ d a b s;have l2:=ZAW d (order2 ltInt d a b s).2.2 l1.2 hc;have s2:=UZ d (order2 ltInt d a b s).2.1 c (order2 ltInt d a b s).2.2;go_in;go_wp2_with (go_at_call_of 274 (Value.int .i64 (b:Int));refine (UE d _ rfl blk off cap a b sb so s w hH ha hb hS (by omega)).mono ?_;rintro e w' ⟨rfl,n1,rfl⟩);go_wp2_with (go_at_call_of 274 (Value.int .i64 (c:Int));refine (UE d _ rfl blk off cap (order2 ltInt d a b s).2.1 c sb so (order2 ltInt d a b s).2.2 _ (Y5 hH hne) l1.2 hc (XF hS) (by omega)).mono ?_;rintro e w' ⟨rfl,n2,rfl⟩)
 go_wp2_with (go_at_call_of 274 (Value.int .i64 ((order2 ltInt d a b s).1:Int));refine (UE d _ rfl blk off cap (order2 ltInt d a b s).1 (order2 ltInt d (order2 ltInt d a b s).2.1 c (order2 ltInt d a b s).2.2).1 sb so (order2 ltInt d (order2 ltInt d a b s).2.1 c (order2 ltInt d a b s).2.2).2.2 _
  (Y5 (Y5 hH hne) hne) l1.1 l2.1 (XF (XF hS)) (by omega)).mono ?_;rintro e w' ⟨rfl,n3,rfl⟩)
 go_ret
 refine ⟨rfl,n1+(n2+n3),?_⟩;rw [Jy,Jy];rfl
theorem UB (d:Array Int) (len:Nat) (hlen:d.size=len) (blk off cap a sb so s:Nat) (w:World) (hH:Holds (Value.int .u64) w blk off d) (ha0:1<=a) (ha:a+1 < d.size) (hsz:d.size < 2 ^ 62) (hne:sb≠blk)
 (hS:Holds (Value.int .i64) w sb so (one s))(hs:s+3 < 2 ^ 62):
 Calls prog 257 #[.slice (some ⟨blk,off,none⟩) len cap,.int .i64 a,.pointer (some ⟨sb,so,none⟩)] w fun e w'=>
  e=.returned (.int .i64 (medianAdjacent ltInt d a s).1)/\∃ n,w'=putRow (Value.int .i64) (Sort.ahead w n) sb so (one (medianAdjacent ltInt d a s).2):=by
 subst hlen;replace hsz:d.size < 4611686018427387904:=by omega
 go_in;go_wp2_with (go_at_call 258;rw [show ((a:Int) - 1)=((a - 1:Nat):Int) by omega,show ((a:Int)+1)=((a+1:Nat):Int) by omega];refine (QT d _ rfl blk off cap (a - 1) a (a+1) sb so s w hH (by omega) (by omega) ha hne hS hs).mono ?_;rintro e w' ⟨rfl,n1,rfl⟩)
 go_ret
 exact ⟨rfl,n1,rfl⟩
theorem Yy {x y:Int}(h:(x == y)=true):x=y:=by simpa using h
theorem Yz {x y:Int}(h:(x == y)=false):x≠y:=by simpa using h
theorem ZA3 (w:World)(N S:Nat):∃ os,putRow (Value.int .i64) (Sort.ahead (w.alloc (.cells #[.int .i64 0] 3)) N) w.heap.size 0 (one S)=grow (Sort.ahead w N) os:=by
 rw [alloc_eq_grow,ahead_grow];obtain ⟨os,_,h⟩:=putRow_grow_new (Value.int .i64) (Sort.ahead w N) #[.cells #[.int .i64 0] 3] w.heap.size 0 (one S) (Nat.le_refl _);exact ⟨os,h⟩
theorem Jn (blk off cap:Nat)(d:Array Int)(w:World)(hH:Holds (Value.int .u64) w blk off d)(hblk:blk < w.heap.size)(hsz:d.size < 4611686018427387904):
 ∃ Wc:Nat->Nat->World,
  w.alloc (.cells #[.int .i64 0] 3)=Wc 0 0/\
  (∀ N S:Nat,(Wc N S).cell? ⟨w.heap.size,0,none⟩=some (.int .i64 (S:Int)))/\
  (∀ N S:Nat,∃ os,Wc N S=grow (Sort.ahead w N) os)/\
  (∀ x s N:Nat,1<=x->x+1 < d.size->s+3 < 4611686018427387904->Calls prog 257 #[.slice (some ⟨blk,off,none⟩) d.size cap,.int .i64 (x:Int),.pointer (some ⟨w.heap.size,0,none⟩)] (Wc N s) fun e w'=>
    e=.returned (.int .i64 ((medianAdjacent ltInt d x s).1:Int))/\∃ N',w'=Wc N' (medianAdjacent ltInt d x s).2)/\
  (∀ x y z s N:Nat,x < d.size->y < d.size->z < d.size->s+3 < 4611686018427387904->Calls prog 258 #[.slice (some ⟨blk,off,none⟩) d.size cap,.int .i64 (x:Int),.int .i64 (y:Int),.int .i64 (z:Int),.pointer (some ⟨w.heap.size,0,none⟩)] (Wc N s) fun e w'=>
    e=.returned (.int .i64 ((median ltInt d x y z s).1:Int))/\∃ N',w'=Wc N' (median ltInt d x y z s).2):=by
 have hne:w.heap.size≠blk:=by omega
 have hH0:Holds (Value.int .u64) (w.alloc (.cells #[.int .i64 0] 3)) blk off d:=by rw [alloc_eq_grow];exact holds_grow _ _ _ _ _ _ hblk hH
 have hS0:Holds (Value.int .i64) (w.alloc (.cells #[.int .i64 0] 3)) w.heap.size 0 (one 0):=fun j hj=>by
  obtain rfl:j=0:=by simpa using hj
  simp
 refine ⟨fun N S=>putRow (Value.int .i64) (Sort.ahead (w.alloc (.cells #[.int .i64 0] 3)) N) w.heap.size 0 (one S),(putRow_self _ _ _ _ _ hS0).symm,fun N S=>(ZCP (XF (n:=N) (t:=S) hS0)).1,fun N S=>ZA3 w N S,?_,?_⟩
 ·intro x s N h1 h2 hs
  refine (UB d _ rfl blk off cap x w.heap.size 0 s _ (Y5 hH0 hne) h1 h2 (by omega) hne (XF hS0) (by omega)).mono ?_;rintro e w' ⟨he,n,hw⟩;exact ⟨he,N+n,by rw [hw,Jy]⟩
 ·intro x y z s N h1 h2 h3 hs
  refine (QT d _ rfl blk off cap x y z w.heap.size 0 s _ (Y5 hH0 hne) h1 h2 h3 hne (XF hS0) (by omega)).mono ?_;rintro e w' ⟨he,n,hw⟩;exact ⟨he,N+n,by rw [hw,Jy]⟩
theorem Jj (blk off cap a b:Nat)(d:Array Int)(w:World)(hH:Holds (Value.int .u64) w blk off d)(hblk:blk < w.heap.size)(hab:a < b)(hb:b<=d.size)(hsz:d.size < 4611686018427387904):
 Calls prog 226 #[.slice (some ⟨blk,off,none⟩) d.size cap,.int .i64 a,.int .i64 b] w fun e w'=>
  e=.returned (.tuple #[.int .i64 (choosePivot ltInt d a b).1,.int .i64 (hintCode (choosePivot ltInt d a b).2)])/\∃ n os,w'=grow (Sort.ahead w n) os:=by
 obtain ⟨Wc,hW0,cS,hG,MA,MD⟩:=Jn blk off cap d w hH hblk hsz;clear hH;rw [choosePivot_eq];obtain ⟨I,hI⟩:∃ I:Nat,I=a+(b - a) / 4 * 1:=⟨_,rfl⟩
 obtain ⟨J,hJ⟩:∃ J:Nat,J=a+(b - a) / 4 * 2:=⟨_,rfl⟩
 obtain ⟨K,hK⟩:∃ K:Nat,K=a+(b - a) / 4 * 3:=⟨_,rfl⟩
 have eI:((a:Int)+((b:Int) - (a:Int)) / 4)=(I:Int):=by omega
 have eJ:((a:Int)+((b:Int) - (a:Int)) / 4 * 2)=(J:Int):=by omega
 have eK:((a:Int)+((b:Int) - (a:Int)) / 4 * 3)=(K:Int):=by omega
 by_cases h8:b - a>=8
 ·by_cases h50:b - a>=50
  ·
   obtain ⟨i1,s1,h1⟩:∃ i1 s1,medianAdjacent ltInt d I 0=(i1,s1):=⟨_,_,rfl⟩
   obtain ⟨j1,s2,h2⟩:∃ j1 s2,medianAdjacent ltInt d J s1=(j1,s2):=⟨_,_,rfl⟩
   obtain ⟨k1,s3,h3⟩:∃ k1 s3,medianAdjacent ltInt d K s2=(k1,s3):=⟨_,_,rfl⟩
   obtain ⟨p,s,h4⟩:∃ p s,median ltInt d i1 j1 k1 s3=(p,s):=⟨_,_,rfl⟩
   have hraw:rawPivot ltInt d a b=(p,s):=by simp only [rawPivot,if_pos h8,if_pos h50,<-hI,<-hJ,<-hK,h1,h2,h3,h4]
   have m1:=medianAdjacent_mem ltInt d I 0;rw [h1] at m1;have m2:=medianAdjacent_mem ltInt d J s1;rw [h2] at m2;have m3:=medianAdjacent_mem ltInt d K s2;rw [h3] at m3;have n1:=medianAdjacent_count ltInt d I 0;rw [h1] at n1;have n2:=medianAdjacent_count ltInt d J s1;rw [h2] at n2;have n3:=medianAdjacent_count ltInt d K s2;rw [h3] at n3;simp only [] at m1 m2 m3 n1 n2 n3;have c1:Calls prog 257 #[.slice (some ⟨blk,off,none⟩) d.size cap,.int .i64 (I:Int),.pointer (some ⟨w.heap.size,0,none⟩)] (Wc 0 0) fun e w'=>e=.returned (.int .i64 (i1:Int))/\∃ N',w'=Wc N' s1:=by
    have h:=MA I 0 0 (by omega) (by omega) (by omega);rw [h1] at h;exact h
   have c2:∀ N,Calls prog 257 #[.slice (some ⟨blk,off,none⟩) d.size cap,.int .i64 (J:Int),.pointer (some ⟨w.heap.size,0,none⟩)] (Wc N s1) fun e w'=>e=.returned (.int .i64 (j1:Int))/\∃ N',w'=Wc N' s2:=fun N=>by
    have h:=MA J s1 N (by omega) (by omega) (by omega);rw [h2] at h;exact h
   have c3:∀ N,Calls prog 257 #[.slice (some ⟨blk,off,none⟩) d.size cap,.int .i64 (K:Int),.pointer (some ⟨w.heap.size,0,none⟩)] (Wc N s2) fun e w'=>e=.returned (.int .i64 (k1:Int))/\∃ N',w'=Wc N' s3:=fun N=>by
    have h:=MA K s2 N (by omega) (by omega) (by omega);rw [h3] at h;exact h
   have c4:∀ N,Calls prog 258 #[.slice (some ⟨blk,off,none⟩) d.size cap,.int .i64 (i1:Int),.int .i64 (j1:Int),.int .i64 (k1:Int),.pointer (some ⟨w.heap.size,0,none⟩)] (Wc N s3) fun e w'=>e=.returned (.int .i64 (p:Int))/\∃ N',w'=Wc N' s:=fun N=>by
    have h:=MD i1 j1 k1 s3 N (by omega) (by omega) (by omega) (by omega);rw [h4] at h;exact h
   rw [hraw];obtain ⟨Hc,hHc⟩:∃ Hc:Int,Hc=hintCode (hintOf s):=⟨_,rfl⟩
   have hh0:s=0->Hc=1:=fun h=>by rw [hHc,h];rfl
   have hh12:s=12->Hc=2:=fun h=>by rw [hHc,h];rfl
   have hhx:s≠0->s≠12->Hc=0:=fun h1 h2=>by rw [hHc];unfold hintOf;rw [if_neg h1,if_neg h2];rfl
   show Calls prog 226 _ w fun e w'=>e=.returned (.tuple #[.int .i64 (p:Int),.int .i64 (hintCode (hintOf s))])/\∃ n os,w'=grow (Sort.ahead w n) os
   rw [<-hHc];clear hHc hraw;clear h1 h2 h3 h4 MA MD hI hJ hK m1 m2 m3;go_in
   go_wp2_with (first
    |(go_at_call_has 257 (Value.int .i64 (I:Int));refine c1.mono ?_;rintro e w' ⟨rfl,N1,rfl⟩)
    |(go_at_call_has 257 (Value.int .i64 (J:Int));refine (c2 _).mono ?_;rintro e w' ⟨rfl,N2,rfl⟩)
    |(go_at_call_has 257 (Value.int .i64 (K:Int));refine (c3 _).mono ?_;rintro e w' ⟨rfl,N3,rfl⟩)
    |(go_at_call 258;refine (c4 _).mono ?_;rintro e w' ⟨rfl,N4,rfl⟩))
   all_goals
    go_ret2
    refine ⟨?_,_,hG _ _⟩
    first
     |(have e0:(s:Int)=0:=Yy (by assumption)
       rw [hh0 (by omega)];rfl)
     |(have e1:(s:Int)=12:=Yy (by assumption)
       rw [hh12 (by omega)];rfl)
     |(have e0:(s:Int)≠0:=Yz (by assumption)
       have e1:(s:Int)≠12:=Yz (by assumption);rw [hhx (by omega) (by omega)];rfl)
     |(rw [hh0 (by omega)];rfl)
  ·
   obtain ⟨p,s,h4⟩:∃ p s,median ltInt d I J K 0=(p,s):=⟨_,_,rfl⟩
   have hraw:rawPivot ltInt d a b=(p,s):=by simp only [rawPivot,if_pos h8,if_neg h50,<-hI,<-hJ,<-hK,h4]
   have c4:Calls prog 258 #[.slice (some ⟨blk,off,none⟩) d.size cap,.int .i64 (I:Int),.int .i64 (J:Int),.int .i64 (K:Int),.pointer (some ⟨w.heap.size,0,none⟩)] (Wc 0 0) fun e w'=>e=.returned (.int .i64 (p:Int))/\∃ N',w'=Wc N' s:=by
    have h:=MD I J K 0 0 (by omega) (by omega) (by omega) (by omega);rw [h4] at h;exact h
   rw [hraw];obtain ⟨Hc,hHc⟩:∃ Hc:Int,Hc=hintCode (hintOf s):=⟨_,rfl⟩
   have hh0:s=0->Hc=1:=fun h=>by rw [hHc,h];rfl
   have hh12:s=12->Hc=2:=fun h=>by rw [hHc,h];rfl
   have hhx:s≠0->s≠12->Hc=0:=fun h1 h2=>by rw [hHc];unfold hintOf;rw [if_neg h1,if_neg h2];rfl
   show Calls prog 226 _ w fun e w'=>e=.returned (.tuple #[.int .i64 (p:Int),.int .i64 (hintCode (hintOf s))])/\∃ n os,w'=grow (Sort.ahead w n) os
   rw [<-hHc];clear hHc hraw;clear h4 MA MD hI hJ hK;go_in;go_wp2_with (first|(go_at_call 258;refine c4.mono ?_;rintro e w' ⟨rfl,N4,rfl⟩))
   all_goals
    go_ret2
    refine ⟨?_,_,hG _ _⟩
    first
     |(have e0:(s:Int)=0:=Yy (by assumption)
       rw [hh0 (by omega)];rfl)
     |(have e1:(s:Int)=12:=Yy (by assumption)
       rw [hh12 (by omega)];rfl)
     |(have e0:(s:Int)≠0:=Yz (by assumption)
       have e1:(s:Int)≠12:=Yz (by assumption);rw [hhx (by omega) (by omega)];rfl)
     |(rw [hh0 (by omega)];rfl)
 ·
  obtain ⟨p,hp⟩:∃ p:Nat,p=J:=⟨_,rfl⟩
  obtain ⟨s,hs⟩:∃ s:Nat,s=0:=⟨_,rfl⟩
  have hraw:rawPivot ltInt d a b=(p,s):=by simp only [rawPivot,if_neg h8,<-hJ,hp,hs]
  rw [hraw];obtain ⟨Hc,hHc⟩:∃ Hc:Int,Hc=hintCode (hintOf s):=⟨_,rfl⟩
  have hh0:s=0->Hc=1:=fun h=>by rw [hHc,h];rfl
  have hh12:s=12->Hc=2:=fun h=>by rw [hHc,h];rfl
  have hhx:s≠0->s≠12->Hc=0:=fun h1 h2=>by rw [hHc];unfold hintOf;rw [if_neg h1,if_neg h2];rfl
  show Calls prog 226 _ w fun e w'=>e=.returned (.tuple #[.int .i64 (p:Int),.int .i64 (hintCode (hintOf s))])/\∃ n os,w'=grow (Sort.ahead w n) os
  rw [<-hHc];clear hHc hraw;subst hp;clear MA MD hI hJ hK;have hW0':w.alloc (.cells #[.int .i64 0] 3)=Wc 0 s:=by rw [hs];exact hW0
  clear hW0;go_in;go_wp2
  all_goals
   go_ret2
   refine ⟨?_,_,hG _ _⟩
   first
    |(have e0:(s:Int)=0:=Yy (by assumption)
      rw [hh0 (by omega)];rfl)
    |(have e1:(s:Int)=12:=Yy (by assumption)
      rw [hh12 (by omega)];rfl)
    |(have e0:(s:Int)≠0:=Yz (by assumption)
      have e1:(s:Int)≠12:=Yz (by assumption);rw [hhx (by omega) (by omega)];rfl)
    |(rw [hh0 (by omega)];rfl)
abbrev Zd:Int->Value:=fun x=>Value.int .u64 x
theorem Y2 {α:Type} [Inhabited α] (enc:α->Value) {w wr:World} {n blk off:Nat} {dk:Array α} {i j:Nat} (hi:i < dk.size) (hj:j < dk.size) (hwr:wr=putRow enc (Sort.ahead w n) blk off dk)
 {x y:Value} (hx:x=enc dk[j]!) (hy:y=enc dk[i]!):((wr.setCell ⟨blk,off+i,none⟩ x).setCell ⟨blk,off+j,none⟩ y).drew=putRow enc (Sort.ahead w (n+1)) blk off (swp dk i j):=by
 subst hwr;subst hx;subst hy;rw [putRow_swp enc _ blk off dk i j hi hj,<-ahead_drew];rfl
theorem JI (blk off cap:Nat)(d:Array Int)(a b:Nat)(w:World)(hH:Holds Zd w blk off d)(hab:a<=b)(hb:b<=d.size)(hsz:d.size < 4611686018427387904):
 Calls prog 227 #[.slice (some ⟨blk,off,none⟩) d.size cap,.int .i64 a,.int .i64 b] w fun e w'=>e=.returned (.tuple #[])/\∃ n,w'=putRow Zd (Sort.ahead w n) blk off (reverseRange d a b):=by
 go_in;go_wp2
 go_loopg [6,7] (b - a) (fun k s6 s7 wr=>∃ (i jn:Nat) (jz:Int) (dk:Array Int) (n:Nat),s6=.int .i64 i/\s7=.int .i64 jz/\((i:Int) < jz->jz=jn/\jn < d.size)/\(¬ (i:Int) < jz->¬ i < jn)/\jn - i<=k/\
  dk.size=d.size/\wr=putRow Zd (Sort.ahead w n) blk off dk/\reverseLoop i jn dk=reverseLoop a (b - 1) d)
 case atStart=>exact ⟨a,b - 1,(b:Int) - 1,d,0,rfl,rfl,fun h=>⟨by omega,by omega⟩,fun h=>by omega,by omega,rfl,(putRow_self Zd w blk off d hH).symm,rfl⟩
 case round=>
  obtain ⟨i,jn,jz,dk,n,rfl,rfl,h1,h2,hk,hds,hwr,heq⟩:=hrel
  by_cases hlt:(i:Int) < jz
  ·obtain ⟨rfl,hjn⟩:=h1 hlt
   have hij:i < jn:=by omega
   have hHk:Holds Zd wr blk off dk:=by rw [hwr];exact holds_putRow Zd _ blk off d dk (holds_ahead Zd w n blk off d hH) hds
   obtain ⟨ci,fi⟩:=hHk i (by omega);obtain ⟨cj,fj⟩:=hHk jn (by omega);have A:Aside (wr=putRow Zd (Sort.ahead w n) blk off dk):=hwr;clear hwr hHk hH h1 h2;go_wp2_with fail
   go_region
   go_wp2
   go_roundg (jn - 1 - (i+1))
   case measure=>omega
   case rel=>
    rw [reverseLoop,if_pos hij] at heq
    exact ⟨i+1,jn - 1,(jn:Int) - 1,swp dk i jn,n+1,by simp,rfl,fun h=>⟨by omega,by omega⟩,fun h=>by omega,Nat.le_refl _,by rw [size_swp];exact hds,
     Y2 Zd (by omega) (by omega) A.out (by simp [Zd,getElem!_pos,show jn < dk.size by omega]) rfl,heq⟩
  ·have hnot:=h2 hlt
   go_wp2
   go_end0
   refine ⟨rfl,n,?_⟩;rw [reverseLoop,if_neg hnot] at heq;rw [reverseRange,<-heq]
variable {α:Type} [Inhabited α] (lt:α->α->Bool)
theorem ZJe {hi F root:Nat}(d:Array α)(h:hi<=2 * root+1):siftDown lt hi F root d=d:=by rw [siftDown,dif_pos h]
theorem Q4 {hi F root:Nat}(d:Array α)(h1:2 * root+2 < hi)(h2:lt d[F+(2 * root+1)]! d[F+(2 * root+2)]! =true)(h3:lt d[F+root]! d[F+(2 * root+2)]! =false):siftDown lt hi F root d=d:=by
 rw [siftDown,dif_neg (by omega),show F+(2 * root+1)+1=F+(2 * root+2) by omega,h2,h3];simp [show 2 * root+1+1 < hi by omega]
theorem ZCd {hi F root:Nat}(d:Array α)(h1:2 * root+2 < hi)(h2:lt d[F+(2 * root+1)]! d[F+(2 * root+2)]! =true)(h3:lt d[F+root]! d[F+(2 * root+2)]! =true):
 siftDown lt hi F root d=siftDown lt hi F (2 * root+2) (swp d (F+root) (F+(2 * root+2))):=by
 rw [siftDown,dif_neg (by omega),show F+(2 * root+1)+1=F+(2 * root+2) by omega,h2,h3];simp [show 2 * root+1+1 < hi by omega]
theorem Ug {hi F root:Nat}(d:Array α)(h0:2 * root+1 < hi)(h1:2 * root+2 < hi->lt d[F+(2 * root+1)]! d[F+(2 * root+2)]! =false)(h3:lt d[F+root]! d[F+(2 * root+1)]! =false):siftDown lt hi F root d=d:=by
 rw [siftDown,dif_neg (by omega),show F+(2 * root+1)+1=F+(2 * root+2) by omega,h3]
 by_cases h:2 * root+2 < hi
 ·simp [h1 h]
 ·simp [show ¬ 2 * root+1+1 < hi by omega]
theorem Qe {hi F root:Nat}(d:Array α)(h0:2 * root+1 < hi)(h1:2 * root+2 < hi->lt d[F+(2 * root+1)]! d[F+(2 * root+2)]! =false)(h3:lt d[F+root]! d[F+(2 * root+1)]! =true):
 siftDown lt hi F root d=siftDown lt hi F (2 * root+1) (swp d (F+root) (F+(2 * root+1))):=by
 rw [siftDown,dif_neg (by omega),show F+(2 * root+1)+1=F+(2 * root+2) by omega,h3]
 by_cases h:2 * root+2 < hi
 ·simp [h1 h]
 ·simp [show ¬ 2 * root+1+1 < hi by omega]
theorem Z3 {α:Type} [Inhabited α] (enc:α->Value){w wr:World}{n blk off:Nat}{dk:Array α}(hwr:wr=putRow enc (Sort.ahead w n) blk off dk)(m:Nat):wr.drewN m=putRow enc (Sort.ahead w (n+m)) blk off dk:=by
 subst hwr;rw [<-ahead_ahead];rfl
theorem X8 (blk off len cap:Nat)(d:Array Int)(hlen:d.size=len)(lo hi first:Nat)(w:World)(hH:Holds Zd w blk off d)(hlo:lo<=hi)(hb:first+hi<=d.size)(hsz:d.size < 4611686018427387904):
 Calls prog 254 #[.slice (some ⟨blk,off,none⟩) len cap,.int .i64 lo,.int .i64 hi,.int .i64 first] w fun e w'=>e=.returned (.tuple #[])/\∃ n,w'=putRow Zd (Sort.ahead w n) blk off (siftDown ltInt hi first lo d):=by
 subst hlen;go_in;go_wp2
 go_loopg [8] (hi - lo) (fun k s8 wr=>∃ (root:Nat) (dk:Array Int) (n:Nat),s8=.int .i64 root/\root<=hi/\hi - root<=k/\dk.size=d.size/\wr=putRow Zd (Sort.ahead w n) blk off dk/\siftDown ltInt hi first root dk=siftDown ltInt hi first lo d)
 case atStart=>exact ⟨lo,d,0,rfl,hlo,Nat.le_refl _,rfl,(putRow_self Zd w blk off d hH).symm,rfl⟩
 case round=>
  obtain ⟨root,dk,n,rfl,hr,hk,hds,hwr,heq⟩:=hrel;have hHk:Holds Zd wr blk off dk:=by rw [hwr];exact holds_putRow Zd _ blk off d dk (holds_ahead Zd w n blk off d hH) hds
  have hcw:∀ t,t < d.size->wr.cell? ⟨blk,off+t,none⟩=some (.int .u64 dk[t]!):=fun t ht=>(hHk t (by omega)).1
  have hfw:∀ t,t < d.size->wr.frozen? ⟨blk,off+t,none⟩=false:=fun t ht=>(hHk t (by omega)).2
  have A:Aside (wr=putRow Zd (Sort.ahead w n) blk off dk):=hwr;clear hwr hH hHk
  by_cases h0:hi<=2 * root+1
  ·
   have h0z:(hi:Int)<=2 * (root:Int)+1:=by omega
   go_wp2
   go_end0
   refine ⟨rfl,n,?_⟩;rw [A.out,<-heq,ZJe ltInt dk h0]
  ·
   have h0z:¬ ((hi:Int)<=2 * (root:Int)+1):=by omega
   by_cases h1:2 * root+2 < hi
   ·have h1z:2 * (root:Int)+1+1 < (hi:Int):=by omega
    go_wp2_with fail
    go_big_quiet (first|(go_at_call 229;refine Calls.quiet_of_same (ZL _ _ _)))
    go_wp2_with fail
    ·
     have hL:ltInt dk[first+2 * root+1]! dk[first+2 * root+2]! =true:=by assumption
     revert nq;intro nq1
     have hcw2:∀ t,t < d.size->(wr.drewN nq1).cell? ⟨blk,off+t,none⟩=some (.int .u64 dk[t]!):=hcw;have hfw2:∀ t,t < d.size->(wr.drewN nq1).frozen? ⟨blk,off+t,none⟩=false:=hfw;have A2:Aside (wr.drewN nq1=putRow Zd (Sort.ahead w (n+nq1)) blk off dk):=Z3 Zd A.out nq1;clear hcw hfw A;generalize wr.drewN nq1=wr2 at hcw2 hfw2 A2 ⊢
     go_big_quiet (first|(go_at_call 229;refine Calls.quiet_of_same (ZL _ _ _)))
     go_wp2_with fail
     ·
      have hS:ltInt dk[first+root]! dk[first+2 * root+2]! =false:=by
       have:(!ltInt dk[first+root]! dk[first+2 * root+2]!)=true:=by assumption
       simpa using this
      (try simp only [Exit.inBlock,Exit.then]);refine bodyPost_ret (results_none rfl _ _ _) rfl ?_
      refine ⟨rfl,n+nq1+nq,?_⟩;rw [Z3 Zd A2.out nq,<-heq,Q4 ltInt dk h1 hL hS]
     ·
      have hG:ltInt dk[first+root]! dk[first+2 * root+2]! =true:=by
       have:(!ltInt dk[first+root]! dk[first+2 * root+2]!)=false:=by assumption
       simpa using this
      have hcw3:∀ t,t < d.size->(wr2.drewN nq).cell? ⟨blk,off+t,none⟩=some (.int .u64 dk[t]!):=hcw2;have hfw3:∀ t,t < d.size->(wr2.drewN nq).frozen? ⟨blk,off+t,none⟩=false:=hfw2;have A3:Aside (wr2.drewN nq=putRow Zd (Sort.ahead w (n+nq1+nq)) blk off dk):=Z3 Zd A2.out nq;clear hcw2 hfw2 A2;generalize wr2.drewN nq=wr3 at hcw3 hfw3 A3 ⊢
      go_region
      go_wp2
      go_roundg (hi - (2 * root+2))
      case measure=>omega
      case rel=>
       refine ⟨2 * root+2,swp dk (first+root) (first+(2 * root+1+1)),n+nq1+nq+1,by simp <;> omega,by omega,Nat.le_refl _,by rw [size_swp];exact hds,Y2 Zd (by omega) (by omega) A3.out rfl rfl,?_⟩;rw [<-heq,ZCd ltInt dk h1 hL hG]
    ·
     have hL:ltInt dk[first+2 * root+1]! dk[first+2 * root+2]! =false:=by assumption
     revert nq;intro nq1
     have hcw2:∀ t,t < d.size->(wr.drewN nq1).cell? ⟨blk,off+t,none⟩=some (.int .u64 dk[t]!):=hcw;have hfw2:∀ t,t < d.size->(wr.drewN nq1).frozen? ⟨blk,off+t,none⟩=false:=hfw;have A2:Aside (wr.drewN nq1=putRow Zd (Sort.ahead w (n+nq1)) blk off dk):=Z3 Zd A.out nq1;clear hcw hfw A;generalize wr.drewN nq1=wr2 at hcw2 hfw2 A2 ⊢
     go_big_quiet (first|(go_at_call 229;refine Calls.quiet_of_same (ZL _ _ _)))
     go_wp2_with fail
     ·
      have hS:ltInt dk[first+root]! dk[first+2 * root+1]! =false:=by
       have:(!ltInt dk[first+root]! dk[first+2 * root+1]!)=true:=by assumption
       simpa using this
      (try simp only [Exit.inBlock,Exit.then]);refine bodyPost_ret (results_none rfl _ _ _) rfl ?_
      refine ⟨rfl,n+nq1+nq,?_⟩;rw [Z3 Zd A2.out nq,<-heq,Ug ltInt dk (by omega) (fun _=>hL) hS]
     ·
      have hG:ltInt dk[first+root]! dk[first+2 * root+1]! =true:=by
       have:(!ltInt dk[first+root]! dk[first+2 * root+1]!)=false:=by assumption
       simpa using this
      have hcw3:∀ t,t < d.size->(wr2.drewN nq).cell? ⟨blk,off+t,none⟩=some (.int .u64 dk[t]!):=hcw2;have hfw3:∀ t,t < d.size->(wr2.drewN nq).frozen? ⟨blk,off+t,none⟩=false:=hfw2;have A3:Aside (wr2.drewN nq=putRow Zd (Sort.ahead w (n+nq1+nq)) blk off dk):=Z3 Zd A2.out nq;clear hcw2 hfw2 A2;generalize wr2.drewN nq=wr3 at hcw3 hfw3 A3 ⊢
      go_region
      go_wp2
      go_roundg (hi - (2 * root+1))
      case measure=>omega
      case rel=>
       refine ⟨2 * root+1,swp dk (first+root) (first+(2 * root+1)),n+nq1+nq+1,by simp <;> omega,by omega,Nat.le_refl _,by rw [size_swp];exact hds,Y2 Zd (by omega) (by omega) A3.out rfl rfl,?_⟩;rw [<-heq,Qe ltInt dk (by omega) (fun _=>hL) hG]
   ·
    have h1z:decide (2 * (root:Int)+1+1 < (hi:Int))=false:=decide_eq_false (by omega);go_wp2_with fail
    go_big_quiet (first|(go_at_call 229;refine Calls.quiet_of_same (ZL _ _ _)))
    go_wp2_with fail
    revert nq;intro nq1
    have hcw2:∀ t,t < d.size->(wr.drewN nq1).cell? ⟨blk,off+t,none⟩=some (.int .u64 dk[t]!):=hcw;have hfw2:∀ t,t < d.size->(wr.drewN nq1).frozen? ⟨blk,off+t,none⟩=false:=hfw;have A2:Aside (wr.drewN nq1=putRow Zd (Sort.ahead w (n+nq1)) blk off dk):=Z3 Zd A.out nq1;clear hcw hfw A;generalize wr.drewN nq1=wr2 at hcw2 hfw2 A2 ⊢
    go_big_quiet (first|(go_at_call 229;refine Calls.quiet_of_same (ZL _ _ _)))
    go_wp2_with fail
    ·
     have hS:ltInt dk[first+root]! dk[first+2 * root+1]! =false:=by
      have:(!ltInt dk[first+root]! dk[first+2 * root+1]!)=true:=by assumption
      simpa using this
     (try simp only [Exit.inBlock,Exit.then]);refine bodyPost_ret (results_none rfl _ _ _) rfl ?_
     refine ⟨rfl,n+nq1+nq,?_⟩;rw [Z3 Zd A2.out nq,<-heq,Ug ltInt dk (by omega) (fun h=>absurd h h1) hS]
    ·
     have hG:ltInt dk[first+root]! dk[first+2 * root+1]! =true:=by
      have:(!ltInt dk[first+root]! dk[first+2 * root+1]!)=false:=by assumption
      simpa using this
     have hcw3:∀ t,t < d.size->(wr2.drewN nq).cell? ⟨blk,off+t,none⟩=some (.int .u64 dk[t]!):=hcw2;have hfw3:∀ t,t < d.size->(wr2.drewN nq).frozen? ⟨blk,off+t,none⟩=false:=hfw2;have A3:Aside (wr2.drewN nq=putRow Zd (Sort.ahead w (n+nq1+nq)) blk off dk):=Z3 Zd A2.out nq;clear hcw2 hfw2 A2;generalize wr2.drewN nq=wr3 at hcw3 hfw3 A3 ⊢
     go_region
     go_wp2
     go_roundg (hi - (2 * root+1))
     case measure=>omega
     case rel=>
      refine ⟨2 * root+1,swp dk (first+root) (first+(2 * root+1)),n+nq1+nq+1,by simp <;> omega,by omega,Nat.le_refl _,by rw [size_swp];exact hds,Y2 Zd (by omega) (by omega) A3.out rfl rfl,?_⟩;rw [<-heq,Qe ltInt dk (by omega) (fun h=>absurd h h1) hG]
variable {α:Type} [Inhabited α] (lt:α->α->Bool)
theorem Zx (hi F:Nat):∀ (n root:Nat) (d:Array α),hi - root<=n->(siftDown lt hi F root d).size=d.size:=by
 intro n
 induction n with
 |zero=>intro root d h;rw [siftDown,dif_pos (by omega)]
 |succ n ih=>
  intro root d h;rw [siftDown];split
  ·rfl
  ·split
   ·split
    ·rfl
    ·split
     ·rw [ih _ _ (by omega),size_swp]
     ·rfl
   ·split
    ·rfl
    ·rw [ih _ _ (by omega),size_swp]
theorem ZDV {a b:Nat}(hab:a<=b):((b:Int) - (a:Int) - 1).tdiv 2=(((b - a - 1) / 2+1:Nat):Int) - 1:=by
 by_cases h:a=b
 ·subst h
  have:((a:Int) - (a:Int) - 1)=-1:=by omega
  rw [this];simp
 ·rw [Int.tdiv_eq_ediv_of_nonneg (by omega)]
  omega
theorem ZBD (blk off len cap:Nat)(d:Array Int)(hlen:d.size=len)(a b:Nat)(w:World)(hH:Holds Zd w blk off d)(hab:a<=b)(hb:b<=d.size)(hsz:d.size < 4611686018427387904):
 Calls prog 224 #[.slice (some ⟨blk,off,none⟩) len cap,.int .i64 a,.int .i64 b] w fun e w'=>e=.returned (.tuple #[])/\∃ n,w'=putRow Zd (Sort.ahead w n) blk off (heapSort ltInt d a b):=by
 subst hlen;have ecast:((b - a:Nat):Int)=(b:Int) - (a:Int):=by omega
 go_in;go_wp2
 go_loopg [9] ((b - a - 1) / 2+1) (fun k s9 wr=>s9=.int .i64 ((k:Int) - 1)/\k<=(b - a - 1) / 2+1/\∃ (dk:Array Int) (n:Nat),dk.size=d.size/\wr=putRow Zd (Sort.ahead w n) blk off dk/\
  heapBuild ltInt (b - a) a k dk=heapBuild ltInt (b - a) a ((b - a - 1) / 2+1) d)
 case atStart=>exact ⟨by rw [ZDV hab],Nat.le_refl _,d,0,rfl,(putRow_self Zd w blk off d hH).symm,rfl⟩
 case round=>
  obtain ⟨rfl,hkk,dk,n,hds,hwr,heq⟩:=hrel;have hHk:Holds Zd wr blk off dk:=by rw [hwr];exact holds_putRow Zd _ blk off d dk (holds_ahead Zd w n blk off d hH) hds
  have A:Aside (wr=putRow Zd (Sort.ahead w n) blk off dk):=hwr;clear hwr;cases gk with
  |zero=>
   have hB:dk=heapBuild ltInt (b - a) a ((b - a - 1) / 2+1) d:=heq;clear heq hHk hkk;go_wp2
   go_loopg [10] (b - a) (fun k s10 wr2=>s10=.int .i64 ((k:Int) - 1)/\k<=b - a/\∃ (dj:Array Int) (n2:Nat),dj.size=d.size/\wr2=putRow Zd (Sort.ahead w n2) blk off dj/\heapPop ltInt a k dj=heapPop ltInt a (b - a) dk)
   case atStart=>exact ⟨by rw [ecast],Nat.le_refl _,dk,n,hds,A.out,rfl⟩
   case round=>
    obtain ⟨rfl,hkk,dj,n2,hdj,hwr2,heq2⟩:=hrel;cases gk with
    |zero=>
     go_wp2
     go_end0
     refine ⟨rfl,n2,?_⟩;have e:dj=heapSort ltInt d a b:=by rw [heapSort,<-hB,<-heq2];rfl
     rw [<-e]
    |succ k=>
     have hHj:Holds Zd wr blk off dj:=by rw [hwr2];exact holds_putRow Zd _ blk off d dj (holds_ahead Zd w n2 blk off d hH) hdj
     have hcw:∀ t,t < d.size->wr.cell? ⟨blk,off+t,none⟩=some (.int .u64 dj[t]!):=fun t ht=>(hHj t (by omega)).1
     have hfw:∀ t,t < d.size->wr.frozen? ⟨blk,off+t,none⟩=false:=fun t ht=>(hHj t (by omega)).2
     have A2:Aside (wr=putRow Zd (Sort.ahead w n2) blk off dj):=hwr2;clear hwr2 hHj;rcases Nat.eq_zero_or_pos k with hk0|hkp
     ·subst hk0
      go_wp2_with fail
      go_region
      go_wp2_with fail;rw [Y2 Zd (i:=a) (j:=a) (by omega) (by omega) A2.out rfl rfl];refine (X8 blk off d.size cap (swp dj a (a)) (by rw [size_swp];exact hdj) 0 0 a _ (holds_putRow Zd _ blk off d _ (holds_ahead Zd w (n2+1) blk off d hH) (by rw [size_swp];exact hdj)) (Nat.zero_le _) (by rw [size_swp];omega) (by rw [size_swp];omega)).mono ?_;rintro e w1 ⟨rfl,m,hw1⟩;go_wp2
      go_roundg 0
      case measure=>omega
      case rel=>
       refine ⟨by simp,by omega,siftDown ltInt 0 a 0 (swp dj a (a)),n2+1+m,by rw [Zx ltInt _ _ _ _ _ (Nat.le_refl _),size_swp];exact hdj,?_,heq2⟩
       first
        |rw [hw1,putRow_ahead_putRow Zd w (n2+1) m blk off _ _ (Zx ltInt _ _ _ _ _ (Nat.le_refl _))]
        |rw [putRow_ahead_putRow Zd w (n2+1) m blk off _ _ (Zx ltInt _ _ _ _ _ (Nat.le_refl _))]
     ·skip
      go_wp2_with fail
      go_region
      go_wp2_with fail;rw [Y2 Zd (i:=a) (j:=a+k) (by omega) (by omega) A2.out rfl rfl];refine (X8 blk off d.size cap (swp dj a (a+k)) (by rw [size_swp];exact hdj) 0 k a _ (holds_putRow Zd _ blk off d _ (holds_ahead Zd w (n2+1) blk off d hH) (by rw [size_swp];exact hdj)) (Nat.zero_le _) (by rw [size_swp];omega) (by rw [size_swp];omega)).mono ?_;rintro e w1 ⟨rfl,m,hw1⟩;go_wp2
      go_roundg k
      case measure=>omega
      case rel=>
       refine ⟨by simp,by omega,siftDown ltInt k a 0 (swp dj a (a+k)),n2+1+m,by rw [Zx ltInt _ _ _ _ _ (Nat.le_refl _),size_swp];exact hdj,?_,heq2⟩
       first
        |rw [hw1,putRow_ahead_putRow Zd w (n2+1) m blk off _ _ (Zx ltInt _ _ _ _ _ (Nat.le_refl _))]
        |rw [putRow_ahead_putRow Zd w (n2+1) m blk off _ _ (Zx ltInt _ _ _ _ _ (Nat.le_refl _))]
  |succ k=>
   have hcall:=X8 blk off d.size cap dk hds k (b - a) a wr hHk (by omega) (by omega) (by omega);rw [ecast] at hcall;go_wp2_with (go_at_call 254;refine hcall.mono ?_;rintro e w1 ⟨rfl,m,hw1⟩)
   go_roundg k
   case measure=>omega
   case rel=>
    refine ⟨by simp,by omega,siftDown ltInt (b - a) a k dk,n+m,by rw [Zx ltInt _ _ _ _ _ (Nat.le_refl _)];exact hds,?_,heq⟩;rw [A.out,putRow_ahead_putRow Zd w n m blk off dk _ (Zx ltInt _ _ _ _ _ (Nat.le_refl _))]
end
end Go.Proofs.YteomliechfdhhaaGreatDoor.Srt
