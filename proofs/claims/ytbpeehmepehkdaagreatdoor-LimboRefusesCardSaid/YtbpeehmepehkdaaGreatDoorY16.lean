/- Part 16. -/
import Derived.Test.YtbpeehmepehkdaaGreatDoorY15
set_option maxHeartbeats 8000000
set_option maxRecDepth 20000
set_option linter.all false
namespace Go.Proofs.YtbpeehmepehkdaaGreatDoor.Dv
open Tryz
section
open Go.RowKit Go.Proofs.YtbpeehmepehkdaaGreatDoor.Size
variable {w:World}{A:DAd}{F:Nat->Option ZM}{L:Nat}{T c:Nat->Nat}
theorem ZAX (hT:NTab w T){b:Blk}(hb:b.Good):Calls prog 259 #[bkV b] w fun e w'=>e=.returned (.int .u64 (Zc T b.info))/\Bl w w':=by
 have hg:=hb.gen;have hk:=hb.kind_lt;have hst:=hb.st_lt;have HS:=zh (fun w1 (h:Bl w w1)=>U1 (hT.below h nR) hb.info_lt);obtain ⟨S,hS⟩:=xE (Zc T b.info);rw [<-hS] at HS ⊢;unfold Blk.info at HS;unfold bkV;obtain ⟨g,k,s⟩:=b;simp only at hg hk hst HS ⊢;have e1:bits .or .u32 (g:Int) ((k:Int) * 65536)=((g+k * 65536:Nat):Int):=by
  have:=u32_or_nat g (k * 2 ^ 16) (by omega) (by omega);rw [XW (by omega)] at this;rw [<-this];congr 1
 have e2:bits .or .u32 ((g+k * 65536:Nat):Int) ((s:Int) * 16777216)=((g+k * 65536+s * 16777216:Nat):Int):=by
  have:=u32_or_nat (g+k * 65536) (s * 2 ^ 24) (by omega) (by omega);rw [XW (by omega)] at this;rw [<-this];congr 1
 rw [<-e2,<-e1] at HS;have b1:(g:Int) < 65536:=by omega
 have b2:(k:Int) < 256:=by omega
 have b3:(s:Int) < 256:=by omega
 clear hb hg hk hst hS e1 e2 hT;go_in;go_wp2_with fail;refine (HS.o _ (ZA (Below.refl _ w))).mono ?_;rintro e w1 ⟨rfl,hb⟩;have HB:=zh ((ZA (Below.refl _ w)).trans (hb.mono (by simp)));clear hb HS;go_wp2;go_returns;exact ⟨rfl,HB.o⟩
theorem ZAl (hT:NTab w T){k:Chk}(h:k.Head):Calls prog 260 #[hdV k] w fun e w'=>e=.returned (.int .u64 (Zc T k.info))/\Bl w w':=by
 have hg:=h.gen;have hcl:=h.cl;have HS:=zh (fun w1 (hb:Bl w w1)=>U1 (hT.below hb nR) h.info_lt);obtain ⟨S,hS⟩:=xE (Zc T k.info);rw [<-hS] at HS ⊢;unfold Chk.info at HS;unfold hdV;obtain ⟨cl,ow,g,bl⟩:=k;simp only at hg hcl HS ⊢;have b1:(g:Int) < 65536:=by omega
 have e1:bits .or .u32 (g:Int) 3305111552=((g+3305111552:Nat):Int):=by
  have:=u32_or_nat g (197 * 2 ^ 24) (by omega) (by omega);rw [XW (by omega)] at this;rw [<-this];congr 1
 rcases hcl with ⟨rfl,rfl⟩|⟨n1,n2,n3,n4⟩
 ·rw [show g+(-1+1:Int).toNat * 65536+(-1+1:Int).toNat * 1048576+3305111552=g+3305111552 from rfl,<-e1] at HS
  clear h hg hS e1 hT;go_in;go_wp2_with fail;refine (HS.o _ (ZA (Below.refl _ w))).mono ?_;rintro e w1 ⟨rfl,hb⟩;have HB:=zh ((ZA (Below.refl _ w)).trans (hb.mono (by simp)));clear hb HS;go_wp2;go_returns;exact ⟨rfl,HB.o⟩
 ·obtain ⟨a,rfl⟩:=Int.eq_ofNat_of_zero_le n1
  obtain ⟨o,rfl⟩:=Int.eq_ofNat_of_zero_le n3;have e2:bits .or .u32 (((a:Int)+1) * 65536) (((o:Int)+1) * 1048576)=(((a+1) * 65536+(o+1) * 1048576:Nat):Int):=by
   have:=u32_or_nat ((a+1) * 65536) ((o+1) * 2 ^ 20) (by omega) (by omega);rw [XW (by omega)] at this;rw [<-this];congr 1
  have e3:bits .or .u32 ((g+3305111552:Nat):Int) (((a+1) * 65536+(o+1) * 1048576:Nat):Int)=((g+(a+1) * 65536+(o+1) * 1048576+3305111552:Nat):Int):=by
   have:=u32_or_nat (g+197 * 2 ^ 24) (((a+1)+(o+1) * 16) * 2 ^ 16) (by omega) (by omega);have h1:(g+197 * 2 ^ 24) ||| (((a+1)+(o+1) * 16) * 2 ^ 16)=g+(((a+1)+(o+1) * 16)) * 2 ^ 16+197 * 2 ^ 24:=by
    rw [<-XW (a:=g) (b:=197) (k:=24) (by omega),Nat.or_assoc,Nat.or_comm (197 * 2 ^ 24),<-Nat.or_assoc,XW (a:=g) (k:=16) (by omega),XW (k:=24) (by omega)]
   rw [h1] at this;have h2:g+(a+1) * 65536+(o+1) * 1048576+3305111552=g+(((a+1)+(o+1) * 16)) * 2 ^ 16+197 * 2 ^ 24:=by omega
   have h3:g+3305111552=g+197 * 2 ^ 24:=by omega
   have h4:(a+1) * 65536+(o+1) * 1048576=((a+1)+(o+1) * 16) * 2 ^ 16:=by omega
   rw [h2,h3,h4];exact this
  have e4:((a:Int)+1).toNat=a+1:=by omega
  have e5:((o:Int)+1).toNat=o+1:=by omega
  rw [e4,e5,<-e3,<-e2,<-e1] at HS;have b2:(a:Int)<=4:=by omega
  have b3:(o:Int)<=7:=by omega
  have d1:decide ((0:Int)<=a)=true:=by simp
  have w1:wrap64 ((a:Int)+1)=a+1:=by rw [IntWalk.wrap64_in] <;> omega
  have w2:wrap64 ((o:Int)+1)=o+1:=by rw [IntWalk.wrap64_in] <;> omega
  clear h hg hS e1 e2 e3 e4 e5 n1 n2 n3 n4 hT;go_in;go_wp2_with fail;refine (HS.o _ (ZA (Below.refl _ w))).mono ?_;rintro e w1 ⟨rfl,hb⟩;have HB:=zh ((ZA (Below.refl _ w)).trans (hb.mono (by simp)));clear hb HS;go_wp2;go_returns;exact ⟨rfl,HB.o⟩
def Blk.freed (b:Blk):Blk:=if b.gen=65535 then ⟨65535,0,178⟩ else ⟨b.gen+1,0,176⟩
theorem Blk.freed_good {b:Blk}(h:b.Good):b.freed.Good:=by
 have:=h.gen;unfold Blk.freed;split
 ·exact ⟨by simp,.inr (.inr ⟨rfl,rfl,rfl⟩)⟩
 ·exact ⟨by simp;omega,.inl ⟨rfl,rfl⟩⟩
theorem ZCm {g:Nat}(hg:g < 65536):Calls prog 298 #[.int .u16 g] w fun e w'=>e=.returned (.tuple #[.int .u16 ((if g=65535 then 0 else g+1:Nat):Int),.bool (decide (g≠65535))])/\w=w':=by
 by_cases h:g=65535
 ·subst h
  go_in;go_wp2;go_returns;exact ⟨rfl,rfl⟩
 ·have d:((g:Int) == 65535)=false:=by simp;omega
  have b:(g:Int)+1 < 65536:=by omega
  rw [ZLU h,ZLp h];have e:(((g+1:Nat)):Int)=(g:Int)+1:=by omega
  rw [e];clear h hg e;go_in;go_wp2;go_returns;exact ⟨rfl,rfl⟩
theorem ZDg {b:Blk}(hg:b.gen < 65536):Calls prog 268 #[bkV b] w fun e w'=>e=.returned (bkV b.freed)/\Bl w w':=by
 have HN:=zh (fun w1=>ZCm (w:=w1) hg);obtain ⟨g,k,s⟩:=b;unfold Blk.freed;unfold bkV;simp only at hg HN ⊢
 by_cases h:g=65535
 ·subst h
  rw [ZLX rfl,ZLh (by simp)] at HN;rw [ZLX rfl];clear hg;go_in;go_wp2_with fail;refine (HN.o _).mono ?_;rintro e w' ⟨rfl,rfl⟩;go_wp2;go_returns;exact ⟨rfl,by repeat (first|exact bR|apply ZE|apply ZA|simp)⟩
 ·rw [ZLU h,ZLp h] at HN
  rw [ZLU h];obtain ⟨g1,hg1⟩:=xE (g+1);rw [<-hg1] at HN ⊢;clear hg h hg1;go_in;go_wp2_with fail;refine (HN.o _).mono ?_;rintro e w' ⟨rfl,rfl⟩;go_wp2;go_returns;exact ⟨rfl,by repeat (first|exact bR|apply ZE|apply ZA|simp)⟩
def Nats (w:World)(v:Value)(l:List Nat):Prop:=v=.slice none 0 0/\l=[]\/∃ b o cap,v=.slice (some ⟨b,o,none⟩) l.length cap/\Seen w b o (l.map fun (n:Nat)=>Value.int .i64 (n:Int))
theorem Nats.below {w w':World}{v:Value}{l:List Nat}(h:Nats w v l)(hb:Bl w w'):Nats w' v l:=by
 rcases h with h|⟨b,o,cap,h1,h2⟩
 ·exact .inl h
 ·exact .inr ⟨b,o,cap,h1,h2.below hb nR⟩
theorem Nats.len {w:World}{v:Value}{l:List Nat}(h:Nats w v l):∃ a cap,v=.slice a l.length cap:=by
 rcases h with ⟨h,rfl⟩|⟨b,o,cap,h1,h2⟩
 ·exact ⟨none,0,h⟩
 ·exact ⟨_,cap,h1⟩
theorem Nats.at {w:World}{v:Value}{l:List Nat}(h:Nats w v l){n:Nat}(hn:n < l.length):∃ b o cap,v=.slice (some ⟨b,o,none⟩) l.length cap/\w.cell? ⟨b,o+n,none⟩=some (.int .i64 (l[n]:Nat)):=by
 rcases h with ⟨h,rfl⟩|⟨b,o,cap,h1,h2⟩
 ·simp at hn
 ·exact ⟨b,o,cap,h1,h2 n _ (by simp [hn])⟩
def UL (l:List Nat):Nat:=Zi (fun i=>decide (i∈l)) 62
theorem ZHT (l:List Nat):UL l < 4611686018427387904:=Ym _ 62
theorem ZHS (l:List Nat){i:Nat}(hi:i < 62):UL l / 2 ^ i % 2=if i∈l then 1 else 0:=by
 unfold UL;rw [Y1 _ hi];simp
theorem ZFt {l:List Nat}{i:Nat}(hi:i < 62)(hn:i∉l):UL (l++[i])=UL l+2 ^ i:=by
 unfold UL;rw [<-X8 (f:=fun i=>decide (i∈l)) (by simpa using hn) hi];refine YM fun j _=>?_
 by_cases e:j=i
 ·simp [e]
 ·simp [e]
theorem ZEB {x i:Nat}(h:x / 2 ^ i % 2=0):x ||| 2 ^ i=x+2 ^ i:=by
 have hd:=Nat.div_add_mod x (2 ^ (i+1));have hr:x % 2 ^ (i+1) < 2 ^ i:=by
  have h1:=Nat.mod_lt x (Nat.two_pow_pos (i+1));have h2:x % 2 ^ (i+1) / 2 ^ i=x / 2 ^ i % 2:=by rw [Nat.pow_succ,Nat.mod_mul_right_div_self]
  rw [h] at h2;exact (Nat.div_eq_zero_iff.1 h2).resolve_left (by have:=Nat.two_pow_pos i;omega)
 obtain ⟨r,hr2⟩:=xE (x % 2 ^ (i+1));obtain ⟨q,hq⟩:=xE (x / 2 ^ (i+1));rw [<-hr2,<-hq] at hd;rw [<-hr2] at hr;have e1:2 ^ i ||| r=2 ^ i+r:=by
  have:=Nat.two_pow_add_eq_or_of_lt hr 1;rw [Nat.mul_one] at this;exact this.symm
 have hlt:2 ^ i+r < 2 ^ (i+1):=by rw [Nat.pow_succ];omega
 have e2:=Nat.two_pow_add_eq_or_of_lt hlt q;have e3:=Nat.two_pow_add_eq_or_of_lt (show r < 2 ^ (i+1) by rw [Nat.pow_succ];omega) q;rw [<-hd,e3,Nat.or_assoc,Nat.or_comm r,e1,<-e2];omega
def ZKd (w:World)(A:DAd)(i line:Nat)(k:Chk)(ls:Nat->List Nat)(s j:Value)(wr:World):Prop:=
 ∃ n:Nat,n<=2/\j=.int .i64 (n:Nat)/\s=.int .u64 (UL ((List.range n).flatMap ls):Nat)/\Bl w wr/\CBox wr w.heap.size A i line k
def ZLD (w:World)(A:DAd)(i line:Nat)(k:Chk)(l0 l:List Nat)(s j:Value)(wr:World):Prop:=
 ∃ n:Nat,n<=l.length/\j=.int .i64 (n:Nat)/\s=.int .u64 (UL (l0++l.take n):Nat)/\Bl w wr/\CBox wr w.heap.size A i line k
theorem ZFS (hS:Tab w){i line:Nat}{k:Chk}(hk:k.Head){ls:Nat->List Nat}{vs:Nat->Value}(hl:∀ j,j < 2->Nats w (vs j) (ls j))(hn:(ls 0++ls 1).Nodup)(hlt:∀ x∈ls 0++ls 1,x < perN k)(hlen:∀ j,(ls j).length<=1000000){b:Nat}(hb:Seen w b 0 [vs 0,vs 1]):
 Calls prog 227 #[chV A i line k,.slice (some ⟨b,0,none⟩) 2 2] w fun e w'=>e=.returned (.bool true)/\Bl w w':=by
 have hp62:=hk.sizes.2.2.1;have HH:=zh (fun (x:Nat) (hx:x < perN k) w1 (hb:Bl w w1)=>(ZLp (show 0<=(x:Int)/\(x:Int) < perN k by omega))▸QS (A:=A) (i:=i) (line:=line) (hS.below hb) hk x);have HL:=zh hl;have HLEN:=zh hlen;have HSN:=zh hb;have HIN:=zh (show ∀ j,j < 2->∀ x∈ls j,x < 62/\x < perN k by
  intro j hj x hx;have:x∈ls 0++ls 1:=by
   rcases (show j=0\/j=1 by omega) with rfl|rfl
   ·exact ZLZ.2 (.inl hx)
   ·exact ZLZ.2 (.inr hx)
  have:=hlt x this;omega)
 have HND:=zh (show ∀ j,j < 2->∀ n (hn:n < (ls j).length),(ls j)[n]∉(List.range j).flatMap ls++(ls j).take n by
  intro j hj n hlen;rw [ZL3] at hn;obtain ⟨n1,n2,n3⟩:=hn;have hself:∀ (l:List Nat),l.Nodup->∀ n (hn:n < l.length),l[n]∉l.take n:=by
   intro l hl n hn hm;obtain ⟨m,hm1,hm2⟩:=List.getElem_of_mem hm;rw [List.length_take] at hm1;rw [List.getElem_take] at hm2;have:=(List.nodup_iff_pairwise_ne.1 hl)
   have:=ZL7.1 this m n (by omega) hn (by omega);exact this hm2
  rcases (show j=0\/j=1 by omega) with rfl|rfl
  ·simpa using hself _ n1 n hlen
  ·intro hm
   rcases ZLZ.1 hm with hm|hm
   ·have hm:(ls 1)[n]∈ls 0:=by simpa using hm
    exact n3 _ hm _ (ZLl _) rfl
   ·exact hself _ n2 n hlen hm)
 have HB:=zh (ZA (o:=.cells #[.iface 116 (.pointer (some ⟨A.t i,0,none⟩)),.int .i64 line,.int .i64 k.cl,.int .i64 k.ow,.int .u16 k.gen] 211) (Below.refl w.heap.size w));have HC:=zh (CBox.new (w:=w) (A:=A) (i:=i) (line:=line) (k:=k));unfold chV at *;clear hS hk hl hn hlt hb hlen;go_in;go_wp2_with fail
 go_loopw [5,12] (fun s j wr=>ZKd w A i line k ls s j wr) (fun _ j _=>2 - (intOf j).toNat)
 case atStart=>exact ⟨0,by omega,rfl,rfl,HB.o,HC.o⟩
 case round=>
  obtain ⟨j,hj,rfl,rfl,hb1,hc1⟩:=hrel;clear HB HC;have HB:=zh hb1;have HC:=zh hc1;clear hb1 hc1
  by_cases hlt:j < 2
  ·have hlt2:(j:Int) < 2:=by omega
   have HLJ:=zh ((HL.o j hlt).below (HB.o.mono nR));have hcell:wr.cell? ⟨b,j,none⟩=some (vs j):=by
    have hs:=HSN.o.below HB.o nR;have:=hs j (vs j) (by rcases (show j=0\/j=1 by omega) with rfl|rfl <;> rfl)
    rwa [ZLu] at this
   obtain ⟨a,cap,hv⟩:=HLJ.o.len;rw [hv] at hcell;obtain ⟨n,hn⟩:=xE ((ls j).length);go_wp2_with fail
   go_loopw [5,18] (fun s m wr2=>ZLD w A i line k ((List.range j).flatMap ls) (ls j) s m wr2) (fun _ m _=>(ls j).length - (intOf m).toNat)
   case atStart=>exact ⟨0,by omega,rfl,by simp,HB.o,HC.o⟩
   case round=>
    obtain ⟨m,hm,rfl,rfl,hb1,hc1⟩:=hrel;have HLJ2:=zh ((HL.o j hlt).below hb1);clear HB HC;have HB:=zh hb1;have HC:=zh hc1;clear hb1 hc1
    by_cases hm2:m < (ls j).length
    ·have hm3:(m:Int) < (ls j).length:=by omega
     obtain ⟨b2,o2,cap2,hv2,hcl⟩:=HLJ2.o.at hm2;obtain ⟨x,hx⟩:=xE ((ls j)[m]);rw [<-hx] at hcl;obtain ⟨hx62,hxp⟩:=HIN.o j hlt x (by rw [hx];exact ZLl _);have hnd:=HND.o j hlt m hm2;rw [<-hx] at hnd;have hadd:=ZFt hx62 hnd;have hat:=ZHS ((List.range j).flatMap ls++(ls j).take m) hx62;rw [ZLU hnd] at hat;obtain ⟨X,hX⟩:=xE (UL ((List.range j).flatMap ls++(ls j).take m));have hXl:=ZHT ((List.range j).flatMap ls++(ls j).take m);rw [<-hX] at hadd hat hXl ⊢;have e0:(X:Int) / 2 ^ x=((X / 2 ^ x:Nat):Int):=by simp
     have e1:=u64_and_nat (X / 2 ^ x) 1 (Nat.lt_of_le_of_lt (Nat.div_le_self _ _) (by omega)) (by omega);rw [Nat.and_one_is_mod,hat,show ((1:Nat):Int)=1 from rfl,show ((0:Nat):Int)=0 from rfl,<-e0] at e1;have h2x:2 ^ x < 4611686018427387904:=Nat.pow_lt_pow_right (by omega) hx62;have e2:=u64_or_nat X (2 ^ x) (by omega) (by omega);rw [ZEB hat] at e2;have e3:(UL ((List.range j).flatMap ls++(ls j).take (m+1)):Nat)=X+2 ^ x:=by
      rw [<-hadd,List.append_assoc,ZLk hm2,<-hx]
     have HE:=zh e3;have HX:=zh hX;have E2:=zh e2;have hh:=zh (HH.o x hxp);have d2:(x:Int) < 64:=by omega
     rw [hv] at hv2;cases hv2;clear hadd hat hX e0 e2 e3 hnd hx hXl hxp
     (try clear c0 c1 c2 c3 c4)
     obtain ⟨c0,c1,c2,c3,c4⟩:=id HC.o;go_wp2_with fail;refine (hh.o _ HB.o).mono ?_;rintro e v1 ⟨rfl,hb⟩;replace HC:=zh (HC.o.below hb);replace HB:=zh (HB.o.trans (hb.mono HB.o.size));clear hb;go_wp2_with fail;have w1:wrap64 ((m:Int)+1)=((m+1:Nat):Int):=by have:=HLEN.o j;rw [IntWalk.wrap64_in] <;> omega
     have w2:IntKind.u64.wrap ((2:Int) ^ x)=((2 ^ x:Nat):Int):=by
      rw [show ((2 ^ x:Nat):Int)=(2:Int) ^ x by simp];have p0:(0:Int)<=(2:Int) ^ x:=Int.pow_nonneg (by decide);have p1:=Int.ofNat_lt.2 h2x;rw [show ((2 ^ x:Nat):Int)=(2:Int) ^ x by simp,show ((4611686018427387904:Nat):Int)=4611686018427387904 from rfl] at p1;rw [IntWalk.u64_in] <;> omega
     rw [w1,w2,E2.o];refine ⟨⟨m+1,by omega,rfl,by rw [HE.o],HB.o,HC.o⟩,?_⟩;simp only [intOf];omega
    ·obtain rfl:m=(ls j).length:=by omega
     have d1:¬ (((ls j).length:Int) < (ls j).length):=by omega
     go_wp2_with fail;go_roundw
     case rel=>
      refine ⟨j+1,by omega,by simp,?_,HB.o,HC.o⟩;rw [List.take_length]
      congr 3
      rw [ZLy,List.flatMap_append];simp
     case measure=>simp [intOf];omega
  ·obtain rfl:j=2:=by omega
   have d1:¬ (((2:Nat):Int) < 2):=by omega
   go_wp2;go_returns;exact ⟨rfl,HB.o⟩
theorem JY {P:Program} (w:World) (t tx ty e:TypeId) (i:TypeInfo) (z:Value) (ht:P.underlying t=some (.slice e)) (hk:P.underlying tx=some (.int .i64)) (hi:P.info? e=some i) (hz:i.zero=some z)
 (n:Nat)(hn:0 < n)(hn2:n<=1000)(hsz:0 < i.size)(hb:i.bytes<=1000):
 (Builtin.append_ #[t,tx] ty #[.slice none 0 0,.int .i64 n]).run P w=
   .ok (.slice (some ⟨w.heap.size,0,none⟩) n (grownCap w n 0 e)) (w.drew.alloc (.cells (Builtin.zeroCells z.cells n++Builtin.zeroCells z.cells (grownCap w n 0 e - n)) e)):=by
 have h0:¬ ((n:Int) < 0):=by omega
 have hn':¬ (n<=0):=by omega
 have hw:IntKind.i64.wrap (n:Int)=n:=IntWalk.i64_in _ (by omega);have hmul:(n:Int) * (i.bytes:Int)<=281474976710656:=by
  have:n * i.bytes<=1000 * 1000:=Nat.mul_le_mul hn2 hb;have e:(n:Int) * (i.bytes:Int)=((n * i.bytes:Nat):Int):=by simp
  omega
 have h48:¬ (281474976710656 < (n:Int) * (i.bytes:Int)):=by omega
 have h63':¬ (9223372036854775807 < (n:Int)):=by omega
 have h48':¬ (281474976710656 < Builtin.nextslicecap n 0 * i.bytes):=by
  have:=growslice_fits (need:=n) (old:=0) (bytes:=i.bytes) (by omega) (by
   have:n * i.bytes<=1000 * 1000:=Nat.mul_le_mul hn2 hb;omega)
  omega
 have hns:¬ (n=0\/i.size=0):=by omega
 have hai:∀ w:World,(asIntOf (.int .i64 (n:Int))).run P w=.ok (.i64,(n:Int)) w:=fun _=>rfl
 have hmx:max (n:Int) 0=n:=by omega
 have hle:¬ ((n:Int)<=0):=by omega
 have hz2:¬ (n * i.size=0):=by
  intro h;rcases Nat.mul_eq_zero.1 h with h|h <;> omega
 simp [Builtin.append_,hai,hmx,hz2,run_underlying ht,run_underlying hk,sizeOf,typeInfo,zeroValue,hi,hz,asInt,hw,h0,h48,h63',h48',Question.forced,newRow,grownCap,Builtin.firstCells];omega
theorem Ue {P:Program} {ops:Array Oper} {rest:List Oper} {o:Oper} {a:Act} {w:World} {Q:Exit->Act->World->Prop} (hg:o.guard=none) (s x:Operand) (t tx:TypeId)
 (ho:o.op=.call {callee:=.builtin .append,args:=#[s,x],argTypes:=#[t,tx]}) (v xv v':Value) (w':World) (hs:a.eval s=v) (hx:a.eval x=xv)
 (hrun:∀ ty,(Builtin.append_ #[t,tx] ty #[v,xv]).run P w=.ok v' w')(h:wpList P ops Q rest (a.put o.dst v') w'):wpList P ops Q (o:: rest) a w:=by
 refine wpList_plain hg fun _ hK=>?_
 unfold Oper.wp;simp [execOp,ho,resolve,invoke,builtin,hs,hx,hrun,Result.andThen];exact hK _ _ h
theorem ZHJ {w:World}{n:Nat}(hn:0 < n)(hn2:n<=1000):
 Calls prog 245 #[.slice none 0 0,i64 n] w fun e w'=>∃ cap,e=.returned (.slice (some ⟨w.heap.size,0,none⟩) 0 cap)/\
  w'.ownsRow w.heap.size 298 3 (.slice (some ⟨w.heap.size,0,none⟩) 0 cap) 0 []/\Bl w w'/\n<=cap:=by
 obtain ⟨i,hi,hz,hsz,hby⟩:=info_parts ZAm;have hrun:=fun ty=>JY (P:=prog) w 191 3 ty 298 i _ underlying191 underlying3 hi hz n hn hn2 (by omega) (by omega)
 have hge:=grownCap_ge w n 0 298;have hcm:=grownCap_le_maxLen w n 0 298 (by unfold maxLen;omega);obtain ⟨C,hC⟩:=xE (grownCap w n 0 298);rw [<-hC] at hge hcm;simp only [<-hC] at hrun;obtain ⟨W,hW⟩:=xE (w.drew.alloc (.cells (Builtin.zeroCells (Value.agg #[.int .u8 0,.int .u64 0,.int .u64 0]).cells n++Builtin.zeroCells (Value.agg #[.int .u8 0,.int .u64 0,.int .u64 0]).cells (C - n)) 298));simp only [<-hW] at hrun;have hown:W.ownsRow w.heap.size 298 3 (.slice (some ⟨w.heap.size,0,none⟩) 0 C) 0 []:=by
  rw [hW];refine World.ownsRow_made w.drew _ C nR hcm ?_;rw [Array.size_append,size_zeroCells,size_zeroCells];show n * 3+(C - n) * 3=C * 3;omega
 have hbel:Bl w W:=by rw [hW];exact ZA (ZB bR)
 have HO:=zh hown;have HB:=zh hbel;have b1:(0:Int) < n:=by omega
 have d1:decide ((n:Int) < 0)=false:=ZLh (by omega);have d2:decide ((0:Int) < n)=true:=ZLp b1;have d3:decide (0 < n)=true:=ZLp hn;have b2:(0:Int)<=C:=by omega
 clear hown hbel hW hC hi hz hsz hby hcm;unfold i64;go_in;go_wp2_with (at_builtin;refine Ue rfl _ _ _ _ rfl _ _ _ _ rfl rfl hrun ?_);go_returns;exact ⟨C,rfl,HO.o,HB.o,hge⟩
theorem ZIH {w:World}{b1 o1 c1 b2 o2 c2:Nat}{l1 l2:List Ins}(h1:Seen w b1 o1 (Zn l1))(h2:Seen w b2 o2 (Zn l2))(n1:1<=l1.length)(n2:1<=l2.length)(n3:l1.length+l2.length<=1000):
 Calls prog 203 #[.slice (some ⟨w.heap.size,0,none⟩) 2 2] (w.alloc (.cells #[.slice (some ⟨b1,o1,none⟩) l1.length c1,.slice (some ⟨b2,o2,none⟩) l2.length c2] 191)) fun e w'=>∃ g cap,e=.returned (.slice (some ⟨g,0,none⟩) (l1.length+l2.length) cap)/\
  w'.ownsRow w.heap.size 298 3 (.slice (some ⟨g,0,none⟩) (l1.length+l2.length) cap) (l1.length+l2.length) (Zn (l1++l2))/\Bl w w':=by
 have HG:=zh (ZHJ (w:=w.alloc (.cells #[.slice (some ⟨b1,o1,none⟩) l1.length c1,.slice (some ⟨b2,o2,none⟩) l2.length c2] 191)) (n:=l1.length+l2.length) (by omega) n3);have H1:=zh (h1.below (ZA (o:=.cells #[.slice (some ⟨b1,o1,none⟩) l1.length c1,.slice (some ⟨b2,o2,none⟩) l2.length c2] 191) (Below.refl _ w)) nR);have H2:=zh (h2.below (ZA (o:=.cells #[.slice (some ⟨b1,o1,none⟩) l1.length c1,.slice (some ⟨b2,o2,none⟩) l2.length c2] 191) (Below.refl _ w)) nR)
 have hc:(w.alloc (.cells #[.slice (some ⟨b1,o1,none⟩) l1.length c1,.slice (some ⟨b2,o2,none⟩) l2.length c2] 191)).cell? ⟨w.heap.size,0,none⟩=some (.slice (some ⟨b1,o1,none⟩) l1.length c1)/\
  (w.alloc (.cells #[.slice (some ⟨b1,o1,none⟩) l1.length c1,.slice (some ⟨b2,o2,none⟩) l2.length c2] 191)).cell? ⟨w.heap.size,1,none⟩=some (.slice (some ⟨b2,o2,none⟩) l2.length c2):=
  ⟨(ZD (ZC _ _)).trans rfl,(ZD (ZC _ _)).trans rfl⟩
 have HB0:=zh (ZA (o:=.cells #[.slice (some ⟨b1,o1,none⟩) l1.length c1,.slice (some ⟨b2,o2,none⟩) l2.length c2] 191) (Below.refl _ w));obtain ⟨W,hW⟩:=xE (w.alloc (.cells #[.slice (some ⟨b1,o1,none⟩) l1.length c1,.slice (some ⟨b2,o2,none⟩) l2.length c2] 191));have hz:w.heap.size < W.heap.size:=by rw [hW];simp
 rw [<-hW] at HG H1 H2 hc HB0 ⊢;have HC:=zh hc;clear hW;obtain ⟨hc1,hc2⟩:=hc;have q1:(l1.length:Int)+l2.length<=1000:=by omega
 have q2:(1:Int)<=l1.length:=by omega
 have q3:(1:Int)<=l2.length:=by omega
 have d1:decide ((l1.length:Int) < 0)=false:=ZLh (by omega);have d2:decide ((l1.length:Int)+l2.length < 0)=false:=ZLh (by omega);clear h1 h2;unfold i64 at HG;go_in;go_wp2_with fail;refine wp_loop_rounds 3 ?_;rw [rounds_succ];go_wp2_with fail;rw [rounds_succ];go_wp2_with fail;rw [rounds_succ];go_wp2_with fail;rw [show ((l1.length:Int)+l2.length)=((l1.length+l2.length:Nat):Int) by omega];refine HG.o.mono ?_;rintro e w1 ⟨cap,rfl,ho,hb,hcp⟩;have k1:w1.cell? ⟨w.heap.size,0,none⟩=some (.slice (some ⟨b1,o1,none⟩) l1.length c1):=by rw [hb.cell hz];exact HC.o.1
 obtain ⟨g1,cap1,w2,hrun1,how1,hgr1,hg1⟩:=Zo Qb ho ⟨b1,o1,none⟩ l1.length c1 (Zn l1) (by rw [UK];omega) (fun j u hj=>by rw [Addr.add_lit];exact H1.o.below hb nR j u hj)
  (fun u hu=>by
    obtain ⟨x,_,hx⟩:=List.mem_flatMap.1 hu;simp [Ins.cells] at hx;rcases hx with rfl|rfl|rfl <;> rfl) (by omega) (by unfold maxLen;omega) (by omega) hb.size
 have hb2:Bl W w2:=hb.grown hgr1 hb.size (fun b hb'=>(ho.lt b hb').1);have k2:w2.cell? ⟨w.heap.size,1,none⟩=some (.slice (some ⟨b2,o2,none⟩) l2.length c2):=by rw [hb2.cell hz];exact HC.o.2
 rw [List.nil_append,ZLu] at how1;simp only [ZLu] at hrun1
 obtain ⟨g2,cap2,w3,hrun2,how2,hgr2,hg2⟩:=Zo Qb how1 ⟨b2,o2,none⟩ l2.length c2 (Zn l2) (by rw [UK];omega) (fun j u hj=>by rw [Addr.add_lit];exact H2.o.below hb2 nR j u hj)
  (fun u hu=>by
    obtain ⟨x,_,hx⟩:=List.mem_flatMap.1 hu;simp [Ins.cells] at hx;rcases hx with rfl|rfl|rfl <;> rfl) (by omega) (by unfold maxLen;omega) (by omega) hb2.size
 have hb3:Bl W w3:=hb2.grown hgr2 hb2.size (fun b hb'=>(how1.lt b hb').1);have G:=zh (show w3.ownsRow w.heap.size 298 3 (.slice (some ⟨g2,0,none⟩) (l1.length+l2.length) cap2) (l1.length+l2.length) (Zn (l1++l2)) from by
  have e:Zn (l1++l2)=Zn l1++Zn l2:=by simp [Zn]
  rw [e];exact how2.mono (by omega))
 have G2:=zh (HB0.o.trans (hb3.mono (by omega)));clear how2 hgr2 hg2 hb3 how1 hgr1 hg1 hb2 ho hb hcp hc1 hc2;go_wp2_with fail;refine wp_loop_rounds 3 ?_;rw [rounds_succ];go_wp2_with (at_builtin;refine Zf rfl _ _ _ rfl _ _ _ _ rfl rfl hrun1 ?_);rw [rounds_succ];go_wp2_with (at_builtin;refine Zf rfl _ _ _ rfl _ _ _ _ rfl rfl hrun2 ?_);rw [rounds_succ];go_wp2;go_returns;exact ⟨g2,cap2,rfl,G.o,G2.o⟩
theorem ZGb {w:World}{b1 o1 c1 b2 o2 c2:Nat}{l1 l2:List Ins}(h1:Seen w b1 o1 (Zn l1))(h2:Seen w b2 o2 (Zn l2))(n1:1<=l1.length)(n2:1<=l2.length)(n3:l1.length+l2.length<=1000):
 Calls prog 134 #[.slice (some ⟨b1,o1,none⟩) l1.length c1,.slice (some ⟨b2,o2,none⟩) l2.length c2] w fun e w'=>∃ g cap,e=.returned (.slice (some ⟨g,0,none⟩) (l1.length+l2.length) cap)/\
  w'.ownsRow w.heap.size 298 3 (.slice (some ⟨g,0,none⟩) (l1.length+l2.length) cap) (l1.length+l2.length) (Zn (l1++l2))/\Bl w w':=by
 have HT:=zh (ZIH (c1:=c1) (c2:=c2) h1 h2 n1 n2 n3);clear h1 h2;go_in;go_wp2_with fail;refine HT.o.mono ?_;rintro e w1 ⟨g,cap,rfl,g1,g2⟩;have G1:=zh g1;have G2:=zh g2;clear g1 g2;go_wp2;go_returns;exact ⟨g,cap,rfl,G1.o,G2.o⟩
def Ze:List (List (Nat×Nat))->List Ins
 |[]=>[]
 |l:: ls=>Zk l++Ze ls
def Zw:List (List (Nat×Nat))->Nat
 |[]=>0
 |l:: ls=>(2 * l.length+1)+Zw ls
theorem Z2 (l:List (Nat×Nat)):Ze [l]=Zk l:=by simp [Ze]
theorem Qv:∀ ls,(Ze ls).length<=Zw ls
 |[]=>nR
 |l:: ls=>by
  show (Zk l++Ze ls).length<=2 * l.length+1+Zw ls;rw [ZLc];have:=Ys l;have:=Qv ls;omega
theorem Zq (l:List (Nat×Nat)):1<=(Zk l).length:=by
 unfold Zk;rw [ZLc];simp
theorem ZHt {ls:List (List (Nat×Nat))}(h:∀ l∈ls,∀ p∈l,p.1 < 18446744073709551616/\p.2 < 18446744073709551616):∀ x∈Ze ls,x.Ok:=by
 induction ls with
 |nil=>intro x hx;cases hx
 |cons l ls ih=>
  intro x hx;rcases ZLZ.1 hx with hx|hx
  ·exact ZHu (h l (.head _)) x hx
  ·exact ih (fun m hm=>h m (.tail _ hm)) x hx
theorem ZH8 (s:DSt)(t:Nat)(l m:List Ins):s.runs t (l++m)=(s.runs t l).runs t m:=List.foldl_append
theorem Qt.runL {t:Nat}:∀ {ls:List (List (Nat×Nat))} {s:DSt} {c:Nat->Nat},Qt s c->(∀ l∈ls,∀ p∈l,s.word p.1=true)->Qt (s.runs t (Ze ls)) (wrs c ls.flatten)/\(s.runs t (Ze ls)).L=s.L/\(s.runs t (Ze ls)).ex<=s.ex+Zw ls
 |[],s,c,h,_=>⟨h,rfl,nR⟩
 |l:: ls,s,c,h,hl=>by
  obtain ⟨h1,h2,h3⟩:=h.runS (t:=t) (l:=l) (hl l (.head _));obtain ⟨h4,h5,h6⟩:=Qt.runL (t:=t) (ls:=ls) h1 (fun m hm p hp=>by
   have:=hl m (.tail _ hm) p hp;unfold DSt.word at this ⊢;rw [h2];exact this)
  have e:s.runs t (Ze (l:: ls))=(s.runs t (Zk l)).runs t (Ze ls):=ZH8 s t _ _;rw [e];refine ⟨?_,h5.trans h2,?_⟩
  ·rw [List.flatten_cons,YF];exact h4
  ·show _<=s.ex+(2 * l.length+1+Zw ls);omega
variable {w w':World}{A:DAd}{F F':Nat->Option ZM}{L:Nat}{T c c':Nat->Nat}{x x':Nat}
theorem ZBs (h:Aq w A F L T c x) {t:Nat} (ht:t < 8) {b o k:Nat} {ls:List (List (Nat×Nat))} (hs:Seen w b o (Zn (Ze ls))) (hF:F b=none)
 (hl:∀ l∈ls,∀ p∈l,p.1 % 8=0/\p.1 < 64 * L/\p.2 < 18446744073709551616)(hn:x+Zw ls<=1000000):
 Calls prog 112 #[.slice (some ⟨b,o,none⟩) (Ze ls).length k,Xv (A.t t)] w fun e w'=>e=.returned (i64 (0:Nat))/\Ra w A F L T (wrs c ls.flatten) (x+Zw ls) w':=by
 obtain ⟨s,h1,h2,rfl,h4⟩:=h.dev;have hLL:=h1.ok.lines;have hle:=Qv ls;refine (ZJH (c:=k) h1 ht hs hF (ZHt (fun l hl2 p hp=>⟨?_,(hl l hl2 p hp).2.2⟩)) (by omega)).mono ?_
 ·have:=hl l hl2 p hp;omega
 ·rintro e w' ⟨rfl,F',hd,hm⟩
  obtain ⟨q1,q2,q3⟩:=h2.runL (t:=t) (ls:=ls) (fun l hl2 p hp=>by
   have:=hl l hl2 p hp;unfold DSt.word;simp;omega)
  refine ⟨by rw [q1.err],?_⟩;obtain ⟨F'',h5,h6⟩:=ZJC (x':=x+Zw ls) h (show ZKe _ A F s.L (wrs c ls.flatten) (x+Zw ls) w' from ⟨_,F',hd,q1,q2,by omega,hm⟩);exact ⟨F'',h5,h6⟩
theorem Zm (l:List (Nat×Nat))(p:Nat×Nat):ZT (l++[p])=ZT l++[u64 p.1,u64 p.2]:=by simp [ZT]
theorem ZO {w w':World}{B:Nat}{e:TypeId}{z n:Nat}{v:Value}{xs:List Value}(h:w.ownsRow B e z v n xs)(hb:Bl w w'):w'.ownsRow B e z v n xs:=by
 refine ⟨h.1,?_⟩;rcases h.2 with hn|⟨g,cap,cur,hv,h1,h2,rest⟩
 ·exact .inl hn
 ·exact .inr ⟨g,cap,cur,hv,h1,(hb.block _ (heap_lt h2)).trans h2,rest⟩
theorem ZL {a w w':World}{B:Nat}{row:Option Nat}(h:Below B a w)(hg:w.grownBy w' row)(hB:B<=w.heap.size)(hr:∀ k,row=some k->B<=k):Below B a w':=h.grown hg hB hr
def Wrt (w:World)(x0:Nat)(v:Value)(l:List (Nat×Nat)):Prop:=w.ownsRow x0 138 2 v l.length (ZT l)
def Prg (w:World)(x0:Nat)(v:Value)(l:List Ins):Prop:=w.ownsRow x0 298 3 v l.length (Zn l)
theorem Wrt.below {v:Value}{l:List (Nat×Nat)}(h:Wrt w x v l)(hb:Bl w w'):Wrt w' x v l:=ZO h hb
theorem Prg.below {v:Value}{l:List Ins}(h:Prg w x v l)(hb:Bl w w'):Prg w' x v l:=ZO h hb
theorem Zb {w:World}{x0:Nat}{e:TypeId}{z n:Nat}{v:Value}{xs:List Value}(h:w.ownsRow x0 e z v n xs)(hn:0 < n):∃ g cap,v=.slice (some ⟨g,0,none⟩) n cap/\Seen w g 0 xs/\x0<=g:=by
 rcases h.2 with ⟨_,e⟩|⟨g,cap,cur,e,hg,_⟩
 ·omega
 ·subst e
  refine ⟨g,cap,rfl,fun j u hj=>?_,hg⟩;have:=h.cells (g:=g) rfl j u hj;rw [Addr.add_lit] at this;exact this
theorem YZ {v:Value}{l:List (Nat×Nat)}(h:Wrt w x v l)(hn:1<=l.length)(hn2:l.length<=1000)(hl:∀ p∈l,p.1 < 18446744073709551616):
 ∀ w1,Bl w w1->Calls prog 111 #[v] w1 fun e w'=>∃ r,e=.returned r/\Prg w' w1.heap.size r (Zk l)/\Bl w1 w':=by
 intro w1 hb;obtain ⟨g,cap,rfl,hs,_⟩:=Zb (h.below hb) hn;refine (Uc hs hn hn2 hl).mono ?_;rintro e w' ⟨g2,cap2,rfl,h1,h2⟩;exact ⟨_,rfl,h1,h2⟩
theorem Vu {v1 v2:Value}{l1 l2:List Ins}{x1 x2:Nat}(h1:Prg w x1 v1 l1)(h2:Prg w x2 v2 l2)(n1:1<=l1.length)(n2:1<=l2.length)(n3:l1.length+l2.length<=1000):
 ∀ w1,Bl w w1->Calls prog 134 #[v1,v2] w1 fun e w'=>∃ r,e=.returned r/\Prg w' w1.heap.size r (l1++l2)/\Bl w1 w':=by
 intro w1 hb;obtain ⟨g,cap,rfl,hs,_⟩:=Zb (h1.below hb) (by omega);obtain ⟨g',cap',rfl,hs',_⟩:=Zb (h2.below hb) (by omega);refine (ZGb hs hs' n1 n2 n3).mono ?_;rintro e w' ⟨g2,cap2,rfl,h1,h2⟩;refine ⟨_,rfl,?_,h2⟩;unfold Prg;rw [ZLc];exact h1
def Chk.put (k:Chk)(i:Nat)(b:Blk):Chk:={k with blk:=fun j=>if j=i then b else k.blk j}
theorem Chk.put_same (k:Chk)(i:Nat)(b:Blk):(k.put i b).blk i=b:=ZLX rfl
theorem Chk.put_other (k:Chk){i j:Nat}(b:Blk)(h:j≠i):(k.put i b).blk j=k.blk j:=ZLU h
def Chk.took (k:Chk)(i kind:Nat):Chk:=k.put i ⟨(k.blk i).gen,kind,177⟩
def Chk.drop (k:Chk)(i:Nat):Chk:=k.put i (k.blk i).freed
def Chk.tooks (k:Chk)(l:List (Nat×Nat)):Chk:=l.foldl (fun k p=>k.took p.1 p.2) k
def Chk.drops (k:Chk)(l:List Nat):Chk:=l.foldl (fun k i=>k.drop i) k
structure Chk.Same (k k':Chk):Prop where
 cl:k'.cl=k.cl
 ow:k'.ow=k.ow
 gen:k'.gen=k.gen
theorem Chk.Same.refl (k:Chk):k.Same k:=⟨rfl,rfl,rfl⟩
theorem Chk.Same.trans {a b c:Chk}(h:a.Same b)(h':b.Same c):a.Same c:=⟨h'.cl.trans h.cl,h'.ow.trans h.ow,h'.gen.trans h.gen⟩
theorem Chk.same_tooks (k:Chk):∀ l,k.Same (k.tooks l)
 |[]=>Chk.Same.refl k
 |p:: l=>Chk.Same.trans (b:=k.took p.1 p.2) ⟨rfl,rfl,rfl⟩ (Chk.same_tooks _ l)
theorem Chk.same_drops (k:Chk):∀ l,k.Same (k.drops l)
 |[]=>Chk.Same.refl k
 |p:: l=>Chk.Same.trans (b:=k.drop p) ⟨rfl,rfl,rfl⟩ (Chk.same_drops _ l)
theorem Chk.Same.perN {k k':Chk}(h:k.Same k'):perN k'=perN k:=by unfold Dv.perN;rw [h.cl]
theorem Chk.Same.hdN {k k':Chk}(h:k.Same k')(i:Nat):hdN k' i=hdN k i:=by unfold Dv.hdN Zu;rw [h.cl]
theorem Chk.Same.info {k k':Chk}(h:k.Same k'):k'.info=k.info:=by unfold Chk.info;rw [h.cl,h.ow,h.gen]
theorem Chk.Same.head {k k':Chk}(h:k.Same k')(hk:k.Head):k'.Head:=⟨by rw [h.gen];exact hk.gen,by rw [h.cl,h.ow];exact hk.cl⟩
theorem Chk.tooks_snoc (k:Chk)(l:List (Nat×Nat))(p:Nat×Nat):k.tooks (l++[p])=(k.tooks l).took p.1 p.2:=by
 unfold Chk.tooks;rw [List.foldl_append];rfl
theorem Chk.drops_snoc (k:Chk)(l:List Nat)(i:Nat):k.drops (l++[i])=(k.drops l).drop i:=by
 unfold Chk.drops;rw [List.foldl_append];rfl
theorem Chk.tooks_other (k:Chk){j:Nat}:∀ {l:List (Nat×Nat)},j∉l.map (·.1)->(k.tooks l).blk j=k.blk j
 |[],_=>rfl
 |p:: l,h=>by
  have h1:j≠p.1:=fun e=>h (by simp [e])
  have h2:j∉l.map (·.1):=fun e=>h (by simp only [List.map_cons,List.mem_cons];exact .inr e)
  show (Chk.tooks (k.took p.1 p.2) l).blk j=_;rw [Chk.tooks_other _ h2];exact k.put_other _ h1
theorem Chk.drops_other (k:Chk){j:Nat}:∀ {l:List Nat},j∉l->(k.drops l).blk j=k.blk j
 |[],_=>rfl
 |p:: l,h=>by
  have h1:j≠p:=fun e=>h (by simp [e])
  have h2:j∉l:=fun e=>h (by simp [e])
  show (Chk.drops (k.drop p) l).blk j=_;rw [Chk.drops_other _ h2];exact k.put_other _ h1
theorem ZBH {k:Chk}{i n:Nat}{b:Blk}(hi:i < n)(h0:k.used i=false)(hb:b.st≠176):Zi (k.put i b).used n=Zi k.used n+2 ^ i:=by
 rw [<-X8 h0 hi];refine YM fun j _=>?_
 unfold Chk.used Chk.put
 by_cases e:j=i
 ·rw [e];simp [hb]
 ·simp [e]
theorem QO {k:Chk}{i n:Nat}{b:Blk}(hi:i < n)(h0:k.used i=true)(hb:b.st=176):Zi (k.put i b).used n+2 ^ i=Zi k.used n:=by
 rw [<-ZBG h0 hi]
 congr 1
 refine YM fun j _=>?_
 unfold Chk.used Chk.put
 by_cases e:j=i
 ·rw [e];simp [hb]
 ·simp [e]
theorem ZAC {k:Chk}{i n:Nat}{b:Blk}(h0:k.used i=true)(hb:b.st≠176):Zi (k.put i b).used n=Zi k.used n:=by
 refine YM fun j _=>?_
 unfold Chk.used at *;unfold Chk.put
 by_cases e:j=i
 ·rw [e];simp only [if_true];rw [h0];simp [hb]
 ·simp [e]
def hdW (T:Nat->Nat)(line:Nat)(k:Chk)(i:Nat)(b:Blk):Nat×Nat:=((8 * line+hdN k i) * 8,Zc T b.info)
def YR (T:Nat->Nat)(line:Nat)(k:Chk)(l:List (Nat×Nat)):List (Nat×Nat):=l.map fun p=>hdW T line k p.1 ⟨(k.blk p.1).gen,p.2,177⟩
def Ye (T:Nat->Nat)(line:Nat)(k:Chk)(l:List Nat):List (Nat×Nat):=l.map fun i=>hdW T line k i (k.blk i).freed
def ZAB (line:Nat)(k:Chk):Nat×Nat:=((8 * line+1) * 8,Zi k.used (perN k))
def Chk.after (k:Chk)(tk:List (Nat×Nat))(dr:List Nat):Chk:=(k.tooks tk).drops dr
def ZR (T:Nat->Nat)(line:Nat)(k:Chk)(tk:List (Nat×Nat))(dr:List Nat):List (Nat×Nat):=
 YR T line k tk++Ye T line k dr++[ZAB line (k.after tk dr)]
structure Chk.Can (k:Chk)(tk:List (Nat×Nat))(dr:List Nat):Prop where
 nodup:(tk.map (·.1)++dr).Nodup
 lt:∀ i∈tk.map (·.1)++dr,i < perN k
 kind:∀ p∈tk,1<=p.2/\p.2<=127
 free:∀ p∈tk,(k.blk p.1).st=176
 all:∀ i∈dr,(k.blk i).st=177
theorem ZDK (k:Chk):∀ {l:List (Nat×Nat)},(l.map (·.1)).Nodup->∀ p∈l,(k.tooks l).blk p.1=⟨(k.blk p.1).gen,p.2,177⟩
 |[],_,p,hp=>by cases hp
 |q:: l,hn,p,hp=>by
  rw [List.map_cons,List.nodup_cons] at hn;show (Chk.tooks (k.took q.1 q.2) l).blk p.1=_;rcases List.mem_cons.1 hp with rfl|hp
  ·rw [Chk.tooks_other _ hn.1];exact k.put_same _ _
  ·rw [ZDK _ hn.2 p hp]
   have:p.1≠q.1:=fun e=>hn.1 (by rw [<-e];exact ZLb.2 ⟨p,hp,rfl⟩)
   unfold Chk.took;rw [k.put_other _ this]
theorem ZCM (k:Chk):∀ {l:List Nat},l.Nodup->∀ i∈l,(k.drops l).blk i=(k.blk i).freed
 |[],_,p,hp=>by cases hp
 |q:: l,hn,p,hp=>by
  rw [List.nodup_cons] at hn;show (Chk.drops (k.drop q) l).blk p=_;rcases List.mem_cons.1 hp with rfl|hp
  ·rw [Chk.drops_other _ hn.1];exact k.put_same _ _
  ·rw [ZCM _ hn.2 p hp]
   have:p≠q:=fun e=>hn.1 (by rw [<-e];exact hp)
   unfold Chk.drop;rw [k.put_other _ this]
theorem Xx {α:Type}{l m:List α}(h:(l++m).Nodup):l.Nodup/\m.Nodup/\(∀ a∈l,a∉m)/\∀ a∈m,a∉l:=by
 rw [ZL3] at h;obtain ⟨h1,h2,h3⟩:=h;exact ⟨h1,h2,fun a ha hm=>h3 a ha a hm rfl,fun a ha hm=>h3 a hm a ha rfl⟩
theorem Chk.Can.at_tk {k:Chk}{tk:List (Nat×Nat)}{dr:List Nat}(h:k.Can tk dr){p:Nat×Nat}(hp:p∈tk):(k.after tk dr).blk p.1=⟨(k.blk p.1).gen,p.2,177⟩:=by
 obtain ⟨n1,n2,n3,n4⟩:=Xx h.nodup;unfold Chk.after;rw [Chk.drops_other _ (n3 _ (ZLb.2 ⟨p,hp,rfl⟩)),ZDK k n1 p hp]
theorem Chk.Can.at_dr {k:Chk}{tk:List (Nat×Nat)}{dr:List Nat}(h:k.Can tk dr){i:Nat}(hi:i∈dr):(k.after tk dr).blk i=(k.blk i).freed:=by
 obtain ⟨n1,n2,n3,n4⟩:=Xx h.nodup;unfold Chk.after;rw [ZCM _ n2 i hi,Chk.tooks_other _ (n4 i hi)]
theorem Chk.Can.at_else {k:Chk}{tk:List (Nat×Nat)}{dr:List Nat}{i:Nat}(hi:i∉tk.map (·.1)++dr):(k.after tk dr).blk i=k.blk i:=by
 unfold Chk.after;rw [Chk.drops_other _ (fun h=>hi (ZLZ.2 (.inr h))),Chk.tooks_other _ (fun h=>hi (ZLZ.2 (.inl h)))]
theorem Chk.same_after (k:Chk)(tk:List (Nat×Nat))(dr:List Nat):k.Same (k.after tk dr):=(k.same_tooks tk).trans (Chk.same_drops _ dr)
theorem ZB0 {c:Nat->Nat}:∀ {l:List (Nat×Nat)},(l.map (·.1 / 8)).Nodup->∀ p∈l,wrs c l (p.1 / 8)=p.2
 |[],_,p,hp=>by cases hp
 |q:: l,hn,p,hp=>by
  rw [List.map_cons,List.nodup_cons] at hn;rw [YS];rcases List.mem_cons.1 hp with rfl|hp
  ·rw [YU (fun r hr e=>hn.1 (by rw [<-e];exact ZLb.2 ⟨r,hr,rfl⟩))]
   unfold upd;simp
  ·exact ZB0 hn.2 p hp
theorem UG (T:Nat->Nat)(line:Nat)(k:Chk)(tk:List (Nat×Nat))(dr:List Nat):(ZR T line k tk dr).map (·.1 / 8)=(tk.map (·.1)++dr).map (fun i=>8 * line+hdN k i)++[8 * line+1]:=by
 unfold ZR YR Ye ZAB hdW;simp only [ZLs,List.map_map,List.map_cons,List.map_nil]
 congr 1
 ·congr 1
  ·refine List.map_congr_left fun p _=>?_
   show (8 * line+hdN k p.1) * 8 / 8=_;rw [Nat.mul_div_cancel _ (by omega)];rfl
  ·refine List.map_congr_left fun p _=>?_
   show (8 * line+hdN k p) * 8 / 8=_;rw [Nat.mul_div_cancel _ (by omega)]
 ·rw [Nat.mul_div_cancel _ (by omega)]
theorem Uh {T:Nat->Nat}{line:Nat}{k:Chk}(hk:k.Head){tk:List (Nat×Nat)}{dr:List Nat}(h:k.Can tk dr):((ZR T line k tk dr).map (·.1 / 8)).Nodup:=by
 obtain ⟨_,_,_,h4,_,_⟩:=hk.sizes;rw [UG,ZL3];refine ⟨?_,by simp,?_⟩
 ·refine List.Pairwise.map _ (fun a b hab=>?_) h.nodup
  intro e;exact QD hk hab (a:=0) (by omega) (by omega)
 ·intro a ha b hb
  obtain ⟨i,_,rfl⟩:=ZLb.1 ha;have:b=8 * line+1:=by simpa using hb
  unfold hdN;omega
theorem U8 {T c:Nat->Nat}{line:Nat}{k:Chk}{tk:List (Nat×Nat)}{dr:List Nat}{x:Nat}(h1:x≠8 * line+1)(h2:∀ i∈tk.map (·.1)++dr,x≠8 * line+hdN k i):wrs c (ZR T line k tk dr) x=c x:=by
 refine YU fun p hp e=>?_
 have hm:p.1 / 8∈(ZR T line k tk dr).map (·.1 / 8):=ZLb.2 ⟨p,hp,rfl⟩;rw [UG,e] at hm;rcases ZLZ.1 hm with hm|hm
 ·obtain ⟨i,hi,e2⟩:=ZLb.1 hm
  exact h2 i hi e2.symm
 ·exact h1 (by simpa using hm)
theorem CRep.after {T c:Nat->Nat}{line:Nat}{k:Chk}(h:CRep T c (8 * line) k)(h0:0<=k.cl){tk:List (Nat×Nat)}{dr:List Nat}(hc:k.Can tk dr):CRep T (wrs c (ZR T line k tk dr)) (8 * line) (k.after tk dr):=by
 have hs:=k.same_after tk dr;have hnd:=Uh (T:=T) (line:=line) h.head hc;have hh:∀ i,8<=hdN k i:=fun i=>by unfold hdN;omega
 refine ⟨hs.head h.head,?_,fun _=>?_,fun _ a h1 h2=>?_,fun _ i hi=>?_,fun _ i hi=>?_⟩
 ·rw [U8 (by omega) (fun i _=>by have:=hh i;omega),hs.info];exact h.w0
 ·have:=ZB0 (c:=c) hnd (ZAB line (k.after tk dr)) (by unfold ZR;simp)
  have e:(ZAB line (k.after tk dr)).1 / 8=8 * line+1:=by unfold ZAB;omega
  rw [e] at this;exact this
 ·rw [U8 (by omega) (fun i _=>by have:=hh i;omega)];exact h.rest h0 a h1 h2
 ·rw [hs.perN] at hi
  have hg:=h.good h0 i hi
  by_cases m1:i∈tk.map (·.1)
  ·obtain ⟨p,hp,rfl⟩:=ZLb.1 m1
   rw [hc.at_tk hp];exact ⟨hg.gen,.inr (.inl ⟨rfl,hc.kind p hp⟩)⟩
  ·by_cases m2:i∈dr
   ·rw [hc.at_dr m2];exact Blk.freed_good hg
   ·rw [Chk.Can.at_else (by rw [ZLZ];exact fun h=>h.elim m1 m2)];exact hg
 ·rw [hs.perN] at hi
  rw [hs.hdN];have key:∀ b,hdW T line k i b∈ZR T line k tk dr->wrs c (ZR T line k tk dr) (8 * line+hdN k i)=Zc T b.info:=by
   intro b hb;have:=ZB0 (c:=c) hnd _ hb;have e:(hdW T line k i b).1 / 8=8 * line+hdN k i:=by unfold hdW;omega
   rw [e] at this;exact this
  by_cases m1:i∈tk.map (·.1)
  ·obtain ⟨p,hp,rfl⟩:=ZLb.1 m1
   rw [hc.at_tk hp];exact key _ (by unfold ZR YR;exact ZLZ.2 (.inl (ZLZ.2 (.inl (ZLb.2 ⟨p,hp,rfl⟩)))))
  ·by_cases m2:i∈dr
   ·rw [hc.at_dr m2]
    exact key _ (by unfold ZR Ye;exact ZLZ.2 (.inl (ZLZ.2 (.inr (ZLb.2 ⟨i,m2,rfl⟩)))))
   ·have m3:i∉tk.map (·.1)++dr:=by rw [ZLZ];exact fun h=>h.elim m1 m2
    obtain ⟨_,_,_,h4,_,_⟩:=h.head.sizes;rw [Chk.Can.at_else m3,U8 (by have:=hh i;omega) (fun j hj e=>?_)]
    ·exact h.blk h0 i hi
    ·have hne:i≠j:=fun e2=>m3 (e2▸hj)
     exact QD h.head hne (a:=0) (by omega) (by omega)
end
end Go.Proofs.YtbpeehmepehkdaaGreatDoor.Dv
