/- Part 6. -/
import Derived.Sort.LotD1
import Derived.Sort.LotD5
import Derived.Laws.Bits64
import Derived.Laws.Bits64b
import Derived.Test.YteomliechfdhhaaGreatDoorY5
import Derived.Test.YteomliechfdhhaaGreatDoorY0
set_option maxHeartbeats 8000000
set_option maxRecDepth 20000
set_option linter.all false
namespace Go.Proofs.YteomliechfdhhaaGreatDoor.Srt
open Tryz
section
open Go.Sort Go.RowKit
theorem Q9 (x:Nat)(h:x < 2 ^ 64):Lib.bitLen x=bitsLen x:=by
 induction x using Nat.strongRecOn with
 |_ x ih=>
  by_cases h0:x=0
  ·subst h0;rfl
  ·rw [Lib.bitLen_half x h0 h,ih (x / 2) (by omega) (by omega)]
   unfold bitsLen;rw [if_neg h0,Nat.log2_def x]
   by_cases h2:2<=x
   ·rw [if_pos h2,if_neg (by omega)];omega
   ·obtain rfl:x=1:=by omega
    simp
def Jc:Prop:=∀ (blk off cap a b limit:Nat) (d:Array Int) (w:World),Holds (Value.int .u64) w blk off d->blk < w.heap.size->a<=b->b<=d.size->d.size < 4611686018427387904->limit < 4611686018427387904->Below ltInt a b d->
 Calls prog 183 #[.slice (some ⟨blk,off,none⟩) d.size cap,.int .i64 a,.int .i64 b,.int .i64 limit] w fun e w'=>
  e=.returned (.tuple #[])/\∃ n os,w'=grow (putRow (Value.int .u64) (Sort.ahead w n) blk off (Sort.pdq ltInt d a b limit true true)) os
theorem ZF3 (hpdq:Jc)(blk off cap:Nat)(d:Array Int)(w:World)(hH:Holds (Value.int .u64) w blk off d)(hblk:blk < w.heap.size)(hsz:d.size < 4611686018427387904):
 Calls prog 133 #[.slice (some ⟨blk,off,none⟩) d.size cap] w fun e w'=>e=.returned (.tuple #[])/\∃ n os,w'=grow (putRow (Value.int .u64) (Sort.ahead w n) blk off (Sort.sort ltInt d)) os:=by
 have HH:Hid (Holds (Value.int .u64) w blk off d):=hH;clear hH;have hLen:∀ w,Calls prog 184 #[.int .u64 (d.size:Int)] w fun e w'=>e=.returned (.int .i64 (bitsLen d.size:Nat))/\w'=w:=fun w=>by
  have h:=ZBk (d.size:Int) w (by omega) (by omega)
  rwa [Int.toNat_natCast,Q9 _ (by omega)] at h
 have hk:bitsLen d.size<=62:=(bitsLen_le_iff d.size 62).2 (by omega);go_in
 go_wp2_with (first
  |(go_at_call 184;refine (hLen _).mono ?_;rintro e w' ⟨rfl,rfl⟩)
  |(go_at_call 183;refine (hpdq blk off cap 0 d.size (bitsLen d.size) d _ (by exact HH.out) (by exact hblk) (Nat.zero_le _) (Nat.le_refl _) hsz (by omega) (Or.inl rfl)).mono ?_;rintro e w' ⟨rfl,n,os,rfl⟩))
 go_end0
 exact ⟨rfl,n,os,rfl⟩
theorem Jp (w:World)(blk off:Nat)(v v':Value):(w.setCell ⟨blk,off,none⟩ v).setCell ⟨blk,off,none⟩ v'=w.setCell ⟨blk,off,none⟩ v':=by
 rw [setCell_eq,setCell_eq,mapBlock_mapBlock,setCell_eq]
 congr 1
 funext c
 simp
theorem Q5 (rb ro X:Nat)(hX:X < 18446744073709551616)(w:World)(hc:w.cell? ⟨rb,ro,none⟩=some (.int .u64 X))(hf:w.frozen? ⟨rb,ro,none⟩=false):
 Calls prog 256 #[.pointer (some ⟨rb,ro,none⟩)] w fun e w'=>e=.returned (.int .u64 (xorNextN X:Nat))/\w'=(w.setCell ⟨rb,ro,none⟩ (.int .u64 (xorNextN X:Nat))).drewN 3:=by
 obtain ⟨A,hA⟩:∃ A:Nat,A=X ^^^ (X * 8192 % 18446744073709551616):=⟨_,rfl⟩
 obtain ⟨B,hB⟩:∃ B:Nat,B=A ^^^ (A / 128):=⟨_,rfl⟩
 obtain ⟨C,hC⟩:∃ C:Nat,C=B ^^^ (B * 131072 % 18446744073709551616):=⟨_,rfl⟩
 have lA:A < 18446744073709551616:=by rw [hA];exact Nat.xor_lt_two_pow (n:=64) (by omega) (by omega)
 have lB:B < 18446744073709551616:=by rw [hB];exact Nat.xor_lt_two_pow (n:=64) (by omega) (by omega)
 have e1:bits .xor .u64 (X:Int) (IntKind.u64.wrap ((X:Int) * 8192))=(A:Int):=by
  rw [IntKind.wrap_u64,show ((X:Int) * 8192 % 18446744073709551616)=((X * 8192 % 18446744073709551616:Nat):Int) by omega,bits_xor_u64_nat _ _ hX (by omega),hA]
 have e2:bits .xor .u64 (A:Int) ((A:Int) / 128)=(B:Int):=by
  rw [show ((A:Int) / 128)=((A / 128:Nat):Int) by omega,bits_xor_u64_nat _ _ lA (by omega),hB]
 have e3:bits .xor .u64 (B:Int) (IntKind.u64.wrap ((B:Int) * 131072))=(C:Int):=by
  rw [IntKind.wrap_u64,show ((B:Int) * 131072 % 18446744073709551616)=((B * 131072 % 18446744073709551616:Nat):Int) by omega,bits_xor_u64_nat _ _ lB (by omega),hC]
 have hv:xorNextN X=C:=by unfold xorNextN;simp only [];rw [<-hA,<-hB,<-hC]
 rw [hv];clear hA hB hC hv;have hss:∀ v v',(w.setCell ⟨rb,ro,none⟩ v).setCell ⟨rb,ro,none⟩ v'=w.setCell ⟨rb,ro,none⟩ v':=Jp w rb ro;go_in;go_wp2
 go_region
 all_goals go_wp2
 all_goals go_region
 all_goals go_wp2
 all_goals go_region
 all_goals go_wp2
 go_ret
 exact ⟨rfl,rfl⟩
theorem ZBc (k:Nat)(hk:k<=62):IntKind.u64.wrap ((2:Int) ^ k)=((1 <<< k:Nat):Int):=by
 have h:(2:Nat) ^ k<=2 ^ 62:=Nat.pow_le_pow_right (by decide) hk;rw [IntKind.wrap_u64,Nat.one_shiftLeft,show ((2:Int) ^ k)=((2 ^ k:Nat):Int) by push_cast;rfl];generalize (2:Nat) ^ k=p at h;omega
theorem QV (n:Nat)(hn:n < 4611686018427387904)(w:World):
 Calls prog 255 #[.int .i64 n] w fun e w'=>e=.returned (.int .u64 ((1 <<< bitsLen n:Nat):Int))/\w'=w:=by
 have hLen:∀ w,Calls prog 184 #[.int .u64 (n:Int)] w fun e w'=>e=.returned (.int .i64 (bitsLen n:Nat))/\w'=w:=fun w=>by
  have h:=ZBk (n:Int) w (by omega) (by omega)
  rwa [Int.toNat_natCast,Q9 _ (by omega)] at h
 have hk:bitsLen n<=62:=(bitsLen_le_iff n 62).2 (by omega);have hp:=ZBc (bitsLen n) hk;go_in;go_wp2_with (first|(go_at_call 184;refine (hLen _).mono ?_;rintro e w' ⟨rfl,rfl⟩))
 go_ret
 exact ⟨rfl,rfl⟩
section
variable {α:Type} [Inhabited α]
def Xr (a L M i0:Nat):Nat->Nat->UInt64×Array α->Array α
 |0,_,st=>st.2
 |k+1,t,st=>Xr a L M i0 k (t+1) (breakStep a L M st (i0+t))
theorem Ur (d:Array α)(a L:Nat)(h8:8<=L):breakPatterns d a (a+L)=Xr a L (1 <<< bitsLen L) (a+L / 4 * 2 - 1) 3 0 (UInt64.ofNat L,d):=by
 unfold breakPatterns;simp only [Nat.add_sub_cancel_left];rw [if_pos h8];rfl
theorem ZEA (a L M i0 t:Nat)(r:UInt64)(d:Array α)(o:Nat)(ht:t < 3)(ho:(if (xorNext r).toNat &&& (M - 1)>=L then ((xorNext r).toNat &&& (M - 1)) - L else (xorNext r).toNat &&& (M - 1))=o):
 Xr a L M i0 (3 - t) t (r,d)=Xr a L M i0 (3 - (t+1)) (t+1) (xorNext r,swp d (i0+t) (a+o)):=by
 rw [show 3 - t=(3 - (t+1))+1 by omega,Xr];unfold breakStep;simp only [ho]
theorem Qs (X:World)(v:Value)(T:TypeId):(grow X #[Obj.cells #[v] T]).cell? ⟨X.heap.size,0,none⟩=some v:=by
 rw [<-alloc_eq_grow,World.cell?_alloc_at _ _ _ _ rfl];rfl
theorem Jl (X:World)(v:Value)(T:TypeId):(grow X #[Obj.cells #[v] T]).frozen? ⟨X.heap.size,0,none⟩=false:=by
 rw [<-alloc_eq_grow,World.frozen?_alloc_at _ _ _ _ rfl]
theorem Ui (X:World)(os:Array Obj)(blk off:Nat)(v:Value)(h:blk < X.heap.size):(grow X os).setCell ⟨blk,off,none⟩ v=grow (X.setCell ⟨blk,off,none⟩ v) os:=by
 rw [setCell_eq,setCell_eq,mapBlock_grow _ _ _ _ h]
theorem JP (X:World)(u v:Value)(T:TypeId):(grow X #[Obj.cells #[u] T]).setCell ⟨X.heap.size,0,none⟩ v=grow X #[Obj.cells #[v] T]:=by
 rw [setCell_eq,mapBlock_grow_new _ _ _ _ (Nat.le_refl _)];simp [onCells]
theorem Qg (enc:α->Value)(w:World)(n q blk off:Nat)(d:Array α)(j k:Nat)(hblk:blk < w.heap.size)(hj:j < d.size)(hk:k < d.size)(u v:Value)(T:TypeId):
 ((((grow (putRow enc (Sort.ahead w n) blk off d) #[Obj.cells #[u] T]).setCell ⟨w.heap.size,0,none⟩ v).drewN q).setCell ⟨blk,off+j,none⟩ (enc d[k]!)).setCell ⟨blk,off+k,none⟩ (enc d[j]!)=
   grow (putRow enc (Sort.ahead w (n+q)) blk off (swp d j k)) #[Obj.cells #[v] T]:=by
 have hz:(putRow enc (Sort.ahead w n) blk off d).heap.size=w.heap.size:=by simp
 rw [<-hz,JP,show (grow (putRow enc (Sort.ahead w n) blk off d) #[Obj.cells #[v] T]).drewN q=grow ((putRow enc (Sort.ahead w n) blk off d).drewN q) #[Obj.cells #[v] T] from rfl,ZW,
  Ui _ _ _ _ _ (by simpa using hblk),Ui _ _ _ _ _ (by simpa using hblk),putRow_swp enc _ blk off d j k hj hk]
end
theorem VK (blk off cap a L:Nat)(d:Array Int)(w:World)(hH:Holds (Value.int .u64) w blk off d)(hblk:blk < w.heap.size)(hb:a+L<=d.size)(hsz:d.size < 4611686018427387904)(h8:8<=L):
 Calls prog 225 #[.slice (some ⟨blk,off,none⟩) d.size cap,.int .i64 a,.int .i64 ((a+L:Nat):Int)] w fun e w'=>
  e=.returned (.tuple #[])/\∃ n os,w'=grow (putRow (Value.int .u64) (Sort.ahead w n) blk off (breakPatterns d a (a+L))) os:=by
 rw [Ur d a L h8];obtain ⟨M,hM⟩:∃ M:Nat,M=1 <<< bitsLen L:=⟨_,rfl⟩
 have hM1:1<=M:=by rw [hM,Nat.one_shiftLeft];exact Nat.two_pow_pos _
 have hM2:M<=2 * L:=by rw [hM,Nat.one_shiftLeft];exact two_pow_bitsLen_le (by omega)
 have hNP:∀ w,Calls prog 255 #[.int .i64 (L:Int)] w fun e w'=>e=.returned (.int .u64 (M:Int))/\w'=w:=by rw [hM];exact fun w=>QV L (by omega) w
 rw [<-hM];clear hM;have HH:Hid (Holds (Value.int .u64) w blk off d):=hH;have HST:Hid (w.alloc (Obj.cells #[.int .u64 (L:Int)] 405)=grow (putRow (Value.int .u64) (Sort.ahead w 0) blk off d) #[Obj.cells #[.int .u64 ((UInt64.ofNat L).toNat:Int)] 405]):=by
  show _=_;rw [show Sort.ahead w 0=w from rfl,putRow_self _ _ _ _ _ hH,alloc_eq_grow,show (UInt64.ofNat L).toNat=L from by simp;omega]
 clear hH;go_in;go_wp2_with (first|(go_at_call 255;rw [show ((a:Int)+(L:Int) - (a:Int))=(L:Int) by omega];refine (hNP _).mono ?_;rintro e w' ⟨rfl,rfl⟩))
 go_loopw [9] (fun vi wr=>∃ (t n:Nat) (r:UInt64) (dk:Array Int),vi=.int .i64 ((a+L / 4 * 2 - 1+t:Nat):Int)/\t<=3/\dk.size=d.size/\
  wr=grow (putRow (Value.int .u64) (Sort.ahead w n) blk off dk) #[Obj.cells #[.int .u64 (r.toNat:Int)] 405]/\
  Xr a L M (a+L / 4 * 2 - 1) (3 - t) t (r,dk)=Xr a L M (a+L / 4 * 2 - 1) 3 0 (UInt64.ofNat L,d)) (fun vi _=>a+L / 4 * 2+3 - (intOf vi).toNat)
 case atStart=>exact ⟨0,0,UInt64.ofNat L,d,by congr 1;omega,by omega,rfl,HST.out,rfl⟩
 case round=>
  obtain ⟨t,n,r,dk,rfl,ht,hsk,hw,hR⟩:=hrel;obtain ⟨R,hRr⟩:∃ R:Nat,R=r.toNat:=⟨_,rfl⟩
  have lR:R < 18446744073709551616:=by rw [hRr];exact r.toNat_lt
  obtain ⟨R',hR'⟩:∃ R':Nat,R'=xorNextN R:=⟨_,rfl⟩
  have lR':R' < 18446744073709551616:=by rw [hR'];exact xorNextN_lt R lR
  obtain ⟨O,hO⟩:∃ O:Nat,O=R' &&& (M - 1):=⟨_,rfl⟩
  have lO:O<=M - 1:=by rw [hO];exact Nat.and_le_right
  have eAnd:bits .and .u64 (R':Int) ((M:Int) - 1)=(O:Int):=by
   rw [show ((M:Int) - 1)=((M - 1:Nat):Int) by omega,bits_and_u64_nat _ _ lR' (by omega),hO]
  obtain ⟨G,hG⟩:∃ G:Nat->Int,∀ x,G x=dk[x]!:=⟨fun x=>dk[x]!,fun _=>rfl⟩
  have hz:(putRow (Value.int .u64) (Sort.ahead w n) blk off dk).heap.size=w.heap.size:=by simp
  have hcw:∀ x,x < d.size->wr.cell? ⟨blk,off+x,none⟩=some (.int .u64 (G x)):=fun x hx=>by
   rw [hw,cell?_grow _ _ _ (by rw [hz];exact hblk),hG];exact cell?_putRow _ _ _ _ d dk (holds_ahead _ _ _ _ _ _ HH.out) hsk x (by omega)
  have hfw:∀ x,x < d.size->wr.frozen? ⟨blk,off+x,none⟩=false:=fun x hx=>by
   rw [hw,frozen?_grow _ _ _ (by rw [hz];exact hblk),frozen?_putRow];exact ((holds_ahead _ _ n _ _ _ HH.out) x hx).2
  have hcB:wr.cell? ⟨w.heap.size,0,none⟩=some (.int .u64 (R:Int)):=by rw [hw,hRr,<-hz];exact Qs _ _ _
  have hfB:wr.frozen? ⟨w.heap.size,0,none⟩=false:=by rw [hw,<-hz];exact Jl _ _ _
  have hNext:Calls prog 256 #[.pointer (some ⟨w.heap.size,0,none⟩)] wr fun e w'=>e=.returned (.int .u64 (R':Int))/\w'=(wr.setCell ⟨w.heap.size,0,none⟩ (.int .u64 (R':Int))).drewN 3:=by
   rw [hR'];exact Q5 _ _ R lR wr hcB hfB
  have HW:Hid (wr=grow (putRow (Value.int .u64) (Sort.ahead w n) blk off dk) #[Obj.cells #[.int .u64 (r.toNat:Int)] 405]):=hw;have HG:Hid (∀ x,G x=dk[x]!):=hG;have HR:Hid (Xr a L M (a+L / 4 * 2 - 1) (3 - t) t (r,dk)=Xr a L M (a+L / 4 * 2 - 1) 3 0 (UInt64.ofNat L,d)):=hR;have HN:Hid (R'=(xorNext r).toNat/\O=(xorNext r).toNat &&& (M - 1)):=by
   have e:R'=(xorNext r).toNat:=by rw [hR',hRr,xorNext_toNat]
   exact ⟨e,by rw [hO,e]⟩
  clear hw hG hR hRr hR' hO;go_wp2_with (first|(go_at_call 256;refine hNext.mono ?_;rintro e w' ⟨rfl,rfl⟩))
  ·
   have hLO:L<=O:=by omega
   by_cases hEq:a+L / 4 * 2 - 1+t=a+(O - L)
   all_goals
    go_region
    all_goals go_wp2
    go_roundw
    case rel=>
     refine ⟨t+1,n+4,xorNext r,swp dk (a+L / 4 * 2 - 1+t) (a+(O - L)),by first|rfl|(congr 1 <;> omega),by omega,by rw [size_swp];exact hsk,?_,?_⟩
     ·(try rw [hEq])
      rw [HW.out,HN.out.1];simp only [HG.out];exact Qg (Value.int .u64) w n 4 blk off dk _ _ hblk (by omega) (by omega) _ _ _
     ·rw [<-HR.out,ZEA a L M _ t r dk (O - L) (by omega) (by rw [<-HN.out.2,if_pos (by omega)])]
    case measure=>simp [intOf];omega
  ·have hLO:¬ L<=O:=by omega
   by_cases hEq:a+L / 4 * 2 - 1+t=a+O
   all_goals
    go_region
    all_goals go_wp2
    go_roundw
    case rel=>
     refine ⟨t+1,n+4,xorNext r,swp dk (a+L / 4 * 2 - 1+t) (a+O),by first|rfl|(congr 1 <;> omega),by omega,by rw [size_swp];exact hsk,?_,?_⟩
     ·(try rw [hEq])
      rw [HW.out,HN.out.1];simp only [HG.out];exact Qg (Value.int .u64) w n 4 blk off dk _ _ hblk (by omega) (by omega) _ _ _
     ·rw [<-HR.out,ZEA a L M _ t r dk O (by omega) (by rw [<-HN.out.2,if_neg (by omega)])]
    case measure=>simp [intOf];omega
  ·
   obtain rfl:t=3:=by omega
   go_end0
   exact ⟨rfl,n,_,by rw [<-HR.out,HW.out];rfl⟩
theorem UO (blk off cap a b:Nat)(d:Array Int)(w:World)(hH:Holds (Value.int .u64) w blk off d)(hblk:blk < w.heap.size)(hab:a<=b)(hb:b<=d.size)(hsz:d.size < 4611686018427387904):
 Calls prog 225 #[.slice (some ⟨blk,off,none⟩) d.size cap,.int .i64 a,.int .i64 b] w fun e w'=>
  e=.returned (.tuple #[])/\∃ n os,w'=grow (putRow (Value.int .u64) (Sort.ahead w n) blk off (breakPatterns d a b)) os:=by
 obtain ⟨L,rfl⟩:∃ L,b=a+L:=⟨b - a,by omega⟩
 by_cases h8:8<=L
 ·exact VK blk off cap a L d w hH hblk hb hsz h8
 ·have hv:breakPatterns d a (a+L)=d:=by unfold breakPatterns;simp only [Nat.add_sub_cancel_left];rw [if_neg h8]
  rw [hv];have HST:Hid (w=grow (putRow (Value.int .u64) (Sort.ahead w 0) blk off d) #[]):=by
   show _=_;rw [grow_empty,show Sort.ahead w 0=w from rfl,putRow_self _ _ _ _ _ hH]
  clear hH;go_in;go_wp2
  go_end0
  exact ⟨rfl,0,#[],HST.out⟩
end
end Go.Proofs.YteomliechfdhhaaGreatDoor.Srt
