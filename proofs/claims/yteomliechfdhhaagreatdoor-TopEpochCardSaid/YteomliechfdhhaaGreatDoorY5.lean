/- Part 5. -/
import Derived.Test.YteomliechfdhhaaGreatDoorProg
import Derived.Lib.Walk
import Derived.Sort.Row
import Derived.Lib.Strings
import Derived.Sort.LotA
import Derived.WalkKit
import Derived.BigGuard
import Derived.BigCall
import Derived.CellFam
import Derived.Deep.Draws
import Derived.Deep.QuietTactic
import Derived.BigQuiet
import Derived.Sort.Grow
set_option maxHeartbeats 8000000
set_option maxRecDepth 20000
set_option linter.all false
namespace Go.Proofs.YteomliechfdhhaaGreatDoor.Srt
open Tryz
section
open Go.Sort Go.RowKit
theorem Qr (x:Int)(w:World):Calls prog 259 #[.int .u64 x] w fun e w'=>e=.returned (.bool false)/\w'=w:=by
 go_in;go_wp2
 go_ret
 exact ⟨by simp,rfl⟩
theorem ZL (x y:Int)(w:World):Calls prog 229 #[.int .u64 x,.int .u64 y] w fun e w'=>e=.returned (.bool (Sort.ltInt x y))/\w'=w:=by
 go_in;go_wp2_with (go_at_call 259;refine (Qr _ _).mono ?_;rintro e w' ⟨rfl,rfl⟩)
 go_ret
 exact ⟨rfl,rfl⟩
def intOf:Value->Int|.int _ q=>q|_=>0
section
variable {α:Type} [Inhabited α] (lt:α->α->Bool)
theorem ZCC (a j:Nat)(d:Array α)(hj:a < j)(hl:lt d[j]! d[j - 1]! =true):insInner lt a j d=insInner lt a (j - 1) (swp d j (j - 1)):=by
 obtain ⟨k,rfl⟩:∃ k,j=k+1:=⟨j - 1,by omega⟩
 rw [insInner];simp only [Nat.add_sub_cancel] at hl ⊢;simp [hj,hl]
theorem Qx (a j:Nat)(d:Array α)(h:j<=a\/lt d[j]! d[j - 1]! =false):insInner lt a j d=d:=by
 cases j with
 |zero=>rw [insInner]
 |succ k=>
  rw [insInner];simp only [Nat.add_sub_cancel] at h;rcases h with h|h
  ·simp [show ¬ k+1 > a by omega]
  ·simp [h]
theorem ZCD (a b i:Nat)(d:Array α)(h:i < b):insOuter lt a b i d=insOuter lt a b (i+1) (insInner lt a i d):=by rw [insOuter,if_pos h]
theorem Qy (a b i:Nat)(d:Array α)(h:¬ i < b):insOuter lt a b i d=d:=by rw [insOuter,if_neg h]
end
section
variable {α:Type} [Inhabited α] (enc:α->Value)
theorem ZW (w:World)(m q blk off:Nat)(d:Array α):(putRow enc (Sort.ahead w m) blk off d).drewN q=putRow enc (Sort.ahead w (m+q)) blk off d:=by
 show Sort.ahead (putRow enc (Sort.ahead w m) blk off d) q=_;rw [putRow_ahead enc w m,ahead_ahead,<-putRow_ahead]
theorem Yj (w:World)(m q blk off:Nat)(d:Array α)(j k:Nat)(hj:j < d.size)(hk:k < d.size):
 (((putRow enc (Sort.ahead w m) blk off d).drewN q).setCell ⟨blk,off+j,none⟩ (enc d[k]!)).setCell ⟨blk,off+k,none⟩ (enc d[j]!)=putRow enc (Sort.ahead w (m+q)) blk off (swp d j k):=by
 rw [ZW];exact putRow_swp enc _ blk off d j k hj hk
end
theorem UX (blk off cap a b:Nat)(d:Array Int)(w:World)(hH:Holds (Value.int .u64) w blk off d)(hab:a<=b)(hb:b<=d.size)(hsz:d.size < 4611686018427387904):
 Calls prog 223 #[.slice (some ⟨blk,off,none⟩) d.size cap,.int .i64 a,.int .i64 b] w fun e w'=>
  e=.returned (.tuple #[])/\∃ n,w'=putRow (Value.int .u64) (Sort.ahead w n) blk off (Sort.insertionSort ltInt d a b):=by
 go_in;go_wp2
 go_loopw [6] (fun vi wr=>∃ (i n:Nat) (dk:Array Int),vi=.int .i64 i/\a < i/\i<=b+1/\dk.size=d.size/\wr=putRow (Value.int .u64) (Sort.ahead w n) blk off dk/\
  insOuter ltInt a b i dk=insOuter ltInt a b (a+1) d) (fun vi _=>b+1 - (intOf vi).toNat)
 case atStart=>exact ⟨a+1,0,d,by go_num,by omega,by omega,rfl,(putRow_self _ _ _ _ _ hH).symm,rfl⟩
 case round=>
  obtain ⟨i,n,dk,rfl,hai,hib,hsk,hwr,hO⟩:=hrel;have HO:Hid (insOuter ltInt a b i dk=insOuter ltInt a b (a+1) d):=hO;clear hO;go_wp2
  ·
   go_loopw [7] (fun vj wr2=>∃ (j m:Nat) (dj:Array Int),vj=.int .i64 j/\a<=j/\j<=i/\dj.size=d.size/\wr2=putRow (Value.int .u64) (Sort.ahead w m) blk off dj/\
    insInner ltInt a j dj=insInner ltInt a i dk) (fun vj _=>(intOf vj).toNat)
   case atStart=>exact ⟨i,n,dk,rfl,by omega,Nat.le_refl _,hsk,rfl,rfl⟩
   case round=>
    obtain ⟨j,m,dj,rfl,haj,hji,hsj,hw2,hI⟩:=hrel;have hlt:i < b:=by assumption
    obtain ⟨G,hG⟩:∃ G:Nat->Int,∀ t,G t=dj[t]!:=⟨fun t=>dj[t]!,fun _=>rfl⟩
    have hcw:∀ t,t < d.size->wr.cell? ⟨blk,off+t,none⟩=some (.int .u64 (G t)):=fun t ht=>by
     rw [hw2,hG];exact cell?_putRow _ _ _ _ d dj (holds_ahead _ _ _ _ _ _ hH) hsj t (by omega)
    have hfw:∀ t,t < d.size->wr.frozen? ⟨blk,off+t,none⟩=false:=fun t ht=>by
     rw [hw2,frozen?_putRow];exact ((holds_ahead _ _ m _ _ _ hH) t ht).2
    have HW:Hid (wr=putRow (Value.int .u64) (Sort.ahead w m) blk off dj):=hw2;have HG:Hid (∀ t,G t=dj[t]!):=hG;have HI:Hid (insInner ltInt a j dj=insInner ltInt a i dk):=hI;clear hw2 hG hI hH
    have out:(j<=a\/ltInt dj[j]! dj[j - 1]! =false)->∀ q,∃ i' n' dk',Value.int .i64 ((i:Int)+1)=.int .i64 (i':Nat)/\a < i'/\i'<=b+1/\dk'.size=d.size/\
     wr.drewN q=putRow (Value.int .u64) (Sort.ahead w n') blk off dk'/\insOuter ltInt a b i' dk'=insOuter ltInt a b (a+1) d:=fun hs q=>
     ⟨i+1,m+q,dj,by go_num,by omega,by omega,hsj,by rw [HW.out];exact ZW _ _ _ _ _ _ _,
       by rw [<-HO.out,ZCD _ _ _ _ _ hlt,<-HI.out,Qx _ _ _ _ hs]⟩
    have OUT:Hid _:=out;clear out;go_wp2
    by_cases hja:a < j
    ·go_quiet (first|(go_at_call 229;refine Calls.quiet_of_same (ZL _ _ _)))
     go_wp2
     ·
      have hl:ltInt (G j) (G (j - 1))=true:=by assumption
      go_region
      all_goals go_wp2
      go_roundw
      case rel=>
       refine ⟨j - 1,m+(nq+1),swp dj j (j - 1),by congr 1;omega,by omega,by omega,by rw [size_swp];exact hsj,?_,?_⟩
       ·rw [HW.out,HG.out,HG.out]
        exact Yj _ w m (nq+1) blk off dj j (j - 1) (by omega) (by omega)
       ·rw [<-HI.out,ZCC ltInt a j dj hja (by rw [<-HG.out,<-HG.out];exact hl)]
      case measure=>simp [intOf];omega
     ·
      have hl:ltInt (G j) (G (j - 1))=false:=by assumption
      go_roundw
      case rel=>exact OUT.out (Or.inr (by rw [<-HG.out,<-HG.out];exact hl)) nq
      case measure=>simp [intOf];omega
    ·go_quiet (first|(go_at_call 229;refine Calls.quiet_of_same (ZL _ _ _)))
     go_wp2;go_roundw
     case rel=>exact OUT.out (Or.inl (by omega)) nq
     case measure=>simp [intOf];omega
  ·
   have hge:¬ i < b:=by assumption
   go_end0
   exact ⟨rfl,n,by unfold Sort.insertionSort;rw [<-HO.out,Qy _ _ _ _ _ hge]⟩
section
variable {α:Type} [Inhabited α] (lt:α->α->Bool)
theorem Q3 (d:Array α)(b i:Nat)(h:i < b)(hl:lt d[i]! d[i - 1]! =false):scanSorted lt d b i=scanSorted lt d b (i+1):=by
 rw [scanSorted];simp [h,hl]
theorem VF (d:Array α)(b i:Nat)(h:¬ i < b\/lt d[i]! d[i - 1]! =true):scanSorted lt d b i=i:=by
 rw [scanSorted];rcases h with h|h
 ·simp [h]
 ·simp [h]
theorem ZBY (j:Nat)(d:Array α)(hj:1<=j)(hl:lt d[j]! d[j - 1]! =true):shiftDown lt j d=shiftDown lt (j - 1) (swp d j (j - 1)):=by
 obtain ⟨k,rfl⟩:∃ k,j=k+1:=⟨j - 1,by omega⟩
 rw [shiftDown];simp only [Nat.add_sub_cancel] at hl ⊢;simp [hl]
theorem VZ (j:Nat)(d:Array α)(h:j=0\/lt d[j]! d[j - 1]! =false):shiftDown lt j d=d:=by
 cases j with
 |zero=>rw [shiftDown]
 |succ k=>
  rw [shiftDown];simp only [Nat.add_sub_cancel] at h;rcases h with h|h
  ·omega
  ·simp [h]
theorem UG (b j:Nat)(d:Array α)(hj:j < b)(hl:lt d[j]! d[j - 1]! =true):shiftUp lt b j d=shiftUp lt b (j+1) (swp d j (j - 1)):=by
 rw [shiftUp];simp [hj,hl]
theorem YX (b j:Nat)(d:Array α)(h:¬ j < b\/lt d[j]! d[j - 1]! =false):shiftUp lt b j d=d:=by
 rw [shiftUp];rcases h with h|h
 ·simp [h]
 ·by_cases hj:j < b <;> simp [hj,h]
end
section
variable {α:Type} [Inhabited α] (lt:α->α->Bool)
theorem ZIJ (a b s i:Nat)(d:Array α)(hs:s < 5)(hK:scanSorted lt d b i=b):partialIns lt a b (5 - s) i d=(d,true):=by
 rw [show 5 - s=(4 - s)+1 by omega,partialIns_succ,if_pos hK]
theorem ZG0 (a b s i:Nat)(d:Array α)(hs:s < 5)(hK:scanSorted lt d b i≠b)(h50:b - a < 50):partialIns lt a b (5 - s) i d=(d,false):=by
 rw [show 5 - s=(4 - s)+1 by omega,partialIns_succ,if_neg hK,if_pos h50]
theorem Uc (a b s i k:Nat)(d:Array α)(hs:s < 5)(hK:scanSorted lt d b i=k)(hkb:k≠b)(h50:¬ b - a < 50):
 partialIns lt a b (5 - s) i d=partialIns lt a b (5 - (s+1)) k (fixUp lt b k (fixDown lt a k (swp d k (k - 1)))):=by
 rw [show 5 - s=(4 - s)+1 by omega,partialIns_succ,hK,if_neg hkb,if_neg h50,show 5 - (s+1)=4 - s by omega]
theorem ZJT (a b i:Nat)(d:Array α):partialIns lt a b (5 - 5) i d=(d,false):=rfl
end
theorem XY (blk off cap a b:Nat)(d:Array Int)(w:World)(hH:Holds (Value.int .u64) w blk off d)(hab:a < b)(hb:b<=d.size)(hsz:d.size < 4611686018427387904):
 Calls prog 228 #[.slice (some ⟨blk,off,none⟩) d.size cap,.int .i64 a,.int .i64 b] w fun e w'=>
  e=.returned (.bool (Sort.partialInsertionSort ltInt d a b).2)/\∃ n,w'=putRow (Value.int .u64) (Sort.ahead w n) blk off (Sort.partialInsertionSort ltInt d a b).1:=by
 have HH:Hid (Holds (Value.int .u64) w blk off d):=hH;have HST:Hid (w=putRow (Value.int .u64) (Sort.ahead w 0) blk off d):=(putRow_self _ _ _ _ _ hH).symm;clear hH;go_in;go_wp2
 go_loopw [7,8] (fun vi vs wr=>∃ (i s n:Nat) (dk:Array Int),vi=.int .i64 i/\vs=.int .i64 s/\s<=5/\a < i/\i<=b/\dk.size=d.size/\wr=putRow (Value.int .u64) (Sort.ahead w n) blk off dk/\
  partialIns ltInt a b (5 - s) i dk=partialIns ltInt a b 5 (a+1) d) (fun _ vs _=>5 - (intOf vs).toNat)
 case atStart=>exact ⟨a+1,0,0,d,by go_num,rfl,by omega,by omega,by omega,rfl,HST.out,rfl⟩
 case round=>
  obtain ⟨i,s,n,dk,rfl,rfl,hs5,hai,hib,hsk,hwr,hO⟩:=hrel;have HO:Hid (partialIns ltInt a b (5 - s) i dk=partialIns ltInt a b 5 (a+1) d):=hO;clear hO;go_wp2
  ·
   have hs:s < 5:=by omega
   go_loopw [7] (fun vi wr2=>∃ (k m:Nat),vi=.int .i64 k/\i<=k/\k<=b/\wr2=putRow (Value.int .u64) (Sort.ahead w m) blk off dk/\scanSorted ltInt dk b k=scanSorted ltInt dk b i) (fun vi _=>b - (intOf vi).toNat)
   case atStart=>exact ⟨i,n,rfl,Nat.le_refl _,hib,rfl,rfl⟩
   case round=>
    obtain ⟨k,m,rfl,hik,hkb,hw2,hS⟩:=hrel;obtain ⟨G,hG⟩:∃ G:Nat->Int,∀ t,G t=dk[t]!:=⟨fun t=>dk[t]!,fun _=>rfl⟩
    have hcw:∀ t,t < d.size->wr.cell? ⟨blk,off+t,none⟩=some (.int .u64 (G t)):=fun t ht=>by
     rw [hw2,hG];exact cell?_putRow _ _ _ _ d dk (holds_ahead _ _ _ _ _ _ HH.out) hsk t (by omega)
    have hfw:∀ t,t < d.size->wr.frozen? ⟨blk,off+t,none⟩=false:=fun t ht=>by
     rw [hw2,frozen?_putRow];exact ((holds_ahead _ _ m _ _ _ HH.out) t ht).2
    have HW:Hid (wr=putRow (Value.int .u64) (Sort.ahead w m) blk off dk):=hw2;have HG:Hid (∀ t,G t=dk[t]!):=hG;have HS:Hid (scanSorted ltInt dk b k=scanSorted ltInt dk b i):=hS;clear hw2 hG hS;go_wp2
    by_cases hkb':k < b
    ·go_quiet (first|(go_at_call 229;refine Calls.quiet_of_same (ZL _ _ _)))
     go_wp2
     all_goals first
      |((with_reducible show _/\_)
        have hl:ltInt (G k) (G (k - 1))=false:=by
         have h:(!ltInt (G k) (G (k - 1)))=true:=by assumption
         simpa using h
        go_roundw
        case rel=>exact ⟨k+1,m+nq,by go_num,by omega,by omega,by rw [HW.out];exact ZW _ _ _ _ _ _ _,by rw [<-HS.out,Q3 ltInt dk b k hkb' (by rw [<-HG.out,<-HG.out];exact hl)]⟩
        case measure=>simp [intOf];omega)
      |(have hl:ltInt (G k) (G (k - 1))=true:=by
         have h:(!ltInt (G k) (G (k - 1)))=false:=by assumption
         simpa using h
        have HK:Hid (scanSorted ltInt dk b i=k):=by
         show scanSorted ltInt dk b i=k;rw [<-HS.out,VF ltInt dk b k (Or.inr (by rw [<-HG.out,<-HG.out];exact hl))]
        first
         |((with_reducible show bodyPost _ _ _ _ _ _)
           have hv:Sort.partialInsertionSort ltInt d a b=(dk,false):=by
            unfold Sort.partialInsertionSort;rw [<-HO.out,ZG0 ltInt a b s i dk hs (by rw [HK.out];omega) (by omega)]
           rw [hv]
           go_ret
           exact ⟨rfl,m+nq,by rw [HW.out];exact ZW _ _ _ _ _ _ _⟩)
         |((with_reducible show Code.wp _ (Code.region 11 _ _) _ _ _)
           have h50:¬ b - a < 50:=by omega
           go_region
           have hsw:((wr.drewN (nq+1)).setCell ⟨blk,off+k,none⟩ (.int .u64 (G (k - 1)))).setCell ⟨blk,off+(k - 1),none⟩ (.int .u64 (G k))=putRow (Value.int .u64) (Sort.ahead w (m+(nq+1))) blk off (swp dk k (k - 1)):=by
            rw [HW.out,HG.out,HG.out];exact Yj _ w m (nq+1) blk off dk k (k - 1) (by omega) (by omega)
           have hs1:(swp dk k (k - 1)).size=d.size:=by rw [size_swp];exact hsk
           go_wp2
           all_goals first
            |((with_reducible show Code.wp _ (Code.loop _) _ _ _)
              have hka:k - a>=2:=by omega
              go_loopw [9] (fun vj wr2=>∃ (j m2:Nat) (dj:Array Int),vj=.int .i64 j/\j<=k - 1/\dj.size=d.size/\wr2=putRow (Value.int .u64) (Sort.ahead w m2) blk off dj/\
               shiftDown ltInt j dj=shiftDown ltInt (k - 1) (swp dk k (k - 1))) (fun vj _=>(intOf vj).toNat)
              case atStart=>exact ⟨k - 1,_,(swp dk k (k - 1)),by congr 1;omega,Nat.le_refl _,hs1,rfl,rfl⟩
              case round=>
               obtain ⟨j,m2,dj,rfl,hjk,hsj,hw2,hDn⟩:=hrel;obtain ⟨G,hG⟩:∃ G:Nat->Int,∀ t,G t=dj[t]!:=⟨fun t=>dj[t]!,fun _=>rfl⟩
               have hcw:∀ t,t < d.size->wr.cell? ⟨blk,off+t,none⟩=some (.int .u64 (G t)):=fun t ht=>by
                rw [hw2,hG];exact cell?_putRow _ _ _ _ d dj (holds_ahead _ _ _ _ _ _ HH.out) hsj t (by omega)
               have hfw:∀ t,t < d.size->wr.frozen? ⟨blk,off+t,none⟩=false:=fun t ht=>by
                rw [hw2,frozen?_putRow];exact ((holds_ahead _ _ m2 _ _ _ HH.out) t ht).2
               have HW:Hid (wr=putRow (Value.int .u64) (Sort.ahead w m2) blk off dj):=hw2;have HG:Hid (∀ t,G t=dj[t]!):=hG;have HDn:Hid (shiftDown ltInt j dj=shiftDown ltInt (k - 1) (swp dk k (k - 1))):=hDn;clear hw2 hG hDn hsw;go_wp2
               all_goals first
                |((with_reducible show Code.wp _ (Code.region 16 _ _) _ _ _)
                  go_quiet (first|(go_at_call 229;refine Calls.quiet_of_same (ZL _ _ _)))
                  go_wp2
                  all_goals first
                   |((with_reducible show Code.wp _ (Code.region 17 _ _) _ _ _)
                     have hl:ltInt (G j) (G (j - 1))=true:=by
                      have h:(!ltInt (G j) (G (j - 1)))=false:=by assumption
                      simpa using h
                     go_region
                     all_goals go_wp2
                     go_roundw
                     case rel=>
                      refine ⟨j - 1,m2+(nq+1),swp dj j (j - 1),by congr 1;omega,by omega,by rw [size_swp];exact hsj,?_,?_⟩
                      ·rw [HW.out,HG.out,HG.out]
                       exact Yj _ w m2 (nq+1) blk off dj j (j - 1) (by omega) (by omega)
                      ·rw [<-HDn.out,ZBY ltInt j dj (by omega) (by rw [<-HG.out,<-HG.out];exact hl)]
                     case measure=>simp [intOf];omega)
                   |(-- break
                     have hl:ltInt (G j) (G (j - 1))=false:=by
                      have h:(!ltInt (G j) (G (j - 1)))=true:=by assumption
                      simpa using h
                     have HD:Hid (fixDown ltInt a k (swp dk k (k - 1))=dj):=by
                      show fixDown ltInt a k (swp dk k (k - 1))=dj;unfold fixDown;rw [if_pos hka,<-HDn.out,VZ ltInt j dj (Or.inr (by rw [<-HG.out,<-HG.out];exact hl))]
                     first
                      |((with_reducible show _/\_)
                        go_roundw
                        case rel=>
                         refine ⟨k,s+1,_,dj,rfl,by go_num,by omega,by omega,by omega,hsj,(by first|rfl|exact HW.out|(rw [HW.out];exact ZW _ _ _ _ _ _ _)),?_⟩;rw [<-HO.out,Uc ltInt a b s i k dk hs HK.out (by omega) (by omega),HD.out,show fixUp ltInt b k dj=dj from by unfold fixUp;rw [if_neg (by omega)]]
                        case measure=>simp [intOf];omega)
                      |((with_reducible show Code.wp _ (Code.loop _) _ _ _)
                        go_loopw [10] (fun vj wr2=>∃ (j m3:Nat) (du:Array Int),vj=.int .i64 j/\k+1<=j/\j<=b/\du.size=d.size/\wr2=putRow (Value.int .u64) (Sort.ahead w m3) blk off du/\
                         shiftUp ltInt b j du=shiftUp ltInt b (k+1) dj) (fun vj _=>b - (intOf vj).toNat)
                        case atStart=>exact ⟨k+1,_,dj,by go_num,Nat.le_refl _,by omega,hsj,(by first|rfl|exact HW.out|(rw [HW.out];exact ZW _ _ _ _ _ _ _)),rfl⟩
                        case round=>
                         obtain ⟨j,m3,du,rfl,hkj,hjb,hsu,hw3,hU⟩:=hrel;obtain ⟨G,hG⟩:∃ G:Nat->Int,∀ t,G t=du[t]!:=⟨fun t=>du[t]!,fun _=>rfl⟩
                         have hcw:∀ t,t < d.size->wr.cell? ⟨blk,off+t,none⟩=some (.int .u64 (G t)):=fun t ht=>by
                          rw [hw3,hG];exact cell?_putRow _ _ _ _ d du (holds_ahead _ _ _ _ _ _ HH.out) hsu t (by omega)
                         have hfw:∀ t,t < d.size->wr.frozen? ⟨blk,off+t,none⟩=false:=fun t ht=>by
                          rw [hw3,frozen?_putRow];exact ((holds_ahead _ _ m3 _ _ _ HH.out) t ht).2
                         have HW:Hid (wr=putRow (Value.int .u64) (Sort.ahead w m3) blk off du):=hw3;have HG:Hid (∀ t,G t=du[t]!):=hG;have HU:Hid (shiftUp ltInt b j du=shiftUp ltInt b (k+1) dj):=hU;clear hw3 hG hU;go_wp2
                         all_goals first
                          |((with_reducible show Code.wp _ (Code.region 22 _ _) _ _ _)
                            go_quiet (first|(go_at_call 229;refine Calls.quiet_of_same (ZL _ _ _)))
                            go_wp2
                            all_goals first
                             |((with_reducible show Code.wp _ (Code.region 23 _ _) _ _ _)
                               have hl:ltInt (G j) (G (j - 1))=true:=by
                                have h:(!ltInt (G j) (G (j - 1)))=false:=by assumption
                                simpa using h
                               go_region
                               all_goals go_wp2
                               go_roundw
                               case rel=>
                                refine ⟨j+1,m3+(nq+1),swp du j (j - 1),by go_num,by omega,by omega,by rw [size_swp];exact hsu,?_,?_⟩
                                ·rw [HW.out,HG.out,HG.out]
                                 exact Yj _ w m3 (nq+1) blk off du j (j - 1) (by omega) (by omega)
                                ·rw [<-HU.out,UG ltInt b j du (by omega) (by rw [<-HG.out,<-HG.out];exact hl)]
                               case measure=>simp [intOf];omega)
                             |((with_reducible show _/\_)
                               have hl:ltInt (G j) (G (j - 1))=false:=by
                                have h:(!ltInt (G j) (G (j - 1)))=true:=by assumption
                                simpa using h
                               go_roundw
                               case rel=>
                                refine ⟨k,s+1,_,du,rfl,by go_num,by omega,by omega,by omega,hsu,(by first|rfl|exact HW.out|(rw [HW.out];exact ZW _ _ _ _ _ _ _)),?_⟩;rw [<-HO.out,Uc ltInt a b s i k dk hs HK.out (by omega) (by omega),HD.out,show fixUp ltInt b k dj=du from by unfold fixUp;rw [if_pos (by omega),<-HU.out,YX ltInt b j du (Or.inr (by rw [<-HG.out,<-HG.out];exact hl))]]
                               case measure=>simp [intOf];omega))
                          |((with_reducible show _/\_)
                            go_roundw
                            case rel=>
                             refine ⟨k,s+1,_,du,rfl,by go_num,by omega,by omega,by omega,hsu,(by first|rfl|exact HW.out|(rw [HW.out];exact ZW _ _ _ _ _ _ _)),?_⟩;rw [<-HO.out,Uc ltInt a b s i k dk hs HK.out (by omega) (by omega),HD.out,show fixUp ltInt b k dj=du from by unfold fixUp;rw [if_pos (by omega),<-HU.out,YX ltInt b j du (Or.inl (by omega))]]
                            case measure=>simp [intOf];omega))))
                |(-- j < 1
                  have HD:Hid (fixDown ltInt a k (swp dk k (k - 1))=dj):=by
                   show fixDown ltInt a k (swp dk k (k - 1))=dj;unfold fixDown;rw [if_pos hka,<-HDn.out,VZ ltInt j dj (Or.inl (by omega))]
                  first
                   |((with_reducible show _/\_)
                     go_roundw
                     case rel=>
                      refine ⟨k,s+1,_,dj,rfl,by go_num,by omega,by omega,by omega,hsj,(by first|rfl|exact HW.out|(rw [HW.out];exact ZW _ _ _ _ _ _ _)),?_⟩;rw [<-HO.out,Uc ltInt a b s i k dk hs HK.out (by omega) (by omega),HD.out,show fixUp ltInt b k dj=dj from by unfold fixUp;rw [if_neg (by omega)]]
                     case measure=>simp [intOf];omega)
                   |((with_reducible show Code.wp _ (Code.loop _) _ _ _)
                     go_loopw [10] (fun vj wr2=>∃ (j m3:Nat) (du:Array Int),vj=.int .i64 j/\k+1<=j/\j<=b/\du.size=d.size/\wr2=putRow (Value.int .u64) (Sort.ahead w m3) blk off du/\
                      shiftUp ltInt b j du=shiftUp ltInt b (k+1) dj) (fun vj _=>b - (intOf vj).toNat)
                     case atStart=>exact ⟨k+1,_,dj,by go_num,Nat.le_refl _,by omega,hsj,(by first|rfl|exact HW.out|(rw [HW.out];exact ZW _ _ _ _ _ _ _)),rfl⟩
                     case round=>
                      obtain ⟨j,m3,du,rfl,hkj,hjb,hsu,hw3,hU⟩:=hrel;obtain ⟨G,hG⟩:∃ G:Nat->Int,∀ t,G t=du[t]!:=⟨fun t=>du[t]!,fun _=>rfl⟩
                      have hcw:∀ t,t < d.size->wr.cell? ⟨blk,off+t,none⟩=some (.int .u64 (G t)):=fun t ht=>by
                       rw [hw3,hG];exact cell?_putRow _ _ _ _ d du (holds_ahead _ _ _ _ _ _ HH.out) hsu t (by omega)
                      have hfw:∀ t,t < d.size->wr.frozen? ⟨blk,off+t,none⟩=false:=fun t ht=>by
                       rw [hw3,frozen?_putRow];exact ((holds_ahead _ _ m3 _ _ _ HH.out) t ht).2
                      have HW:Hid (wr=putRow (Value.int .u64) (Sort.ahead w m3) blk off du):=hw3;have HG:Hid (∀ t,G t=du[t]!):=hG;have HU:Hid (shiftUp ltInt b j du=shiftUp ltInt b (k+1) dj):=hU;clear hw3 hG hU;go_wp2
                      all_goals first
                       |((with_reducible show Code.wp _ (Code.region 22 _ _) _ _ _)
                         go_quiet (first|(go_at_call 229;refine Calls.quiet_of_same (ZL _ _ _)))
                         go_wp2
                         all_goals first
                          |((with_reducible show Code.wp _ (Code.region 23 _ _) _ _ _)
                            have hl:ltInt (G j) (G (j - 1))=true:=by
                             have h:(!ltInt (G j) (G (j - 1)))=false:=by assumption
                             simpa using h
                            go_region
                            all_goals go_wp2
                            go_roundw
                            case rel=>
                             refine ⟨j+1,m3+(nq+1),swp du j (j - 1),by go_num,by omega,by omega,by rw [size_swp];exact hsu,?_,?_⟩
                             ·rw [HW.out,HG.out,HG.out]
                              exact Yj _ w m3 (nq+1) blk off du j (j - 1) (by omega) (by omega)
                             ·rw [<-HU.out,UG ltInt b j du (by omega) (by rw [<-HG.out,<-HG.out];exact hl)]
                            case measure=>simp [intOf];omega)
                          |((with_reducible show _/\_)
                            have hl:ltInt (G j) (G (j - 1))=false:=by
                             have h:(!ltInt (G j) (G (j - 1)))=true:=by assumption
                             simpa using h
                            go_roundw
                            case rel=>
                             refine ⟨k,s+1,_,du,rfl,by go_num,by omega,by omega,by omega,hsu,(by first|rfl|exact HW.out|(rw [HW.out];exact ZW _ _ _ _ _ _ _)),?_⟩;rw [<-HO.out,Uc ltInt a b s i k dk hs HK.out (by omega) (by omega),HD.out,show fixUp ltInt b k dj=du from by unfold fixUp;rw [if_pos (by omega),<-HU.out,YX ltInt b j du (Or.inr (by rw [<-HG.out,<-HG.out];exact hl))]]
                            case measure=>simp [intOf];omega))
                       |((with_reducible show _/\_)
                         go_roundw
                         case rel=>
                          refine ⟨k,s+1,_,du,rfl,by go_num,by omega,by omega,by omega,hsu,(by first|rfl|exact HW.out|(rw [HW.out];exact ZW _ _ _ _ _ _ _)),?_⟩;rw [<-HO.out,Uc ltInt a b s i k dk hs HK.out (by omega) (by omega),HD.out,show fixUp ltInt b k dj=du from by unfold fixUp;rw [if_pos (by omega),<-HU.out,YX ltInt b j du (Or.inl (by omega))]]
                         case measure=>simp [intOf];omega))))
            |(-- i - a < 2
              have HD:Hid (fixDown ltInt a k (swp dk k (k - 1))=(swp dk k (k - 1))):=by
               show fixDown ltInt a k (swp dk k (k - 1))=(swp dk k (k - 1));unfold fixDown;rw [if_neg (by omega)]
              first
               |((with_reducible show _/\_)
                 go_roundw
                 case rel=>
                  refine ⟨k,s+1,_,(swp dk k (k - 1)),rfl,by go_num,by omega,by omega,by omega,hs1,(by first|rfl|exact HW.out|(rw [HW.out];exact ZW _ _ _ _ _ _ _)),?_⟩;rw [<-HO.out,Uc ltInt a b s i k dk hs HK.out (by omega) (by omega),HD.out,show fixUp ltInt b k (swp dk k (k - 1))=(swp dk k (k - 1)) from by unfold fixUp;rw [if_neg (by omega)]]
                 case measure=>simp [intOf];omega)
               |((with_reducible show Code.wp _ (Code.loop _) _ _ _)
                 go_loopw [10] (fun vj wr2=>∃ (j m3:Nat) (du:Array Int),vj=.int .i64 j/\k+1<=j/\j<=b/\du.size=d.size/\wr2=putRow (Value.int .u64) (Sort.ahead w m3) blk off du/\
                  shiftUp ltInt b j du=shiftUp ltInt b (k+1) (swp dk k (k - 1))) (fun vj _=>b - (intOf vj).toNat)
                 case atStart=>exact ⟨k+1,_,(swp dk k (k - 1)),by go_num,Nat.le_refl _,by omega,hs1,(by first|rfl|exact HW.out|(rw [HW.out];exact ZW _ _ _ _ _ _ _)),rfl⟩
                 case round=>
                  obtain ⟨j,m3,du,rfl,hkj,hjb,hsu,hw3,hU⟩:=hrel;obtain ⟨G,hG⟩:∃ G:Nat->Int,∀ t,G t=du[t]!:=⟨fun t=>du[t]!,fun _=>rfl⟩
                  have hcw:∀ t,t < d.size->wr.cell? ⟨blk,off+t,none⟩=some (.int .u64 (G t)):=fun t ht=>by
                   rw [hw3,hG];exact cell?_putRow _ _ _ _ d du (holds_ahead _ _ _ _ _ _ HH.out) hsu t (by omega)
                  have hfw:∀ t,t < d.size->wr.frozen? ⟨blk,off+t,none⟩=false:=fun t ht=>by
                   rw [hw3,frozen?_putRow];exact ((holds_ahead _ _ m3 _ _ _ HH.out) t ht).2
                  have HW:Hid (wr=putRow (Value.int .u64) (Sort.ahead w m3) blk off du):=hw3;have HG:Hid (∀ t,G t=du[t]!):=hG;have HU:Hid (shiftUp ltInt b j du=shiftUp ltInt b (k+1) (swp dk k (k - 1))):=hU;clear hw3 hG hU;go_wp2
                  all_goals first
                   |((with_reducible show Code.wp _ (Code.region 22 _ _) _ _ _)
                     go_quiet (first|(go_at_call 229;refine Calls.quiet_of_same (ZL _ _ _)))
                     go_wp2
                     all_goals first
                      |((with_reducible show Code.wp _ (Code.region 23 _ _) _ _ _)
                        have hl:ltInt (G j) (G (j - 1))=true:=by
                         have h:(!ltInt (G j) (G (j - 1)))=false:=by assumption
                         simpa using h
                        go_region
                        all_goals go_wp2
                        go_roundw
                        case rel=>
                         refine ⟨j+1,m3+(nq+1),swp du j (j - 1),by go_num,by omega,by omega,by rw [size_swp];exact hsu,?_,?_⟩
                         ·rw [HW.out,HG.out,HG.out]
                          exact Yj _ w m3 (nq+1) blk off du j (j - 1) (by omega) (by omega)
                         ·rw [<-HU.out,UG ltInt b j du (by omega) (by rw [<-HG.out,<-HG.out];exact hl)]
                        case measure=>simp [intOf];omega)
                      |((with_reducible show _/\_)
                        have hl:ltInt (G j) (G (j - 1))=false:=by
                         have h:(!ltInt (G j) (G (j - 1)))=true:=by assumption
                         simpa using h
                        go_roundw
                        case rel=>
                         refine ⟨k,s+1,_,du,rfl,by go_num,by omega,by omega,by omega,hsu,(by first|rfl|exact HW.out|(rw [HW.out];exact ZW _ _ _ _ _ _ _)),?_⟩;rw [<-HO.out,Uc ltInt a b s i k dk hs HK.out (by omega) (by omega),HD.out,show fixUp ltInt b k (swp dk k (k - 1))=du from by unfold fixUp;rw [if_pos (by omega),<-HU.out,YX ltInt b j du (Or.inr (by rw [<-HG.out,<-HG.out];exact hl))]]
                        case measure=>simp [intOf];omega))
                   |((with_reducible show _/\_)
                     go_roundw
                     case rel=>
                      refine ⟨k,s+1,_,du,rfl,by go_num,by omega,by omega,by omega,hsu,(by first|rfl|exact HW.out|(rw [HW.out];exact ZW _ _ _ _ _ _ _)),?_⟩;rw [<-HO.out,Uc ltInt a b s i k dk hs HK.out (by omega) (by omega),HD.out,show fixUp ltInt b k (swp dk k (k - 1))=du from by unfold fixUp;rw [if_pos (by omega),<-HU.out,YX ltInt b j du (Or.inl (by omega))]]
                     case measure=>simp [intOf];omega)))))
    ·
     go_quiet (first|(go_at_call 229;refine Calls.quiet_of_same (ZL _ _ _)))
     go_wp2;obtain rfl:k=b:=by omega
     have hv:Sort.partialInsertionSort ltInt d a k=(dk,true):=by
      unfold Sort.partialInsertionSort;rw [<-HO.out,ZIJ ltInt a k s i dk hs (by rw [<-HS.out,VF ltInt dk k k (Or.inl (by omega))])]
     rw [hv]
     go_ret
     exact ⟨rfl,m+nq,by rw [HW.out];exact ZW _ _ _ _ _ _ _⟩
  ·
   obtain rfl:s=5:=by omega
   have hv:Sort.partialInsertionSort ltInt d a b=(dk,false):=by
    unfold Sort.partialInsertionSort;rw [<-HO.out,ZJT]
   rw [hv]
   go_ret
   exact ⟨rfl,n,rfl⟩
end
end Go.Proofs.YteomliechfdhhaaGreatDoor.Srt
