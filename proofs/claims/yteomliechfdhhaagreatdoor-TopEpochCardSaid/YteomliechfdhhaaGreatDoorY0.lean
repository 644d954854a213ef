/- Part 0. -/
import Derived.Laws.BitsAllLaws
import Derived.Lib.Hide
import Derived.Test.YteomliechfdhhaaGreatDoorProg
import Derived.Lib.Strings
import Derived.Lib.Slices
import Derived.Lib.Small
import Derived.Lib.Walk
import Derived.Lib.BitFns
import Derived.Sort.KeysCollected
import Derived.Sort.OwnSorted
set_option maxHeartbeats 8000000
set_option maxRecDepth 20000
set_option linter.all false
namespace Go.Proofs.YteomliechfdhhaaGreatDoor.Word
section
def xs (x s:Nat):Nat:=x ^^^ x / 2 ^ s
def nw (n:Nat):Nat:=(n+7) / 8
end
end Go.Proofs.YteomliechfdhhaaGreatDoor.Word
namespace Go.Proofs.YteomliechfdhhaaGreatDoor.Srt
open Tryz
section
theorem ZC9 (x:Int)(w:World)(h0:0<=x)(h1:x<=18446744073709551615):
 Calls prog 233 #[.int .u64 x] w fun e w'=>e=.returned (.int .i64 (Lib.bitLen x.toNat))/\w'=w:=by
 go_in;go_wp2
 all_goals (go_ret;refine ⟨congrArg Ending.returned (congrArg (Value.int IntKind.i64) ?_),rfl⟩)
 all_goals first
  |(rw [Lib.len8_of (x / 4294967296 / 65536 / 256 % 256) (by omega) (by omega)]
    have e:(x / 4294967296 / 65536 / 256 % 256).toNat=x.toNat / 72057594037927936:=by omega
    have l:=Lib.bitLen_le8' (x / 4294967296 / 65536 / 256 % 256) (by omega) (by omega);have s:=Lib.bitLen_shift56 x.toNat (by omega) (by omega);rw [e] at l ⊢;omega)
  |(rw [Lib.len8_of (x / 4294967296 / 65536 % 256) (by omega) (by omega)]
    have e:(x / 4294967296 / 65536 % 256).toNat=x.toNat / 281474976710656:=by omega
    have l:=Lib.bitLen_le8' (x / 4294967296 / 65536 % 256) (by omega) (by omega);have s:=Lib.bitLen_shift48 x.toNat (by omega) (by omega);rw [e] at l ⊢;omega)
  |(rw [Lib.len8_of (x / 4294967296 / 256 % 256) (by omega) (by omega)]
    have e:(x / 4294967296 / 256 % 256).toNat=x.toNat / 1099511627776:=by omega
    have l:=Lib.bitLen_le8' (x / 4294967296 / 256 % 256) (by omega) (by omega);have s:=Lib.bitLen_shift40 x.toNat (by omega) (by omega);rw [e] at l ⊢;omega)
  |(rw [Lib.len8_of (x / 4294967296 % 256) (by omega) (by omega)]
    have e:(x / 4294967296 % 256).toNat=x.toNat / 4294967296:=by omega
    have l:=Lib.bitLen_le8' (x / 4294967296 % 256) (by omega) (by omega);have s:=Lib.bitLen_shift32 x.toNat (by omega) (by omega);rw [e] at l ⊢;omega)
  |(rw [Lib.len8_of (x / 65536 / 256 % 256) (by omega) (by omega)]
    have e:(x / 65536 / 256 % 256).toNat=x.toNat / 16777216:=by omega
    have l:=Lib.bitLen_le8' (x / 65536 / 256 % 256) (by omega) (by omega);have s:=Lib.bitLen_shift24 x.toNat (by omega) (by omega);rw [e] at l ⊢;omega)
  |(rw [Lib.len8_of (x / 65536 % 256) (by omega) (by omega)]
    have e:(x / 65536 % 256).toNat=x.toNat / 65536:=by omega
    have l:=Lib.bitLen_le8' (x / 65536 % 256) (by omega) (by omega);have s:=Lib.bitLen_shift16 x.toNat (by omega) (by omega);rw [e] at l ⊢;omega)
  |(rw [Lib.len8_of (x / 256 % 256) (by omega) (by omega)]
    have e:(x / 256 % 256).toNat=x.toNat / 256:=by omega
    have l:=Lib.bitLen_le8' (x / 256 % 256) (by omega) (by omega);have s:=Lib.bitLen_shift8 x.toNat (by omega) (by omega);rw [e] at l ⊢;omega)
  |(rw [Lib.len8_of (x % 256) (by omega) (by omega)]
    have e:(x % 256).toNat=x.toNat:=by omega
    have l:=Lib.bitLen_le8' (x % 256) (by omega) (by omega);rw [e] at l ⊢;omega)
theorem ZBk (x:Int)(w:World)(h0:0<=x)(h1:x<=18446744073709551615):
 Calls prog 184 #[.int .u64 x] w fun e w'=>e=.returned (.int .i64 (Lib.bitLen x.toNat))/\w'=w:=by
 go_in;go_wp2_with (go_at_call 233;refine (ZC9 x _ h0 h1).mono ?_;rintro e w' ⟨rfl,rfl⟩)
 go_ret
 exact ⟨rfl,rfl⟩
end
end Go.Proofs.YteomliechfdhhaaGreatDoor.Srt
namespace Go.Proofs.YteomliechfdhhaaGreatDoor.Ki
section
open Go Go.Maps Go.RowKit Go.Sort Go.Proofs
abbrev YR:Int->Value:=Value.int .i64
def intOf:Lit->Int
 |.int _ a=>a
 |_=>0
def intKeys {H:Type}:DataW H->List Int
 |.map es=>es.map fun p=>intOf p.1
 |_=>[]
abbrev leI:Int->Int->Bool:=fun x y=>decide (x<=y)
theorem ZGN {x y:Int}(h:YR x=YR y):x=y:=by simpa [YR] using h
theorem Maps.keyOf_i64 {P:Program}{k:TypeId}(hk:P.underlying k=some (.int .i64)){key:Value}{kl:Lit}(h:keyOf P k key=some kl):∃ x:Int,key=YR x/\kl=.int .i64 x/\(Lit.int .i64 x).wf=true:=by
 cases key <;> simp [keyOf,hk,mapKey] at h
 rename_i q a;obtain ⟨⟨rfl,hw⟩,rfl⟩:=h;exact ⟨a,rfl,rfl,hw⟩
theorem mergeSort_of_perm_i {l l':List Int}(h:l.Perm l'):l.mergeSort leI=l'.mergeSort leI:=by
 have tr:∀ a b c:Int,leI a b=true->leI b c=true->leI a c=true:=fun a b c h1 h2=>by simp only [leI,decide_eq_true_eq] at *;exact Int.le_trans h1 h2
 have to:∀ a b:Int,(leI a b || leI b a)=true:=fun a b=>by simp only [leI,Bool.or_eq_true,decide_eq_true_eq];exact Int.le_total a b
 refine List.Perm.eq_of_pairwise (le:=fun a b=>leI a b=true) (fun a b _ _ h1 h2=>?_) (List.pairwise_mergeSort tr to l) (List.pairwise_mergeSort tr to l') (((List.mergeSort_perm l leI).trans h).trans (List.mergeSort_perm l' leI).symm);simp only [leI,decide_eq_true_eq] at h1 h2;exact Int.le_antisymm h1 h2
theorem ZBQ {H:Type}{es:List (Lit×DataW H)}(hp:es.Pairwise (fun p q=>p.1≠q.1))(hk:∀ p∈es,∃ x,p.1=.int .i64 x){ss:List Int}(hnd:ss.Nodup)(hm:∀ x,x∈ss↔has (.map es) (.int .i64 x)=true):
 ss.Perm (intKeys (.map es)):=by
 refine (List.perm_ext_iff_of_nodup hnd ?_).2 fun x=>?_
 ·show (es.map fun p=>intOf p.1).Nodup
  refine List.pairwise_map.2 (hp.imp_of_mem fun {p q} hp' hq' hne e=>hne ?_);obtain ⟨a,ha⟩:=hk p hp';obtain ⟨b,hb⟩:=hk q hq';rw [ha,hb] at e ⊢;exact congrArg _ e
 ·rw [hm x,has_eq,List.any_eq_true]
  show _↔x∈es.map fun p=>intOf p.1
  rw [List.mem_map];constructor
  ·rintro ⟨p,hp',hs⟩
   obtain ⟨a,ha⟩:=hk p hp';rw [ha] at hs;exact ⟨p,hp',by rw [ha];simpa [Lit.sameKey,intOf] using hs⟩
  ·rintro ⟨p,hp',rfl⟩
   obtain ⟨a,ha⟩:=hk p hp';exact ⟨p,hp',by rw [ha];simp [Lit.sameKey,intOf]⟩
def CollectedI {H:Type}(D0:DataW H)(left:Lit->Bool)(ss:List Int):Prop:=ss.Nodup/\∀ x,x∈ss↔(has D0 (.int .i64 x)=true/\left (.int .i64 x)=false)
section
variable {H:Type}{D0:DataW H}{left:Lit->Bool}{ss:List Int}
theorem CollectedI.start (D0:DataW H):CollectedI D0 (has D0) []:=⟨List.nodup_nil,fun x=>by cases has D0 (.int .i64 x) <;> simp⟩
theorem CollectedI.step (h:CollectedI D0 left ss){x:Int}{y:DataW H}(hlk:left (.int .i64 x)=true)(hat:∀ zd,D0.atKey (.int .i64 x) zd=y):CollectedI D0 (fun z=>left z && !z.sameKey (.int .i64 x)) (ss++[x]):=by
 have hhas:has D0 (.int .i64 x)=true:=has_true_of_atKey hat;have hnew:x∉ss:=fun hx=>by have:=((h.2 x).1 hx).2;rw [hlk] at this;cases this
 refine ⟨List.nodup_append.2 ⟨h.1,by simp,fun a ha b hb=>by simp at hb;subst hb;exact fun e=>hnew (e▸ha)⟩,fun y=>?_⟩
 by_cases hy:y=x
 ·subst hy;simp [hhas,Lit.sameKey]
 ·simp [h.2 y,hy,Lit.sameKey]
variable {P:Program}{k:TypeId}{R:Value->Option (DataW H×List MemPlace)}{w:World}{b n:Nat}
theorem CollectedI.perm (h:CollectedI D0 left ss)(hown:w.ownsMap P k R b n D0)(K:Keyed P k)(hk:P.underlying k=some (.int .i64))(hl:∀ kl,left kl=false):ss.Perm (intKeys D0):=by
 obtain ⟨es,hD,hpw,_⟩:=hown.entries K;obtain ⟨es',hD',hko⟩:=hown.keysOf;obtain rfl:es=es':=by rw [hD] at hD';simpa using hD'
 subst hD;exact ZBQ hpw (fun p hp=>by obtain ⟨v,hv⟩:=hko p hp;obtain ⟨x,_,hx,_⟩:=Maps.keyOf_i64 hk hv;exact ⟨x,hx⟩) h.1 (fun x=>by rw [h.2 x,hl];simp)
end
theorem U0 {w:World}{g:Nat}{cur:Array Value}{e:TypeId}{ss:List Int}(hb:w.heap[g]?=some (.cells cur e (0,0)))(ht:cur.toList.take ss.length=ss.map YR):Holds YR w g 0 ss.toArray:=by
 intro j hj;have hj':j < ss.length:=by simpa using hj
 refine ⟨?_,by simp [World.frozen?,hb]⟩;have h1:(cur.toList.take ss.length)[j]?=(ss.map YR)[j]?:=by rw [ht]
 rw [List.getElem?_take_of_lt hj'] at h1;simp only [World.cell?,hb,Nat.zero_add];simp only [Option.isSome_none,Bool.false_eq_true,if_false];rw [<-Array.getElem?_toList,h1];simp [hj']
theorem Qw {w:World}{g n:Nat}{os:Array Obj}{cur:Array Value}{e:TypeId}{fr:Nat×Nat}(d:Array Int)(hb:w.heap[g]?=some (.cells cur e fr)):
 (grow (putRow YR (Sort.ahead w n) g 0 d) os).heap[g]?=some (.cells (putCells YR 0 d cur) e fr):=by
 have hg:g < w.heap.size:=(Array.getElem?_eq_some_iff.1 hb).1;rw [heap_grow_old _ _ (by simpa using hg)];simp [putRow,mapBlock,Sort.ahead,Array.getElem?_modify,hb,onCells]
theorem Uy {w:World}{g n:Nat}{os:Array Obj}(d:Array Int):w.grownBy (grow (putRow YR (Sort.ahead w n) g 0 d) os) (some g):=by
 refine ⟨rfl,rfl,rfl,by simp,fun k hk hne=>?_⟩;rw [heap_grow_old _ _ (by simpa using hk)];have:g≠k:=fun e=>hne (by rw [e])
 simp [putRow,mapBlock,Sort.ahead,Array.getElem?_modify,this]
theorem Js (cur:Array Value)(ts:List Int)(h:ts.length<=cur.size):(putCells YR 0 ts.toArray cur).toList.take ts.length=ts.map YR:=by
 apply List.ext_getElem?;intro j
 by_cases hj:j < ts.length
 ·rw [List.getElem?_take_of_lt hj,Array.getElem?_toList]
  simp [putCells,hj,show j < cur.size by omega]
 ·rw [List.getElem?_take_eq_none (by omega),List.getElem?_eq_none (by simp;omega)]
theorem JE {w:World} {base g cap n:Nat} {e:TypeId} {os:Array Obj} {cur:Array Value} {ss ts:List Int} (hl:ts.length=ss.length) (hbase:base<=g) (hb:w.heap[g]?=some (.cells cur e (0,0)))
 (h1:ss.length<=cap)(h2:cap<=maxLen)(h3:cur.size=cap * 1):
 (grow (putRow YR (Sort.ahead w n) g 0 ts.toArray) os).ownsRow base e 1 (.slice (some ⟨g,0,none⟩) ss.length cap) ss.length (ts.map YR):=
 ⟨by simp [hl],.inr ⟨g,cap,_,rfl,hbase,Qw _ hb,h1,h2,by simp [putCells,h3],by rw [Nat.mul_one,<-hl];exact Js cur ts (by omega)⟩⟩
end
end Go.Proofs.YteomliechfdhhaaGreatDoor.Ki
