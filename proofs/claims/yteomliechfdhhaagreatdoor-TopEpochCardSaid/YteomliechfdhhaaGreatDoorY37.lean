/- Part 37. -/
import Derived.Test.YteomliechfdhhaaGreatDoorY22
import Derived.Test.YteomliechfdhhaaGreatDoorY35
import Derived.Test.YteomliechfdhhaaGreatDoorY36
set_option maxHeartbeats 8000000
set_option maxRecDepth 20000
set_option linter.all false
namespace Go.Proofs.YteomliechfdhhaaGreatDoor.Dv
open Tryz
section
open Go.RowKit Go.Proofs.YteomliechfdhhaaGreatDoor.Size Go.Sort
variable {w w':World}
def cChg:Codec (Option Nat) where
 val:=fun a=>.pointer (a.map fun n=>⟨n,0,none⟩)
 num:=fun a=>match a with
  |none=>[0]
  |some n=>[(n:Int)+1]
 dec:=fun v=>match v with
  |.pointer none=>some none
  |.pointer (some ⟨n,0,none⟩)=>some (some n)
  |_=>none
 dv:=fun a=>by cases a <;> rfl
 vd:=fun v a h=>by
  split at h
  ·cases h;rfl
  ·cases h;rfl
  ·cases h
 inj:=fun a b h=>by
  cases a <;> cases b
  ·rfl
  ·simp only [List.cons.injEq,and_true] at h;omega
  ·simp only [List.cons.injEq,and_true] at h;omega
  ·simp only [List.cons.injEq,and_true] at h;congr 1;omega
theorem ZIk (w:World):(zeroValue 240).run prog w=.ok (cChg.val none) w:=by kernel_rfl
abbrev UL (w:World)(b ex:Nat)(f:Nat->Option (Option Nat)):Prop:=UMap prog 3 .i64 cChg w b ex f
theorem ZCm (m:Nat):Ki.SortsIn Fence.wide m:=
 ⟨fun blk off cap ss W hH hblk hsz=>callsIn_wide.2 (slices_Sort_int blk off cap ss W hH hblk hsz),fun p cap W=>callsIn_wide.2 (slices_Sort_int_none p cap W)⟩
theorem ZFi (l:List Nat):(l.map (fun n:Nat=>(n:Int))).mergeSort (fun x y=>decide (x<=y))=(l.mergeSort (fun x y=>decide (x<=y))).map (fun n:Nat=>(n:Int)):=by
 have tr:∀ a b c:Int,(decide (a<=b))=true->(decide (b<=c))=true->(decide (a<=c))=true:=fun a b c h1 h2=>by simp only [decide_eq_true_eq] at *;exact Int.le_trans h1 h2
 have tot:∀ a b:Int,(decide (a<=b) || decide (b<=a))=true:=fun a b=>by simp only [Bool.or_eq_true,decide_eq_true_eq];exact Int.le_total a b
 have trn:∀ a b c:Nat,(decide (a<=b))=true->(decide (b<=c))=true->(decide (a<=c))=true:=fun a b c h1 h2=>by simp only [decide_eq_true_eq] at *;exact ZK6 h1 h2
 have ton:∀ a b:Nat,(decide (a<=b) || decide (b<=a))=true:=fun a b=>by simp only [Bool.or_eq_true,decide_eq_true_eq];exact Nat.le_total a b
 refine List.Perm.eq_of_pairwise (le:=fun a b:Int=>a<=b) (fun a b _ _ h1 h2=>Int.le_antisymm h1 h2) ?_ ?_ ?_
 ·exact (List.pairwise_mergeSort tr tot _).imp fun h=>of_decide_eq_true h
 ·exact List.pairwise_map.2 ((List.pairwise_mergeSort trn ton l).imp fun h=>Int.ofNat_le.2 (of_decide_eq_true h))
 ·exact (List.mergeSort_perm _ _).trans ((List.mergeSort_perm l _).symm.map _)
theorem mkeys_any {m:Nat}:
 Calls prog 126 #[.map (some m)] w fun e w'=>e=.returned (.func (.func 180) #[] #[.pointer (some ⟨w.heap.size,0,none⟩)])/\w'=w.alloc (.cells #[.map (some m)] 239):=by
 go_in;go_wp2;go_returns;exact ⟨rfl,rfl⟩
structure KeysOf {α:Type}(f:Nat->Option α)(ks:List Nat):Prop where
 nodup:ks.Nodup
 mem:∀ n,n∈ks↔(f n).isSome
 sorted:ks.Pairwise (·<=·)
theorem UH {BX m ex:Nat}{f:Nat->Option (Option Nat)}(hm:w.cell? ⟨BX,0,none⟩=some (.map (some m)))(hu:UL w m ex f)(hex:ex<=100000):
 Calls prog 125 #[.func (.func 180) #[] #[.pointer (some ⟨BX,0,none⟩)]] w fun e w'=>∃ v ks,e=.returned v/\KeysOf f ks/\w'.ownsRow w.heap.size 3 1 v ks.length (ks.map fun (n:Nat)=>Value.int .i64 (n:Int))/\(v=.slice none 0 0↔ks=[])/\Bl w w':=by
 obtain ⟨es,h1,h2,h3,h4⟩:=hu;obtain ⟨es',e1,hp⟩:=h1.tidy (Maps.int_keyed underlying3);obtain rfl:es=es':=DataW.map.inj e1;have hsz:Maps.size (.map es:DataW Unit)<=ex:=h1.size_le;have hszl:Maps.size (.map es:DataW Unit)=es.length:=rfl;obtain ⟨k0,hk0⟩:=xE (es.map (fun p=>ZGr p.1));have hik:Ki.intKeys (.map es:DataW Unit)=k0.map (fun n:Nat=>(n:Int)):=by
  unfold Ki.intKeys;rw [hk0,List.map_map];refine List.map_congr_left fun p hp=>?_
  obtain ⟨n,en⟩:=h2 p hp;simp [en,Ki.intOf,ZGr]
 have hnd:k0.Nodup:=by
  rw [hk0];unfold List.Nodup;rw [List.pairwise_map];refine hp.imp_of_mem ?_;intro p p' hm hm' hne he;obtain ⟨n,en⟩:=h2 p hm;obtain ⟨n',en'⟩:=h2 p' hm';rw [en,en'] at he;apply hne;rw [en,en'];have:n=n':=by simpa [ZGr] using he
  rw [this]
 have hmem:∀ n,n∈k0↔(f n).isSome:=fun n=>by
  rw [hk0,<-h3 n,Maps.has_eq,ZKz,List.any_eq_true];constructor
  ·rintro ⟨p,hm,e⟩
   obtain ⟨m,em⟩:=h2 p hm;rw [em] at e;have:m=n:=by simpa [ZGr] using e
   refine ⟨p,hm,?_⟩;rw [em,this];exact WideAt.sameKey_self (show WideAt.IsKeyLit (Lit.int .i64 (n:Int)) from trivial)
  ·rintro ⟨p,hm,e⟩
   refine ⟨p,hm,?_⟩;rw [WideAt.sameKey_eq e];simp [ZGr]
 have hseq:=Ki.keys_gives0 (H:=Unit) Fence.wide 3 trivial rfl (by omega) BX m ex (.map es) (R:=cChg.R) w (ZK2 _ _ hm) hm h1
 have hcall:=Ki.sorted_in Fence.wide 6 trivial trivial trivial trivial rfl (by omega) (ZCm _) (enters_of func179 (by kernel_rfl) rfl) 180 #[.pointer (some ⟨BX,0,none⟩)] trivial
  (enters_of func180 (by kernel_rfl) rfl) _ _ (ZK6 hsz (ZK6 hex (by decide))) (by omega) w hseq
 rw [callsIn_wide] at hcall;refine hcall.mono ?_;rintro e w' ⟨vr,ss,rfl,hS,hrow,hnil,hbel⟩;rw [hik] at hS;rw [Ki.mergeSort_of_perm_i hS,ZFi,List.map_map] at hrow;have hpm:=List.mergeSort_perm k0 (fun x y=>decide (x<=y));have hlen:ss.length=(k0.mergeSort (fun x y=>decide (x<=y))).length:=by
  rw [hS.length_eq,ZK7,hpm.length_eq]
 rw [hlen] at hrow;refine ⟨vr,k0.mergeSort (fun x y=>decide (x<=y)),rfl,⟨hpm.nodup_iff.2 hnd,fun n=>by rw [hpm.mem_iff];exact hmem n,?_⟩,hrow,hnil.trans ⟨fun e=>ZLM (by rw [<-hlen,e];rfl),fun e=>ZLM (by rw [hlen,e];rfl)⟩,hbel⟩;have trn:∀ a b c:Nat,(decide (a<=b))=true->(decide (b<=c))=true->(decide (a<=c))=true:=fun a b c h1 h2=>by simp only [decide_eq_true_eq] at *;exact ZK6 h1 h2
 have ton:∀ a b:Nat,(decide (a<=b) || decide (b<=a))=true:=fun a b=>by simp only [Bool.or_eq_true,decide_eq_true_eq];exact Nat.le_total a b
 exact (List.pairwise_mergeSort trn ton k0).imp fun h=>of_decide_eq_true h
abbrev QC (v1 v2 v3:Value):Obj:=.cells #[v1,v2,v3] 244 (0,0)
theorem ZDD {cb m ex l s:Nat}{f:Nat->Option (Option Nat)}(hc:w.cell? ⟨cb,0,none⟩=some (.map (some m)))(hu:UL w m ex f)(hl:l<=4096)(hf:f l=some (some s)):
 Calls prog 123 #[.int .i64 (l:Nat),.pointer (some ⟨cb,0,none⟩)] w fun e w'=>e=.returned (.pointer (some ⟨s,0,none⟩))/\w=w':=by
 have hlk:=hu.look underlying3 underlying239 (ZIk _) (n:=l) (wfI (by omega));rw [hf] at hlk;unfold cChg at hlk;simp only [Option.getD_some,Option.map_some] at hlk;clear hu hf hl;go_in;go_wp2;go_returns;exact ⟨rfl,rfl⟩
theorem QA {cb m ex l:Nat}{f:Nat->Option (Option Nat)}(hc:w.cell? ⟨cb,0,none⟩=some (.map (some m)))(hu:UL w m ex f)(hl:l<=4096)(hf:f l=none)(hex:ex<=100000):
 Calls prog 123 #[.int .i64 (l:Nat),.pointer (some ⟨cb,0,none⟩)] w fun e w'=>e=.returned (.pointer (some ⟨w.heap.size,0,none⟩))/\UL w' m (ex+1) (YE f l (some w.heap.size))/\w.heap.size < w'.heap.size/\w'.heap[w.heap.size]?=some (QC (.slice none 0 0) (.slice none 0 0) (.slice none 0 0))/\w.grownBy w' (some m):=by
 have hlk:=hu.look underlying3 underlying239 (ZIk _) (n:=l) (wfI (by omega));rw [hf] at hlk;have hml:=hu.lt;obtain ⟨W1,hW1⟩:=xE (w.alloc (.cells #[.slice none 0 0,.slice none 0 0,.slice none 0 0] 244));have hb1:Bl w W1:=by rw [hW1];exact ZA bR
 have hnew:W1.heap[w.heap.size]?=some (QC (.slice none 0 0) (.slice none 0 0) (.slice none 0 0)):=by rw [hW1];exact ZB _ _
 obtain ⟨w8,hput,hu8,hg8⟩:=(hu.kept (hb1.block _ hml)).put underlying3 underlying239 (by unfold maxLen;omega) (n:=l) (wfI (by omega)) (some w.heap.size);unfold cChg at hlk hput;simp only [Option.getD_none,Option.map_none,Option.map_some] at hlk hput;have hs1:W1.heap.size=w.heap.size+1:=by rw [hW1];simp
 have HE:=zh (show UL w8 m (ex+1) (YE f l (some w.heap.size))/\w.heap.size < w8.heap.size/\w8.heap[w.heap.size]?=some (QC (.slice none 0 0) (.slice none 0 0) (.slice none 0 0))/\w.grownBy w8 (some m) from
  ⟨hu8,by have:=hg8.size;omega,(hg8.block _ (by omega) (fun e=>by have:=ZK5 e;omega)).trans hnew,by
    rw [hW1] at hg8;exact (World.grownBy_alloc w _ (some m)).trans hg8⟩)
 have c1:W1.cell? ⟨cb,0,none⟩=some (.map (some m)):=(hb1.cell (ZK2 _ _ hc)).trans hc;rw [hW1] at hput c1;clear hu hf hl hml hb1 hnew hu8 hg8 hs1 hW1;go_in;go_wp2;go_returns;exact ⟨rfl,HE.o⟩
end
end Go.Proofs.YteomliechfdhhaaGreatDoor.Dv
