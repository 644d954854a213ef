/- Part 14. -/
import Derived.Test.YtbpeehmepehkdaaGreatDoorY13
import Derived.Maps.OwnSet
set_option maxHeartbeats 8000000
set_option maxRecDepth 20000
set_option linter.all false
namespace Go.Proofs.YtbpeehmepehkdaaGreatDoor.Dv
open Tryz
section
open Go.RowKit Go.Proofs.YtbpeehmepehkdaaGreatDoor.Size
variable {w w':World}{A:DAd}{F:Nat->Option ZM}{L:Nat}{T c:Nat->Nat}
structure Plc where
 line:Nat
 cl:Int
 ow:Int
 held:Bool
def plF (p:Nat->Plc)(x:Nat):Value:=
 match x % 4 with
 |0=>.int .i64 (p (x / 4)).line
 |1=>.int .i64 (p (x / 4)).cl
 |2=>.int .i64 (p (x / 4)).ow
 |_=>.bool (p (x / 4)).held
structure SetW (w:World)(sb pb t:Nat)(A:DAd)(n cap:Nat)(p:Nat->Plc):Prop where
 set:w.heap[sb]?=some (.cells #[.iface 116 (.pointer (some ⟨A.t t,0,none⟩)),.slice (some ⟨pb,0,none⟩) n cap] 231 (0,0))
 row:Row w pb 233 (n * 4) (plF p)
 size:n<=200
theorem SetW.below {sb pb t n cap:Nat}{p:Nat->Plc}(h:SetW w sb pb t A n cap p)(hb:Bl w w'):SetW w' sb pb t A n cap p:=
 ⟨(hb.block _ (heap_lt h.set)).trans h.set,h.row.of_block (hb.block _ h.row.lt),h.size⟩
theorem SetW.agree {sb pb t n cap:Nat}{p:Nat->Plc}(h:SetW w sb pb t A n cap p)(h1:w'.heap[sb]?=w.heap[sb]?)(h2:w'.heap[pb]?=w.heap[pb]?):SetW w' sb pb t A n cap p:=
 ⟨h1.trans h.set,h.row.of_block h2,h.size⟩
theorem SetW.ne {sb pb t n cap:Nat}{p:Nat->Plc}(h:SetW w sb pb t A n cap p):sb≠pb:=by
 intro e;obtain ⟨c,hc,_⟩:=h.row;rw [<-e,h.set] at hc;simp at hc
theorem SetW.cells {sb pb t n cap:Nat}{p:Nat->Plc}(h:SetW w sb pb t A n cap p):w.cell? ⟨sb,0,none⟩=some (.iface 116 (.pointer (some ⟨A.t t,0,none⟩)))/\w.cell? ⟨sb,1,none⟩=some (.slice (some ⟨pb,0,none⟩) n cap):=
 ⟨(ZD h.set).trans rfl,(ZD h.set).trans rfl⟩
theorem SetW.at {sb pb t n cap:Nat}{p:Nat->Plc}(h:SetW w sb pb t A n cap p){j:Nat}(hj:j < n):
 w.cell? ⟨pb,j * 4,none⟩=some (.int .i64 (p j).line)/\w.cell? ⟨pb,j * 4+1,none⟩=some (.int .i64 (p j).cl)/\w.cell? ⟨pb,j * 4+2,none⟩=some (.int .i64 (p j).ow)/\w.cell? ⟨pb,j * 4+3,none⟩=some (.bool (p j).held):=by
 have hs:=h.size;refine ⟨?_,?_,?_,?_⟩
 ·rw [h.row.cell _ (by omega)];unfold plF;rw [show j * 4 % 4=0 by omega,show j * 4 / 4=j by omega];rfl
 ·rw [h.row.cell _ (by omega)];unfold plF;rw [show (j * 4+1) % 4=1 by omega,show (j * 4+1) / 4=j by omega];rfl
 ·rw [h.row.cell _ (by omega)];unfold plF;rw [show (j * 4+2) % 4=2 by omega,show (j * 4+2) / 4=j by omega];rfl
 ·rw [h.row.cell _ (by omega)];unfold plF;rw [show (j * 4+3) % 4=3 by omega,show (j * 4+3) / 4=j by omega];rfl
def Xo (p:Nat->Plc)(j:Nat)(x:Plc):Nat->Plc:=fun m=>if m=j then x else p m
theorem Qu (p:Nat->Plc){j m:Nat}(x:Plc)(h:m≠j):Xo p j x m=p m:=ZLU h
theorem SetW.hold {sb pb t n cap:Nat}{p:Nat->Plc}(h:SetW w sb pb t A n cap p){j:Nat}(hj:j < n)(b:Bool):SetW (w.setCell ⟨pb,j * 4+3,none⟩ (.bool b)) sb pb t A n cap (Xo p j ⟨(p j).line,(p j).cl,(p j).ow,b⟩):=by
 refine ⟨(ZG h.ne).trans h.set,(h.row.set (j * 4+3) (.bool b)).congr (fun x hx=>?_),h.size⟩;unfold plF Xo
 by_cases e:x=j * 4+3
 ·rw [ZLX e,e,show (j * 4+3) % 4=3 by omega,show (j * 4+3) / 4=j by omega];simp
 ·rw [ZLU e]
  by_cases e2:x / 4=j
  ·rw [ZLX e2]
   have:x % 4≠3:=by omega
   rcases (show x % 4=0\/x % 4=1\/x % 4=2 by omega) with e3|e3|e3 <;> rw [e3] <;> simp [e2]
  ·rw [ZLU e2]
theorem SetW.claim {sb pb t n cap:Nat}{p:Nat->Plc}(h:SetW w sb pb t A n cap p){j:Nat}(hj:j < n)(cl ow:Int):SetW ((w.setCell ⟨pb,j * 4+1,none⟩ (.int .i64 cl)).setCell ⟨pb,j * 4+2,none⟩ (.int .i64 ow)) sb pb t A n cap (Xo p j ⟨(p j).line,cl,ow,(p j).held⟩):=by
 refine ⟨((ZG h.ne).trans (ZG h.ne)).trans h.set,((h.row.set (j * 4+1) (.int .i64 cl)).set (j * 4+2) (.int .i64 ow)).congr (fun x hx=>?_),h.size⟩;unfold plF Xo
 by_cases e:x=j * 4+2
 ·rw [ZLX e,e,show (j * 4+2) % 4=2 by omega,show (j * 4+2) / 4=j by omega];simp
 ·rw [ZLU e]
  by_cases e1:x=j * 4+1
  ·rw [ZLX e1,e1,show (j * 4+1) % 4=1 by omega,show (j * 4+1) / 4=j by omega];simp
  ·rw [ZLU e1]
   by_cases e2:x / 4=j
   ·rw [ZLX e2]
    rcases (show x % 4=0\/x % 4=3 by omega) with e3|e3 <;> rw [e3] <;> simp [e2]
   ·rw [ZLU e2]
theorem ZA3 {sb pb t n cap:Nat}{p:Nat->Plc}(h:SetW w sb pb t A n cap p){j:Nat}(hj:j < n)(hd:∀ m,m < j->(p m).line≠(p j).line):
 Calls prog 219 #[.pointer (some ⟨sb,0,none⟩),.int .i64 (p j).line] w fun e w'=>e=.returned (.pointer (some ⟨pb,j * 4,none⟩))/\w=w':=by
 obtain ⟨c0,c1⟩:=h.cells;have hs:=h.size;have HAT:=zh (fun (m:Nat) (hm:m < n)=>h.at hm);have HD:=zh hd;obtain ⟨l,hl⟩:=xE ((p j).line);rw [<-hl] at HD ⊢;have HL:=zh hl;clear h hd hl;go_in;go_wp2_with fail
 go_loop [13] (fun i=>∃ m:Nat,m<=j/\i=.int .i64 (m:Nat)) (fun i=>n - (intOf i).toNat)
 case atStart=>exact ⟨0,by omega,rfl⟩
 case round=>
  obtain ⟨m,hm,rfl⟩:=hrel;have hmn:m < n:=by omega
  have d0:(m:Int) < n:=by omega
  obtain ⟨a0,_⟩:=HAT.o m hmn
  by_cases e:m=j
  ·subst e
   rw [<-HL.o] at a0;go_wp2;go_returns;exact ⟨rfl,rfl⟩
  ·have d1:(((p m).line:Int) == (l:Int))=false:=by have:=HD.o m (by omega);simp;omega
   go_wp2_with fail;go_round
   case rel=>exact ⟨m+1,by omega,by go_num⟩
   case measure=>simp [intOf];omega
theorem Je {sb pb t n cap:Nat}{p:Nat->Plc}(h:SetW w sb pb t A n cap p){j:Nat}(hj:j < n)(hd:∀ m,m < j->(p m).line≠(p j).line)(hc:0<=(p j).cl)(b:Bool):
 Calls prog 147 #[.pointer (some ⟨sb,0,none⟩),.int .i64 (p j).line,.bool b] w fun e w'=>e=.returned (.int .i64 0)/\w'=w.setCell ⟨pb,j * 4+3,none⟩ (.bool b):=by
 have HFI:=zh (ZA3 h hj hd);obtain ⟨a0,a1,a2,a3⟩:=h.at hj;have f3:=h.row.free (j * 4+3);have d0:¬ (p j).cl < 0:=by omega
 clear h hd;go_in;go_wp2_with fail;refine HFI.o.mono ?_;rintro e w' ⟨rfl,rfl⟩;go_wp2;go_returns;exact ⟨rfl,rfl⟩
theorem ZGV {sb pb t n cap:Nat}{p:Nat->Plc}(h:SetW w sb pb t A n cap p){j:Nat}(hj:j < n)(hd:∀ m,m < j->0<=(p m).cl)(hc:(p j).cl < 0):
 Calls prog 255 #[.pointer (some ⟨sb,0,none⟩)] w fun e w'=>e=.returned (.tuple #[.pointer (some ⟨pb,j * 4,none⟩),.int .i64 0])/\w=w':=by
 obtain ⟨c0,c1⟩:=h.cells;have hs:=h.size;have HAT:=zh (fun (m:Nat) (hm:m < n)=>h.at hm);have HD:=zh hd;clear h hd;go_in;go_wp2_with fail
 go_loop [15] (fun i=>∃ m:Nat,m<=j/\i=.int .i64 (m:Nat)) (fun i=>n - (intOf i).toNat)
 case atStart=>exact ⟨0,by omega,rfl⟩
 case round=>
  obtain ⟨m,hm,rfl⟩:=hrel;have hmn:m < n:=by omega
  have d0:(m:Int) < n:=by omega
  obtain ⟨_,a1,_⟩:=HAT.o m hmn
  by_cases e:m=j
  ·subst e
   go_wp2;go_returns;exact ⟨rfl,rfl⟩
  ·have d1:¬ (p m).cl < 0:=by have:=HD.o m (by omega);omega
   go_wp2_with fail;go_round
   case rel=>exact ⟨m+1,by omega,by go_num⟩
   case measure=>simp [intOf];omega
structure Codec (α:Type) where
 val:α->Value
 num:α->List Int
 dec:Value->Option α
 dv:∀ a,dec (val a)=some a
 vd:∀ v a,dec v=some a->v=val a
 inj:∀ a b,num a=num b->a=b
namespace Codec
variable {α:Type}(C:Codec α)
def D (a:α):DataW Unit:=.agg ((C.num a).map fun z=>.lit (.int .i64 z))
def R (v:Value):Option (DataW Unit×List MemPlace):=(C.dec v).map fun a=>(C.D a,[])
theorem R_val (a:α):C.R (C.val a)=some (C.D a,[]):=by unfold R;rw [C.dv];rfl
theorem D_inj {a b:α}(h:C.D a=C.D b):a=b:=by
 apply C.inj;have h1:(C.num a).map (fun z=>(DataW.lit (.int .i64 z):DataW Unit))=(C.num b).map (fun z=>.lit (.int .i64 z)):=DataW.agg.inj h;exact List.map_inj_right (fun x y e=>(Lit.int.inj (DataW.lit.inj e)).2) |>.1 h1
theorem R_inv {v:Value}{a:α}{ps:List MemPlace}(h:C.R v=some (C.D a,ps)):v=C.val a:=by
 unfold R at h;cases e:C.dec v with
 |none=>rw [e] at h;cases h
 |some a'=>
  rw [e] at h;have h1:=(Prod.mk.inj (ZLd h)).1;rw [C.vd v a' e,C.D_inj h1]
end Codec
theorem ZBi {q:IntKind}{x n:Nat}(h:x≠n):Lit.int q (x:Int)≠Lit.int q (n:Int):=fun e=>h (by have:=(Lit.int.inj e).2;omega)
def UMap {α:Type}(P:Program)(k:TypeId)(q:IntKind)(C:Codec α)(w:World)(b ex:Nat)(f:Nat->Option α):Prop:=
 ∃ es:List (Lit×DataW Unit),w.ownsMap P k C.R b ex (.map es)/\(∀ p∈es,∃ n:Nat,p.1=.int q n)/\(∀ n:Nat,Maps.has (.map es) (.int q n)=(f n).isSome)/\∀ (n:Nat) a zd,f n=some a->(DataW.map es).atKey (.int q n) zd=C.D a
def YN {α:Type}(f:Nat->Option α)(n:Nat)(a:α):Nat->Option α:=fun x=>if x=n then some a else f x
def Xl {α:Type}(f:Nat->Option α)(n:Nat):Nat->Option α:=fun x=>if x=n then none else f x
theorem Xu {α:Type}(f:Nat->Option α)(n:Nat)(a:α):YN f n a n=some a:=ZLX rfl
theorem QC {α:Type}(f:Nat->Option α){n x:Nat}(a:α)(h:x≠n):YN f n a x=f x:=ZLU h
theorem ZAg {α:Type}(f:Nat->Option α)(n:Nat):Xl f n n=none:=ZLX rfl
theorem ZEq {α:Type}(f:Nat->Option α){n x:Nat}(h:x≠n):Xl f n x=f x:=ZLU h
section
variable {α:Type}{P:Program}{k:TypeId}{q:IntKind}{C:Codec α}{w w':World}{b ex:Nat}{f:Nat->Option α}
theorem UMap.made (P:Program)(k:TypeId)(q:IntKind)(C:Codec α)(w:World):UMap P k q C (w.alloc (.map #[] 0)) w.heap.size 0 (fun _=>none):=by
 refine ⟨[],World.ownsMap_made _ _ _ _,fun p h=>(by cases h),fun n=>rfl,fun n a zd h=>(by cases h)⟩
theorem UMap.kept (h:UMap P k q C w b ex f)(hb:w'.heap[b]?=w.heap[b]?):UMap P k q C w' b ex f:=by
 obtain ⟨D,⟨es,clock,h1,h2⟩,h3⟩:=h;exact ⟨D,⟨es,clock,hb.trans h1,h2⟩,h3⟩
theorem UMap.lt (h:UMap P k q C w b ex f):b < w.heap.size:=by
 obtain ⟨D,⟨es,clock,h1,h2⟩,h3⟩:=h;exact heap_lt h1
theorem UMap.mono (h:UMap P k q C w b ex f){ex':Nat}(he:ex<=ex'):UMap P k q C w b ex' f:=by
 obtain ⟨D,h1,h3⟩:=h;exact ⟨D,h1.mono he,h3⟩
theorem UMap.look2 (h:UMap P k q C w b ex f)(hk:P.underlying k=some (.int q)){t e:TypeId}(ht:P.underlying t=some (.map k e)){z:α}(hz:(zeroValue e).run P w=.ok (C.val z) w){n:Nat}(hn:(Lit.int q (n:Int)).wf=true):
 (Instr.lookup t (.map (some b)) (.int q n) true).run P w=.ok (.tuple #[C.val ((f n).getD z),.bool (f n).isSome]) w:=by
 obtain ⟨D,h1,h2,h3,h4⟩:=h;obtain ⟨v,ps,hrun,hR⟩:=h1.look_ok (Maps.int_keyed hk) ht hz (C.R_val z) (Maps.keyOf_int_mk hk hn);rw [hrun,h3 n];cases e:f n with
 |none=>
  have hno:Maps.has (.map D) (.int q (n:Int))=false:=by rw [h3,e];rfl
  rw [Maps.atKey_of_not_has hno] at hR;rw [C.R_inv hR];rfl
 |some a=>
  rw [h4 n a _ e] at hR;rw [C.R_inv hR];rfl
theorem UMap.look (h:UMap P k q C w b ex f)(hk:P.underlying k=some (.int q)){t e:TypeId}(ht:P.underlying t=some (.map k e)){z:α}(hz:(zeroValue e).run P w=.ok (C.val z) w){n:Nat}(hn:(Lit.int q (n:Int)).wf=true):
 (Instr.lookup t (.map (some b)) (.int q n) false).run P w=.ok (C.val ((f n).getD z)) w:=by
 obtain ⟨D,h1,h2,h3,h4⟩:=h;obtain ⟨v,ps,hrun,hR⟩:=h1.lookup (Maps.int_keyed hk) ht hz (C.R_val z) (Maps.keyOf_int_mk hk hn);rw [hrun];cases e:f n with
 |none=>
  have hno:Maps.has (.map D) (.int q (n:Int))=false:=by rw [h3,e];rfl
  rw [Maps.atKey_of_not_has hno] at hR;rw [C.R_inv hR];rfl
 |some a=>
  rw [h4 n a _ e] at hR;rw [C.R_inv hR];rfl
theorem UMap.put (h:UMap P k q C w b ex f)(hk:P.underlying k=some (.int q)){t e:TypeId}(ht:P.underlying t=some (.map k e))(hex:ex < maxLen){n:Nat}(hn:(Lit.int q (n:Int)).wf=true)(a:α):
 ∃ w',(Instr.mapUpdate t (.map (some b)) (.int q n) (C.val a)).run P w=.ok () w'/\UMap P k q C w' b (ex+1) (YN f n a)/\w.grownBy w' (some b):=by
 obtain ⟨es,h1,h2,h3,h4⟩:=h;obtain ⟨w',hrun,hown,hgr⟩:=h1.update (Maps.int_keyed hk) ht hex (Maps.keyOf_int_mk hk hn) (C.R_val a);have hkl:WideAt.IsKeyLit (Lit.int q (n:Int)):=trivial;refine ⟨w',hrun,⟨_,hown,fun p hp=>?_,fun x=>?_,fun x a' zd hx=>?_⟩,hgr⟩
 ·rcases List.mem_cons.1 ((WideShapes.insert_perm _ _).mem_iff.1 hp) with rfl|hp
  ·exact ⟨n,rfl⟩
  ·exact h2 p (ZLv.1 hp).1
 ·by_cases e:x=n
  ·subst e
   rw [Xu];exact Maps.has_put_same (D:=.map es) ⟨_,rfl⟩ hkl _
  ·rw [QC _ _ e,<-h3 x]
   exact Maps.has_put_other (D:=.map es) (ZBi e) _
 ·by_cases e:x=n
  ·subst e
   rw [Xu] at hx;rw [<-ZLd hx];exact Maps.atKey_put_same (D:=.map es) ⟨_,rfl⟩ hkl _ _
  ·rw [QC _ _ e] at hx
   exact (Maps.atKey_put_other (D:=.map es) (ZBi e) _ _).trans (h4 x a' zd hx)
theorem UMap.del (h:UMap P k q C w b ex f)(hk:P.underlying k=some (.int q)){t e:TypeId}(ht:P.underlying t=some (.map k e)){n:Nat}(hn:(Lit.int q (n:Int)).wf=true)(ty:TypeId):
 ∃ w',(Builtin.delete_ #[t,k] ty #[.map (some b),.int q n]).run P w=.ok (.tuple #[]) w'/\UMap P k q C w' b ex (Xl f n)/\w.grownBy w' (some b):=by
 obtain ⟨es,h1,h2,h3,h4⟩:=h;obtain ⟨w',hrun,hown,htn⟩:=h1.drop (Maps.int_keyed hk) ht (Maps.keyOf_int_mk hk hn) ty;refine ⟨w',hrun,⟨_,hown,fun p hp=>h2 p (ZLv.1 hp).1,fun x=>?_,fun x a' zd hx=>?_⟩,htn.grown⟩
 ·by_cases e:x=n
  ·subst e
   rw [ZAg];exact Maps.has_del_same (D:=.map es)
  ·rw [ZEq _ e,<-h3 x]
   exact Maps.has_del_other (D:=.map es) (ZBi e)
 ·by_cases e:x=n
  ·subst e;rw [ZAg] at hx;cases hx
  ·rw [ZEq _ e] at hx
   exact (Maps.atKey_del_other (D:=.map es) (ZBi e) _).trans (h4 x a' zd hx)
def ZHc:Lit->Nat
 |.int _ a=>a.toNat
 |_=>0
end
end
section
open Go.RowKit
def by4 (x:Nat):List Nat:=[x % 256,x / 256 % 256,x / 65536 % 256,x / 16777216]
def Zc (T:Nat->Nat)(x:Nat):Nat:=ZFU T (by4 x) * 4294967296+x
theorem ZBI {x:Nat}(hx:x < 4294967296):∀ b∈by4 x,b < 256:=by
 intro b hb;simp only [by4,List.mem_cons,List.not_mem_nil,or_false] at hb;rcases hb with rfl|rfl|rfl|rfl <;> omega
theorem Xe {w:World}{T:Nat->Nat}(hT:NTab w T){x:Nat}(hx:x < 4294967296):Zc T x < 18446744073709551616:=by
 have:=ZBR hT (ZBI hx);unfold Zc;omega
theorem Jb {w:World}{T:Nat->Nat}(hT:NTab w T){x:Nat}(hx:x < 4294967296):Zc T x % 4294967296=x:=by
 have:=ZBR hT (ZBI hx);unfold Zc;omega
theorem ZKw {c x:Nat}(hc:c < 4294967296)(hx:x < 4294967296):bits .or .u64 ((c:Int) * 4294967296) (x:Int)=(c:Int) * 4294967296+x:=by
 have e:((c:Int) * 4294967296)=((c * 4294967296:Nat):Int):=by omega
 rw [e,u64_or_nat (c * 4294967296) x (by omega) (by omega)];have h:=Nat.two_pow_add_eq_or_of_lt (i:=32) (a:=c) (b:=x) (by omega);rw [show (2:Nat) ^ 32=4294967296 from rfl,Nat.mul_comm] at h;rw [<-h];omega
theorem U1 {w:World}{T:Nat->Nat}(hT:NTab w T){x:Nat}(hx:x < 4294967296):
 Calls prog 269 #[.int .u32 x] w fun e w'=>e=.returned (.int .u64 (Zc T x:Nat))/\Bl w w':=by
 have b1:(x:Int) < 4294967296:=by omega
 obtain ⟨w1,hw1⟩:=xE (w.alloc (.cells #[.int .u8 ((x % 256:Nat):Int),.int .u8 ((x / 256 % 256:Nat):Int),.int .u8 ((x / 65536 % 256:Nat):Int),((.int .u8 ((x / 16777216:Nat):Int)):Value)] 5));have hb1:Bl w w1:=by rw [hw1];exact bR.alloc nR _
 have hs:Seen w1 w.heap.size 0 ((by4 x).map u8v):=by
  intro j u hu;rw [hw1];rw [ZLu,ZD (ZC _ _)]
  match j with
  |0=>cases hu;rfl
  |1=>cases hu;rfl
  |2=>cases hu;rfl
  |3=>cases hu;rfl
  |j+4=>simp [by4] at hu
 have hsum:=ZJQ (c:=4) (hT.below hb1 nR) hs (ZBI hx) (by simp [by4]);have hlt:=ZBR hT (ZBI hx);rw [show (by4 x).length=4 from rfl] at hsum;obtain ⟨C,hC⟩:=xE (ZFU T (by4 x));have e:((Zc T x:Nat):Int)=(C:Int) * 4294967296+x:=by unfold Zc;rw [hC];omega
 rw [<-hC] at hsum hlt;rw [e];have b2:(C:Int) < 4294967296:=by omega
 have HO:=zh (ZKw hlt hx);have HS:=zh hsum;have HB:=zh hb1;simp only [Int.natCast_emod,Int.natCast_ediv,Int.cast_ofNat_Int] at hw1;have HW:=zh hw1;clear hsum hb1 hs hT hC e hlt hw1 hx;go_in;go_wp2_with fail;rw [<-HW.o];refine HS.o.mono ?_;rintro e w' ⟨rfl,rfl⟩;go_wp2;go_returns;exact ⟨by rw [<-HO.o];rfl,HB.o⟩
open Go.Proofs.YtbpeehmepehkdaaGreatDoor.Size
structure Blk where
 gen:Nat
 kind:Nat
 st:Nat
def Blk.info (b:Blk):Nat:=b.gen+b.kind * 65536+b.st * 16777216
structure Blk.Good (b:Blk):Prop where
 gen:1<=b.gen/\b.gen < 65536
 st:b.st=176/\b.kind=0\/b.st=177/\1<=b.kind/\b.kind<=127\/b.st=178/\b.gen=65535/\b.kind=0
theorem Blk.Good.kind_lt {b:Blk}(h:b.Good):b.kind < 256:=by have:=h.st;omega
theorem Blk.Good.st_lt {b:Blk}(h:b.Good):176<=b.st/\b.st<=178:=by have:=h.st;omega
theorem Blk.Good.info_lt {b:Blk}(h:b.Good):b.info < 4294967296:=by
 have:=h.gen;have:=h.kind_lt;have:=h.st_lt;unfold Blk.info;omega
theorem Blk.Good.parts {b:Blk}(h:b.Good):b.info % 65536=b.gen/\b.info / 65536 % 256=b.kind/\b.info / 16777216=b.st:=by
 have:=h.gen;have:=h.kind_lt;have:=h.st_lt;unfold Blk.info;omega
structure Chk where
 cl:Int
 ow:Int
 gen:Nat
 blk:Nat->Blk
def Chk.info (k:Chk):Nat:=k.gen+(k.cl+1).toNat * 65536+(k.ow+1).toNat * 1048576+3305111552
structure Chk.Head (k:Chk):Prop where
 gen:1<=k.gen/\k.gen < 65536
 cl:k.cl=-1/\k.ow=-1\/0<=k.cl/\k.cl<=4/\0<=k.ow/\k.ow<=7
theorem Chk.Head.info_lt {k:Chk}(h:k.Head):k.info < 4294967296:=by
 have:=h.gen;have:=h.cl;unfold Chk.info;omega
theorem Chk.Head.parts {k:Chk}(h:k.Head):k.info % 65536=k.gen/\k.info / 16777216=197/\((k.info / 65536 % 16:Nat):Int)=k.cl+1/\((k.info / 1048576 % 16:Nat):Int)=k.ow+1:=by
 have:=h.gen;have:=h.cl;unfold Chk.info;omega
def Zi (f:Nat->Bool):Nat->Nat
 |0=>0
 |n+1=>Zi f n+(if f n then 2 ^ n else 0)
theorem Ym (f:Nat->Bool):∀ n,Zi f n < 2 ^ n
 |0=>by simp [Zi]
 |n+1=>by
  have:=Ym f n;unfold Zi;rw [Nat.pow_succ];split <;> omega
theorem YM {f g:Nat->Bool}:∀ {n:Nat},(∀ i,i < n->f i=g i)->Zi f n=Zi g n
 |0,_=>rfl
 |n+1,h=>by
  unfold Zi;rw [YM (fun i hi=>h i (by omega)),h n (by omega)]
theorem Y1 (f:Nat->Bool):∀ {n i:Nat},i < n->Zi f n / 2 ^ i % 2=if f i then 1 else 0
 |0,i,h=>by omega
 |n+1,i,h=>by
  unfold Zi;have hlt:=Ym f n
  by_cases e:i=n
  ·subst e
   by_cases hf:f i=true
   ·rw [ZLX hf,ZLX hf,Nat.add_div_right _ (Nat.two_pow_pos i),Nat.div_eq_of_lt hlt]
   ·rw [ZLU hf,ZLU hf,Nat.add_zero,Nat.div_eq_of_lt hlt]
  ·have hi:i < n:=by omega
   rw [<-Y1 f hi];split
   ·rw [show 2 ^ n=2 ^ i * (2 * 2 ^ (n - i - 1)) by
     rw [<-Nat.pow_succ',<-Nat.pow_add];congr 1;omega]
    rw [Nat.add_mul_div_left _ _ (Nat.two_pow_pos i),Nat.add_mul_mod_self_left]
   ·rw [Nat.add_zero]
theorem X8 {f:Nat->Bool}{i:Nat}(hf:f i=false):∀ {n:Nat},i < n->Zi (fun k=>if k=i then true else f k) n=Zi f n+2 ^ i
 |0,h=>by omega
 |n+1,h=>by
  unfold Zi
  by_cases e:i=n
  ·subst e
   rw [YM (g:=f) (n:=i) (fun k hk=>ZLU (by omega)),ZLX rfl,hf];simp
  ·rw [X8 hf (by omega),ZLU (show n≠i by omega)]
   omega
theorem ZBG {f:Nat->Bool}{i:Nat}(hf:f i=true){n:Nat}(hi:i < n):Zi (fun k=>if k=i then false else f k) n+2 ^ i=Zi f n:=by
 have:=X8 (f:=fun k=>if k=i then false else f k) (i:=i) (by simp) hi;rw [<-this];refine YM fun k _=>?_
 by_cases e:k=i
 ·rw [ZLX e,e,hf]
 ·rw [ZLU e,ZLU e]
def perN (k:Chk):Nat:=(per k.cl).toNat
def Zu (k:Chk):Nat:=(wds k.cl).toNat+1
def hdN (k:Chk)(i:Nat):Nat:=8+i * Zu k
theorem Chk.Head.sizes {k:Chk}(h:k.Head):per k.cl=(perN k:Int)/\wds k.cl+1=(Zu k:Int)/\perN k<=62/\1<=Zu k/\Zu k<=61/\8+perN k * Zu k<=256:=by
 have h2:=h.cl;unfold perN Zu;have hc:k.cl=-1\/k.cl=0\/k.cl=1\/k.cl=2\/k.cl=3\/k.cl=4:=by omega
 rcases hc with e|e|e|e|e|e <;> rw [e] <;> decide
theorem YI {k:Chk}(h:k.Head){i:Nat}(hi:i < perN k):hdN k i+Zu k<=256:=by
 obtain ⟨_,_,_,_,_,h6⟩:=h.sizes;have:i * Zu k+Zu k<=perN k * Zu k:=by
  rw [<-Nat.succ_mul];exact Nat.mul_le_mul_right _ hi
 unfold hdN;omega
theorem QD {k:Chk}(h:k.Head){i j a:Nat}(hij:i≠j)(ha:a < Zu k):hdN k i≠hdN k j+a:=by
 obtain ⟨_,_,_,h4,_,_⟩:=h.sizes;unfold hdN;intro e;have e2:i * Zu k=j * Zu k+a:=by omega
 rcases Nat.lt_or_gt_of_ne hij with hlt|hlt
 ·have:(i+1) * Zu k<=j * Zu k:=Nat.mul_le_mul_right _ hlt
  rw [Nat.succ_mul] at this;omega
 ·have:(j+1) * Zu k<=i * Zu k:=Nat.mul_le_mul_right _ hlt
  rw [Nat.succ_mul] at this;omega
def Chk.used (k:Chk)(i:Nat):Bool:=(k.blk i).st != 176
structure CRep (T c:Nat->Nat)(B:Nat)(k:Chk):Prop where
 head:k.Head
 w0:c B=Zc T k.info
 bits:0<=k.cl->c (B+1)=Zi k.used (perN k)
 rest:0<=k.cl->∀ a,2<=a->a < 8->c (B+a)=0
 good:0<=k.cl->∀ i,i < perN k->(k.blk i).Good
 blk:0<=k.cl->∀ i,i < perN k->c (B+hdN k i)=Zc T (k.blk i).info
theorem CRep.congr {T c c':Nat->Nat}{B:Nat}{k:Chk}(h:CRep T c B k)(hc:∀ a,a < 8->c' (B+a)=c (B+a))(hb:0<=k.cl->∀ i,i < perN k->c' (B+hdN k i)=c (B+hdN k i)):CRep T c' B k where
 head:=h.head
 w0:=by rw [<-h.w0];exact hc 0 (by omega)
 bits:=fun h0=>(hc 1 (by omega)).trans (h.bits h0)
 rest:=fun h0 a h1 h2=>(hc a h2).trans (h.rest h0 a h1 h2)
 good:=h.good
 blk:=fun h0 i hi=>(hb h0 i hi).trans (h.blk h0 i hi)
def ZC7 (T:Nat->Nat)(v:Nat):Bool:=decide (Zc T (v % 4294967296)=v)
def ZJl (x:Nat):Value:=.agg #[.int .u16 ((x % 65536:Nat):Int),.int .u8 ((x / 65536 % 256:Nat):Int),.int .u8 ((x / 16777216:Nat):Int)]
def ZKm:Value:=.agg #[.int .u16 0,.int .u8 0,.int .u8 0]
theorem ZGO {w:World}{T:Nat->Nat}(hT:NTab w T){x:Nat}(hx:x < 4294967296):ZC7 T (Zc T x)=true:=by
 unfold ZC7;rw [Jb hT hx];simp
theorem Jd {w:World}{b i:Nat}{v:Value}{c:Array Value}{e:TypeId}(h:w.heap[b]?=some (.cells c e (0,0)))(hi:i < c.size):(w.setCell ⟨b,i,none⟩ v).cell? ⟨b,i,none⟩=some v:=by
 rw [ZD (ZI h)];simp [hi]
theorem ZE7 (x:Nat):IntKind.u16.wrap (x:Int)=((x % 65536:Nat):Int):=by
 rw [Int.natCast_emod];rfl
theorem ZIN (x:Nat):IntKind.u8.wrap (x:Int)=((x % 256:Nat):Int):=by
 rw [Int.natCast_emod];rfl
theorem ZEO {w:World}{T:Nat->Nat}(hT:NTab w T){v:Nat}(hv:v < 18446744073709551616):
 Calls prog 233 #[.int .u64 v] w fun e w'=>e=.returned (.tuple #[if ZC7 T v then ZJl (v % 4294967296) else ZKm,.bool (ZC7 T v)])/\Bl w w':=by
 obtain ⟨x,hx⟩:=xE (v % 4294967296);have hx2:x < 4294967296:=by omega
 have hb0:Bl w (w.alloc (.cells #[.int .u16 0,.int .u8 0,.int .u8 0] 291)):=bR.alloc nR _;have hs:=U1 (hT.below hb0 nR) hx2;have hlt:=Xe hT hx2;unfold ZC7 ZJl ZKm;rw [<-hx];have b1:(v:Int) < 18446744073709551616:=by omega
 have e1:(v:Int) % 4294967296=(x:Int):=by omega
 have b2:(x:Int) < 4294967296:=by omega
 have e2:IntKind.u16.wrap (x:Int)=((x % 65536:Nat):Int):=ZE7 x;have e3:IntKind.u8.wrap ((x:Int) / 65536)=((x / 65536 % 256:Nat):Int):=by have:=ZIN (x / 65536);rwa [Int.natCast_ediv] at this
 have e4:IntKind.u8.wrap ((x:Int) / 16777216)=((x / 16777216:Nat):Int):=by
  have:=ZIN (x / 16777216);rw [Int.natCast_ediv] at this;rw [show ((16777216:Nat):Int)=16777216 from rfl] at this;rw [this];congr 1;exact Nat.mod_eq_of_lt (by omega)
 generalize hS:Zc T x=S at hs hlt ⊢;have hnew:(w.alloc (.cells #[.int .u16 0,.int .u8 0,.int .u8 0] 291)).heap[w.heap.size]?=some (.cells #[.int .u16 0,.int .u8 0,.int .u8 0] 291 (0,0)):=ZC _ _;have HS:=zh hs;have HB:=zh hb0;have HN:=zh hnew;clear hs hb0 hT hnew hS hx hx2 hlt
 by_cases hq:S=v
 ·have d:((S:Int) != (v:Int))=false:=by simp [hq]
  have d1:decide (S=v)=true:=by simp [hq]
  rw [d1];clear hq d1;go_in;go_wp2_with fail;rw [e1];clear e1;refine HS.o.mono ?_;rintro e w' ⟨rfl,hb⟩;have h1:w'.heap[w.heap.size]?=some (.cells #[.int .u16 0,.int .u8 0,.int .u8 0] 291 (0,0)):=(hb.block _ (by simp)).trans HN.o;have c0:w'.cell? ⟨w.heap.size,0,none⟩=some (.int .u16 0):=by rw [ZD h1];rfl
  have c1:w'.cell? ⟨w.heap.size,1,none⟩=some (.int .u8 0):=by rw [ZD h1];rfl
  have c2:w'.cell? ⟨w.heap.size,2,none⟩=some (.int .u8 0):=by rw [ZD h1];rfl
  have f0:=ZH h1 (i:=0);have f1:=ZH h1 (i:=1);have f2:=ZH h1 (i:=2);have HBe:=zh (HB.o.trans (hb.mono HB.o.size));have r0:=Jd (i:=0) h1 (v:=.int .u16 ((x:Int) % 65536)) (by simp);have r1:=Jd (i:=1) (ZI (i:=0) (v:=.int .u16 ((x:Int) % 65536)) h1) (v:=.int .u8 ((x:Int) / 65536 % 256)) (by simp);have r2:=Jd (i:=2) (ZI (i:=1) (v:=.int .u8 ((x:Int) / 65536 % 256)) (ZI (i:=0) (v:=.int .u16 ((x:Int) % 65536)) h1)) (v:=.int .u8 ((x:Int) / 16777216)) (by simp);clear h1 hb b1 b2;go_wp2_with fail
  (try simp only [Exit.inBlock,Exit.then])
  refine bodyPost_ret (by simp [results,results233,go_sem,r0,r1,r2];try rfl) rfl ?_;exact ⟨rfl,by repeat (first|exact HBe.o|exact nR|apply Below.setCell)⟩
 ·have d:((S:Int) != (v:Int))=true:=by simp;omega
  have d1:decide (S=v)=false:=by simp [hq]
  rw [d1];clear hq d1;go_in;go_wp2_with fail;rw [e1];clear e1;refine HS.o.mono ?_;rintro e w' ⟨rfl,hb⟩;have h1:w'.heap[w.heap.size]?=some (.cells #[.int .u16 0,.int .u8 0,.int .u8 0] 291 (0,0)):=(hb.block _ (by simp)).trans HN.o;have c0:w'.cell? ⟨w.heap.size,0,none⟩=some (.int .u16 0):=by rw [ZD h1];rfl
  have c1:w'.cell? ⟨w.heap.size,1,none⟩=some (.int .u8 0):=by rw [ZD h1];rfl
  have c2:w'.cell? ⟨w.heap.size,2,none⟩=some (.int .u8 0):=by rw [ZD h1];rfl
  have f0:=ZH h1 (i:=0);have f1:=ZH h1 (i:=1);have f2:=ZH h1 (i:=2);have HBe:=zh (HB.o.trans (hb.mono HB.o.size));have r0:=Jd (i:=0) h1 (v:=.int .u16 0) (by simp);have r1:=Jd (i:=1) (ZI (i:=0) (v:=.int .u16 0) h1) (v:=.int .u8 0) (by simp);have r2:=Jd (i:=2) (ZI (i:=1) (v:=.int .u8 0) (ZI (i:=0) (v:=.int .u16 0) h1)) (v:=.int .u8 0) (by simp);clear hb b1 b2 h1;go_wp2_with fail
  (try simp only [Exit.inBlock,Exit.then])
  refine bodyPost_ret (by simp [results,results233,go_sem,r0,r1,r2];try rfl) rfl ?_;exact ⟨rfl,by repeat (first|exact HBe.o|exact nR|apply Below.setCell)⟩
def hdV (k:Chk):Value:=.agg #[.int .i64 k.cl,.int .i64 k.ow,.int .u16 k.gen]
def chV (A:DAd)(t line:Nat)(k:Chk):Value:=.agg #[.iface 116 (.pointer (some ⟨A.t t,0,none⟩)),.int .i64 line,.int .i64 k.cl,.int .i64 k.ow,.int .u16 k.gen]
variable {w:World}{A:DAd}{F:Nat->Option ZM}{L:Nat}{T c:Nat->Nat}
theorem Yj {line:Nat}(h:line<=4096):Calls prog 230 #[.int .i64 line] w fun e w'=>e=.returned (.int .u64 ((line * 64:Nat):Int))/\w=w':=by
 have b1:(line:Int)<=4096:=by omega
 go_in;go_wp2;go_returns;exact ⟨by rw [Int.natCast_mul];rfl,rfl⟩
theorem UJ (hT:Tab w){cl ow:Int}{g:Int}:Calls prog 258 #[.agg #[.int .i64 cl,.int .i64 ow,.int .u16 g]] w fun e w'=>e=.returned (.bool (decide (0 < per cl/\0<=ow/\ow < 8)))/\Bl w w':=by
 have HP:=zh (fun w1 (hb:Bl w w1)=>per_any cl w1 (hT.of_block (hb.block _ hT.lt)));clear hT
 by_cases h1:0 < per cl
 ·by_cases h2:0<=ow
  ·by_cases h3:ow < 8
   ·have d1:decide (0 < per cl)=true:=ZLp h1
    have d2:decide (0<=ow)=true:=ZLp h2;have d3:decide (ow < 8)=true:=ZLp h3;have d:decide (0 < per cl/\0<=ow/\ow < 8)=true:=ZLp ⟨h1,h2,h3⟩;rw [d];clear d h1 h2 h3;go_in;go_wp2_with fail;refine (HP.o _ (by repeat (first|exact Below.refl _ w|apply ZA))).mono ?_;rintro e w' ⟨rfl,rfl⟩;go_wp2;go_returns;exact ⟨rfl,by repeat (first|exact Below.refl _ w|apply ZA)⟩
   ·have d1:decide (0 < per cl)=true:=ZLp h1
    have d2:decide (0<=ow)=true:=ZLp h2;have d3:decide (ow < 8)=false:=ZLh h3;have d:decide (0 < per cl/\0<=ow/\ow < 8)=false:=ZLh (fun h=>h3 h.2.2);rw [d];clear d h1 h2 h3;go_in;go_wp2_with fail;refine (HP.o _ (by repeat (first|exact Below.refl _ w|apply ZA))).mono ?_;rintro e w' ⟨rfl,rfl⟩;go_wp2;go_returns;exact ⟨rfl,by repeat (first|exact Below.refl _ w|apply ZA)⟩
  ·have d1:decide (0 < per cl)=true:=ZLp h1
   have d2:decide (0<=ow)=false:=ZLh h2;have d:decide (0 < per cl/\0<=ow/\ow < 8)=false:=ZLh (fun h=>h2 h.2.1);rw [d];clear d h1 h2;go_in;go_wp2_with fail;refine (HP.o _ (by repeat (first|exact Below.refl _ w|apply ZA))).mono ?_;rintro e w' ⟨rfl,rfl⟩;go_wp2;go_returns;exact ⟨rfl,by repeat (first|exact Below.refl _ w|apply ZA)⟩
 ·have d1:decide (0 < per cl)=false:=ZLh h1
  have d:decide (0 < per cl/\0<=ow/\ow < 8)=false:=ZLh (fun h=>h1 h.1);rw [d];clear d h1;go_in;go_wp2_with fail;refine (HP.o _ (by repeat (first|exact Below.refl _ w|apply ZA))).mono ?_;rintro e w' ⟨rfl,rfl⟩;go_wp2;go_returns;exact ⟨rfl,by repeat (first|exact Below.refl _ w|apply ZA)⟩
theorem ZAU {y:Nat}(hy:y < 4294967296):bits .and .u32 (y:Int) 15=((y % 16:Nat):Int):=by
 have h:=u32_and_nat y 15 hy (by omega);have e:y &&& 15=y % 16:=Nat.and_two_pow_sub_one_eq_mod y 4;rw [e] at h;exact h
theorem ZDy (hT:NTab w T)(hS:Tab w){k:Chk}(h:k.Head):
 Calls prog 231 #[.int .u64 (Zc T k.info)] w fun e w'=>e=.returned (.tuple #[hdV k,.bool true])/\Bl w w':=by
 obtain ⟨p1,p2,p3,p4⟩:=h.parts;have hx2:=h.info_lt;have hg:=h.gen;have hcl:=h.cl;have hlow:=Jb hT hx2;have hlt:=Xe hT hx2;have HS:=zh (fun w1 (hb:Bl w w1)=>U1 (hT.below hb nR) hx2);have HF:=zh (fun w1 (hb:Bl w w1)=>UJ (hS.of_block (hb.block _ hS.lt)) (cl:=k.cl) (ow:=k.ow) (g:=k.gen));obtain ⟨X,hX⟩:=xE k.info;rw [<-hX] at p1 p2 p3 p4 hx2 hlow hlt HS ⊢;obtain ⟨S,hSS⟩:=xE (Zc T X);rw [<-hSS] at hlow hlt HS ⊢;have b1:(S:Int) < 18446744073709551616:=by omega
 have e1:(S:Int) % 4294967296=(X:Int):=by omega
 have e2:IntKind.u16.wrap (X:Int)=(k.gen:Int):=by rw [ZE7,p1]
 have e3:(X:Int) / 16777216=197:=by omega
 have e4:bits .and .u32 ((X:Int) / 65536) 15=k.cl+1:=by
  have:=ZAU (y:=X / 65536) (by omega);rw [p3,Int.natCast_ediv] at this;exact this
 have e5:bits .and .u32 ((X:Int) / 1048576) 15=k.ow+1:=by
  have:=ZAU (y:=X / 1048576) (by omega);rw [p4,Int.natCast_ediv] at this;exact this
 have d3:((k.gen:Int) == 0)=false:=by simp;omega
 unfold hdV;clear hT hS h p1 p2 p3 p4 hlow hlt hX hSS hx2;go_in;go_wp2_with fail;rw [e1];refine (HS.o _ (ZA (Below.refl _ w))).mono ?_;rintro e w1 ⟨rfl,hb⟩;have h1:w1.heap[w.heap.size]?=some (.cells #[.int .i64 0,.int .i64 0,.int .u16 0] 209 (0,0)):=(hb.block _ (by simp)).trans (ZC _ _);have HBe:=zh ((ZA (Below.refl _ w)).trans (hb.mono (by simp)));obtain ⟨w2,hw2⟩:=xE (w1.alloc (.cells #[.int .i64 k.cl,.int .i64 k.ow,.int .u16 k.gen] 209));have h2:w2.heap[w.heap.size]?=some (.cells #[.int .i64 0,.int .i64 0,.int .u16 0] 209 (0,0)):=by rw [hw2];exact (ZK (heap_lt h1)).trans h1
 have HB2:Bl w w2:=by rw [hw2];exact ZA HBe.o
 clear hb;have c0:w2.cell? ⟨w.heap.size,0,none⟩=some (.int .i64 0):=by rw [ZD h2];rfl
 have c1:w2.cell? ⟨w.heap.size,1,none⟩=some (.int .i64 0):=by rw [ZD h2];rfl
 have c2:w2.cell? ⟨w.heap.size,2,none⟩=some (.int .u16 0):=by rw [ZD h2];rfl
 have f0:=ZH h2 (i:=0);have f1:=ZH h2 (i:=1);have f2:=ZH h2 (i:=2);have HB3:Bl w (((w2.setCell ⟨w.heap.size,0,none⟩ (.int .i64 k.cl)).setCell ⟨w.heap.size,1,none⟩ (.int .i64 k.ow)).setCell ⟨w.heap.size,2,none⟩ (.int .u16 k.gen)):=by repeat (first|exact HB2|exact nR|apply Below.setCell)
 rw [hw2] at HB3 c0 c1 c2 f0 f1 f2;have HBE:=zh HB3;have HF1:=zh (HF.o w2 HB2);have w3:wrap64 (k.cl+1)=k.cl+1:=by rw [IntWalk.wrap64_in] <;> omega
 have w4:wrap64 (k.ow+1)=k.ow+1:=by rw [IntWalk.wrap64_in] <;> omega
 have w5:wrap64 k.cl=k.cl:=by rw [IntWalk.wrap64_in] <;> omega
 have w6:wrap64 k.ow=k.ow:=by rw [IntWalk.wrap64_in] <;> omega
 rw [hw2] at HF1;have HN:=zh (show w2.heap[w1.heap.size]?=some (.cells #[.int .i64 k.cl,.int .i64 k.ow,.int .u16 k.gen] 209 (0,0)) by rw [hw2];exact ZC _ _);have HO:=zh h2;have HB2':=zh HB2;have hlt:=heap_lt h1;have HSZ:=zh (show w2.heap.size=w1.heap.size+1 by rw [hw2];simp);have HLT:=zh hlt;rw [hw2] at HN HO HB2' HSZ;clear HF HS HBe h1 h2 HB2 HB3 b1 hw2 hg hlt;rcases hcl with ⟨n1,n2⟩|⟨n1,n2,n3,n4⟩
 ·have q1:k.cl < 0:=by omega
  have q2:k.ow < 0:=by omega
  clear n1 n2 HF1;go_wp2_with fail
  (try simp only [Exit.inBlock,Exit.then])
  refine bodyPost_ret (by simp [results,results231,go_sem,c0,c1,c2];try rfl) rfl ?_;exact ⟨rfl,HBE.o⟩
 ·have q1:¬ k.cl < 0:=by omega
  have q3:0 < per k.cl:=by have:=wds_cases k.cl;unfold per;repeat' split <;> omega
  have q4:decide (0 < per k.cl/\0<=k.ow/\k.ow < 8)=true:=ZLp ⟨q3,by omega,by omega⟩;rw [q4] at HF1;clear q3 q4 c0 c1 c2 f0 f1 f2 n1 n2 n3 n4;go_wp2_with fail;refine HF1.o.mono ?_;rintro e w3 ⟨rfl,hb⟩;have h3:=(hb.block w.heap.size (by have:=HSZ.o;have:=HLT.o;omega)).trans HO.o;have h4:=(hb.block w1.heap.size (by have:=HSZ.o;omega)).trans HN.o;have c0:w3.cell? ⟨w.heap.size,0,none⟩=some (.int .i64 0):=by rw [ZD h3];rfl
  have c1:w3.cell? ⟨w.heap.size,1,none⟩=some (.int .i64 0):=by rw [ZD h3];rfl
  have c2:w3.cell? ⟨w.heap.size,2,none⟩=some (.int .u16 0):=by rw [ZD h3];rfl
  have f0:=ZH h3 (i:=0);have f1:=ZH h3 (i:=1);have f2:=ZH h3 (i:=2);have d0:w3.cell? ⟨w1.heap.size,0,none⟩=some (.int .i64 k.cl):=by rw [ZD h4];rfl
  have d1:w3.cell? ⟨w1.heap.size,1,none⟩=some (.int .i64 k.ow):=by rw [ZD h4];rfl
  have d2:w3.cell? ⟨w1.heap.size,2,none⟩=some (.int .u16 k.gen):=by rw [ZD h4];rfl
  have HB4:=zh (HB2'.o.trans (hb.mono HB2'.o.size));clear h3 h4 hb HF1;go_wp2_with fail
  (try simp only [Exit.inBlock,Exit.then])
  refine bodyPost_ret (by simp [results,results231,go_sem,c0,c1,c2];try rfl) rfl ?_;exact ⟨rfl,by repeat (first|exact HB4.o|exact nR|apply Below.setCell)⟩
theorem QP {i line:Nat}{k:Chk}:Calls prog 118 #[chV A i line k] w fun e w'=>e=.returned (.int .i64 k.cl)/\Bl w w':=by
 unfold chV;go_in;go_wp2;go_returns;exact ⟨rfl,ZA bR⟩
theorem Ji (hT:Tab w){i line:Nat}{k:Chk}(hk:k.Head):Calls prog 240 #[chV A i line k] w fun e w'=>e=.returned (.int .i64 (perN k))/\Bl w w':=by
 have hp:=hk.sizes.1;have HC:=zh (fun w1=>QP (w:=w1) (A:=A) (i:=i) (line:=line) (k:=k));have HP:=zh (fun w1 (hb:Bl w w1)=>per_any k.cl w1 (hT.below hb));rw [hp] at HP;unfold chV at *;clear hT hp;go_in;go_wp2_with fail;refine (HC.o _).mono ?_;rintro e w1 ⟨rfl,hb⟩;have HB:=zh ((ZA (Below.refl _ w)).trans (hb.mono (by simp)));clear hb;go_wp2_with fail;refine (HP.o _ HB.o).mono ?_;rintro e w' ⟨rfl,rfl⟩;go_wp2;go_returns;exact ⟨rfl,HB.o⟩
theorem QS (hT:Tab w){i line:Nat}{k:Chk}(hk:k.Head)(x:Int):Calls prog 188 #[chV A i line k,.int .i64 x] w fun e w'=>e=.returned (.bool (decide (0<=x/\x < perN k)))/\Bl w w':=by
 have HC:=zh (fun w1 (hb:Bl w w1)=>Ji (A:=A) (i:=i) (line:=line) (hT.below hb) hk);unfold chV at *;clear hT
 by_cases h0:0<=x
 ·have e1:decide (0<=x/\x < perN k)=decide (x < perN k):=by simp [h0]
  rw [e1];clear e1;go_in;go_wp2_with fail;refine (HC.o _ (ZA (Below.refl _ w))).mono ?_;rintro e w1 ⟨rfl,hb⟩;have HB:=zh ((ZA (Below.refl _ w)).trans (hb.mono (by simp)));clear hb;go_wp2_with fail
  all_goals (go_returns;exact ⟨by simp_all,HB.o⟩)
 ·have e1:decide (0<=x/\x < perN k)=false:=by simp [h0]
  rw [e1];clear e1;have h1:x < 0:=by omega
  go_in;go_wp2;go_returns;exact ⟨rfl,ZA bR⟩
theorem JC (h:Ar w A F L T c){i:Nat}(hi:i < 8){line:Nat}(hl:line+32<=L){k:Chk}:Calls prog 232 #[chV A i line k] w fun e w'=>e=.returned (.int .u64 (c (8 * line+1)))/\Bl w w':=by
 have hL:=h.lines;have HLD:=zh (fun w1 hb=>Y4 h hi w1 hb (line * 64+8) (by omega) (by omega));have HST:=zh (fun w1=>Yj (w:=w1) (line:=line) (by omega));rw [show (line * 64+8) / 8=8 * line+1 by omega] at HLD;have b1:((line * 64:Nat):Int)<=262144:=by omega
 obtain ⟨M,hM⟩:∃ M:Nat,M=line * 64:=⟨_,rfl⟩
 rw [<-hM] at HLD HST b1;unfold chV at *;clear h hL hl hM;go_in;have hcb:=ZCp (ZC w (.cells #[.iface 116 (.pointer (some ⟨A.t i,0,none⟩)),.int .i64 line,.int .i64 k.cl,.int .i64 k.ow,.int .u16 k.gen] 211));obtain ⟨w1,hw1⟩:=xE (w.alloc (.cells #[.iface 116 (.pointer (some ⟨A.t i,0,none⟩)),.int .i64 line,.int .i64 k.cl,.int .i64 k.ow,.int .u16 k.gen] 211));have hb:Bl w w1:=by rw [hw1];exact ZA bR
 rw [<-hw1] at hcb;obtain ⟨c0,c1,c2,c3,c4,_⟩:=hcb;have HB:=zh hb;have HW:=zh hw1;have HE:=zh (show IntKind.u64.wrap ((M:Int)+8)=((M+8:Nat):Int) by rw [IntWalk.u64_in] <;> omega);clear hw1 hb c2 c3 c4;go_wp2_with fail;rw [<-HW.o]
 go_quiet (first
  |(go_at_call 230;exact ZZ (HST.o _))
  |(go_invoke;go_simp;go_at_call 52;rw [HE.o];exact ZZ (HLD.o _ (ZU HB.o))))
 go_wp2;go_returns;exact ⟨rfl,ZU HB.o⟩
theorem ZHd {k:Chk}(hk:k.Head){j:Nat}(hj:j < perN k):off k.cl (j:Int)=(((hdN k j:Nat):Int),0):=by
 obtain ⟨e1,e2,_⟩:=hk.sizes;unfold off;rw [ZLU (by omega),ZLU (by omega),e2];unfold hdN;simp
theorem ZBK (h:Ar w A F L T c){i line:Nat}(hl:line+32<=L){k:Chk}(hk:k.Head){j:Nat}(hj:j < perN k):Calls prog 191 #[chV A i line k,.int .i64 j] w fun e w'=>e=.returned (.int .u64 ((8 * line+hdN k j) * 8:Nat))/\Bl w w':=by
 have hL:=h.lines;have hle:=YI hk hj;have HST:=zh (fun w1=>Yj (w:=w1) (line:=line) (by omega));have HO:=zh (fun (w1:World) (hb:Bl w w1)=>offset_any k.cl j w1 (h.tab.below hb));rw [ZHd hk hj] at HO;obtain ⟨M,hM⟩:∃ M:Nat,M=line * 64:=⟨_,rfl⟩
 obtain ⟨N,hN⟩:∃ N:Nat,N=hdN k j:=⟨_,rfl⟩
 rw [show (8 * line+hdN k j) * 8=M+N * 8 by omega];rw [<-hM] at HST;rw [<-hN] at HO;have b1:(M:Int)<=262144:=by omega
 have b2:(N:Int)<=256:=by omega
 have e1:(((M+N * 8:Nat)):Int)=(M:Int)+(N:Int) * 8:=by omega
 rw [e1];unfold chV;clear h hL hl hM hN hle hk hj e1;go_in;go_wp2_with fail;refine (HO.o _ (ZA (Below.refl _ w))).mono ?_;rintro e w' ⟨rfl,rfl⟩;go_wp2_with fail;refine (HST.o _).mono ?_;rintro e w' ⟨rfl,rfl⟩;go_wp2;go_returns;exact ⟨rfl,ZA bR⟩
end
end Go.Proofs.YtbpeehmepehkdaaGreatDoor.Dv
