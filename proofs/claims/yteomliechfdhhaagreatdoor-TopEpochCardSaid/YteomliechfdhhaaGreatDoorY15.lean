/- Part 15. -/
import Derived.Test.YteomliechfdhhaaGreatDoorY14
import Derived.Maps.OwnSet
set_option maxHeartbeats 8000000
set_option maxRecDepth 20000
set_option linter.all false
namespace Go.Proofs.YteomliechfdhhaaGreatDoor.Size
open Tryz
section
open Go.RowKit
variable {w w':World}
theorem Tab.lt (h:Tab w):0 < w.heap.size:=ZK2 _ _ h.c0
theorem Tab.of_block (h:Tab w)(hb:w'.heap[(0:Nat)]?=w.heap[(0:Nat)]?):Tab w':=
 ⟨(ZK8 hb).trans h.c0,(ZK8 hb).trans h.c1,(ZK8 hb).trans h.c2,(ZK8 hb).trans h.c3,(ZK8 hb).trans h.c4⟩
theorem Tab.below (h:Tab w)(hb:Bl w w'):Tab w':=h.of_block (hb.block _ h.lt)
end
end Go.Proofs.YteomliechfdhhaaGreatDoor.Size
namespace Go.Proofs.YteomliechfdhhaaGreatDoor.Dv
open Tryz
section
open Go.RowKit Go.Proofs.YteomliechfdhhaaGreatDoor.Size
structure On (s:DSt)(c:Nat->Nat):Prop where
 off:s.off=false
 err:∀ i,s.err i=0
 cur:∀ x,s.cur x=c x
theorem Qt.on {s:DSt}{c:Nat->Nat}(h:Qt s c):On s c:=⟨h.off,h.err,h.cur⟩
structure Ar (w:World)(A:DAd)(F:Nat->Option ZK)(L:Nat)(T c:Nat->Nat):Prop where
 dev:∃ s,Dev w A s F/\On s c/\s.L=L
 nib:NTab w T
 tab:Tab w
 fn:F 1=none
 fp:F 0=none
structure Aq (w:World)(A:DAd)(F:Nat->Option ZK)(L:Nat)(T c:Nat->Nat)(x:Nat):Prop where
 dev:∃ s,Dev w A s F/\Qt s c/\s.L=L/\s.ex<=x
 nib:NTab w T
 tab:Tab w
 fn:F 1=none
 fp:F 0=none
variable {w w':World}{A:DAd}{F F':Nat->Option ZK}{L:Nat}{T c c':Nat->Nat}{x x':Nat}
theorem Aq.ar (h:Aq w A F L T c x):Ar w A F L T c:=by
 obtain ⟨s,h1,h2,h3,_⟩:=h.dev;exact ⟨⟨s,h1,h2.on,h3⟩,h.nib,h.tab,h.fn,h.fp⟩
theorem Ar.below (h:Ar w A F L T c)(hb:Bl w w'):Ar w' A F L T c:=by
 obtain ⟨s,h1,h2⟩:=h.dev;exact ⟨⟨s,h1.below hb,h2⟩,h.nib.below hb nR,h.tab.of_block (hb.block _ h.tab.lt),h.fn,h.fp⟩
theorem Aq.below (h:Aq w A F L T c x)(hb:Bl w w'):Aq w' A F L T c x:=by
 obtain ⟨s,h1,h2⟩:=h.dev;exact ⟨⟨s,h1.below hb,h2⟩,h.nib.below hb nR,h.tab.of_block (hb.block _ h.tab.lt),h.fn,h.fp⟩
theorem Aq.agree (h:Aq w A F L T c x)(hag:∀ k,(F k≠none\/k=1\/k=0)->w'.heap[k]?=w.heap[k]?)(hs:w.heap.size<=w'.heap.size):Aq w' A F L T c x:=by
 obtain ⟨s,h1,h2⟩:=h.dev;exact ⟨⟨s,h1.of_agree (fun k hk=>hag k (.inl hk)) hs,h2⟩,h.nib.of_block (hag _ (.inr (.inl rfl))),h.tab.of_block (hag _ (.inr (.inr rfl))),h.fn,h.fp⟩
theorem Ar.agree (h:Ar w A F L T c)(hag:∀ k,(F k≠none\/k=1\/k=0)->w'.heap[k]?=w.heap[k]?)(hs:w.heap.size<=w'.heap.size):Ar w' A F L T c:=by
 obtain ⟨s,h1,h2⟩:=h.dev;exact ⟨⟨s,h1.of_agree (fun k hk=>hag k (.inl hk)) hs,h2⟩,h.nib.of_block (hag _ (.inr (.inl rfl))),h.tab.of_block (hag _ (.inr (.inr rfl))),h.fn,h.fp⟩
theorem Ar.lines (h:Ar w A F L T c):1<=L/\L<=4096:=by
 obtain ⟨s,h1,h2,rfl⟩:=h.dev;exact h1.ok.lines
theorem Ar.word_lt (h:Ar w A F L T c)(k:Nat):c k < 18446744073709551616:=by
 obtain ⟨s,h1,h2,rfl⟩:=h.dev;rw [<-h2.cur];exact ZGG h1.ok k
theorem Aq.mono (h:Aq w A F L T c x)(hx:x<=x'):Aq w A F L T c x':=by
 obtain ⟨s,h1,h2,h3,h4⟩:=h.dev;exact ⟨⟨s,h1,h2,h3,by omega⟩,h.nib,h.tab,h.fn,h.fp⟩
theorem Aq.congr (h:Aq w A F L T c x)(hc:∀ k,c' k=c k):Aq w A F L T c' x:=by
 obtain rfl:c'=c:=funext hc;exact h
theorem ZH8 (h:Ar w A F L T c){i:Nat}(hi:i < 8){off:Nat}(h8:off % 8=0)(hL:off < 64 * L):
 Calls prog 34 #[ptr (A.t i),.int .u64 off] w fun r w'=>r=.returned (u64 (c (off / 8)))/\w=w':=by
 obtain ⟨s,hd,q,rfl⟩:=h.dev;clear h;have h:=hd;clear hd;have hL':=h.ok.lines;have hlt:off / 8 < 8 * s.L:=by omega
 have c0:w.cell? ⟨A.t i,0,none⟩=some (.pointer (some ⟨A.d,0,none⟩)):=(h.thr i hi).cell 0 (by omega);have c1:w.cell? ⟨A.d,1,none⟩=some (.slice (some ⟨A.cur,0,none⟩) (8 * s.L) A.cap):=h.dev.cell 1 (by omega);have c2:w.cell? ⟨A.cur,off / 8,none⟩=some (.int .u64 (c (off / 8))):=by rw [<-q.cur];exact h.cur.cell _ hlt
 have hw2:=ZC2 h hi off (by omega);have hw:s.word off=true:=by unfold DSt.word;simp;omega
 rw [hw] at hw2;have HW:=zh hw2;have HO:=zh (ZKh h q.off hi);have hlt2:(off:Int) / 8 < ((8 * s.L:Nat):Int):=by omega
 have ho2:(off:Int) < 18446744073709551616:=by omega
 clear h hw2 hw hL hL' h8;unfold u64;simp only [ptr];go_in;go_wp2_with fail;refine HW.o.mono ?_;rintro e w' ⟨rfl,rfl⟩;go_wp2_with fail;refine HO.o.mono ?_;rintro e w' ⟨rfl,rfl⟩;go_wp2;go_returns;exact ⟨rfl,rfl⟩
theorem ZJC (h:Ar w A F L T c){i:Nat}(hi:i < 8):
 Calls prog 31 #[ptr (A.t i)] w fun r w'=>r=.returned (.int .i64 (0:Nat))/\w=w':=by
 obtain ⟨s,h1,h2,rfl⟩:=h.dev;have:=ZBA h1 hi;rw [h2.err i] at this;exact this
theorem ZIZ (h:Ar w A F L T c){i:Nat}(hi:i < 8):
 Calls prog 312 #[ptr (A.t i)] w fun r w'=>r=.returned (u64 (L * 64:Nat))/\w=w':=by
 obtain ⟨s,h1,h2,rfl⟩:=h.dev;exact ZAn h1 hi
def Ra (w:World)(A:DAd)(F:Nat->Option ZK)(L:Nat)(T c:Nat->Nat)(x:Nat)(w':World):Prop:=∃ F',Aq w' A F' L T c x/\Moved F F' w w'
theorem ZES (h:Aq w A F L T c x)(hr:ZIw w A F L c' x' w'):Ra w A F L T c' x' w':=by
 obtain ⟨s',F',h1,h2,h3,h4,hm⟩:=hr;refine ⟨F',⟨⟨s',h1,h2,h3,h4⟩,h.nib.of_block (hm.only.block _ h.nib.lt (by simp [h.fn])),h.tab.of_block (hm.only.block _ h.tab.lt (by simp [h.fp])),?_,?_⟩,hm⟩
 ·rw [hm.same _ h.nib.lt];exact h.fn
 ·rw [hm.same _ h.tab.lt];exact h.fp
theorem Yw (h:Ar w A F L T c){i:Nat}(hi:i < 8)(w1:World)(hb:Bl w w1)(off:Nat)(h8:off % 8=0)(hL:off < 64 * L):
 Calls prog 34 #[.pointer (some ⟨A.t i,0,none⟩),.int .u64 off] w1 fun r w'=>r=.returned (.int .u64 (c (off / 8)))/\w1=w':=ZH8 (h.below hb) hi h8 hL
theorem Zq (h:Ar w A F L T c){i:Nat}(hi:i < 8)(w1:World)(hb:Bl w w1):
 Calls prog 31 #[.pointer (some ⟨A.t i,0,none⟩)] w1 fun r w'=>r=.returned (.int .i64 0)/\w1=w':=ZJC (h.below hb) hi
theorem XZ (h:Ar w A F L T c){i:Nat}(hi:i < 8)(w1:World)(hb:Bl w w1):
 Calls prog 312 #[.pointer (some ⟨A.t i,0,none⟩)] w1 fun r w'=>r=.returned (.int .u64 (L * 64:Nat))/\w1=w':=ZIZ (h.below hb) hi
theorem Yx (w:World)(v:Value)(k:Nat):(nilAhead (k+1) 97 v "Load").run prog w=.ok (some false) w:=by kernel_rfl
theorem XR {P:Program}{f:FuncId}{args:Array Value}{a b:World}{R:Ending->Prop}(hab:Bl a b)(h:∀ V,Bl a V->Calls P f args V fun e w'=>R e/\Bl V w'):
 ∀ V,Bl b V->Calls P f args V fun e w'=>R e/\Bl b w':=
 fun V hb=>(h V (hab.trans (hb.mono hab.size))).mono fun _ _ k=>⟨k.1,hb.trans (k.2.mono hb.size)⟩
theorem ZAy {P:Program}{f:FuncId}{args:Array Value}{a b:World}{R:Ending->Prop}(hab:Bl a b)(h:∀ V,Bl a V->Calls P f args V fun e w'=>R e/\V=w'):
 ∀ V,Bl b V->Calls P f args V fun e w'=>R e/\V=w':=
 fun V hb=>h V (hab.trans (hb.mono hab.size))
theorem Ua {w:World}{b:Nat}{e:TypeId}{a0:Value}(h:w.heap[b]?=some (.cells #[a0] e (0,0))):w.cell? ⟨b,0,none⟩=some a0/\w.frozen? ⟨b,0,none⟩=false:=
 ⟨(ZC h).trans rfl,ZG h⟩
theorem XX {w:World}{b:Nat}{e:TypeId}{a0 a1:Value}(h:w.heap[b]?=some (.cells #[a0,a1] e (0,0))):w.cell? ⟨b,0,none⟩=some a0/\w.cell? ⟨b,1,none⟩=some a1/\w.frozen? ⟨b,0,none⟩=false/\w.frozen? ⟨b,1,none⟩=false:=
 ⟨(ZC h).trans rfl,(ZC h).trans rfl,ZG h,ZG h⟩
theorem Zb {w:World}{b:Nat}{e:TypeId}{a0 a1 a2:Value}(h:w.heap[b]?=some (.cells #[a0,a1,a2] e (0,0))):w.cell? ⟨b,0,none⟩=some a0/\w.cell? ⟨b,1,none⟩=some a1/\w.cell? ⟨b,2,none⟩=some a2/\w.frozen? ⟨b,0,none⟩=false/\w.frozen? ⟨b,1,none⟩=false/\w.frozen? ⟨b,2,none⟩=false:=
 ⟨(ZC h).trans rfl,(ZC h).trans rfl,(ZC h).trans rfl,ZG h,ZG h,ZG h⟩
theorem YS {w:World}{b:Nat}{e:TypeId}{a0 a1 a2 a3:Value}(h:w.heap[b]?=some (.cells #[a0,a1,a2,a3] e (0,0))):w.cell? ⟨b,0,none⟩=some a0/\w.cell? ⟨b,1,none⟩=some a1/\w.cell? ⟨b,2,none⟩=some a2/\w.cell? ⟨b,3,none⟩=some a3/\w.frozen? ⟨b,0,none⟩=false/\w.frozen? ⟨b,1,none⟩=false/\w.frozen? ⟨b,2,none⟩=false/\w.frozen? ⟨b,3,none⟩=false:=
 ⟨(ZC h).trans rfl,(ZC h).trans rfl,(ZC h).trans rfl,(ZC h).trans rfl,ZG h,ZG h,ZG h,ZG h⟩
theorem VH {w:World}{b:Nat}{e:TypeId}{a0 a1 a2 a3 a4:Value}(h:w.heap[b]?=some (.cells #[a0,a1,a2,a3,a4] e (0,0))):w.cell? ⟨b,0,none⟩=some a0/\w.cell? ⟨b,1,none⟩=some a1/\w.cell? ⟨b,2,none⟩=some a2/\w.cell? ⟨b,3,none⟩=some a3/\w.cell? ⟨b,4,none⟩=some a4/\w.frozen? ⟨b,0,none⟩=false/\w.frozen? ⟨b,1,none⟩=false/\w.frozen? ⟨b,2,none⟩=false/\w.frozen? ⟨b,3,none⟩=false/\w.frozen? ⟨b,4,none⟩=false:=
 ⟨(ZC h).trans rfl,(ZC h).trans rfl,(ZC h).trans rfl,(ZC h).trans rfl,(ZC h).trans rfl,ZG h,ZG h,ZG h,ZG h,ZG h⟩
theorem ZIG {w:World}{b:Nat}{e:TypeId}{a0 a1 a2 a3 a4 a5:Value}(h:w.heap[b]?=some (.cells #[a0,a1,a2,a3,a4,a5] e (0,0))):w.cell? ⟨b,0,none⟩=some a0/\w.cell? ⟨b,1,none⟩=some a1/\w.cell? ⟨b,2,none⟩=some a2/\w.cell? ⟨b,3,none⟩=some a3/\w.cell? ⟨b,4,none⟩=some a4/\w.cell? ⟨b,5,none⟩=some a5/\w.frozen? ⟨b,0,none⟩=false/\w.frozen? ⟨b,1,none⟩=false/\w.frozen? ⟨b,2,none⟩=false/\w.frozen? ⟨b,3,none⟩=false/\w.frozen? ⟨b,4,none⟩=false/\w.frozen? ⟨b,5,none⟩=false:=
 ⟨(ZC h).trans rfl,(ZC h).trans rfl,(ZC h).trans rfl,(ZC h).trans rfl,(ZC h).trans rfl,(ZC h).trans rfl,ZG h,ZG h,ZG h,ZG h,ZG h,ZG h⟩
theorem Zz {w:World}{b:Nat}{e:TypeId}{a0 a1 a2 a3 a4 a5 a6 a7:Value}(h:w.heap[b]?=some (.cells #[a0,a1,a2,a3,a4,a5,a6,a7] e (0,0))):w.cell? ⟨b,0,none⟩=some a0/\w.cell? ⟨b,1,none⟩=some a1/\w.cell? ⟨b,2,none⟩=some a2/\w.cell? ⟨b,3,none⟩=some a3/\w.cell? ⟨b,4,none⟩=some a4/\w.cell? ⟨b,5,none⟩=some a5/\w.cell? ⟨b,6,none⟩=some a6/\w.cell? ⟨b,7,none⟩=some a7/\w.frozen? ⟨b,0,none⟩=false/\w.frozen? ⟨b,1,none⟩=false/\w.frozen? ⟨b,2,none⟩=false/\w.frozen? ⟨b,3,none⟩=false/\w.frozen? ⟨b,4,none⟩=false/\w.frozen? ⟨b,5,none⟩=false/\w.frozen? ⟨b,6,none⟩=false/\w.frozen? ⟨b,7,none⟩=false:=
 ⟨(ZC h).trans rfl,(ZC h).trans rfl,(ZC h).trans rfl,(ZC h).trans rfl,(ZC h).trans rfl,(ZC h).trans rfl,(ZC h).trans rfl,(ZC h).trans rfl,ZG h,ZG h,ZG h,ZG h,ZG h,ZG h,ZG h,ZG h⟩
structure Plc where
 line:Nat
 cl:Int
 ow:Int
 held:Bool
def plF (p:Nat->Plc)(x:Nat):Value:=
 match x % 4 with
 |0=>.int .i64 (p (x / 4)).line
 |1=>.int .i64 (p (x / 4)).cl
 |2=>.int .i64 (p (x / 4)).ow
 |_=>.bool (p (x / 4)).held
structure SetW (w:World)(sb pb t:Nat)(A:DAd)(n cap:Nat)(p:Nat->Plc):Prop where
 set:w.heap[sb]?=some (.cells #[.iface 97 (.pointer (some ⟨A.t t,0,none⟩)),.slice (some ⟨pb,0,none⟩) n cap] 358 (0,0))
 row:Row w pb 307 (n * 4) (plF p)
 size:n<=200
theorem SetW.below {sb pb t n cap:Nat}{p:Nat->Plc}(h:SetW w sb pb t A n cap p)(hb:Bl w w'):SetW w' sb pb t A n cap p:=
 ⟨(hb.block _ (heap_lt h.set)).trans h.set,h.row.of_block (hb.block _ h.row.lt),h.size⟩
theorem SetW.agree {sb pb t n cap:Nat}{p:Nat->Plc}(h:SetW w sb pb t A n cap p)(h1:w'.heap[sb]?=w.heap[sb]?)(h2:w'.heap[pb]?=w.heap[pb]?):SetW w' sb pb t A n cap p:=
 ⟨h1.trans h.set,h.row.of_block h2,h.size⟩
theorem SetW.ne {sb pb t n cap:Nat}{p:Nat->Plc}(h:SetW w sb pb t A n cap p):sb≠pb:=by
 intro e;obtain ⟨c,hc,_⟩:=h.row;rw [<-e,h.set] at hc;simp at hc
theorem SetW.cells {sb pb t n cap:Nat}{p:Nat->Plc}(h:SetW w sb pb t A n cap p):w.cell? ⟨sb,0,none⟩=some (.iface 97 (.pointer (some ⟨A.t t,0,none⟩)))/\w.cell? ⟨sb,1,none⟩=some (.slice (some ⟨pb,0,none⟩) n cap):=
 ⟨(ZC h.set).trans rfl,(ZC h.set).trans rfl⟩
theorem SetW.at {sb pb t n cap:Nat}{p:Nat->Plc}(h:SetW w sb pb t A n cap p){j:Nat}(hj:j < n):
 w.cell? ⟨pb,j * 4,none⟩=some (.int .i64 (p j).line)/\w.cell? ⟨pb,j * 4+1,none⟩=some (.int .i64 (p j).cl)/\w.cell? ⟨pb,j * 4+2,none⟩=some (.int .i64 (p j).ow)/\w.cell? ⟨pb,j * 4+3,none⟩=some (.bool (p j).held):=by
 have hs:=h.size;refine ⟨?_,?_,?_,?_⟩
 ·rw [h.row.cell _ (by omega)];unfold plF;rw [show j * 4 % 4=0 by omega,show j * 4 / 4=j by omega];rfl
 ·rw [h.row.cell _ (by omega)];unfold plF;rw [show (j * 4+1) % 4=1 by omega,show (j * 4+1) / 4=j by omega];rfl
 ·rw [h.row.cell _ (by omega)];unfold plF;rw [show (j * 4+2) % 4=2 by omega,show (j * 4+2) / 4=j by omega];rfl
 ·rw [h.row.cell _ (by omega)];unfold plF;rw [show (j * 4+3) % 4=3 by omega,show (j * 4+3) / 4=j by omega];rfl
def XQ (p:Nat->Plc)(j:Nat)(x:Plc):Nat->Plc:=fun m=>if m=j then x else p m
theorem QZ (p:Nat->Plc){j m:Nat}(x:Plc)(h:m≠j):XQ p j x m=p m:=ZKu h
theorem SetW.hold {sb pb t n cap:Nat}{p:Nat->Plc}(h:SetW w sb pb t A n cap p){j:Nat}(hj:j < n)(b:Bool):SetW (w.setCell ⟨pb,j * 4+3,none⟩ (.bool b)) sb pb t A n cap (XQ p j ⟨(p j).line,(p j).cl,(p j).ow,b⟩):=by
 refine ⟨(ZF h.ne).trans h.set,(h.row.set (j * 4+3) (.bool b)).congr (fun x hx=>?_),h.size⟩;unfold plF XQ
 by_cases e:x=j * 4+3
 ·rw [ZKv e,e,show (j * 4+3) % 4=3 by omega,show (j * 4+3) / 4=j by omega];simp
 ·rw [ZKu e]
  by_cases e2:x / 4=j
  ·rw [ZKv e2]
   have:x % 4≠3:=by omega
   rcases (show x % 4=0\/x % 4=1\/x % 4=2 by omega) with e3|e3|e3 <;> rw [e3] <;> simp [e2]
  ·rw [ZKu e2]
theorem SetW.claim {sb pb t n cap:Nat}{p:Nat->Plc}(h:SetW w sb pb t A n cap p){j:Nat}(hj:j < n)(cl ow:Int):SetW ((w.setCell ⟨pb,j * 4+1,none⟩ (.int .i64 cl)).setCell ⟨pb,j * 4+2,none⟩ (.int .i64 ow)) sb pb t A n cap (XQ p j ⟨(p j).line,cl,ow,(p j).held⟩):=by
 refine ⟨((ZF h.ne).trans (ZF h.ne)).trans h.set,((h.row.set (j * 4+1) (.int .i64 cl)).set (j * 4+2) (.int .i64 ow)).congr (fun x hx=>?_),h.size⟩;unfold plF XQ
 by_cases e:x=j * 4+2
 ·rw [ZKv e,e,show (j * 4+2) % 4=2 by omega,show (j * 4+2) / 4=j by omega];simp
 ·rw [ZKu e]
  by_cases e1:x=j * 4+1
  ·rw [ZKv e1,e1,show (j * 4+1) % 4=1 by omega,show (j * 4+1) / 4=j by omega];simp
  ·rw [ZKu e1]
   by_cases e2:x / 4=j
   ·rw [ZKv e2]
    rcases (show x % 4=0\/x % 4=3 by omega) with e3|e3 <;> rw [e3] <;> simp [e2]
   ·rw [ZKu e2]
theorem ZAg {sb pb t n cap:Nat}{p:Nat->Plc}(h:SetW w sb pb t A n cap p){j:Nat}(hj:j < n)(hd:∀ m,m < j->(p m).line≠(p j).line):
 Calls prog 171 #[.pointer (some ⟨sb,0,none⟩),.int .i64 (p j).line] w fun e w'=>e=.returned (.pointer (some ⟨pb,j * 4,none⟩))/\w=w':=by
 obtain ⟨c0,c1⟩:=h.cells;have hs:=h.size;have HAT:=zh (fun (m:Nat) (hm:m < n)=>h.at hm);have HD:=zh hd;obtain ⟨l,hl⟩:=xE ((p j).line);rw [<-hl] at HD ⊢;have HL:=zh hl;clear h hd hl;go_in;go_wp2_with fail
 go_loop [13] (fun i=>∃ m:Nat,m<=j/\i=.int .i64 (m:Nat)) (fun i=>n - (intOf i).toNat)
 case atStart=>exact ⟨0,by omega,rfl⟩
 case round=>
  obtain ⟨m,hm,rfl⟩:=hrel;have hmn:m < n:=by omega
  have d0:(m:Int) < n:=by omega
  obtain ⟨a0,_⟩:=HAT.o m hmn
  by_cases e:m=j
  ·subst e
   rw [<-HL.o] at a0;go_wp2;go_returns;exact ⟨rfl,rfl⟩
  ·have d1:(((p m).line:Int) == (l:Int))=false:=by have:=HD.o m (by omega);simp;omega
   go_wp2_with fail;go_round
   case rel=>exact ⟨m+1,by omega,by go_num⟩
   case measure=>simp [intOf];omega
theorem JR {sb pb t n cap:Nat}{p:Nat->Plc}(h:SetW w sb pb t A n cap p){j:Nat}(hj:j < n)(hd:∀ m,m < j->(p m).line≠(p j).line)(hc:0<=(p j).cl)(b:Bool):
 Calls prog 110 #[.pointer (some ⟨sb,0,none⟩),.int .i64 (p j).line,.bool b] w fun e w'=>e=.returned (.int .i64 0)/\w'=w.setCell ⟨pb,j * 4+3,none⟩ (.bool b):=by
 have HFI:=zh (ZAg h hj hd);obtain ⟨a0,a1,a2,a3⟩:=h.at hj;have f3:=h.row.free (j * 4+3);have d0:¬ (p j).cl < 0:=by omega
 clear h hd;go_in;go_wp2_with fail;refine HFI.o.mono ?_;rintro e w' ⟨rfl,rfl⟩;go_wp2;go_returns;exact ⟨rfl,rfl⟩
theorem ZFj {sb pb t n cap:Nat}{p:Nat->Plc}(h:SetW w sb pb t A n cap p){j:Nat}(hj:j < n)(hd:∀ m,m < j->0<=(p m).cl)(hc:(p j).cl < 0):
 Calls prog 204 #[.pointer (some ⟨sb,0,none⟩)] w fun e w'=>e=.returned (.tuple #[.pointer (some ⟨pb,j * 4,none⟩),.int .i64 0])/\w=w':=by
 obtain ⟨c0,c1⟩:=h.cells;have hs:=h.size;have HAT:=zh (fun (m:Nat) (hm:m < n)=>h.at hm);have HD:=zh hd;clear h hd;go_in;go_wp2_with fail
 go_loop [15] (fun i=>∃ m:Nat,m<=j/\i=.int .i64 (m:Nat)) (fun i=>n - (intOf i).toNat)
 case atStart=>exact ⟨0,by omega,rfl⟩
 case round=>
  obtain ⟨m,hm,rfl⟩:=hrel;have hmn:m < n:=by omega
  have d0:(m:Int) < n:=by omega
  obtain ⟨_,a1,_⟩:=HAT.o m hmn
  by_cases e:m=j
  ·subst e
   go_wp2;go_returns;exact ⟨rfl,rfl⟩
  ·have d1:¬ (p m).cl < 0:=by have:=HD.o m (by omega);omega
   go_wp2_with fail;go_round
   case rel=>exact ⟨m+1,by omega,by go_num⟩
   case measure=>simp [intOf];omega
structure Codec (α:Type) where
 val:α->Value
 num:α->List Int
 dec:Value->Option α
 dv:∀ a,dec (val a)=some a
 vd:∀ v a,dec v=some a->v=val a
 inj:∀ a b,num a=num b->a=b
namespace Codec
variable {α:Type}(C:Codec α)
def D (a:α):DataW Unit:=.agg ((C.num a).map fun z=>.lit (.int .i64 z))
def R (v:Value):Option (DataW Unit×List MemPlace):=(C.dec v).map fun a=>(C.D a,[])
theorem R_val (a:α):C.R (C.val a)=some (C.D a,[]):=by unfold R;rw [C.dv];rfl
theorem D_inj {a b:α}(h:C.D a=C.D b):a=b:=by
 apply C.inj;have h1:(C.num a).map (fun z=>(DataW.lit (.int .i64 z):DataW Unit))=(C.num b).map (fun z=>.lit (.int .i64 z)):=DataW.agg.inj h;exact List.map_inj_right (fun x y e=>(Lit.int.inj (DataW.lit.inj e)).2) |>.1 h1
theorem R_inv {v:Value}{a:α}{ps:List MemPlace}(h:C.R v=some (C.D a,ps)):v=C.val a:=by
 unfold R at h;cases e:C.dec v with
 |none=>rw [e] at h;cases h
 |some a'=>
  rw [e] at h;have h1:=(Prod.mk.inj (ZK5 h)).1;rw [C.vd v a' e,C.D_inj h1]
end Codec
theorem ZBO {q:IntKind}{x n:Nat}(h:x≠n):Lit.int q (x:Int)≠Lit.int q (n:Int):=fun e=>h (by have:=(Lit.int.inj e).2;omega)
def UMap {α:Type}(P:Program)(k:TypeId)(q:IntKind)(C:Codec α)(w:World)(b ex:Nat)(f:Nat->Option α):Prop:=
 ∃ es:List (Lit×DataW Unit),w.ownsMap P k C.R b ex (.map es)/\(∀ p∈es,∃ n:Nat,p.1=.int q n)/\(∀ n:Nat,Maps.has (.map es) (.int q n)=(f n).isSome)/\∀ (n:Nat) a zd,f n=some a->(DataW.map es).atKey (.int q n) zd=C.D a
def YE {α:Type}(f:Nat->Option α)(n:Nat)(a:α):Nat->Option α:=fun x=>if x=n then some a else f x
def XV {α:Type}(f:Nat->Option α)(n:Nat):Nat->Option α:=fun x=>if x=n then none else f x
theorem Yv {α:Type}(f:Nat->Option α)(n:Nat)(a:α):YE f n a n=some a:=ZKv rfl
theorem UQ {α:Type}(f:Nat->Option α){n x:Nat}(a:α)(h:x≠n):YE f n a x=f x:=ZKu h
theorem ZAI {α:Type}(f:Nat->Option α)(n:Nat):XV f n n=none:=ZKv rfl
theorem ZEG {α:Type}(f:Nat->Option α){n x:Nat}(h:x≠n):XV f n x=f x:=ZKu h
section
variable {α:Type}{P:Program}{k:TypeId}{q:IntKind}{C:Codec α}{w w':World}{b ex:Nat}{f:Nat->Option α}
theorem UMap.made (P:Program)(k:TypeId)(q:IntKind)(C:Codec α)(w:World):UMap P k q C (w.alloc (.map #[] 0)) w.heap.size 0 (fun _=>none):=by
 refine ⟨[],World.ownsMap_made _ _ _ _,fun p h=>(by cases h),fun n=>rfl,fun n a zd h=>(by cases h)⟩
theorem UMap.kept (h:UMap P k q C w b ex f)(hb:w'.heap[b]?=w.heap[b]?):UMap P k q C w' b ex f:=by
 obtain ⟨D,⟨es,clock,h1,h2⟩,h3⟩:=h;exact ⟨D,⟨es,clock,hb.trans h1,h2⟩,h3⟩
theorem UMap.lt (h:UMap P k q C w b ex f):b < w.heap.size:=by
 obtain ⟨D,⟨es,clock,h1,h2⟩,h3⟩:=h;exact heap_lt h1
theorem UMap.mono (h:UMap P k q C w b ex f){ex':Nat}(he:ex<=ex'):UMap P k q C w b ex' f:=by
 obtain ⟨D,h1,h3⟩:=h;exact ⟨D,h1.mono he,h3⟩
theorem UMap.look2 (h:UMap P k q C w b ex f)(hk:P.underlying k=some (.int q)){t e:TypeId}(ht:P.underlying t=some (.map k e)){z:α}(hz:(zeroValue e).run P w=.ok (C.val z) w){n:Nat}(hn:(Lit.int q (n:Int)).wf=true):
 (Instr.lookup t (.map (some b)) (.int q n) true).run P w=.ok (.tuple #[C.val ((f n).getD z),.bool (f n).isSome]) w:=by
 obtain ⟨D,h1,h2,h3,h4⟩:=h;obtain ⟨v,ps,hrun,hR⟩:=h1.look_ok (Maps.int_keyed hk) ht hz (C.R_val z) (Maps.keyOf_int_mk hk hn);rw [hrun,h3 n];cases e:f n with
 |none=>
  have hno:Maps.has (.map D) (.int q (n:Int))=false:=by rw [h3,e];rfl
  rw [Maps.atKey_of_not_has hno] at hR;rw [C.R_inv hR];rfl
 |some a=>
  rw [h4 n a _ e] at hR;rw [C.R_inv hR];rfl
theorem UMap.look (h:UMap P k q C w b ex f)(hk:P.underlying k=some (.int q)){t e:TypeId}(ht:P.underlying t=some (.map k e)){z:α}(hz:(zeroValue e).run P w=.ok (C.val z) w){n:Nat}(hn:(Lit.int q (n:Int)).wf=true):
 (Instr.lookup t (.map (some b)) (.int q n) false).run P w=.ok (C.val ((f n).getD z)) w:=by
 obtain ⟨D,h1,h2,h3,h4⟩:=h;obtain ⟨v,ps,hrun,hR⟩:=h1.lookup (Maps.int_keyed hk) ht hz (C.R_val z) (Maps.keyOf_int_mk hk hn);rw [hrun];cases e:f n with
 |none=>
  have hno:Maps.has (.map D) (.int q (n:Int))=false:=by rw [h3,e];rfl
  rw [Maps.atKey_of_not_has hno] at hR;rw [C.R_inv hR];rfl
 |some a=>
  rw [h4 n a _ e] at hR;rw [C.R_inv hR];rfl
theorem UMap.put (h:UMap P k q C w b ex f)(hk:P.underlying k=some (.int q)){t e:TypeId}(ht:P.underlying t=some (.map k e))(hex:ex < maxLen){n:Nat}(hn:(Lit.int q (n:Int)).wf=true)(a:α):
 ∃ w',(Instr.mapUpdate t (.map (some b)) (.int q n) (C.val a)).run P w=.ok () w'/\UMap P k q C w' b (ex+1) (YE f n a)/\w.grownBy w' (some b):=by
 obtain ⟨es,h1,h2,h3,h4⟩:=h;obtain ⟨w',hrun,hown,hgr⟩:=h1.update (Maps.int_keyed hk) ht hex (Maps.keyOf_int_mk hk hn) (C.R_val a);have hkl:WideAt.IsKeyLit (Lit.int q (n:Int)):=trivial;refine ⟨w',hrun,⟨_,hown,fun p hp=>?_,fun x=>?_,fun x a' zd hx=>?_⟩,hgr⟩
 ·rcases List.mem_cons.1 ((WideShapes.insert_perm _ _).mem_iff.1 hp) with rfl|hp
  ·exact ⟨n,rfl⟩
  ·exact h2 p (ZLK.1 hp).1
 ·by_cases e:x=n
  ·subst e
   rw [Yv];exact Maps.has_put_same (D:=.map es) ⟨_,rfl⟩ hkl _
  ·rw [UQ _ _ e,<-h3 x]
   exact Maps.has_put_other (D:=.map es) (ZBO e) _
 ·by_cases e:x=n
  ·subst e
   rw [Yv] at hx;rw [<-ZK5 hx];exact Maps.atKey_put_same (D:=.map es) ⟨_,rfl⟩ hkl _ _
  ·rw [UQ _ _ e] at hx
   exact (Maps.atKey_put_other (D:=.map es) (ZBO e) _ _).trans (h4 x a' zd hx)
theorem UMap.del (h:UMap P k q C w b ex f)(hk:P.underlying k=some (.int q)){t e:TypeId}(ht:P.underlying t=some (.map k e)){n:Nat}(hn:(Lit.int q (n:Int)).wf=true)(ty:TypeId):
 ∃ w',(Builtin.delete_ #[t,k] ty #[.map (some b),.int q n]).run P w=.ok (.tuple #[]) w'/\UMap P k q C w' b ex (XV f n)/\w.grownBy w' (some b):=by
 obtain ⟨es,h1,h2,h3,h4⟩:=h;obtain ⟨w',hrun,hown,htn⟩:=h1.drop (Maps.int_keyed hk) ht (Maps.keyOf_int_mk hk hn) ty;refine ⟨w',hrun,⟨_,hown,fun p hp=>h2 p (ZLK.1 hp).1,fun x=>?_,fun x a' zd hx=>?_⟩,htn.grown⟩
 ·by_cases e:x=n
  ·subst e
   rw [ZAI];exact Maps.has_del_same (D:=.map es)
  ·rw [ZEG _ e,<-h3 x]
   exact Maps.has_del_other (D:=.map es) (ZBO e)
 ·by_cases e:x=n
  ·subst e;rw [ZAI] at hx;cases hx
  ·rw [ZEG _ e] at hx
   exact (Maps.atKey_del_other (D:=.map es) (ZBO e) _).trans (h4 x a' zd hx)
def ZGr:Lit->Nat
 |.int _ a=>a.toNat
 |_=>0
end
end
section
open Go.RowKit
def by4 (x:Nat):List Nat:=[x % 256,x / 256 % 256,x / 65536 % 256,x / 16777216]
def ZX (T:Nat->Nat)(x:Nat):Nat:=ZEt T (by4 x) * 4294967296+x
theorem ZAx {x:Nat}(hx:x < 4294967296):∀ b∈by4 x,b < 256:=by
 intro b hb;simp only [by4,List.mem_cons,List.not_mem_nil,or_false] at hb;rcases hb with rfl|rfl|rfl|rfl <;> omega
theorem XL {w:World}{T:Nat->Nat}(hT:NTab w T){x:Nat}(hx:x < 4294967296):ZX T x < 18446744073709551616:=by
 have:=ZA4 hT (ZAx hx);unfold ZX;omega
theorem JO {w:World}{T:Nat->Nat}(hT:NTab w T){x:Nat}(hx:x < 4294967296):ZX T x % 4294967296=x:=by
 have:=ZA4 hT (ZAx hx);unfold ZX;omega
theorem ZJ9 {c x:Nat}(hc:c < 4294967296)(hx:x < 4294967296):bits .or .u64 ((c:Int) * 4294967296) (x:Int)=(c:Int) * 4294967296+x:=by
 have e:((c:Int) * 4294967296)=((c * 4294967296:Nat):Int):=by omega
 rw [e,u64_or_nat (c * 4294967296) x (by omega) (by omega)];have h:=Nat.two_pow_add_eq_or_of_lt (i:=32) (a:=c) (b:=x) (by omega);rw [show (2:Nat) ^ 32=4294967296 from rfl,Nat.mul_comm] at h;rw [<-h];omega
theorem Uh {w:World}{T:Nat->Nat}(hT:NTab w T){x:Nat}(hx:x < 4294967296):
 Calls prog 234 #[.int .u32 x] w fun e w'=>e=.returned (.int .u64 (ZX T x:Nat))/\Bl w w':=by
 have b1:(x:Int) < 4294967296:=by omega
 obtain ⟨w1,hw1⟩:=xE (w.alloc (.cells #[.int .u8 ((x % 256:Nat):Int),.int .u8 ((x / 256 % 256:Nat):Int),.int .u8 ((x / 65536 % 256:Nat):Int),((.int .u8 ((x / 16777216:Nat):Int)):Value)] 5));have hb1:Bl w w1:=by rw [hw1];exact bR.alloc nR _
 have hs:Seen w1 w.heap.size 0 ((by4 x).map u8v):=by
  intro j u hu;rw [hw1];rw [ZLI,ZC (ZB _ _)]
  match j with
  |0=>cases hu;rfl
  |1=>cases hu;rfl
  |2=>cases hu;rfl
  |3=>cases hu;rfl
  |j+4=>simp [by4] at hu
 have hsum:=ZIe (c:=4) (hT.below hb1 nR) hs (ZAx hx) (by simp [by4]);have hlt:=ZA4 hT (ZAx hx);rw [show (by4 x).length=4 from rfl] at hsum;obtain ⟨C,hC⟩:=xE (ZEt T (by4 x));have e:((ZX T x:Nat):Int)=(C:Int) * 4294967296+x:=by unfold ZX;rw [hC];omega
 rw [<-hC] at hsum hlt;rw [e];have b2:(C:Int) < 4294967296:=by omega
 have HO:=zh (ZJ9 hlt hx);have HS:=zh hsum;have HB:=zh hb1;simp only [Int.natCast_emod,Int.natCast_ediv,Int.cast_ofNat_Int] at hw1;have HW:=zh hw1;clear hsum hb1 hs hT hC e hlt hw1 hx;go_in;go_wp2_with fail;rw [<-HW.o];refine HS.o.mono ?_;rintro e w' ⟨rfl,rfl⟩;go_wp2;go_returns;exact ⟨by rw [<-HO.o];rfl,HB.o⟩
open Go.Proofs.YteomliechfdhhaaGreatDoor.Size
structure Blk where
 gen:Nat
 kind:Nat
 st:Nat
def Blk.info (b:Blk):Nat:=b.gen+b.kind * 65536+b.st * 16777216
structure Blk.Good (b:Blk):Prop where
 gen:1<=b.gen/\b.gen < 65536
 st:b.st=176/\b.kind=0\/b.st=177/\1<=b.kind/\b.kind<=127\/b.st=178/\b.gen=65535/\b.kind=0
theorem Blk.Good.kind_lt {b:Blk}(h:b.Good):b.kind < 256:=by have:=h.st;omega
theorem Blk.Good.st_lt {b:Blk}(h:b.Good):176<=b.st/\b.st<=178:=by have:=h.st;omega
theorem Blk.Good.info_lt {b:Blk}(h:b.Good):b.info < 4294967296:=by
 have:=h.gen;have:=h.kind_lt;have:=h.st_lt;unfold Blk.info;omega
theorem Blk.Good.parts {b:Blk}(h:b.Good):b.info % 65536=b.gen/\b.info / 65536 % 256=b.kind/\b.info / 16777216=b.st:=by
 have:=h.gen;have:=h.kind_lt;have:=h.st_lt;unfold Blk.info;omega
structure Chk where
 cl:Int
 ow:Int
 gen:Nat
 blk:Nat->Blk
def Chk.info (k:Chk):Nat:=k.gen+(k.cl+1).toNat * 65536+(k.ow+1).toNat * 1048576+3305111552
structure Chk.Head (k:Chk):Prop where
 gen:1<=k.gen/\k.gen < 65536
 cl:k.cl=-1/\k.ow=-1\/0<=k.cl/\k.cl<=4/\0<=k.ow/\k.ow<=7
theorem Chk.Head.info_lt {k:Chk}(h:k.Head):k.info < 4294967296:=by
 have:=h.gen;have:=h.cl;unfold Chk.info;omega
theorem Chk.Head.parts {k:Chk}(h:k.Head):k.info % 65536=k.gen/\k.info / 16777216=197/\((k.info / 65536 % 16:Nat):Int)=k.cl+1/\((k.info / 1048576 % 16:Nat):Int)=k.ow+1:=by
 have:=h.gen;have:=h.cl;unfold Chk.info;omega
def Ze (f:Nat->Bool):Nat->Nat
 |0=>0
 |n+1=>Ze f n+(if f n then 2 ^ n else 0)
theorem YW (f:Nat->Bool):∀ n,Ze f n < 2 ^ n
 |0=>by simp [Ze]
 |n+1=>by
  have:=YW f n;unfold Ze;rw [Nat.pow_succ];split <;> omega
theorem YI {f g:Nat->Bool}:∀ {n:Nat},(∀ i,i < n->f i=g i)->Ze f n=Ze g n
 |0,_=>rfl
 |n+1,h=>by
  unfold Ze;rw [YI (fun i hi=>h i (by omega)),h n (by omega)]
theorem Ys (f:Nat->Bool):∀ {n i:Nat},i < n->Ze f n / 2 ^ i % 2=if f i then 1 else 0
 |0,i,h=>by omega
 |n+1,i,h=>by
  unfold Ze;have hlt:=YW f n
  by_cases e:i=n
  ·subst e
   by_cases hf:f i=true
   ·rw [ZKv hf,ZKv hf,Nat.add_div_right _ (Nat.two_pow_pos i),Nat.div_eq_of_lt hlt]
   ·rw [ZKu hf,ZKu hf,Nat.add_zero,Nat.div_eq_of_lt hlt]
  ·have hi:i < n:=by omega
   rw [<-Ys f hi];split
   ·rw [show 2 ^ n=2 ^ i * (2 * 2 ^ (n - i - 1)) by
     rw [<-Nat.pow_succ',<-Nat.pow_add];congr 1;omega]
    rw [Nat.add_mul_div_left _ _ (Nat.two_pow_pos i),Nat.add_mul_mod_self_left]
   ·rw [Nat.add_zero]
theorem Xq {f:Nat->Bool}{i:Nat}(hf:f i=false):∀ {n:Nat},i < n->Ze (fun k=>if k=i then true else f k) n=Ze f n+2 ^ i
 |0,h=>by omega
 |n+1,h=>by
  unfold Ze
  by_cases e:i=n
  ·subst e
   rw [YI (g:=f) (n:=i) (fun k hk=>ZKu (by omega)),ZKv rfl,hf];simp
  ·rw [Xq hf (by omega),ZKu (show n≠i by omega)]
   omega
theorem ZAv {f:Nat->Bool}{i:Nat}(hf:f i=true){n:Nat}(hi:i < n):Ze (fun k=>if k=i then false else f k) n+2 ^ i=Ze f n:=by
 have:=Xq (f:=fun k=>if k=i then false else f k) (i:=i) (by simp) hi;rw [<-this];refine YI fun k _=>?_
 by_cases e:k=i
 ·rw [ZKv e,e,hf]
 ·rw [ZKu e,ZKu e]
def perN (k:Chk):Nat:=(per k.cl).toNat
def Zu (k:Chk):Nat:=(wds k.cl).toNat+1
def hdN (k:Chk)(i:Nat):Nat:=8+i * Zu k
theorem Chk.Head.sizes {k:Chk}(h:k.Head):per k.cl=(perN k:Int)/\wds k.cl+1=(Zu k:Int)/\perN k<=62/\1<=Zu k/\Zu k<=61/\8+perN k * Zu k<=256:=by
 have h2:=h.cl;unfold perN Zu;have hc:k.cl=-1\/k.cl=0\/k.cl=1\/k.cl=2\/k.cl=3\/k.cl=4:=by omega
 rcases hc with e|e|e|e|e|e <;> rw [e] <;> decide
theorem YF {k:Chk}(h:k.Head){i:Nat}(hi:i < perN k):hdN k i+Zu k<=256:=by
 obtain ⟨_,_,_,_,_,h6⟩:=h.sizes;have:i * Zu k+Zu k<=perN k * Zu k:=by
  rw [<-Nat.succ_mul];exact Nat.mul_le_mul_right _ hi
 unfold hdN;omega
theorem Jv {k:Chk}(h:k.Head){i j a:Nat}(hij:i≠j)(ha:a < Zu k):hdN k i≠hdN k j+a:=by
 obtain ⟨_,_,_,h4,_,_⟩:=h.sizes;unfold hdN;intro e;have e2:i * Zu k=j * Zu k+a:=by omega
 rcases Nat.lt_or_gt_of_ne hij with hlt|hlt
 ·have:(i+1) * Zu k<=j * Zu k:=Nat.mul_le_mul_right _ hlt
  rw [Nat.succ_mul] at this;omega
 ·have:(j+1) * Zu k<=i * Zu k:=Nat.mul_le_mul_right _ hlt
  rw [Nat.succ_mul] at this;omega
def Chk.used (k:Chk)(i:Nat):Bool:=(k.blk i).st != 176
structure CRep (T c:Nat->Nat)(B:Nat)(k:Chk):Prop where
 head:k.Head
 w0:c B=ZX T k.info
 bits:0<=k.cl->c (B+1)=Ze k.used (perN k)
 rest:0<=k.cl->∀ a,2<=a->a < 8->c (B+a)=0
 good:0<=k.cl->∀ i,i < perN k->(k.blk i).Good
 blk:0<=k.cl->∀ i,i < perN k->c (B+hdN k i)=ZX T (k.blk i).info
theorem CRep.congr {T c c':Nat->Nat}{B:Nat}{k:Chk}(h:CRep T c B k)(hc:∀ a,a < 8->c' (B+a)=c (B+a))(hb:0<=k.cl->∀ i,i < perN k->c' (B+hdN k i)=c (B+hdN k i)):CRep T c' B k where
 head:=h.head
 w0:=by rw [<-h.w0];exact hc 0 (by omega)
 bits:=fun h0=>(hc 1 (by omega)).trans (h.bits h0)
 rest:=fun h0 a h1 h2=>(hc a h2).trans (h.rest h0 a h1 h2)
 good:=h.good
 blk:=fun h0 i hi=>(hb h0 i hi).trans (h.blk h0 i hi)
def ZCe (T:Nat->Nat)(v:Nat):Bool:=decide (ZX T (v % 4294967296)=v)
def ZIz (x:Nat):Value:=.agg #[.int .u16 ((x % 65536:Nat):Int),.int .u8 ((x / 65536 % 256:Nat):Int),.int .u8 ((x / 16777216:Nat):Int)]
def ZJw:Value:=.agg #[.int .u16 0,.int .u8 0,.int .u8 0]
theorem ZFd {w:World}{T:Nat->Nat}(hT:NTab w T){x:Nat}(hx:x < 4294967296):ZCe T (ZX T x)=true:=by
 unfold ZCe;rw [JO hT hx];simp
theorem JQ {w:World}{b i:Nat}{v:Value}{c:Array Value}{e:TypeId}(h:w.heap[b]?=some (.cells c e (0,0)))(hi:i < c.size):(w.setCell ⟨b,i,none⟩ v).cell? ⟨b,i,none⟩=some v:=by
 rw [ZC (ZH h)];simp [hi]
theorem ZEY (x:Nat):IntKind.u16.wrap (x:Int)=((x % 65536:Nat):Int):=by
 rw [Int.natCast_emod];rfl
theorem ZHd (x:Nat):IntKind.u8.wrap (x:Int)=((x % 256:Nat):Int):=by
 rw [Int.natCast_emod];rfl
theorem ZDs {w:World}{T:Nat->Nat}(hT:NTab w T){v:Nat}(hv:v < 18446744073709551616):
 Calls prog 188 #[.int .u64 v] w fun e w'=>e=.returned (.tuple #[if ZCe T v then ZIz (v % 4294967296) else ZJw,.bool (ZCe T v)])/\Bl w w':=by
 obtain ⟨x,hx⟩:=xE (v % 4294967296);have hx2:x < 4294967296:=by omega
 have hb0:Bl w (w.alloc (.cells #[.int .u16 0,.int .u8 0,.int .u8 0] 268)):=bR.alloc nR _;have hs:=Uh (hT.below hb0 nR) hx2;have hlt:=XL hT hx2;unfold ZCe ZIz ZJw;rw [<-hx];have b1:(v:Int) < 18446744073709551616:=by omega
 have e1:(v:Int) % 4294967296=(x:Int):=by omega
 have b2:(x:Int) < 4294967296:=by omega
 have e2:IntKind.u16.wrap (x:Int)=((x % 65536:Nat):Int):=ZEY x;have e3:IntKind.u8.wrap ((x:Int) / 65536)=((x / 65536 % 256:Nat):Int):=by have:=ZHd (x / 65536);rwa [Int.natCast_ediv] at this
 have e4:IntKind.u8.wrap ((x:Int) / 16777216)=((x / 16777216:Nat):Int):=by
  have:=ZHd (x / 16777216);rw [Int.natCast_ediv] at this;rw [show ((16777216:Nat):Int)=16777216 from rfl] at this;rw [this];congr 1;exact Nat.mod_eq_of_lt (by omega)
 generalize hS:ZX T x=S at hs hlt ⊢;have hnew:(w.alloc (.cells #[.int .u16 0,.int .u8 0,.int .u8 0] 268)).heap[w.heap.size]?=some (.cells #[.int .u16 0,.int .u8 0,.int .u8 0] 268 (0,0)):=ZB _ _;have HS:=zh hs;have HB:=zh hb0;have HN:=zh hnew;clear hs hb0 hT hnew hS hx hx2 hlt
 by_cases hq:S=v
 ·have d:((S:Int) != (v:Int))=false:=by simp [hq]
  have d1:decide (S=v)=true:=by simp [hq]
  rw [d1];clear hq d1;go_in;go_wp2_with fail;rw [e1];clear e1;refine HS.o.mono ?_;rintro e w' ⟨rfl,hb⟩;have h1:w'.heap[w.heap.size]?=some (.cells #[.int .u16 0,.int .u8 0,.int .u8 0] 268 (0,0)):=(hb.block _ (by simp)).trans HN.o;have c0:w'.cell? ⟨w.heap.size,0,none⟩=some (.int .u16 0):=by rw [ZC h1];rfl
  have c1:w'.cell? ⟨w.heap.size,1,none⟩=some (.int .u8 0):=by rw [ZC h1];rfl
  have c2:w'.cell? ⟨w.heap.size,2,none⟩=some (.int .u8 0):=by rw [ZC h1];rfl
  have f0:=ZG h1 (i:=0);have f1:=ZG h1 (i:=1);have f2:=ZG h1 (i:=2);have HBe:=zh (HB.o.trans (hb.mono HB.o.size));have r0:=JQ (i:=0) h1 (v:=.int .u16 ((x:Int) % 65536)) (by simp);have r1:=JQ (i:=1) (ZH (i:=0) (v:=.int .u16 ((x:Int) % 65536)) h1) (v:=.int .u8 ((x:Int) / 65536 % 256)) (by simp);have r2:=JQ (i:=2) (ZH (i:=1) (v:=.int .u8 ((x:Int) / 65536 % 256)) (ZH (i:=0) (v:=.int .u16 ((x:Int) % 65536)) h1)) (v:=.int .u8 ((x:Int) / 16777216)) (by simp);clear h1 hb b1 b2;go_wp2_with fail
  (try simp only [Exit.inBlock,Exit.then])
  refine bodyPost_ret (by simp [results,results188,go_sem,r0,r1,r2];try rfl) rfl ?_;exact ⟨rfl,by repeat (first|exact HBe.o|exact nR|apply Below.setCell)⟩
 ·have d:((S:Int) != (v:Int))=true:=by simp;omega
  have d1:decide (S=v)=false:=by simp [hq]
  rw [d1];clear hq d1;go_in;go_wp2_with fail;rw [e1];clear e1;refine HS.o.mono ?_;rintro e w' ⟨rfl,hb⟩;have h1:w'.heap[w.heap.size]?=some (.cells #[.int .u16 0,.int .u8 0,.int .u8 0] 268 (0,0)):=(hb.block _ (by simp)).trans HN.o;have c0:w'.cell? ⟨w.heap.size,0,none⟩=some (.int .u16 0):=by rw [ZC h1];rfl
  have c1:w'.cell? ⟨w.heap.size,1,none⟩=some (.int .u8 0):=by rw [ZC h1];rfl
  have c2:w'.cell? ⟨w.heap.size,2,none⟩=some (.int .u8 0):=by rw [ZC h1];rfl
  have f0:=ZG h1 (i:=0);have f1:=ZG h1 (i:=1);have f2:=ZG h1 (i:=2);have HBe:=zh (HB.o.trans (hb.mono HB.o.size));have r0:=JQ (i:=0) h1 (v:=.int .u16 0) (by simp);have r1:=JQ (i:=1) (ZH (i:=0) (v:=.int .u16 0) h1) (v:=.int .u8 0) (by simp);have r2:=JQ (i:=2) (ZH (i:=1) (v:=.int .u8 0) (ZH (i:=0) (v:=.int .u16 0) h1)) (v:=.int .u8 0) (by simp);clear hb b1 b2 h1;go_wp2_with fail
  (try simp only [Exit.inBlock,Exit.then])
  refine bodyPost_ret (by simp [results,results188,go_sem,r0,r1,r2];try rfl) rfl ?_;exact ⟨rfl,by repeat (first|exact HBe.o|exact nR|apply Below.setCell)⟩
end
end Go.Proofs.YteomliechfdhhaaGreatDoor.Dv
