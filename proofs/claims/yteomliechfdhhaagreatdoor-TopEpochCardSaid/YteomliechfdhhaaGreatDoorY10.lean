/- Part 10. -/
import Derived.Test.YteomliechfdhhaaGreatDoorY2
import Derived.Maps.Own
import Derived.Maps.RangeWalk
import Derived.Test.YteomliechfdhhaaGreatDoorProg
import Derived.Handy
import Derived.BigQuiet
import Derived.BigGuard
import Derived.OwnWalk
import Derived.WalkLawsBesides
import Derived.WalkSpells
import Derived.Deep.QuietTactic
import Derived.Outline
import Derived.Deep.AppendSrc
import Derived.Deep.Upon
import Derived.Great.BuildSlice
set_option maxHeartbeats 8000000
set_option maxRecDepth 20000
set_option linter.all false
namespace Go.Proofs.YteomliechfdhhaaGreatDoor.Dv
open Tryz
section
open Go.RowKit
def Row (w:World)(b:Nat)(e:TypeId)(n:Nat)(f:Nat->Value):Prop:=
 ∃ c,w.heap[b]?=some (.cells c e (0,0))/\n<=c.size/\∀ x,x < n->c[x]?=some (f x)
theorem Row.lt {w:World}{b:Nat}{e:TypeId}{n:Nat}{f:Nat->Value}(h:Row w b e n f):b < w.heap.size:=by
 obtain ⟨c,hc,_⟩:=h;exact heap_lt hc
theorem Row.cell {w:World}{b:Nat}{e:TypeId}{n:Nat}{f:Nat->Value}(h:Row w b e n f)(x:Nat)(hx:x < n):w.cell? ⟨b,x,none⟩=some (f x):=by
 obtain ⟨c,hc,_,hf⟩:=h;rw [ZC hc];exact hf x hx
theorem Row.free {w:World}{b:Nat}{e:TypeId}{n:Nat}{f:Nat->Value}(h:Row w b e n f)(x:Nat):w.frozen? ⟨b,x,none⟩=false:=by
 obtain ⟨c,hc,_⟩:=h;exact ZG hc
theorem Row.of_block {w w':World}{b:Nat}{e:TypeId}{n:Nat}{f:Nat->Value}(h:Row w b e n f)(hb:w'.heap[b]?=w.heap[b]?):Row w' b e n f:=by
 obtain ⟨c,hc,h2⟩:=h;exact ⟨c,hb.trans hc,h2⟩
theorem Row.congr {w:World}{b:Nat}{e:TypeId}{n:Nat}{f g:Nat->Value}(h:Row w b e n f)(hg:∀ x,x < n->g x=f x):Row w b e n g:=by
 obtain ⟨c,hc,h1,h2⟩:=h;exact ⟨c,hc,h1,fun x hx=>by rw [h2 x hx,hg x hx]⟩
theorem Row.set {w:World}{b:Nat}{e:TypeId}{n:Nat}{f:Nat->Value}(h:Row w b e n f)(i:Nat)(v:Value):
 Row (w.setCell ⟨b,i,none⟩ v) b e n (fun x=>if x=i then v else f x):=by
 obtain ⟨c,hc,h1,h2⟩:=h;refine ⟨_,ZH hc,by simpa using h1,fun x hx=>?_⟩;have hxs:x < c.size:=by omega
 by_cases e:x=i
 ·subst e;simp [hxs]
 ·have e':¬ i=x:=fun h=>e h.symm
  simp [e,e',h2 x hx]
theorem Row.set_other {w:World}{b b' i:Nat}{e:TypeId}{n:Nat}{f:Nat->Value}{v:Value}(h:Row w b e n f)(hb:b≠b'):Row (w.setCell ⟨b',i,none⟩ v) b e n f:=
 h.of_block (ZF hb)
theorem Row.alloc {w:World}{b:Nat}{e:TypeId}{n:Nat}{f:Nat->Value}(h:Row w b e n f)(o:Obj):Row (w.alloc o) b e n f:=h.of_block (ZI h.lt)
structure DAd where
 d:Nat
 per:Nat
 cur:Nat
 cap:Nat
 lin:Nat
 t:Nat->Nat
 m:Nat->Nat
def ptr (b:Nat):Value:=.pointer (some ⟨b,0,none⟩)
def u64 (n:Nat):Value:=.int .u64 n
def i64 (n:Nat):Value:=.int .i64 n
def VO (A:DAd)(s:DSt):Nat->Value
 |0=>.slice (some ⟨A.per,0,none⟩) (8 * s.L) (8 * s.L)
 |1=>.slice (some ⟨A.cur,0,none⟩) (8 * s.L) A.cap
 |2=>.slice (some ⟨A.lin,0,none⟩) s.L s.L
 |11=>.bool s.off
 |12=>.bool s.armed
 |13=>i64 s.left
 |14=>u64 s.ex
 |i=>ptr (A.t (i - 3))
def ZDy (A:DAd)(s:DSt)(i:Nat):Nat->Value
 |0=>ptr A.d
 |1=>i64 i
 |2=>i64 (s.err i)
 |_=>.map (some (A.m i))
def X0 (s:DSt)(hv:Nat->Value)(i:Nat):Value:=if i % 2=0 then u64 (s.dn (i / 2)) else hv (i / 2)
def Hist (w:World)(F:Nat->Option ZK)(n:Nat)(v:Value)(l:List (Nat×Nat)):Prop:=
 (l=[]/\v=.slice none 0 0)\/
 ∃ b o cap c,v=.slice (some ⟨b,o,none⟩) l.length cap/\F b=some (6,n)/\w.heap[b]?=some (.cells c 155 (0,0))/\l.length<=cap/\cap<=maxLen/\o+cap * 2<=c.size/\
  ∀ i p,l[i]?=some p->c[o+2 * i]?=some (u64 p.1)/\c[o+2 * i+1]?=some (u64 p.2)
def Notes (w:World)(b:Nat)(ex:Nat)(f:Nat->Option Nat):Prop:=
 ∃ D:DataW Unit,w.ownsMap prog 3 (plainElem prog 29) b ex D/\
  (∀ k:Int,Maps.has D (.int .i64 k)=true->0<=k)/\
  ∀ n:Nat,(Maps.has D (.int .i64 n)=(f n).isSome)/\∀ p zd,f n=some p->D.atKey (.int .i64 n) zd=.lit (.int .u64 p)
structure Dev (w:World)(A:DAd)(s:DSt)(F:Nat->Option ZK):Prop where
 ok:s.Ok
 dev:Row w A.d 171 15 (VO A s)
 per:Row w A.per 29 (8 * s.L) (fun x=>u64 (s.per x))
 cur:Row w A.cur 29 (8 * s.L) (fun x=>u64 (s.cur x))
 cap:8 * s.L<=A.cap
 lin:∃ hv,Row w A.lin 446 (2 * s.L) (X0 s hv)/\∀ n,n < s.L->Hist w F n (hv n) (s.hist n)
 thr:∀ i,i < 8->Row w (A.t i) 174 4 (ZDy A s i)
 note:∀ i,i < 8->Notes w (A.m i) s.nb (s.notes i)
 fd:F A.d=some (0,0)
 fper:F A.per=some (1,0)
 fcur:F A.cur=some (2,0)
 flin:F A.lin=some (3,0)
 ft:∀ i,i < 8->F (A.t i)=some (4,i)
 fm:∀ i,i < 8->F (A.m i)=some (5,i)
 lt:∀ k,F k≠none->k < w.heap.size
structure Moved (F F':Nat->Option ZK)(w w':World):Prop where
 only:Only (fun k=>F k≠none) w w'
 same:∀ k,k < w.heap.size->F' k=F k
theorem Moved.refl (F:Nat->Option ZK)(w:World):Moved F F w w:=⟨Only.refl _ _,fun _ _=>rfl⟩
theorem Moved.trans {F F' F'':Nat->Option ZK}{a b c:World}(h:Moved F F' a b)(k:Moved F' F'' b c):Moved F F'' a c:=
 ⟨h.only.trans k.only (fun i hi hf=>by rw [h.same i hi] at hf;exact hf),fun i hi=>(k.same i (ZLC hi h.only.size)).trans (h.same i hi)⟩
theorem Hist.of_agree {w w':World}{F:Nat->Option ZK}{n:Nat}{v:Value}{l:List (Nat×Nat)}(h:Hist w F n v l)(hag:∀ k,F k=some (6,n)->w'.heap[k]?=w.heap[k]?):Hist w' F n v l:=by
 rcases h with h|⟨b,o,cap,c,h1,h2,h3,h4⟩
 ·exact .inl h
 ·exact .inr ⟨b,o,cap,c,h1,h2,(hag b h2).trans h3,h4⟩
theorem Notes.of_agree {w w':World}{b ex:Nat}{f:Nat->Option Nat}(h:Notes w b ex f)(hb:w'.heap[b]?=w.heap[b]?):Notes w' b ex f:=by
 obtain ⟨D,⟨es,clock,h1,h2⟩,h3⟩:=h;exact ⟨D,⟨es,clock,hb.trans h1,h2⟩,h3⟩
theorem Notes.mono {w:World}{b ex ex':Nat}{f:Nat->Option Nat}(h:Notes w b ex f)(he:ex<=ex'):Notes w b ex' f:=by
 obtain ⟨D,h1,h3⟩:=h;exact ⟨D,h1.mono he,h3⟩
theorem Dev.of_agree {w w':World}{A:DAd}{s:DSt}{F:Nat->Option ZK}(h:Dev w A s F)(hag:∀ k,F k≠none->w'.heap[k]?=w.heap[k]?)(hs:w.heap.size<=w'.heap.size):Dev w' A s F where
 ok:=h.ok
 dev:=h.dev.of_block (hag _ (by rw [h.fd];simp))
 per:=h.per.of_block (hag _ (by rw [h.fper];simp))
 cur:=h.cur.of_block (hag _ (by rw [h.fcur];simp))
 cap:=h.cap
 lin:=by
  obtain ⟨hv,h1,h2⟩:=h.lin;exact ⟨hv,h1.of_block (hag _ (by rw [h.flin];simp)),fun n hn=>(h2 n hn).of_agree (fun k hk=>hag k (by rw [hk];simp))⟩
 thr:=fun i hi=>(h.thr i hi).of_block (hag _ (by rw [h.ft i hi];simp))
 note:=fun i hi=>(h.note i hi).of_agree (hag _ (by rw [h.fm i hi];simp))
 fd:=h.fd
 fper:=h.fper
 fcur:=h.fcur
 flin:=h.flin
 ft:=h.ft
 fm:=h.fm
 lt:=fun k hk=>ZLC (h.lt k hk) hs
theorem Dev.alloc {w:World}{A:DAd}{s:DSt}{F:Nat->Option ZK}(h:Dev w A s F)(o:Obj):Dev (w.alloc o) A s F:=h.of_agree (fun k hk=>ZI (h.lt k hk)) (by simp)
theorem Dev.drew {w:World}{A:DAd}{s:DSt}{F:Nat->Option ZK}(h:Dev w A s F):Dev w.drew A s F:=h.of_agree (fun _ _=>rfl) nR
theorem Dev.setCell {w:World}{A:DAd}{s:DSt}{F:Nat->Option ZK}(h:Dev w A s F){b i:Nat}{v:Value}(hb:F b=none):Dev (w.setCell ⟨b,i,none⟩ v) A s F:=
 h.of_agree (fun k hk=>ZF (fun e=>hk (by rw [e];exact hb))) (by simp [World.setCell])
theorem Dev.only {w w':World}{A:DAd}{s:DSt}{F:Nat->Option ZK}{G:Nat->Prop}(h:Dev w A s F)(ho:Only G w w')(hG:∀ k,G k->k < w.heap.size->F k=none):Dev w' A s F:=
 h.of_agree (fun k hk=>ho.block k (h.lt k hk) (fun hg=>hk (hG k hg (h.lt k hk)))) ho.size
theorem Dev.below {w w':World}{A:DAd}{s:DSt}{F:Nat->Option ZK}(h:Dev w A s F)(ho:Bl w w'):Dev w' A s F:=
 h.of_agree (fun k hk=>ho.block k (h.lt k hk)) ho.size
theorem ZU {F:Nat->Option ZK}{a b:Nat}{r q:ZK}(ha:F a=some r)(hb:F b=some q)(h:r≠q):a≠b:=by
 intro e;rw [e,hb] at ha;exact h (ZK5 ha).symm
def upd {α:Type}(f:Nat->α)(i:Nat)(v:α):Nat->α:=fun x=>if x=i then v else f x
theorem ZS {α:Type}(f:Nat->α)(i:Nat)(v:α):upd f i v i=v:=by simp [upd]
theorem ZZ {α:Type}(f:Nat->α){i x:Nat}(v:α)(h:x≠i):upd f i v x=f x:=by simp [upd,h]
def DSt.setErr (s:DSt)(i e:Nat):DSt:={s with err:=upd s.err i e}
def DSt.fail (s:DSt)(i e:Nat):DSt:=if s.err i=0 then s.setErr i e else s
def DSt.ctl (s:DSt)(o a:Bool)(l x:Nat):DSt:={s with off:=o,armed:=a,left:=l,ex:=x}
theorem DSt.Ok.setErr {s:DSt}(h:s.Ok)(i e:Nat)(he:e<=20):(s.setErr i e).Ok:=
 {h with err:=fun t=>by unfold DSt.setErr upd;dsimp only;split;exact he;exact h.err t}
theorem DSt.Ok.ctl {s:DSt}(h:s.Ok)(o a:Bool)(l x:Nat)(hl:l<=1000000)(hx:s.ex<=x)(hx':x<=1000000):(s.ctl o a l x).Ok:=
 {h with len:=fun n=>ZK6 (h.len n) hx,ex:=hx',left:=hl,nb:=ZK6 h.nb hx}
theorem Dev.setErr {w:World}{A:DAd}{s:DSt}{F:Nat->Option ZK}(h:Dev w A s F){i e:Nat}(hi:i < 8)(he:e<=20):
 Dev (w.setCell ⟨A.t i,2,none⟩ (i64 e)) A (s.setErr i e) F/\Moved F F w (w.setCell ⟨A.t i,2,none⟩ (i64 e)):=by
 have hf:=h.ft i hi;refine ⟨{h with ok:=h.ok.setErr i e he,dev:=?_,per:=?_,cur:=?_,lin:=?_,thr:=?_,note:=?_,lt:=?_},?_,fun _ _=>rfl⟩
 ·exact h.dev.set_other (ZU h.fd hf (by simp))
 ·exact h.per.set_other (ZU h.fper hf (by simp))
 ·exact h.cur.set_other (ZU h.fcur hf (by simp))
 ·obtain ⟨hv,h1,h2⟩:=h.lin
  exact ⟨hv,h1.set_other (ZU h.flin hf (by simp)),fun n hn=>(h2 n hn).of_agree (fun k hk=>ZF (ZU hk hf (by simp)))⟩
 ·intro j hj
  by_cases e':j=i
  ·subst e'
   refine ((h.thr j hj).set 2 (i64 e)).congr (fun x hx=>?_);have:x=0\/x=1\/x=2\/x=3:=by omega
   rcases this with rfl|rfl|rfl|rfl <;> simp [ZDy,DSt.setErr,upd]
  ·refine ((h.thr j hj).set_other (ZU (h.ft j hj) hf (by simp [e']))).congr (fun x hx=>?_)
   have:x=0\/x=1\/x=2\/x=3:=by omega
   rcases this with rfl|rfl|rfl|rfl <;> simp [ZDy,DSt.setErr,upd,e']
 ·intro j hj
  exact (h.note j hj).of_agree (ZF (ZU (h.fm j hj) hf (by simp)))
 ·intro k hk;simpa [World.setCell] using h.lt k hk
 ·exact (Only.refl _ _).set (by rw [hf];simp) _
theorem Dev.setD {w:World} {A:DAd} {s:DSt} {F:Nat->Option ZK} (h:Dev w A s F) {o a:Bool} {l x i:Nat} {v:Value} (hl:l<=1000000) (hx:s.ex<=x) (hx':x<=1000000)
 (hc:∀ y,y < 15->VO A (s.ctl o a l x) y=if y=i then v else VO A s y):
 Dev (w.setCell ⟨A.d,i,none⟩ v) A (s.ctl o a l x) F/\Moved F F w (w.setCell ⟨A.d,i,none⟩ v):=by
 have hf:=h.fd;refine ⟨{h with ok:=h.ok.ctl o a l x hl hx hx',dev:=?_,per:=?_,cur:=?_,lin:=?_,thr:=?_,note:=?_,lt:=?_},?_,fun _ _=>rfl⟩
 ·exact (h.dev.set i v).congr hc
 ·exact h.per.set_other (ZU h.fper hf (by simp))
 ·exact h.cur.set_other (ZU h.fcur hf (by simp))
 ·obtain ⟨hv,h1,h2⟩:=h.lin
  exact ⟨hv,h1.set_other (ZU h.flin hf (by simp)),fun n hn=>(h2 n hn).of_agree (fun k hk=>ZF (ZU hk hf (by simp)))⟩
 ·intro j hj
  exact (h.thr j hj).set_other (ZU (h.ft j hj) hf (by simp))
 ·intro j hj
  exact (h.note j hj).of_agree (ZF (ZU (h.fm j hj) hf (by simp)))
 ·intro k hk;simpa [World.setCell] using h.lt k hk
 ·exact (Only.refl _ _).set (by rw [hf];simp) _
theorem Xw {A:DAd}{s s':DSt}{i:Nat}{v:Value}(h:∀ y,(y=0\/y=1\/y=2\/y=11\/y=12\/y=13\/y=14)->VO A s' y=if y=i then v else VO A s y)(hi:i=11\/i=12\/i=13\/i=14):
 ∀ y,y < 15->VO A s' y=if y=i then v else VO A s y:=by
 intro y hy
 by_cases hy':y=0\/y=1\/y=2\/y=11\/y=12\/y=13\/y=14
 ·exact h y hy'
 ·have h1:y≠i:=by omega
  rw [ZKu h1];have:y=3\/y=4\/y=5\/y=6\/y=7\/y=8\/y=9\/y=10:=by omega
  rcases this with rfl|rfl|rfl|rfl|rfl|rfl|rfl|rfl <;> rfl
theorem QL {w:World}{A:DAd}{s:DSt}{F:Nat->Option ZK}(h:Dev w A s F){i e:Nat}(hi:i < 8)(he:e<=20):
 Calls prog 130 #[ptr (A.t i),i64 e] w fun r w'=>r=.returned (.tuple #[])/\Dev w' A (s.fail i e) F/\Moved F F w w':=by
 have c2:w.cell? ⟨A.t i,2,none⟩=some (.int .i64 (s.err i)):=(h.thr i hi).cell 2 (by omega);have f2:w.frozen? ⟨A.t i,2,none⟩=false:=(h.thr i hi).free 2
 by_cases hz:s.err i=0
 ·obtain ⟨h1,h2⟩:=h.setErr (e:=e) hi he
  have e1:s.fail i e=s.setErr i e:=by simp [DSt.fail,hz]
  have d:decide ((s.err i:Int)=0)=true:=by simp;omega
  have d':((s.err i:Int) == 0)=true:=by simp;omega
  rw [e1];clear e1 hz;have H1:=zh h1;have H2:=zh h2;clear h1 h2 h;unfold ptr i64 at *;go_in;go_wp2;go_returns;exact ⟨rfl,H1.o,H2.o⟩
 ·have e1:s.fail i e=s:=by simp [DSt.fail,hz]
  have d:decide ((s.err i:Int)=0)=false:=by simp;omega
  have d':((s.err i:Int) == 0)=false:=by simp;omega
  rw [e1];clear e1 hz;have H1:=zh h;clear h;unfold ptr i64 at *;go_in;go_wp2;go_returns;exact ⟨rfl,H1.o,Moved.refl _ _⟩
def DSt.on (s:DSt)(i:Nat)(valid:Bool):DSt:=if s.off then s.fail i 3 else if valid then s else s.fail i 2
def DSt.cnt (s:DSt)(i:Nat)(valid:Bool):DSt×Bool:=
 if s.off then (s.fail i 3,false) else if valid=false then (s.fail i 2,false)
 else if s.armed && decide (s.left=0) then ((s.ctl true s.armed s.left s.ex).fail i 3,false)
 else (s.ctl false s.armed (if s.armed then s.left - 1 else s.left) (s.ex+1),true)
theorem ZJP {w:World}{A:DAd}{s:DSt}{F:Nat->Option ZK}(h:Dev w A s F){i:Nat}(hi:i < 8)(valid:Bool):
 Calls prog 72 #[ptr (A.t i),.bool valid] w fun r w'=>r=.returned (.bool (!s.off && valid))/\Dev w' A (s.on i valid) F/\Moved F F w w':=by
 have c0:w.cell? ⟨A.t i,0,none⟩=some (.pointer (some ⟨A.d,0,none⟩)):=(h.thr i hi).cell 0 (by omega);have c1:w.cell? ⟨A.d,11,none⟩=some (.bool s.off):=h.dev.cell 11 (by omega);have H1:=zh h;clear h;unfold DSt.on;cases hoff:s.off
 ·rw [hoff] at c1
  cases valid
  ·simp only [ptr]
   go_in;go_wp2_with fail;refine (QL (e:=2) H1.o hi (by omega)).mono ?_;rintro e w' ⟨rfl,h1,h2⟩;have H2:=zh h1;have H3:=zh h2;clear h1 h2;go_wp2;go_returns;exact ⟨rfl,H2.o,H3.o⟩
  ·simp only [ptr]
   go_in;go_wp2;go_returns;exact ⟨rfl,H1.o,Moved.refl _ _⟩
 ·rw [hoff] at c1
  simp only [ptr];go_in;go_wp2_with fail;refine (QL (e:=3) H1.o hi (by omega)).mono ?_;rintro e w' ⟨rfl,h1,h2⟩;have H2:=zh h1;have H3:=zh h2;clear h1 h2;go_wp2;go_returns;exact ⟨rfl,H2.o,H3.o⟩
theorem VN {w:World}{A:DAd}{s:DSt}{F:Nat->Option ZK}(h:Dev w A s F){i:Nat}(hi:i < 8)(valid:Bool)(hx:s.ex < 1000000):
 Calls prog 314 #[ptr (A.t i),.bool valid] w fun r w'=>r=.returned (.bool (s.cnt i valid).2)/\Dev w' A (s.cnt i valid).1 F/\Moved F F w w':=by
 have H0:=zh h;have hon:=ZJP h hi valid
 by_cases hbad:s.off=true\/valid=false
 ·have e1:(s.cnt i valid).2=false/\(s.cnt i valid).1=s.on i valid/\(!s.off && valid)=false:=by
   unfold DSt.cnt DSt.on;cases hh:s.off <;> cases valid <;> simp [hh] at hbad ⊢
  obtain ⟨e2,e3,e4⟩:=e1;rw [e2,e3];rw [e4] at hon;have HO:=zh hon;clear hon h e2 e3 e4 hbad;simp only [ptr];go_in;go_wp2_with fail;refine HO.o.mono ?_;rintro e w' ⟨rfl,h1,h2⟩;have H2:=zh h1;have H3:=zh h2;clear h1 h2;go_wp2;go_returns;exact ⟨rfl,H2.o,H3.o⟩
 ·have hoff:s.off=false:=by cases hh:s.off;rfl;exact absurd (.inl hh) hbad
  have hval:valid=true:=by cases hh:valid;exact absurd (.inr hh) hbad;rfl
  subst hval;clear hbad;have e4:s.on i true=s:=by simp [DSt.on,hoff]
  rw [e4,hoff] at hon;have HO:=zh hon;clear hon e4;have hx2:(s.ex:Int) < 1000000:=by omega
  have hl2:(s.left:Int)<=1000000:=by have:=h.ok.left;omega
  cases harm:s.armed
  ·have e5:s.cnt i true=(s.ctl false s.armed s.left (s.ex+1),true):=by simp [DSt.cnt,hoff,harm]
   rw [e5];clear e5;clear h;simp only [ptr];go_in;go_wp2_with fail;refine HO.o.mono ?_;rintro e w' ⟨rfl,h1,h2⟩;have c0:w'.cell? ⟨A.t i,0,none⟩=some (.pointer (some ⟨A.d,0,none⟩)):=(h1.thr i hi).cell 0 (by omega);have c1:w'.cell? ⟨A.d,12,none⟩=some (.bool s.armed):=h1.dev.cell 12 (by omega);have c2:w'.cell? ⟨A.d,14,none⟩=some (.int .u64 s.ex):=h1.dev.cell 14 (by omega);have f2:w'.frozen? ⟨A.d,14,none⟩=false:=h1.dev.free 14
   have h3:=h1.setD (o:=false) (a:=s.armed) (l:=s.left) (x:=s.ex+1) (i:=14) (v:=u64 (s.ex+1)) (by omega) (by omega) (by omega)
    (Xw (fun y hy=>by rcases hy with rfl|rfl|rfl|rfl|rfl|rfl|rfl <;> simp [VO,DSt.ctl,hoff]) (by omega))
   rw [harm] at c1;simp only [u64,Int.natCast_add,Int.cast_ofNat_Int] at h3;have H3:=zh h3.1;have H4:=zh (h2.trans h3.2);clear h1 h2 h3;go_wp2;go_returns;exact ⟨rfl,H3.o,H4.o⟩
  ·by_cases hz:s.left=0
   ·have e5:s.cnt i true=((s.ctl true s.armed s.left s.ex).fail i 3,false):=by simp [DSt.cnt,hoff,harm,hz]
    rw [e5];clear e5;clear h;simp only [ptr];go_in;go_wp2_with fail;refine HO.o.mono ?_;rintro e w' ⟨rfl,h1,h2⟩;have c0:w'.cell? ⟨A.t i,0,none⟩=some (.pointer (some ⟨A.d,0,none⟩)):=(h1.thr i hi).cell 0 (by omega);have c1:w'.cell? ⟨A.d,12,none⟩=some (.bool s.armed):=h1.dev.cell 12 (by omega);have c2:w'.cell? ⟨A.d,13,none⟩=some (.int .i64 s.left):=h1.dev.cell 13 (by omega);have f2:w'.frozen? ⟨A.d,11,none⟩=false:=h1.dev.free 11;have c3:w'.cell? ⟨A.d,11,none⟩=some (.bool s.off):=h1.dev.cell 11 (by omega)
    have h3:=h1.setD (o:=true) (a:=s.armed) (l:=s.left) (x:=s.ex) (i:=11) (v:=.bool true) (by omega) (by omega) (by omega)
     (Xw (fun y hy=>by rcases hy with rfl|rfl|rfl|rfl|rfl|rfl|rfl <;> simp [VO,DSt.ctl]) (by omega))
    rw [harm] at c1;rw [hz] at c2;have hf:=QL (e:=3) h3.1 hi (by omega);have HF:=zh hf;have H4:=zh (h2.trans h3.2);clear h1 h2 h3 hf;go_wp2_with fail;refine HF.o.mono ?_;rintro e w'' ⟨rfl,h1,h2⟩;have H5:=zh h1;have H6:=zh h2;clear h1 h2;go_wp2;go_returns;exact ⟨rfl,H5.o,H4.o.trans H6.o⟩
   ·have e5:s.cnt i true=(s.ctl false s.armed (s.left - 1) (s.ex+1),true):=by simp [DSt.cnt,hoff,harm,hz]
    rw [e5];clear e5;clear h;simp only [ptr];go_in;go_wp2_with fail;refine HO.o.mono ?_;rintro e w' ⟨rfl,h1,h2⟩;have c0:w'.cell? ⟨A.t i,0,none⟩=some (.pointer (some ⟨A.d,0,none⟩)):=(h1.thr i hi).cell 0 (by omega);have c1:w'.cell? ⟨A.d,12,none⟩=some (.bool s.armed):=h1.dev.cell 12 (by omega);have c2:w'.cell? ⟨A.d,13,none⟩=some (.int .i64 s.left):=h1.dev.cell 13 (by omega);have f2:w'.frozen? ⟨A.d,13,none⟩=false:=h1.dev.free 13;have c3:w'.cell? ⟨A.d,14,none⟩=some (.int .u64 s.ex):=h1.dev.cell 14 (by omega);have f3:w'.frozen? ⟨A.d,14,none⟩=false:=h1.dev.free 14
    have h3:=h1.setD (o:=s.off) (a:=s.armed) (l:=s.left - 1) (x:=s.ex) (i:=13) (v:=i64 (s.left - 1)) (by omega) (by omega) (by omega)
     (Xw (fun y hy=>by rcases hy with rfl|rfl|rfl|rfl|rfl|rfl|rfl <;> simp [VO,DSt.ctl]) (by omega))
    have h4:=h3.1.setD (o:=false) (a:=s.armed) (l:=s.left - 1) (x:=s.ex+1) (i:=14) (v:=u64 (s.ex+1)) (by omega) (by simp [DSt.ctl]) (by omega)
     (Xw (fun y hy=>by rcases hy with rfl|rfl|rfl|rfl|rfl|rfl|rfl <;> simp [VO,DSt.ctl,hoff]) (by omega))
    have e6:((s.left - 1:Nat):Int)=(s.left:Int) - 1:=by omega
    have dz:((s.left:Int) == 0)=false:=by simp;omega
    have hlz:1<=(s.left:Int):=by omega
    rw [harm] at c1;simp only [u64,i64,e6,Int.natCast_add,Int.cast_ofNat_Int] at h4 h3;have H4:=zh h4.1;have H5:=zh ((h2.trans h3.2).trans h4.2);clear h1 h2 h3 h4 e6 hz;go_wp2;go_returns;exact ⟨rfl,H4.o,H5.o⟩
theorem ZAR {w:World}{A:DAd}{s:DSt}{F:Nat->Option ZK}(h:Dev w A s F):
 Calls prog 46 #[ptr A.d] w fun r w'=>r=.returned (.int .i64 s.L)/\w=w':=by
 have c0:w.cell? ⟨A.d,2,none⟩=some (.slice (some ⟨A.lin,0,none⟩) s.L s.L):=h.dev.cell 2 (by omega);clear h;simp only [ptr];go_in;go_wp2;go_returns;exact ⟨rfl,rfl⟩
theorem Uj {w:World}{A:DAd}{s:DSt}{F:Nat->Option ZK}(h:Dev w A s F):
 Calls prog 131 #[ptr A.d] w fun r w'=>r=.returned (.int .u64 (s.L * 64:Nat))/\w=w':=by
 have hL:=h.ok.lines;have hL2:(s.L:Int)<=4096:=by omega
 have H:=zh h;clear h;have e:((s.L * 64:Nat):Int)=(s.L:Int) * 64:=by omega
 rw [e];clear e hL;go_in;go_wp2_with fail;refine (ZAR H.o).mono ?_;rintro e w' ⟨rfl,rfl⟩;go_wp2;go_returns;exact ⟨rfl,rfl⟩
def DSt.word (s:DSt)(off:Nat):Bool:=decide (off % 8=0) && decide (off < s.L * 64)
theorem ZC2 {w:World}{A:DAd}{s:DSt}{F:Nat->Option ZK}(h:Dev w A s F){i:Nat}(hi:i < 8)(off:Nat)(ho:off < 18446744073709551616):
 Calls prog 73 #[ptr (A.t i),.int .u64 off] w fun r w'=>r=.returned (.bool (s.word off))/\w=w':=by
 have c0:w.cell? ⟨A.t i,0,none⟩=some (.pointer (some ⟨A.d,0,none⟩)):=(h.thr i hi).cell 0 (by omega);have H:=zh h;clear h;have ho2:(off:Int) < 18446744073709551616:=by omega
 unfold DSt.word
 by_cases h8:off % 8=0
 ·have d:((off:Int) % 8 == 0)=true:=by simp;omega
  have d2:decide (off % 8=0)=true:=by simp;omega
  have d3:decide ((off:Int) < ((s.L * 64:Nat):Int))=decide (off < s.L * 64):=by apply decide_eq_decide.2;omega
  rw [d2,Bool.true_and,<-d3];clear d2 d3 ho h8;obtain ⟨M,hM⟩:∃ M:Int,M=((s.L * 64:Nat):Int):=⟨_,rfl⟩
  have hs:=Uj H.o;rw [<-hM] at hs ⊢;have HS:=zh hs;clear hs hM;simp only [ptr];go_in;go_wp2_with fail;refine HS.o.mono ?_;rintro e w' ⟨rfl,rfl⟩;go_wp2;go_returns;exact ⟨rfl,rfl⟩
 ·have d:((off:Int) % 8 == 0)=false:=by simp;omega
  have d2:decide (off % 8=0)=false:=by simp;omega
  rw [d2,Bool.false_and];clear d2 ho h8;simp only [ptr];go_in;go_wp2;go_returns;exact ⟨rfl,rfl⟩
theorem ZBA {w:World}{A:DAd}{s:DSt}{F:Nat->Option ZK}(h:Dev w A s F){i:Nat}(hi:i < 8):
 Calls prog 31 #[ptr (A.t i)] w fun r w'=>r=.returned (.int .i64 (s.err i))/\w=w':=by
 have c0:w.cell? ⟨A.t i,0,none⟩=some (.pointer (some ⟨A.d,0,none⟩)):=(h.thr i hi).cell 0 (by omega);have c2:w.cell? ⟨A.t i,2,none⟩=some (.int .i64 (s.err i)):=(h.thr i hi).cell 2 (by omega);clear h;simp only [ptr];go_in;go_wp2;go_returns;exact ⟨rfl,rfl⟩
theorem ZAn {w:World}{A:DAd}{s:DSt}{F:Nat->Option ZK}(h:Dev w A s F){i:Nat}(hi:i < 8):
 Calls prog 312 #[ptr (A.t i)] w fun r w'=>r=.returned (.int .u64 (s.L * 64:Nat))/\w=w':=by
 have c0:w.cell? ⟨A.t i,0,none⟩=some (.pointer (some ⟨A.d,0,none⟩)):=(h.thr i hi).cell 0 (by omega);have H:=zh h;clear h;simp only [ptr];go_in;go_wp2_with fail;refine (Uj H.o).mono ?_;rintro e w' ⟨rfl,rfl⟩;go_wp2;go_returns;exact ⟨rfl,rfl⟩
theorem Qh {w:World}{A:DAd}{s:DSt}{F:Nat->Option ZK}(h:Dev w A s F){i:Nat}(hi:i < 8):
 Calls prog 30 #[ptr A.d,.int .i64 i] w fun r w'=>r=.returned (ptr (A.t i))/\w=w':=by
 have c0:w.cell? ⟨A.d,3+i,none⟩=some (ptr (A.t i)):=by
  rw [h.dev.cell (3+i) (by omega)];have:i=0\/i=1\/i=2\/i=3\/i=4\/i=5\/i=6\/i=7:=by omega
  rcases this with rfl|rfl|rfl|rfl|rfl|rfl|rfl|rfl <;> rfl
 clear h;have hi2:(i:Int) < 8:=by omega
 have d1:decide ((i:Int) < 0)=false:=by simp
 have d2:decide (8<=(i:Int))=false:=by simp;omega
 simp only [ptr] at *;go_in;go_wp2;go_returns;exact ⟨rfl,rfl⟩
theorem ZAP:(prog.info? 155).map (fun i=>(i.zero,i.size,i.bytes))=some (some (.agg #[.int .u64 0,.int .u64 0]),2,16):=by kernel_rfl
theorem Zg {P:Program} {ops:Array Oper} {rest:List Oper} {o:Oper} {a:Act} {w:World} {Q:Exit->Act->World->Prop} (hg:o.guard=none) (s x:Operand) (t:TypeId)
 (ho:o.op=.call {callee:=.builtin .append,args:=#[s,x],argTypes:=#[t,t]}) (v xv v':Value) (w':World) (hs:a.eval s=v) (hx:a.eval x=xv)
 (hrun:∀ ty,(Builtin.append_ #[t,t] ty #[v,xv]).run P w=.ok v' w')(h:wpList P ops Q rest (a.put o.dst v') w'):wpList P ops Q (o:: rest) a w:=by
 refine wpList_plain hg fun _ hK=>?_
 unfold Oper.wp;simp [execOp,ho,resolve,invoke,builtin,hs,hx,hrun,Result.andThen];exact hK _ _ h
theorem Hist.append {w:World} {F:Nat->Option ZK} {n:Nat} {v:Value} {l:List (Nat×Nat)} (h:Hist w F n v l) (hF:∀ k,F k≠none->k < w.heap.size) (hl:l.length<=1000000)
 (gb a b:Nat)(ha:w.cell? ⟨gb,0,none⟩=some (u64 a))(hb:w.cell? ⟨gb,1,none⟩=some (u64 b)):
 ∃ v' w' F',(∀ ty,(Builtin.append_ #[78,78] ty #[v,.slice (some ⟨gb,0,none⟩) 1 1]).run prog w=.ok v' w')/\Hist w' F' n v' (l++[(a,b)])/\
  Only (fun k=>F k=some (6,n)) w w'/\(∀ k,k < w.heap.size->F' k=F k)/\(∀ k,F' k≠none->k < w'.heap.size)/\(∀ k,F k≠none->F' k=F k):=by
 obtain ⟨i,hi,hz,hsz,hby⟩:=info_parts ZAP;have hsrc:Src prog i.size 78 (.slice (some ⟨gb,0,none⟩) 1 1) 1 [u64 a,u64 b] w:=by
  refine Src.ofSlice w underlying78 ⟨gb,0,none⟩ 1 1 [u64 a,u64 b] (by rw [hsz];rfl) ?_ ?_
  ·intro j u hj
   match j with
   |0=>simp only [List.getElem?_cons_zero,Option.some.injEq] at hj;rw [<-hj];exact ha
   |1=>simp only [List.getElem?_cons_succ,List.getElem?_cons_zero,Option.some.injEq] at hj;rw [<-hj];exact hb
   |j+2=>simp at hj
  ·intro u hu
   simp only [List.mem_cons,List.not_mem_nil,or_false] at hu;rcases hu with rfl|rfl <;> rfl
 have hgrow:∀ (base:Option Addr) (sCap:Nat) (olds:List Value),v=.slice base l.length sCap->(Builtin.firstCells i.size l.length (.slice base l.length sCap)).run prog w.drew=.ok olds.toArray w.drew->
  olds.length=2 * l.length->(∀ j p,l[j]?=some p->olds[2 * j]?=some (u64 p.1)/\olds[2 * j+1]?=some (u64 p.2))->sCap < l.length+1->sCap<=1000001->
  ∃ v' w' F',(∀ ty,(Builtin.append_ #[78,78] ty #[v,.slice (some ⟨gb,0,none⟩) 1 1]).run prog w=.ok v' w')/\Hist w' F' n v' (l++[(a,b)])/\
  Only (fun k=>F k=some (6,n)) w w'/\(∀ k,k < w.heap.size->F' k=F k)/\(∀ k,F' k≠none->k < w'.heap.size)/\(∀ k,F k≠none->F' k=F k):=by
  intro base sCap olds hv hold hlen hcells hcap hc2;subst hv
  have hrun:=fun ty=>run_append_grow_src (P:=prog) w 78 78 ty 155 i _ underlying78 hi hz base l.length sCap olds hold _ 1 _ hsrc hcap (by omega)
   (growslice_fits hcap (by rw [hby];omega))
  have hge:=grownCap_ge w (l.length+1) sCap 155;have hcm:=grownCap_le_maxLen w (l.length+1) sCap 155 (by unfold maxLen;omega);obtain ⟨C,hC⟩:=xE (grownCap w (l.length+1) sCap 155);rw [<-hC] at hge hcm;simp only [<-hC] at hrun;refine ⟨_,_,fun k=>if k=w.heap.size then some (6,n) else F k,hrun,.inr ⟨w.heap.size,0,C,_,by rw [ZK4];rfl,by simp,ZB _ _,by rw [ZK4];exact hge,hcm,?_,?_⟩,?_,?_,?_,?_⟩
  ·simp [Array.size_append,size_zeroCells,Value.cells,hlen]
   omega
  ·intro j p hj
   have hsz:olds.length=2 * l.length:=hlen;rcases Nat.lt_or_ge j l.length with hlt|hge'
   ·rw [List.getElem?_append_left hlt] at hj
    obtain ⟨h1,h2⟩:=hcells j p hj;have e1:2 * j < (olds++[u64 a,u64 b]).length:=by simp;omega
    have e2:2 * j+1 < (olds++[u64 a,u64 b]).length:=by simp;omega
    rw [ZLI];rw [Array.getElem?_append_left (by simpa using e1),Array.getElem?_append_left (by simpa using e2)];rw [List.getElem?_toArray,List.getElem?_toArray,List.getElem?_append_left (by omega),List.getElem?_append_left (by omega)];exact ⟨h1,h2⟩
   ·have:j=l.length:=by
     have:=(List.getElem?_eq_some_iff.1 hj).1;simp at this;omega
    subst this;simp at hj;subst hj;rw [ZLI];rw [Array.getElem?_append_left (by simp;omega),Array.getElem?_append_left (by simp;omega)];rw [List.getElem?_toArray,List.getElem?_toArray,ZLT (by omega),ZLT (by omega),hsz];simp
  ·exact ((Only.refl _ _).drew).alloc _
  ·intro k hk
   exact ZKu (by omega)
  ·intro k hk
   by_cases e:k=w.heap.size
   ·rw [e];simp
   ·dsimp only at hk;rw [ZKu e] at hk
    have:=hF k hk;simp;omega
  ·intro k hk
   exact ZKu (by have:=hF k hk;omega)
 rcases h with ⟨hl0,hv⟩|⟨bb,o,cap,c,hv,hFb,hbl,hlc,hcm,hcs,hcells⟩
 ·subst hl0
  exact hgrow none 0 [] hv (run_firstCells_none _ _ _ _ _) rfl (fun j p hj=>by simp at hj) (by omega) (by omega)
 ·by_cases hroom:l.length+1<=cap
  ·subst hv
   have hin:∀ j,j < 2->o+l.length * i.size+j < c.size:=by intro j hj;rw [hsz];omega
   have hrun:=fun ty=>run_append_room_src (P:=prog) w 78 78 ty 155 i underlying78 hi bb o l.length cap _ 1 _ hsrc hroom
    (fun j hj=>by rw [ZC hbl,ZLW (hin j hj)];rfl) (fun j hj=>ZG hbl)
   rw [hsz] at hrun hin;refine ⟨_,_,F,hrun,.inr ⟨bb,o,cap,_,by rw [ZK4];rfl,hFb,ZH (ZH hbl),by rw [ZK4];exact hroom,hcm,by simpa using hcs,?_⟩,?_,fun _ _=>rfl,?_,fun _ _=>rfl⟩
   ·have h0:=hin 0 (by omega)
    have h1:=hin 1 (by omega);intro j p hj;rcases Nat.lt_or_ge j l.length with hlt|hge'
    ·rw [List.getElem?_append_left hlt] at hj
     obtain ⟨e1,e2⟩:=hcells j p hj;rw [Array.getElem?_setIfInBounds,Array.getElem?_setIfInBounds,Array.getElem?_setIfInBounds,Array.getElem?_setIfInBounds];rw [ZKu (by omega),ZKu (by omega),ZKu (by omega),ZKu (by omega)];exact ⟨e1,e2⟩
    ·have:j=l.length:=by
      have:=(List.getElem?_eq_some_iff.1 hj).1;simp at this;omega
     subst this;simp at hj;subst hj;constructor
     ·rw [Array.getElem?_setIfInBounds,ZKu (by omega),Array.getElem?_setIfInBounds,ZKv (by omega),ZKv (by omega)]
     ·rw [Array.getElem?_setIfInBounds,ZKv (by omega),ZKv (by simp;omega)]
   ·exact ((Only.refl _ _).set (F:=fun k=>F k=some (6,n)) hFb _).set hFb _
   ·intro k hk;simpa [World.setCells,World.setCell] using hF k hk
  ·have hcap:cap=l.length:=by omega
   have htake:∀ j,j < 2 * l.length->(((c.toList.drop o).take (2 * l.length))[j]?)=c[o+j]?:=by
    intro j hj;rw [List.getElem?_take,ZKv hj,List.getElem?_drop,ZLS]
   have hlen2:((c.toList.drop o).take (2 * l.length)).length=2 * l.length:=by simp;omega
   refine hgrow (some ⟨bb,o,none⟩) cap ((c.toList.drop o).take (2 * l.length)) hv ?_ hlen2 ?_ (by omega) (by omega)
   ·refine run_firstCells_some _ _ _ _ _ _ _ (by rw [hlen2,hsz];omega) ?_
    intro j u hj;have hj':j < 2 * l.length:=by have:=(List.getElem?_eq_some_iff.1 hj).1;rw [hlen2] at this;exact this
    rw [htake j hj'] at hj;rw [Addr.add_lit];exact (ZC (w:=w) (i:=o+j) hbl).trans hj
   ·intro j p hj
    have hj':j < l.length:=(List.getElem?_eq_some_iff.1 hj).1;rw [htake _ (by omega),htake _ (by omega)];exact hcells j p hj
def DSt.write (s:DSt)(off v:Nat):DSt:={s with H:=upd s.H (off / 64) (s.H (off / 64)++[(off,v)])}
theorem DSt.write_per {s:DSt}(h:s.Ok)(off v x:Nat):(s.write off v).per x=s.per x:=by
 unfold DSt.per DSt.write upd;dsimp only;split
 ·rename_i e
  rw [e,List.take_append_of_le_length (h.dn _)]
 ·rfl
theorem DSt.write_cur {s:DSt}(off v x:Nat)(ho:off % 8=0):(s.write off v).cur x=if x=off / 8 then v else s.cur x:=by
 unfold DSt.cur DSt.write upd;dsimp only
 by_cases e:x / 8=off / 64
 ·rw [ZKv e,J4]
  dsimp only
  by_cases e2:off / 8=x
  ·rw [ZKv e2,ZKv e2.symm]
  ·rw [ZKu e2,ZKu (fun h=>e2 h.symm),e]
 ·rw [ZKu e,ZKu (by omega)]
theorem DSt.write_hist {s:DSt}(h:s.Ok)(off v n:Nat):(s.write off v).hist n=if n=off / 64 then s.hist n++[(off,v)] else s.hist n:=by
 unfold DSt.hist DSt.write upd;dsimp only;split
 ·rename_i e
  rw [e,List.drop_append_of_le_length (h.dn _)]
 ·rfl
theorem DSt.Ok.write {s:DSt}(h:s.Ok){off v:Nat}(ho:s.word off=true)(hv:v < 18446744073709551616)(hlen:(s.H (off / 64)).length < s.ex):(s.write off v).Ok:=by
 simp only [DSt.word,Bool.and_eq_true,decide_eq_true_eq] at ho;refine {h with dn:=?_,word:=?_,len:=?_,note:=?_}
 ·intro n
  have:=h.dn n;unfold DSt.write upd;dsimp only;split
  ·rename_i e;rw [<-e,ZK4];omega
  ·exact this
 ·intro n p hp
  unfold DSt.write upd at hp;dsimp only at hp;split at hp
  ·rename_i e
   rw [ZK1] at hp;rcases hp with hp|hp
   ·rw [<-e] at hp;exact h.word n p hp
   ·simp only [ZLL] at hp
    subst hp;exact ⟨ho.1,e.symm,hv⟩
  ·exact h.word n p hp
 ·intro n
  have:=h.len n;unfold DSt.write upd;dsimp only;split
  ·rename_i e;rw [ZK4];simp only [List.length_singleton];omega
  ·exact this
 ·intro t n p hp
  have:=h.note t n p hp;refine ⟨?_,this.2⟩;unfold DSt.write upd;dsimp only;split
  ·rename_i e;rw [<-e,ZK4];omega
  ·exact this.1
theorem Dev.write {w w1:World} {A:DAd} {s:DSt} {F F1:Nat->Option ZK} {v':Value} {hv:Nat->Value} {off v:Nat} (h:Dev w A s F) (ho:s.word off=true) (hvv:v < 18446744073709551616) (hlen:(s.H (off / 64)).length < s.ex)
 (hlin:Row w A.lin 446 (2 * s.L) (X0 s hv)) (hhist:∀ n,n < s.L->Hist w F n (hv n) (s.hist n))
 (h1:Hist w1 F1 (off / 64) v' (s.hist (off / 64)++[(off,v)])) (honly:Only (fun k=>F k=some (6,off / 64)) w w1) (hs:∀ k,k < w.heap.size->F1 k=F k) (hlt:∀ k,F1 k≠none->k < w1.heap.size)
 (hF:∀ k,F k≠none->F1 k=F k):
 Dev ((w1.setCell ⟨A.lin,off / 64 * 2+1,none⟩ v').setCell ⟨A.cur,off / 8,none⟩ (u64 v)) A (s.write off v) F1/\
  Moved F F1 w ((w1.setCell ⟨A.lin,off / 64 * 2+1,none⟩ v').setCell ⟨A.cur,off / 8,none⟩ (u64 v)):=by
 have hw:=ho;simp only [DSt.word,Bool.and_eq_true,decide_eq_true_eq] at hw;have keep:∀ k q,F k=some q->q≠(6,off / 64)->w1.heap[k]?=w.heap[k]?:=fun k q hk hq=>honly.block k (h.lt k (by rw [hk];simp)) (fun e=>hq (by rw [hk] at e;exact ZK5 e))
 have F1of:∀ k q,F k=some q->F1 k=some q:=fun k q hk=>(hF k (by rw [hk];simp)).trans hk
 have fd:=F1of _ _ h.fd;have fper:=F1of _ _ h.fper;have fcur:=F1of _ _ h.fcur;have flin:=F1of _ _ h.flin;have ft:=fun i hi=>F1of _ _ (h.ft i hi)
 have fm:=fun i hi=>F1of _ _ (h.fm i hi)
 refine ⟨{ok:=h.ok.write ho hvv hlen,dev:=?_,per:=?_,cur:=?_,cap:=h.cap,lin:=?_,thr:=?_,note:=?_,fd:=fd,fper:=fper,fcur:=fcur,flin:=flin,ft:=ft,fm:=fm,lt:=?_},?_,hs⟩
 ·exact (((h.dev.of_block (keep _ _ h.fd (by simp))).set_other (ZU fd flin (by simp))).set_other (ZU fd fcur (by simp))).congr (fun x _=>by
   unfold VO;rfl)
 ·exact (((h.per.of_block (keep _ _ h.fper (by simp))).set_other (ZU fper flin (by simp))).set_other (ZU fper fcur (by simp))).congr (fun x _=>by rw [DSt.write_per h.ok])
 ·refine ((((h.cur.of_block (keep _ _ h.fcur (by simp))).set_other (ZU fcur flin (by simp))).set (off / 8) (u64 v))).congr (fun x _=>?_)
  rw [DSt.write_cur _ _ _ hw.1];split <;> rfl
 ·refine ⟨upd hv (off / 64) v',?_,?_⟩
  ·refine (((hlin.of_block (keep _ _ h.flin (by simp))).set (off / 64 * 2+1) v').set_other (ZU flin fcur (by simp))).congr (fun x _=>?_)
   unfold X0 upd
   by_cases e:x=off / 64 * 2+1
   ·rw [ZKv e,ZKu (by omega),ZKv (by omega)]
   ·rw [ZKu e]
    by_cases e2:x % 2=0
    ·rw [ZKv e2,ZKv e2];rfl
    ·rw [ZKu e2,ZKu e2,ZKu (by omega)]
  ·intro n hn
   rw [DSt.write_hist h.ok];unfold upd
   by_cases e:n=off / 64
   ·subst e
    rw [ZKv rfl,ZKv rfl];exact h1.of_agree (fun k hk=>(ZF (ZU hk fcur (by simp))).trans (ZF (ZU hk flin (by simp))))
   ·rw [ZKu e,ZKu e]
    have hh:=hhist n hn;rcases hh with hh|⟨b,o,cap,c,g1,g2,g3,g4⟩
    ·exact .inl hh
    ·refine .inr ⟨b,o,cap,c,g1,F1of _ _ g2,?_,g4⟩
     rw [ZF (ZU (F1of _ _ g2) fcur (by simp)),ZF (ZU (F1of _ _ g2) flin (by simp)),keep _ _ g2 (by simp [e])];exact g3
 ·intro i hi
  exact (((h.thr i hi).of_block (keep _ _ (h.ft i hi) (by simp))).set_other (ZU (ft i hi) flin (by simp))).set_other (ZU (ft i hi) fcur (by simp))
 ·intro i hi
  exact (h.note i hi).of_agree (((ZF (ZU (fm i hi) fcur (by simp))).trans (ZF (ZU (fm i hi) flin (by simp)))).trans (keep _ _ (h.fm i hi) (by simp)))
 ·intro k hk;simpa [World.setCell] using hlt k hk
 ·exact ((honly.mono (G:=fun k=>F k≠none) (fun k hk=>by rw [hk];simp)).set (by rw [h.flin];simp) _).set (by rw [h.fcur];simp) _
theorem ZFu {w:World}{A:DAd}{s:DSt}{F:Nat->Option ZK}(h:Dev w A s F){i:Nat}(hi:i < 8){off v:Nat}(ho:s.word off=true)(hvv:v < 18446744073709551616)(hlen:(s.H (off / 64)).length < s.ex):
 Calls prog 316 #[ptr (A.t i),u64 off,u64 v] w fun r w'=>r=.returned (.tuple #[])/\∃ F',Dev w' A (s.write off v) F'/\Moved F F' w w':=by
 have hw:=ho;simp only [DSt.word,Bool.and_eq_true,decide_eq_true_eq] at hw;have hex:=h.ok.ex;have hLL:=h.ok.lines;have c0:w.cell? ⟨A.t i,0,none⟩=some (.pointer (some ⟨A.d,0,none⟩)):=(h.thr i hi).cell 0 (by omega);have c1:w.cell? ⟨A.d,2,none⟩=some (.slice (some ⟨A.lin,0,none⟩) s.L s.L):=h.dev.cell 2 (by omega);obtain ⟨hv,hlin,hhist⟩:=h.lin;have c2:w.cell? ⟨A.lin,off / 64 * 2+1,none⟩=some (hv (off / 64)):=by
  rw [hlin.cell (off / 64 * 2+1) (by omega)];unfold X0;rw [ZKu (by omega)]
  congr 2;omega
 obtain ⟨g,hg⟩:=xE (w.alloc (.cells #[u64 off,u64 v] 155));have hgd:Dev g A s F:=by rw [hg];exact h.alloc _
 have hgm:Moved F F w g:=by rw [hg];exact ⟨(Only.refl _ _).alloc _,fun _ _=>rfl⟩
 have hga:g.cell? ⟨w.heap.size,0,none⟩=some (u64 off)/\g.cell? ⟨w.heap.size,1,none⟩=some (u64 v):=by
  rw [hg,ZC (ZB _ _),ZC (ZB _ _)];exact ⟨rfl,rfl⟩
 have hgl:Row g A.lin 446 (2 * s.L) (X0 s hv):=by rw [hg];exact hlin.alloc _
 have hgh:∀ n,n < s.L->Hist g F n (hv n) (s.hist n):=fun n hn=>(hhist n hn).of_agree (fun k hk=>by rw [hg];exact ZI (h.lt k (by rw [hk];simp)))
 have hL:off / 64 < s.L:=by omega
 have hll:(s.hist (off / 64)).length<=1000000:=by unfold DSt.hist;rw [List.length_drop];omega
 obtain ⟨v',w1,F1,hrun,h1,honly,hs,hlt,hF⟩:=(hgh _ hL).append hgd.lt hll w.heap.size off v hga.1 hga.2;obtain ⟨r1,r2⟩:=hgd.write ho hvv hlen hgl hgh h1 honly hs hlt hF;obtain ⟨ha,hln,hcp,hv'⟩:∃ ha hln hcp,v'=.slice ha hln hcp:=by
  rcases h1 with ⟨_,e⟩|⟨b,o,cap,c,e,_⟩
  ·exact ⟨_,_,_,e⟩
  ·exact ⟨_,_,_,e⟩
 subst hv';have fcur1:F1 A.cur=some (2,0):=(hF _ (by rw [h.fcur];simp)).trans h.fcur;have keep:∀ k q,F k=some q->q≠(6,off / 64)->w1.heap[k]?=g.heap[k]?:=fun k q hk hq=>honly.block k (hgd.lt k (by rw [hk];simp)) (fun e=>hq (by rw [hk] at e;exact ZK5 e))
 have hgd2:Row w1 A.d 171 15 (VO A s):=hgd.dev.of_block (keep _ _ h.fd (by simp));have hgt2:Row w1 (A.t i) 174 4 (ZDy A s i):=(hgd.thr i hi).of_block (keep _ _ (h.ft i hi) (by simp));have hgl2:=hgl.of_block (keep _ _ h.flin (by simp));have hgc2:=hgd.cur.of_block (keep _ _ h.fcur (by simp));have f1:w1.frozen? ⟨A.lin,off / 64 * 2+1,none⟩=false:=hgl2.free _;have k1:(w1.cell? ⟨A.lin,off / 64 * 2+1,none⟩)=some (X0 s hv (off / 64 * 2+1)):=hgl2.cell _ (by omega);have k2:(w1.setCell ⟨A.lin,off / 64 * 2+1,none⟩ (.slice ha hln hcp)).cell? ⟨A.t i,0,none⟩=some (.pointer (some ⟨A.d,0,none⟩)):=(hgt2.set_other (ZU (h.ft i hi) h.flin (by simp))).cell 0 (by omega);have k3:(w1.setCell ⟨A.lin,off / 64 * 2+1,none⟩ (.slice ha hln hcp)).cell? ⟨A.d,1,none⟩=some (.slice (some ⟨A.cur,0,none⟩) (8 * s.L) A.cap):=(hgd2.set_other (ZU h.fd h.flin (by simp))).cell 1 (by omega);have k4:(w1.setCell ⟨A.lin,off / 64 * 2+1,none⟩ (.slice ha hln hcp)).cell? ⟨A.cur,off / 8,none⟩=some (u64 (s.cur (off / 8))):=(hgc2.set_other (ZU h.fcur h.flin (by simp))).cell _ (by omega);have k5:(w1.setCell ⟨A.lin,off / 64 * 2+1,none⟩ (.slice ha hln hcp)).frozen? ⟨A.cur,off / 8,none⟩=false:=(hgc2.set_other (ZU h.fcur h.flin (by simp))).free _;have b0:(off:Int) < 18446744073709551616:=by omega
 have b1:(off:Int) / 64 < s.L:=by omega
 have b2:(off:Int) / 8 < ((8 * s.L:Nat):Int):=by omega
 have H1:=zh r1;have H2:=zh (hgm.trans r2);rw [hg] at hrun;clear r1 r2 hgc2 hgl2 hgt2 hgd2 keep fcur1 hF hlt hs honly h1 hgh hgl hga hgm hgd hg h hlin hhist hw ho hL hll hlen hex hLL hvv hi g;simp only [ptr,u64] at *;go_in;go_wp2_with (at_builtin;refine Zg rfl _ _ _ rfl _ _ _ _ rfl rfl hrun ?_);go_returns;exact ⟨rfl,F1,H1.o,H2.o⟩
end
end Go.Proofs.YteomliechfdhhaaGreatDoor.Dv
