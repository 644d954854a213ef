/- Part 18. -/
import Derived.Test.YteomliechfdhhaaGreatDoorY17
set_option maxHeartbeats 8000000
set_option maxRecDepth 20000
set_option linter.all false
namespace Go.Proofs.YteomliechfdhhaaGreatDoor.Dv
open Tryz
section
open Go.RowKit Go.Proofs.YteomliechfdhhaaGreatDoor.Size
def Za:List (List (Nat×Nat))->List Ins
 |[]=>[]
 |l:: ls=>Zf l++Za ls
def Zn:List (List (Nat×Nat))->Nat
 |[]=>0
 |l:: ls=>(2 * l.length+1)+Zn ls
theorem Zs (l:List (Nat×Nat)):Za [l]=Zf l:=by simp [Za]
theorem Ue:∀ ls,(Za ls).length<=Zn ls
 |[]=>nR
 |l:: ls=>by
  show (Zf l++Za ls).length<=2 * l.length+1+Zn ls;rw [ZK4];have:=Ym l;have:=Ue ls;omega
theorem Zl (l:List (Nat×Nat)):1<=(Zf l).length:=by
 unfold Zf;rw [ZK4];simp
theorem ZCV {ls:List (List (Nat×Nat))}(h:∀ l∈ls,∀ p∈l,p.1 < 18446744073709551616/\p.2 < 18446744073709551616):∀ x∈Za ls,x.Ok:=by
 induction ls with
 |nil=>intro x hx;cases hx
 |cons l ls ih=>
  intro x hx;rcases ZK1.1 hx with hx|hx
  ·exact ZG6 (h l (.head _)) x hx
  ·exact ih (fun m hm=>h m (.tail _ hm)) x hx
theorem ZHN (s:DSt)(t:Nat)(l m:List Ins):s.runs t (l++m)=(s.runs t l).runs t m:=List.foldl_append
theorem Qt.runL {t:Nat}:∀ {ls:List (List (Nat×Nat))} {s:DSt} {c:Nat->Nat},Qt s c->(∀ l∈ls,∀ p∈l,s.word p.1=true)->Qt (s.runs t (Za ls)) (wrs c ls.flatten)/\(s.runs t (Za ls)).L=s.L/\(s.runs t (Za ls)).ex<=s.ex+Zn ls
 |[],s,c,h,_=>⟨h,rfl,nR⟩
 |l:: ls,s,c,h,hl=>by
  obtain ⟨h1,h2,h3⟩:=h.runS (t:=t) (l:=l) (hl l (.head _));obtain ⟨h4,h5,h6⟩:=Qt.runL (t:=t) (ls:=ls) h1 (fun m hm p hp=>by
   have:=hl m (.tail _ hm) p hp;unfold DSt.word at this ⊢;rw [h2];exact this)
  have e:s.runs t (Za (l:: ls))=(s.runs t (Zf l)).runs t (Za ls):=ZHN s t _ _;rw [e];refine ⟨?_,h5.trans h2,?_⟩
  ·rw [List.flatten_cons,YA];exact h4
  ·show _<=s.ex+(2 * l.length+1+Zn ls);omega
variable {w w':World}{A:DAd}{F F':Nat->Option ZK}{L:Nat}{T c c':Nat->Nat}{x x':Nat}
theorem ZBV (h:Aq w A F L T c x) {t:Nat} (ht:t < 8) {b o k:Nat} {ls:List (List (Nat×Nat))} (hs:Seen w b o (Zh (Za ls))) (hF:F b=none)
 (hl:∀ l∈ls,∀ p∈l,p.1 % 8=0/\p.1 < 64 * L/\p.2 < 18446744073709551616)(hn:x+Zn ls<=1000000):
 Calls prog 76 #[.slice (some ⟨b,o,none⟩) (Za ls).length k,Xg (A.t t)] w fun e w'=>e=.returned (i64 (0:Nat))/\Ra w A F L T (wrs c ls.flatten) (x+Zn ls) w':=by
 obtain ⟨s,h1,h2,rfl,h4⟩:=h.dev;have hLL:=h1.ok.lines;have hle:=Ue ls;refine (ZIV (c:=k) h1 ht hs hF (ZCV (fun l hl2 p hp=>⟨?_,(hl l hl2 p hp).2.2⟩)) (by omega)).mono ?_
 ·have:=hl l hl2 p hp;omega
 ·rintro e w' ⟨rfl,F',hd,hm⟩
  obtain ⟨q1,q2,q3⟩:=h2.runL (t:=t) (ls:=ls) (fun l hl2 p hp=>by
   have:=hl l hl2 p hp;unfold DSt.word;simp;omega)
  refine ⟨by rw [q1.err],?_⟩;obtain ⟨F'',h5,h6⟩:=ZES (x':=x+Zn ls) h (show ZIw _ A F s.L (wrs c ls.flatten) (x+Zn ls) w' from ⟨_,F',hd,q1,q2,by omega,hm⟩);exact ⟨F'',h5,h6⟩
theorem Zk (l:List (Nat×Nat))(p:Nat×Nat):ZP (l++[p])=ZP l++[u64 p.1,u64 p.2]:=by simp [ZP]
theorem ZQ {w w':World}{B:Nat}{e:TypeId}{z n:Nat}{v:Value}{xs:List Value}(h:w.ownsRow B e z v n xs)(hb:Bl w w'):w'.ownsRow B e z v n xs:=by
 refine ⟨h.1,?_⟩;rcases h.2 with hn|⟨g,cap,cur,hv,h1,h2,rest⟩
 ·exact .inl hn
 ·exact .inr ⟨g,cap,cur,hv,h1,(hb.block _ (heap_lt h2)).trans h2,rest⟩
theorem ZN {a w w':World}{B:Nat}{row:Option Nat}(h:Below B a w)(hg:w.grownBy w' row)(hB:B<=w.heap.size)(hr:∀ k,row=some k->B<=k):Below B a w':=h.grown hg hB hr
def Wrt (w:World)(x0:Nat)(v:Value)(l:List (Nat×Nat)):Prop:=w.ownsRow x0 155 2 v l.length (ZP l)
def Prg (w:World)(x0:Nat)(v:Value)(l:List Ins):Prop:=w.ownsRow x0 260 3 v l.length (Zh l)
theorem Wrt.below {v:Value}{l:List (Nat×Nat)}(h:Wrt w x v l)(hb:Bl w w'):Wrt w' x v l:=ZQ h hb
theorem Prg.below {v:Value}{l:List Ins}(h:Prg w x v l)(hb:Bl w w'):Prg w' x v l:=ZQ h hb
theorem Zi {w:World}{x0:Nat}{e:TypeId}{z n:Nat}{v:Value}{xs:List Value}(h:w.ownsRow x0 e z v n xs)(hn:0 < n):∃ g cap,v=.slice (some ⟨g,0,none⟩) n cap/\Seen w g 0 xs/\x0<=g:=by
 rcases h.2 with ⟨_,e⟩|⟨g,cap,cur,e,hg,_⟩
 ·omega
 ·subst e
  refine ⟨g,cap,rfl,fun j u hj=>?_,hg⟩;have:=h.cells (g:=g) rfl j u hj;rw [Addr.add_lit] at this;exact this
theorem YV {v:Value}{l:List (Nat×Nat)}(h:Wrt w x v l)(hn:1<=l.length)(hn2:l.length<=1000)(hl:∀ p∈l,p.1 < 18446744073709551616):
 ∀ w1,Bl w w1->Calls prog 74 #[v] w1 fun e w'=>∃ r,e=.returned r/\Prg w' w1.heap.size r (Zf l)/\Bl w1 w':=by
 intro w1 hb;obtain ⟨g,cap,rfl,hs,_⟩:=Zi (h.below hb) hn;refine (X9 hs hn hn2 hl).mono ?_;rintro e w' ⟨g2,cap2,rfl,h1,h2⟩;exact ⟨_,rfl,h1,h2⟩
theorem Vb {v1 v2:Value}{l1 l2:List Ins}{x1 x2:Nat}(h1:Prg w x1 v1 l1)(h2:Prg w x2 v2 l2)(n1:1<=l1.length)(n2:1<=l2.length)(n3:l1.length+l2.length<=1000):
 ∀ w1,Bl w w1->Calls prog 96 #[v1,v2] w1 fun e w'=>∃ r,e=.returned r/\Prg w' w1.heap.size r (l1++l2)/\Bl w1 w':=by
 intro w1 hb;obtain ⟨g,cap,rfl,hs,_⟩:=Zi (h1.below hb) (by omega);obtain ⟨g',cap',rfl,hs',_⟩:=Zi (h2.below hb) (by omega);refine (ZFo hs hs' n1 n2 n3).mono ?_;rintro e w' ⟨g2,cap2,rfl,h1,h2⟩;refine ⟨_,rfl,?_,h2⟩;unfold Prg;rw [ZK4];exact h1
def Chk.put (k:Chk)(i:Nat)(b:Blk):Chk:={k with blk:=fun j=>if j=i then b else k.blk j}
theorem Chk.put_same (k:Chk)(i:Nat)(b:Blk):(k.put i b).blk i=b:=ZKv rfl
theorem Chk.put_other (k:Chk){i j:Nat}(b:Blk)(h:j≠i):(k.put i b).blk j=k.blk j:=ZKu h
def Chk.took (k:Chk)(i kind:Nat):Chk:=k.put i ⟨(k.blk i).gen,kind,177⟩
def Chk.drop (k:Chk)(i:Nat):Chk:=k.put i (k.blk i).freed
def Chk.tooks (k:Chk)(l:List (Nat×Nat)):Chk:=l.foldl (fun k p=>k.took p.1 p.2) k
def Chk.drops (k:Chk)(l:List Nat):Chk:=l.foldl (fun k i=>k.drop i) k
structure Chk.Same (k k':Chk):Prop where
 cl:k'.cl=k.cl
 ow:k'.ow=k.ow
 gen:k'.gen=k.gen
theorem Chk.Same.refl (k:Chk):k.Same k:=⟨rfl,rfl,rfl⟩
theorem Chk.Same.trans {a b c:Chk}(h:a.Same b)(h':b.Same c):a.Same c:=⟨h'.cl.trans h.cl,h'.ow.trans h.ow,h'.gen.trans h.gen⟩
theorem Chk.same_tooks (k:Chk):∀ l,k.Same (k.tooks l)
 |[]=>Chk.Same.refl k
 |p:: l=>Chk.Same.trans (b:=k.took p.1 p.2) ⟨rfl,rfl,rfl⟩ (Chk.same_tooks _ l)
theorem Chk.same_drops (k:Chk):∀ l,k.Same (k.drops l)
 |[]=>Chk.Same.refl k
 |p:: l=>Chk.Same.trans (b:=k.drop p) ⟨rfl,rfl,rfl⟩ (Chk.same_drops _ l)
theorem Chk.Same.perN {k k':Chk}(h:k.Same k'):perN k'=perN k:=by unfold Dv.perN;rw [h.cl]
theorem Chk.Same.hdN {k k':Chk}(h:k.Same k')(i:Nat):hdN k' i=hdN k i:=by unfold Dv.hdN Zu;rw [h.cl]
theorem Chk.Same.info {k k':Chk}(h:k.Same k'):k'.info=k.info:=by unfold Chk.info;rw [h.cl,h.ow,h.gen]
theorem Chk.Same.head {k k':Chk}(h:k.Same k')(hk:k.Head):k'.Head:=⟨by rw [h.gen];exact hk.gen,by rw [h.cl,h.ow];exact hk.cl⟩
theorem Chk.tooks_snoc (k:Chk)(l:List (Nat×Nat))(p:Nat×Nat):k.tooks (l++[p])=(k.tooks l).took p.1 p.2:=by
 unfold Chk.tooks;rw [List.foldl_append];rfl
theorem Chk.drops_snoc (k:Chk)(l:List Nat)(i:Nat):k.drops (l++[i])=(k.drops l).drop i:=by
 unfold Chk.drops;rw [List.foldl_append];rfl
theorem Chk.tooks_other (k:Chk){j:Nat}:∀ {l:List (Nat×Nat)},j∉l.map (·.1)->(k.tooks l).blk j=k.blk j
 |[],_=>rfl
 |p:: l,h=>by
  have h1:j≠p.1:=fun e=>h (by simp [e])
  have h2:j∉l.map (·.1):=fun e=>h (by simp only [List.map_cons,List.mem_cons];exact .inr e)
  show (Chk.tooks (k.took p.1 p.2) l).blk j=_;rw [Chk.tooks_other _ h2];exact k.put_other _ h1
theorem Chk.drops_other (k:Chk){j:Nat}:∀ {l:List Nat},j∉l->(k.drops l).blk j=k.blk j
 |[],_=>rfl
 |p:: l,h=>by
  have h1:j≠p:=fun e=>h (by simp [e])
  have h2:j∉l:=fun e=>h (by simp [e])
  show (Chk.drops (k.drop p) l).blk j=_;rw [Chk.drops_other _ h2];exact k.put_other _ h1
theorem ZAw {k:Chk}{i n:Nat}{b:Blk}(hi:i < n)(h0:k.used i=false)(hb:b.st≠176):Ze (k.put i b).used n=Ze k.used n+2 ^ i:=by
 rw [<-Xq h0 hi];refine YI fun j _=>?_
 unfold Chk.used Chk.put
 by_cases e:j=i
 ·rw [e];simp [hb]
 ·simp [e]
theorem J7 {k:Chk}{i n:Nat}{b:Blk}(hi:i < n)(h0:k.used i=true)(hb:b.st=176):Ze (k.put i b).used n+2 ^ i=Ze k.used n:=by
 rw [<-ZAv h0 hi]
 congr 1
 refine YI fun j _=>?_
 unfold Chk.used Chk.put
 by_cases e:j=i
 ·rw [e];simp [hb]
 ·simp [e]
theorem Qq {k:Chk}{i n:Nat}{b:Blk}(h0:k.used i=true)(hb:b.st≠176):Ze (k.put i b).used n=Ze k.used n:=by
 refine YI fun j _=>?_
 unfold Chk.used at *;unfold Chk.put
 by_cases e:j=i
 ·rw [e];simp only [if_true];rw [h0];simp [hb]
 ·simp [e]
def hdW (T:Nat->Nat)(line:Nat)(k:Chk)(i:Nat)(b:Blk):Nat×Nat:=((8 * line+hdN k i) * 8,ZX T b.info)
def YN (T:Nat->Nat)(line:Nat)(k:Chk)(l:List (Nat×Nat)):List (Nat×Nat):=l.map fun p=>hdW T line k p.1 ⟨(k.blk p.1).gen,p.2,177⟩
def Yc (T:Nat->Nat)(line:Nat)(k:Chk)(l:List Nat):List (Nat×Nat):=l.map fun i=>hdW T line k i (k.blk i).freed
def Qp (line:Nat)(k:Chk):Nat×Nat:=((8 * line+1) * 8,Ze k.used (perN k))
def Chk.after (k:Chk)(tk:List (Nat×Nat))(dr:List Nat):Chk:=(k.tooks tk).drops dr
def ZO (T:Nat->Nat)(line:Nat)(k:Chk)(tk:List (Nat×Nat))(dr:List Nat):List (Nat×Nat):=
 YN T line k tk++Yc T line k dr++[Qp line (k.after tk dr)]
structure Chk.Can (k:Chk)(tk:List (Nat×Nat))(dr:List Nat):Prop where
 nodup:(tk.map (·.1)++dr).Nodup
 lt:∀ i∈tk.map (·.1)++dr,i < perN k
 kind:∀ p∈tk,1<=p.2/\p.2<=127
 free:∀ p∈tk,(k.blk p.1).st=176
 all:∀ i∈dr,(k.blk i).st=177
theorem ZCt (k:Chk):∀ {l:List (Nat×Nat)},(l.map (·.1)).Nodup->∀ p∈l,(k.tooks l).blk p.1=⟨(k.blk p.1).gen,p.2,177⟩
 |[],_,p,hp=>by cases hp
 |q:: l,hn,p,hp=>by
  rw [List.map_cons,List.nodup_cons] at hn;show (Chk.tooks (k.took q.1 q.2) l).blk p.1=_;rcases List.mem_cons.1 hp with rfl|hp
  ·rw [Chk.tooks_other _ hn.1];exact k.put_same _ _
  ·rw [ZCt _ hn.2 p hp]
   have:p.1≠q.1:=fun e=>hn.1 (by rw [<-e];exact ZKz.2 ⟨p,hp,rfl⟩)
   unfold Chk.took;rw [k.put_other _ this]
theorem ZB1 (k:Chk):∀ {l:List Nat},l.Nodup->∀ i∈l,(k.drops l).blk i=(k.blk i).freed
 |[],_,p,hp=>by cases hp
 |q:: l,hn,p,hp=>by
  rw [List.nodup_cons] at hn;show (Chk.drops (k.drop q) l).blk p=_;rcases List.mem_cons.1 hp with rfl|hp
  ·rw [Chk.drops_other _ hn.1];exact k.put_same _ _
  ·rw [ZB1 _ hn.2 p hp]
   have:p≠q:=fun e=>hn.1 (by rw [<-e];exact hp)
   unfold Chk.drop;rw [k.put_other _ this]
theorem Xi {α:Type}{l m:List α}(h:(l++m).Nodup):l.Nodup/\m.Nodup/\(∀ a∈l,a∉m)/\∀ a∈m,a∉l:=by
 rw [ZLO] at h;obtain ⟨h1,h2,h3⟩:=h;exact ⟨h1,h2,fun a ha hm=>h3 a ha a hm rfl,fun a ha hm=>h3 a hm a ha rfl⟩
theorem Chk.Can.at_tk {k:Chk}{tk:List (Nat×Nat)}{dr:List Nat}(h:k.Can tk dr){p:Nat×Nat}(hp:p∈tk):(k.after tk dr).blk p.1=⟨(k.blk p.1).gen,p.2,177⟩:=by
 obtain ⟨n1,n2,n3,n4⟩:=Xi h.nodup;unfold Chk.after;rw [Chk.drops_other _ (n3 _ (ZKz.2 ⟨p,hp,rfl⟩)),ZCt k n1 p hp]
theorem Chk.Can.at_dr {k:Chk}{tk:List (Nat×Nat)}{dr:List Nat}(h:k.Can tk dr){i:Nat}(hi:i∈dr):(k.after tk dr).blk i=(k.blk i).freed:=by
 obtain ⟨n1,n2,n3,n4⟩:=Xi h.nodup;unfold Chk.after;rw [ZB1 _ n2 i hi,Chk.tooks_other _ (n4 i hi)]
theorem Chk.Can.at_else {k:Chk}{tk:List (Nat×Nat)}{dr:List Nat}{i:Nat}(hi:i∉tk.map (·.1)++dr):(k.after tk dr).blk i=k.blk i:=by
 unfold Chk.after;rw [Chk.drops_other _ (fun h=>hi (ZK1.2 (.inr h))),Chk.tooks_other _ (fun h=>hi (ZK1.2 (.inl h)))]
theorem Chk.same_after (k:Chk)(tk:List (Nat×Nat))(dr:List Nat):k.Same (k.after tk dr):=(k.same_tooks tk).trans (Chk.same_drops _ dr)
theorem ZBd {c:Nat->Nat}:∀ {l:List (Nat×Nat)},(l.map (·.1 / 8)).Nodup->∀ p∈l,wrs c l (p.1 / 8)=p.2
 |[],_,p,hp=>by cases hp
 |q:: l,hn,p,hp=>by
  rw [List.map_cons,List.nodup_cons] at hn;rw [YO];rcases List.mem_cons.1 hp with rfl|hp
  ·rw [Z2 (fun r hr e=>hn.1 (by rw [<-e];exact ZKz.2 ⟨r,hr,rfl⟩))]
   unfold upd;simp
  ·exact ZBd hn.2 p hp
theorem Vs (T:Nat->Nat)(line:Nat)(k:Chk)(tk:List (Nat×Nat))(dr:List Nat):(ZO T line k tk dr).map (·.1 / 8)=(tk.map (·.1)++dr).map (fun i=>8 * line+hdN k i)++[8 * line+1]:=by
 unfold ZO YN Yc Qp hdW;simp only [ZLH,List.map_map,List.map_cons,List.map_nil]
 congr 1
 ·congr 1
  ·refine List.map_congr_left fun p _=>?_
   show (8 * line+hdN k p.1) * 8 / 8=_;rw [Nat.mul_div_cancel _ (by omega)];rfl
  ·refine List.map_congr_left fun p _=>?_
   show (8 * line+hdN k p) * 8 / 8=_;rw [Nat.mul_div_cancel _ (by omega)]
 ·rw [Nat.mul_div_cancel _ (by omega)]
theorem UN {T:Nat->Nat}{line:Nat}{k:Chk}(hk:k.Head){tk:List (Nat×Nat)}{dr:List Nat}(h:k.Can tk dr):((ZO T line k tk dr).map (·.1 / 8)).Nodup:=by
 obtain ⟨_,_,_,h4,_,_⟩:=hk.sizes;rw [Vs,ZLO];refine ⟨?_,by simp,?_⟩
 ·refine List.Pairwise.map _ (fun a b hab=>?_) h.nodup
  intro e;exact Jv hk hab (a:=0) (by omega) (by omega)
 ·intro a ha b hb
  obtain ⟨i,_,rfl⟩:=ZKz.1 ha;have:b=8 * line+1:=by simpa using hb
  unfold hdN;omega
theorem Uo {T c:Nat->Nat}{line:Nat}{k:Chk}{tk:List (Nat×Nat)}{dr:List Nat}{x:Nat}(h1:x≠8 * line+1)(h2:∀ i∈tk.map (·.1)++dr,x≠8 * line+hdN k i):wrs c (ZO T line k tk dr) x=c x:=by
 refine Z2 fun p hp e=>?_
 have hm:p.1 / 8∈(ZO T line k tk dr).map (·.1 / 8):=ZKz.2 ⟨p,hp,rfl⟩;rw [Vs,e] at hm;rcases ZK1.1 hm with hm|hm
 ·obtain ⟨i,hi,e2⟩:=ZKz.1 hm
  exact h2 i hi e2.symm
 ·exact h1 (by simpa using hm)
theorem CRep.after {T c:Nat->Nat}{line:Nat}{k:Chk}(h:CRep T c (8 * line) k)(h0:0<=k.cl){tk:List (Nat×Nat)}{dr:List Nat}(hc:k.Can tk dr):CRep T (wrs c (ZO T line k tk dr)) (8 * line) (k.after tk dr):=by
 have hs:=k.same_after tk dr;have hnd:=UN (T:=T) (line:=line) h.head hc;have hh:∀ i,8<=hdN k i:=fun i=>by unfold hdN;omega
 refine ⟨hs.head h.head,?_,fun _=>?_,fun _ a h1 h2=>?_,fun _ i hi=>?_,fun _ i hi=>?_⟩
 ·rw [Uo (by omega) (fun i _=>by have:=hh i;omega),hs.info];exact h.w0
 ·have:=ZBd (c:=c) hnd (Qp line (k.after tk dr)) (by unfold ZO;simp)
  have e:(Qp line (k.after tk dr)).1 / 8=8 * line+1:=by unfold Qp;omega
  rw [e] at this;exact this
 ·rw [Uo (by omega) (fun i _=>by have:=hh i;omega)];exact h.rest h0 a h1 h2
 ·rw [hs.perN] at hi
  have hg:=h.good h0 i hi
  by_cases m1:i∈tk.map (·.1)
  ·obtain ⟨p,hp,rfl⟩:=ZKz.1 m1
   rw [hc.at_tk hp];exact ⟨hg.gen,.inr (.inl ⟨rfl,hc.kind p hp⟩)⟩
  ·by_cases m2:i∈dr
   ·rw [hc.at_dr m2];exact Blk.freed_good hg
   ·rw [Chk.Can.at_else (by rw [ZK1];exact fun h=>h.elim m1 m2)];exact hg
 ·rw [hs.perN] at hi
  rw [hs.hdN];have key:∀ b,hdW T line k i b∈ZO T line k tk dr->wrs c (ZO T line k tk dr) (8 * line+hdN k i)=ZX T b.info:=by
   intro b hb;have:=ZBd (c:=c) hnd _ hb;have e:(hdW T line k i b).1 / 8=8 * line+hdN k i:=by unfold hdW;omega
   rw [e] at this;exact this
  by_cases m1:i∈tk.map (·.1)
  ·obtain ⟨p,hp,rfl⟩:=ZKz.1 m1
   rw [hc.at_tk hp];exact key _ (by unfold ZO YN;exact ZK1.2 (.inl (ZK1.2 (.inl (ZKz.2 ⟨p,hp,rfl⟩)))))
  ·by_cases m2:i∈dr
   ·rw [hc.at_dr m2]
    exact key _ (by unfold ZO Yc;exact ZK1.2 (.inl (ZK1.2 (.inr (ZKz.2 ⟨i,m2,rfl⟩)))))
   ·have m3:i∉tk.map (·.1)++dr:=by rw [ZK1];exact fun h=>h.elim m1 m2
    obtain ⟨_,_,_,h4,_,_⟩:=h.head.sizes;rw [Chk.Can.at_else m3,Uo (by have:=hh i;omega) (fun j hj e=>?_)]
    ·exact h.blk h0 i hi
    ·have hne:i≠j:=fun e2=>m3 (e2▸hj)
     exact Jv h.head hne (a:=0) (by omega) (by omega)
def HRep (T c:Nat->Nat)(l0 n:Nat)(ch:Nat->Chk):Prop:=∀ k,k < n->CRep T c (8 * (l0+32 * k)) (ch k)
def Pay (l0 n:Nat)(ch:Nat->Chk)(x:Nat):Prop:=∀ k,k < n->(∀ a,a < 8->x≠8 * (l0+32 * k)+a)/\(0<=(ch k).cl->∀ i,i < perN (ch k)->x≠8 * (l0+32 * k)+hdN (ch k) i)
theorem HRep.congr {T c c':Nat->Nat}{l0 n:Nat}{ch:Nat->Chk}(h:HRep T c l0 n ch)(hc:∀ x,¬ Pay l0 n ch x->c' x=c x):HRep T c' l0 n ch:=by
 intro k hk;refine (h k hk).congr (fun a ha=>hc _ (fun hp=>(hp k hk).1 a ha rfl)) (fun h0 i hi=>hc _ (fun hp=>(hp k hk).2 h0 i hi rfl))
theorem HRep.wrs {T c:Nat->Nat}{l0 n:Nat}{ch:Nat->Chk}(h:HRep T c l0 n ch){l:List (Nat×Nat)}(hl:∀ p∈l,Pay l0 n ch (p.1 / 8)):HRep T (wrs c l) l0 n ch:=
 h.congr fun x hx=>Z2 fun p hp e=>hx (e▸hl p hp)
theorem Pay.low {l0 n:Nat}{ch:Nat->Chk}{x:Nat}(h:x < 8 * l0):Pay l0 n ch x:=fun k hk=>
 ⟨fun a ha=>by omega,fun _ i hi=>by have:8<=hdN (ch k) i:=Nat.le_add_right _ _;omega⟩
theorem Uz (k:Chk)(i:Nat):8<=hdN k i:=Nat.le_add_right _ _
theorem Pay.word {T c:Nat->Nat}{l0 n:Nat}{ch:Nat->Chk}(hR:HRep T c l0 n ch){k j a:Nat}(hk:k < n)(hj:j < perN (ch k))(h1:1<=a)(h2:a < Zu (ch k)):Pay l0 n ch (8 * (l0+32 * k)+hdN (ch k) j+a):=fun m hm=>by
 have hle:=YF (hR k hk).head hj;have hge:=Uz (ch k) j;refine ⟨fun b hb=>by omega,fun _ i hi=>?_⟩;have hle2:=YF (hR m hm).head hi;have hge2:=Uz (ch m) i
 by_cases e:m=k
 ·subst e
  by_cases e2:i=j
  ·subst e2;omega
  ·have:=Jv (hR m hm).head (i:=i) (j:=j) (a:=a) e2 h2
   omega
 ·omega
def ZDK (ch:Nat->Chk)(k:Nat)(x:Chk):Nat->Chk:=fun m=>if m=k then x else ch m
theorem ZAE (ch:Nat->Chk)(k:Nat)(x:Chk):ZDK ch k x k=x:=ZKv rfl
theorem QH (ch:Nat->Chk){k m:Nat}(x:Chk)(h:m≠k):ZDK ch k x m=ch m:=ZKu h
theorem HRep.after {T c:Nat->Nat}{l0 n:Nat}{ch:Nat->Chk}(h:HRep T c l0 n ch){k:Nat}(hk:k < n)(h0:0<=(ch k).cl){tk:List (Nat×Nat)}{dr:List Nat}(hc:(ch k).Can tk dr):
 HRep T (Dv.wrs c (ZO T (l0+32 * k) (ch k) tk dr)) l0 n (ZDK ch k ((ch k).after tk dr)):=by
 intro m hm
 by_cases e:m=k
 ·subst e
  rw [ZAE];exact (h m hm).after h0 hc
 ·rw [QH _ _ e]
  have hd:=(h k hk).head;have hsz:=hd.sizes.2.2.2.2.2
  have ho:∀ x,8 * (l0+32 * m)<=x->x < 8 * (l0+32 * m)+256->Dv.wrs c (ZO T (l0+32 * k) (ch k) tk dr) x=c x:=fun x h1 h2=>
   Uo (by omega) (fun i hi=>by
    have:=YF hd (hc.lt i hi);have:=hd.sizes.2.2.2.1;have:=Uz (ch k) i;omega)
  refine (h m hm).congr (fun a ha=>ho _ (by omega) (by omega)) (fun _ i hi=>?_);have:=YF (h m hm).head hi;exact ho _ (by omega) (by have:=(h m hm).head.sizes.2.2.2.1;omega)
def cmE (off:Nat)(l:List (Nat×Nat)):List (Nat×Nat):=(List.range l.length).flatMap fun i=>[(off+64+i * 16,(l.getD i (0,0)).1),(off+64+i * 16+8,(l.getD i (0,0)).2)]
theorem ZA1 {off:Nat}{l:List (Nat×Nat)}{p:Nat×Nat}(h:p∈cmE off l):∃ i,i < l.length/\(p=(off+64+i * 16,(l.getD i (0,0)).1)\/p=(off+64+i * 16+8,(l.getD i (0,0)).2)):=by
 unfold cmE at h;obtain ⟨i,hi,hp⟩:=List.mem_flatMap.1 h;refine ⟨i,ZLJ.1 hi,?_⟩;simpa using hp
theorem QE (off:Nat)(l:List (Nat×Nat)):(cmE off l).length=2 * l.length:=by
 have key:∀ n:Nat,((List.range n).flatMap fun i=>[(off+64+i * 16,(l.getD i (0,0)).1),(off+64+i * 16+8,(l.getD i (0,0)).2)]).length=2 * n:=by
  intro n
  induction n with
  |zero=>rfl
  |succ n ih=>rw [ZLN,List.flatMap_append,ZK4,ih];simp;omega
 exact key _
def cmL (off v:Nat)(l:List (Nat×Nat)):List (List (Nat×Nat)):=[cmE off l,[(off,v)],l,[(off,0)]]
theorem ZI6 {c:Nat->Nat}{off size v:Nat}{l:List (Nat×Nat)}(h8:off % 8=0)(hs:64+16 * l.length<=size)(hl:∀ p∈l,p.1 % 8=0){y:Nat}(hy:y * 8 < off\/off+size<=y * 8):Dv.wrs c (cmL off v l).flatten y=Dv.wrs c l y:=by
 have e:(cmL off v l).flatten=cmE off l++([(off,v)]++(l++[(off,0)])):=by simp [cmL]
 rw [e,YA,YA,YA];rw [Z2 (l:=[(off,0)]) (fun p hp=>by simp at hp;subst hp;simp only;omega)];have hb:∀ x,x=y->Dv.wrs (Dv.wrs c (cmE off l)) [(off,v)] x=c x:=by
  intro x hx;subst hx;rw [Z2 (l:=[(off,v)]) (fun p hp=>by simp at hp;subst hp;simp only;omega)];refine Z2 (fun p hp=>?_);obtain ⟨i,hi,e|e⟩:=ZA1 hp <;> subst e <;> simp only <;> omega
 have key:∀ (l:List (Nat×Nat)) (a b:Nat->Nat),a y=b y->Dv.wrs a l y=Dv.wrs b l y:=by
  intro l
  induction l with
  |nil=>intro a b h;exact h
  |cons p l ih=>
   intro a b h;rw [YO,YO];refine ih _ _ ?_;unfold upd
   by_cases e:y=p.1 / 8
   ·simp [e]
   ·simp [e,h]
 exact key l _ _ (hb y rfl)
theorem ZA2 {c:Nat->Nat}{off v:Nat}{l:List (Nat×Nat)}:Dv.wrs c (cmL off v l).flatten (off / 8)=0:=by
 have e:(cmL off v l).flatten=(cmE off l++[(off,v)]++l)++[(off,0)]:=by simp [cmL]
 rw [e,YA,YO,VD];unfold upd;simp
theorem ZGE (off v:Nat)(l:List (Nat×Nat)):Zn (cmL off v l)=6 * l.length+8:=by
 show (2 * (cmE off l).length+1)+((2 * 1+1)+((2 * l.length+1)+((2 * 1+1)+0)))=_;rw [QE];omega
variable {w'':World}{F'':Nat->Option ZK}
def HAd.own (H:HAd)(k:Nat):Prop:=k=H.pb\/k=H.rb\/k=H.vb
structure HW (w:World)(A:DAd)(F:Nat->Option ZK)(L:Nat)(T c:Nat->Nat)(x:Nat)(H:HAd)(lk:Bool)(p:Nat->Plc)(ex:Nat)(res held:Nat->Option Nat):Prop where
 aq:Aq w A F L T c x
 hp:HpW w A H lk
 set:SetW w H.sb H.pb H.t A H.n H.cap p
 rm:J1 w H.rb ex res
 vm:ZBf w H.vb ex held
 fh:F H.hb=none
 fs:F H.sb=none
 fo:∀ k,H.own k->F k=none
 rv:H.rb≠H.vb
 hn:H.hb≠H.pb
 nt:∀ k,H.own k->k≠1/\k≠0
variable {H:HAd}{lk:Bool}{p p':Nat->Plc}{ex ex':Nat}{res res' held held':Nat->Option Nat}
structure HMv (F F':Nat->Option ZK)(H:HAd)(w w':World):Prop where
 only:Only (fun k=>F k≠none\/H.own k) w w'
 same:∀ k,k < w.heap.size->F' k=F k
theorem HMv.refl (F:Nat->Option ZK)(H:HAd)(w:World):HMv F F H w w:=⟨Only.refl _ _,fun _ _=>rfl⟩
theorem HMv.trans {a b d:World}(h:HMv F F' H a b)(k:HMv F' F'' H b d):HMv F F'' H a d:=
 ⟨h.only.trans k.only (fun i hi hf=>hf.imp (fun q=>by rw [h.same i hi] at q;exact q) id),fun i hi=>(k.same i (ZLC hi h.only.size)).trans (h.same i hi)⟩
theorem HMv.of_below (hb:Bl w w'):HMv F F H w w':=⟨Only.of_below hb,fun _ _=>rfl⟩
theorem HMv.of_moved (hm:Moved F F' w w'):HMv F F' H w w':=⟨hm.only.mono fun _ h=>.inl h,hm.same⟩
theorem HW.below (h:HW w A F L T c x H lk p ex res held)(hb:Bl w w'):HW w' A F L T c x H lk p ex res held where
 aq:=h.aq.below hb
 hp:=h.hp.below hb
 set:=h.set.below hb
 rm:=h.rm.kept (hb.block _ h.rm.lt)
 vm:=h.vm.kept (hb.block _ h.vm.lt)
 fh:=h.fh
 fs:=h.fs
 fo:=h.fo
 rv:=h.rv
 hn:=h.hn
 nt:=h.nt
theorem HW.ar (h:HW w A F L T c x H lk p ex res held):Ar w A F L T c:=h.aq.ar
theorem HW.ra (h:HW w A F L T c x H lk p ex res held)(hr:Ra w A F L T c' x' w'):∃ F',HW w' A F' L T c' x' H lk p ex res held/\HMv F F' H w w':=by
 obtain ⟨F',ha,hm⟩:=hr;have hk:∀ k,k < w.heap.size->F k=none->w'.heap[k]?=w.heap[k]?:=fun k hk hf=>hm.only.block k hk (fun q=>q hf)
 have hpo:F H.pb=none:=h.fo _ (.inl rfl);have hro:F H.rb=none:=h.fo _ (.inr (.inl rfl));have hvo:F H.vb=none:=h.fo _ (.inr (.inr rfl));refine ⟨F',⟨ha,h.hp.agree (hk _ (heap_lt h.hp.hp) h.fh),h.set.agree (hk _ (heap_lt h.set.set) h.fs) (hk _ h.set.row.lt hpo),h.rm.kept (hk _ h.rm.lt hro),h.vm.kept (hk _ h.vm.lt hvo),?_,?_,?_,h.rv,h.hn,h.nt⟩,HMv.of_moved hm⟩
 ·rw [hm.same _ (heap_lt h.hp.hp)];exact h.fh
 ·rw [hm.same _ (heap_lt h.set.set)];exact h.fs
 ·intro k hk
  rw [hm.same k (by rcases hk with rfl|rfl|rfl;exact h.set.row.lt;exact h.rm.lt;exact h.vm.lt)];exact h.fo k hk
theorem HW.owns (h:HW w A F L T c x H lk p ex res held)(ho:Only H.own w w')(hs:SetW w' H.sb H.pb H.t A H.n H.cap p')(hr:J1 w' H.rb ex' res')(hv:ZBf w' H.vb ex' held'):HW w' A F L T c x H lk p' ex' res' held'/\HMv F F H w w':=by
 have hlt:∀ k,k < w.heap.size->¬ H.own k->w'.heap[k]?=w.heap[k]?:=ho.block;have hmap:¬ H.own H.hb:=by
  rintro (e|e|e)
  ·exact h.hn e
  ·obtain ⟨D,⟨es,cl,h1,_⟩,_⟩:=h.rm
   have h2:=h.hp.hp;rw [e,h1] at h2;simp at h2
  ·obtain ⟨D,⟨es,cl,h1,_⟩,_⟩:=h.vm
   have h2:=h.hp.hp;rw [e,h1] at h2;simp at h2
 refine ⟨⟨?_,h.hp.agree (hlt _ (heap_lt h.hp.hp) hmap),hs,hr,hv,h.fh,h.fs,h.fo,h.rv,h.hn,h.nt⟩,⟨ho.mono fun _ h=>.inr h,fun _ _=>rfl⟩⟩;obtain ⟨s,h1,h2,h3,h4⟩:=h.aq.dev;refine h.aq.agree (fun k hk=>?_) ho.size;rcases hk with hk|rfl|rfl
 ·exact hlt k (h1.lt k hk) (fun q=>hk (h.fo k q))
 ·exact hlt _ h.aq.nib.lt (fun q=>(h.nt _ q).1 rfl)
 ·exact hlt _ h.aq.tab.lt (fun q=>(h.nt _ q).2 rfl)
theorem HW.places (h:HW w A F L T c x H lk p ex res held)(ho:Only (fun k=>k=H.pb) w w')(hs:SetW w' H.sb H.pb H.t A H.n H.cap p'):HW w' A F L T c x H lk p' ex res held/\HMv F F H w w':=by
 have hne:∀ {b ex} {f:Nat->Option Nat} {k q C},UMap prog k q C w b ex f->b≠H.pb:=by
  intro b ex f k q C hu e;obtain ⟨D,⟨es,cl,h1,_⟩,_⟩:=hu;obtain ⟨cc,h2,_⟩:=h.set.row;rw [e,h2] at h1;simp at h1
 exact h.owns (ho.mono fun _ e=>.inl e) hs (h.rm.kept (ho.block _ h.rm.lt (hne h.rm))) (h.vm.kept (ho.block _ h.vm.lt (hne h.vm)))
theorem Ud {line:Nat}(h:line<=4064):Calls prog 206 #[.int .i64 line] w fun e w'=>e=.returned (.bool true)/\w=w':=by
 have d1:decide ((0:Int)<=line)=true:=by simp
 have d2:decide ((line:Int)<=4064)=true:=ZLG (by omega);clear h;go_in;go_wp2;go_returns;exact ⟨rfl,rfl⟩
def VW (T:Nat->Nat)(line:Nat)(k:Chk)(n:Nat):List (Nat×Nat):=(List.range n).map fun i=>((8 * line+hdN k i) * 8,ZX T (Blk.info ⟨k.gen,0,176⟩))
def VX (line n:Nat):List (Nat×Nat):=(List.range n).map fun a=>((8 * line+(a+1)) * 8,0)
def YT (T:Nat->Nat)(line:Nat)(k:Chk):List (Nat×Nat):=VW T line k (perN k)++VX line 7
theorem ZDk (T:Nat->Nat)(line:Nat)(k:Chk)(n:Nat):VW T line k (n+1)=VW T line k n++[((8 * line+hdN k n) * 8,ZX T (Blk.info ⟨k.gen,0,176⟩))]:=by
 unfold VW;rw [ZLN,ZLH];rfl
theorem ZDl (line n:Nat):VX line (n+1)=VX line n++[((8 * line+(n+1)) * 8,0)]:=by
 unfold VX;rw [ZLN,ZLH];rfl
theorem X4 (T:Nat->Nat)(line:Nat)(k:Chk)(n:Nat):(VW T line k n).length=n:=by simp [VW]
theorem X5 (line n:Nat):(VX line n).length=n:=by simp [VX]
def PlB (W:World)(T:Nat->Nat)(line:Nat)(k:Chk)(v i:Value)(wr:World):Prop:=∃ n:Nat,n<=perN k/\i=.int .i64 (n:Nat)/\wr.ownsRow W.heap.size 155 2 v n (ZP (VW T line k n))/\Bl W wr
def PlZ (W:World)(T:Nat->Nat)(line:Nat)(k:Chk)(v i:Value)(wr:World):Prop:=∃ n:Nat,n<=7/\i=.int .u64 ((n+1:Nat):Int)/\wr.ownsRow W.heap.size 155 2 v (perN k+n) (ZP (VW T line k (perN k)++VX line n))/\Bl W wr
theorem ZG3 {T:Nat->Nat}{line:Nat}{k:Chk}(hk:k.Head){S:Nat}(hS:S < 18446744073709551616)(hl:line<=4096):∀ p∈YT T line k,p.1 < 18446744073709551616:=by
 intro p hp;unfold YT at hp;rcases ZK1.1 hp with hp|hp
 ·obtain ⟨i,hi,rfl⟩:=ZKz.1 hp
  have:=YF hk (ZLJ.1 hi);show (8 * line+hdN k i) * 8 < _;omega
 ·obtain ⟨a,ha,rfl⟩:=ZKz.1 hp
  have:=ZLJ.1 ha;show (8 * line+(a+1)) * 8 < _;omega
theorem ZGV {w w':World}{b:Nat}{k:Chk}(h:w.heap[b]?=some (.cells #[.int .i64 k.cl,.int .i64 k.ow,.int .u16 k.gen] 193 (0,0)))(hb:Bl w w'):
 w'.cell? ⟨b,0,none⟩=some (.int .i64 k.cl)/\w'.cell? ⟨b,1,none⟩=some (.int .i64 k.ow)/\w'.cell? ⟨b,2,none⟩=some (.int .u16 k.gen):=by
 obtain ⟨a0,a1,a2,_⟩:=Zb ((hb.block _ (heap_lt h)).trans h);exact ⟨a0,a1,a2⟩
theorem Yg {a b:World}{x0:Nat}(hab:Below x0 a b){M S:Nat}(hM:M < 18446744073709551616):
 ∀ V,Bl b V->Calls prog 74 #[.slice (some ⟨V.heap.size,0,none⟩) 1 1] (V.alloc (.cells #[.int .u64 M,.int .u64 S] 155)) fun e w'=>∃ r,e=.returned r/\Prg w' b.heap.size r (Zf [(M,S)])/\Bl b w':=by
 intro V hb;have hs:Seen (V.alloc (.cells #[.int .u64 M,.int .u64 S] 155)) V.heap.size 0 (ZP [(M,S)]):=fun j u hu=>by
  rw [ZLI,ZC (ZB _ _)]
  match j with
  |0=>cases hu;rfl
  |1=>cases hu;rfl
  |j+2=>simp [ZP] at hu
 refine (X9 (c:=1) hs (by simp) (by simp) (fun p hp=>by rcases ZLL.1 hp with rfl;exact hM)).mono ?_;rintro e w' ⟨g,cap,rfl,h1,h2⟩;have hz:b.heap.size<=(V.alloc (.cells #[.int .u64 M,.int .u64 S] 155)).heap.size:=by have:=hb.size;simp;omega
 exact ⟨_,rfl,h1.mono hz,(ZA hb).trans (h2.mono hz)⟩
theorem ZEs (hT:NTab w T)(hS:Tab w){k:Chk}(hk:k.Head)(h0:0<=k.cl){line:Nat}(hl:line<=4064):
 Calls prog 167 #[.int .i64 line,hdV k] w fun e w'=>∃ v,e=.returned (.tuple #[v,.int .i64 0])/\Prg w' w.heap.size v (Za [YT T line k,[(line * 64,ZX T k.info)]])/\Bl w w':=by
 have hcl:=hk.cl;obtain ⟨z1,z2,z3,z4,z5,z6⟩:=hk.sizes;have hg:=hk.gen;have hgb:Blk.Good ⟨k.gen,0,176⟩:=⟨hg,.inl ⟨rfl,rfl⟩⟩
 have hpp:0 < per k.cl:=by have:=wds_cases k.cl;unfold per;repeat' split <;> omega
 have hp1:1<=perN k:=by omega
 have HPO:=zh (fun w1=>Ud (w:=w1) hl);have HF:=zh (fun w1 (hb:Bl w w1)=>Vv (hS.below hb) (cl:=k.cl) (ow:=k.ow) (g:=k.gen));rw [ZLG (show 0 < per k.cl/\0<=k.ow/\k.ow < 8 by omega)] at HF;have HBW:=zh (fun w1 (hb:Bl w w1)=>ZAA (hT.below hb nR) hgb);have HHW:=zh (fun w1 (hb:Bl w w1)=>ZAN (hT.below hb nR) hk);have HPE:=zh (fun w1 (hb:Bl w w1)=>per_any k.cl w1 (hS.below hb));rw [z1] at HPE;have HOF:=zh (fun (j:Nat) (hj:j < perN k) (w1:World) (hb:Bl w w1)=>ZGs hk hj▸offset_any k.cl j w1 (hS.below hb));have HST:=zh (fun w1=>Yf (w:=w1) (line:=line) (by omega));have hslt:=XL hT hgb.info_lt;have hslt2:=XL hT hk.info_lt;have d3:((k.gen:Int) == 0)=false:=by simp;omega
 obtain ⟨S,hSS⟩:=xE (ZX T (Blk.info ⟨k.gen,0,176⟩));rw [<-hSS] at HBW hslt;have HSS:=zh hSS;obtain ⟨S2,hS2⟩:=xE (ZX T k.info);rw [<-hS2] at HHW hslt2 ⊢;obtain ⟨M,hM⟩:∃ M:Nat,M=line * 64:=⟨_,rfl⟩
 rw [<-hM] at HST ⊢;have b1:(M:Int)<=262144:=by omega
 have HL:=zh hM;have HK:=zh hk;have HZ:=zh (And.intro z3 (And.intro hp1 (And.intro hslt hslt2)));unfold hdV bkV at *;clear hT hS hk hcl z1 z2 z3 z4 z5 z6 hg hgb hpp hp1 hslt hslt2 hSS hS2 hM hl h0;go_in;go_wp2_with fail;refine (HPO.o _).mono ?_;rintro e w' ⟨rfl,rfl⟩;go_wp2_with fail;refine (HF.o _ (ZA (Below.refl _ w))).mono ?_;rintro e w1 ⟨rfl,hb⟩;have hh:w1.heap[w.heap.size]?=some (.cells #[.int .i64 k.cl,.int .i64 k.ow,.int .u16 k.gen] 193 (0,0)):=(hb.block _ (by simp)).trans (ZB _ _);have HH1:=zh hh;have HB1:=zh ((ZA (Below.refl _ w)).trans (hb.mono (by simp)));obtain ⟨a0,a1,a2,_⟩:=Zb hh;clear hh hb HF HPO;go_wp2_with fail;refine (HBW.o _ HB1.o).mono ?_;rintro e w2 ⟨rfl,hb⟩;have HB2:=zh (HB1.o.trans (hb.mono HB1.o.size));have HH2:=zh ((hb.block _ (heap_lt HH1.o)).trans HH1.o);clear hb a0 a1 a2 HB1 HH1 HBW;obtain ⟨a0,a1,a2,_⟩:=Zb HH2.o;go_wp2_with fail;refine (HPE.o _ HB2.o).mono ?_;rintro e w' ⟨rfl,rfl⟩;go_wp2_with fail
 go_loopw [6,33] (fun v i wr=>PlB w2 T line k v i wr) (fun _ i _=>perN k - (intOf i).toNat)
 case atStart=>exact ⟨0,by omega,rfl,ZLD _ _ _ _,bR⟩
 case round=>
  obtain ⟨n,hn,rfl,hown,hbel⟩:=hrel;have HB3:=zh (HB2.o.trans (hbel.mono HB2.o.size));have HH3:=zh ((hbel.block _ (heap_lt HH2.o)).trans HH2.o);have HO3:=zh hown;have HBL:=zh hbel;clear a0 a1 a2;obtain ⟨a0,a1,a2,_⟩:=Zb HH3.o
  by_cases hlt:n < perN k
  ·have hlt2:(n:Int) < perN k:=by omega
   have hp62:=HZ.o.1;have hn62:(n:Int) < 62:=by omega
   obtain ⟨ra,rc,hv⟩:=ZR hown;subst hv;clear hown hbel;have hle:=YF HK.o hlt;obtain ⟨N,hN⟩:∃ N:Nat,N=hdN k n:=⟨_,rfl⟩
   have HOF2:=zh (HOF.o n hlt);rw [<-hN] at HOF2 hle;have b2:(N:Int)<=256:=by omega
   have HN:=zh hN;clear hle hN;go_wp2_with fail;refine (HOF2.o _ HB3.o).mono ?_;rintro e w' ⟨rfl,rfl⟩;go_wp2_with fail;refine (HST.o _).mono ?_;rintro e w' ⟨rfl,rfl⟩;have e1:=zh (show ((M:Int)+(N:Int) * 8)=((M+N * 8:Nat):Int) by omega);go_wp2_with (at_builtin;refine ZT elWrites rfl _ _ rfl HO3.o rfl rfl ?c1 rfl ?c2 ?c3 ?c4 ?c5 ?_)
   case c1=>rfl
   case c2=>exact ⟨rfl,rfl⟩
   case c3=>unfold maxLen;omega
   case c4=>omega
   case c5=>exact HBL.o.size
   intro g4 cap4 w5 hop5 hgr5 hg5
   have G:=zh (show PlB w2 T line k (.slice (some ⟨g4,0,none⟩) (n+1) cap4) (.int .i64 ((n+1:Nat):Int)) w5 from ⟨n+1,by omega,rfl,by
    rw [ZDk,Zk,<-HN.o,<-HSS.o,show (8 * line+N) * 8=M+N * 8 by have:=HL.o;omega];rw [e1.o] at hop5;exact hop5,ZN HBL.o hgr5 HBL.o.size (fun b hb=>(HO3.o.lt b hb).1)⟩)
   clear hop5 hgr5 hg5;go_wp2_with fail;go_roundw
   case rel=>simpa using G.o
   case measure=>simp [intOf];omega
  ·obtain rfl:n=perN k:=by omega
   obtain ⟨ra,rc,hv⟩:=ZR hown;subst hv;clear hown hbel HOF;have d1:¬ ((perN k:Int) < perN k):=by omega
   go_wp2_with fail
   go_loopw [6,11] (fun v i wr=>PlZ w2 T line k v i wr) (fun _ i _=>8 - (intOf i).toNat)
   case atStart=>exact ⟨0,by omega,rfl,by rw [show VX line 0=[] from rfl,List.append_nil];exact HO3.o,HBL.o⟩
   case round=>
    obtain ⟨n,hn,rfl,hown,hbel⟩:=hrel;have HB4:=zh (HB2.o.trans (hbel.mono HB2.o.size));have HH4:=zh ((hbel.block _ (heap_lt HH2.o)).trans HH2.o);have HO4:=zh hown;have HBL4:=zh hbel;clear a0 a1 a2;obtain ⟨a0,a1,a2,_⟩:=Zb HH4.o;obtain ⟨ra,rc,hv⟩:=ZR hown;subst hv;have hp62:=HZ.o.1
    by_cases hlt:n < 7
    ·obtain ⟨m,hm⟩:=xE (n+1)
     have HM:=zh hm;rw [<-hm];have hlt2:(m:Int) < 8:=by omega
     clear hown hbel hm;go_wp2_with fail;refine (HST.o _).mono ?_;rintro e w' ⟨rfl,rfl⟩;have e1:=zh (show ((M:Int)+(m:Int) * 8)=((M+m * 8:Nat):Int) by omega);go_wp2_with (at_builtin;refine ZT elWrites rfl _ _ rfl HO4.o rfl rfl ?c1 rfl ?c2 ?c3 ?c4 ?c5 ?_)
     case c1=>rfl
     case c2=>exact ⟨rfl,rfl⟩
     case c3=>unfold maxLen;omega
     case c4=>omega
     case c5=>exact HBL4.o.size
     intro g4 cap4 w5 hop5 hgr5 hg5
     have G:=zh (show PlZ w2 T line k (.slice (some ⟨g4,0,none⟩) (perN k+n+1) cap4) (.int .u64 ((m+1:Nat):Int)) w5 from ⟨n+1,by omega,by rw [HM.o],by
      rw [ZDl,<-List.append_assoc,Zk,show (8 * line+(n+1)) * 8=M+m * 8 by have:=HL.o;have:=HM.o;omega];rw [e1.o] at hop5;exact hop5,ZN HBL4.o hgr5 HBL4.o.size (fun b hb=>(HO4.o.lt b hb).1)⟩)
     clear hop5 hgr5 hg5;go_wp2_with fail;go_roundw
     case rel=>simpa using G.o
     case measure=>have:=HM.o;simp [intOf];omega
    ·obtain rfl:n=7:=by omega
     have d2:¬ (((7+1:Nat):Int) < 8):=by omega
     clear hown hbel HO3 HB3 HH3 HBL HH2;go_wp2_with fail;have HHW1:=zh (XR HB4.o HHW.o);have HSS1:=zh (Yg HB4.o (M:=M) (S:=S2) (by omega));have HR0:=zh (Below.refl wr.heap.size wr);clear HHW
     go_cut [12] (fun v wx=>Prg wx wr.heap.size v (Zf [(M,S2)])/\Bl wr wx)
     ·go_region_held3 (fun w'=>w'.cell? ⟨w.heap.size,0,none⟩=some (.int .i64 k.cl)/\w'.cell? ⟨w.heap.size,1,none⟩=some (.int .i64 k.ow)/\w'.cell? ⟨w.heap.size,2,none⟩=some (.int .u16 k.gen))
       (exact ZGV HH4.o (by repeat (with_reducible first|assumption|exact HR0.o|apply ZA|apply ZD)))
       (first
         |(go_at_call 185;refine (HST.o _).mono ?_;rintro e V1 ⟨rfl,rfl⟩)
         |(go_at_call 210;refine (HHW1.o _ (by repeat (with_reducible first|assumption|exact HR0.o|apply ZA|apply ZD))).mono ?_;rintro e V2 ⟨rfl,hb2⟩)
         |(go_at_call 74;refine (HSS1.o _ (by repeat (with_reducible first|assumption|exact HR0.o|apply ZA|apply ZD))).mono ?_;rintro e V3 ⟨r,rfl,hp3,hb3⟩))
      all_goals
       go_wp2_with fail;go_meet;exact ⟨hp3,hb3⟩
     ·obtain ⟨hp,hbx⟩:=hcut
      have HP1:=zh hp;have HBX:=zh hbx;clear hp hbx HHW1 HSS1 HR0;have HW7:=zh (show Wrt wr w2.heap.size (.slice ra (perN k+7) rc) (YT T line k) from by
       unfold Wrt YT;rw [ZK4,X4,X5];exact HO4.o)
      have HWL:=zh (show (YT T line k).length=perN k+7 by unfold YT;rw [ZK4,X4,X5]);have HST2:=zh (YV HW7.o (by have:=HWL.o;omega) (by have:=HWL.o;have:=HZ.o.1;omega) (ZG3 HK.o HZ.o.2.2.2 (by have:=HL.o;omega)));clear HW7 HO4;go_wp2_with fail;refine (HST2.o _ HBX.o).mono ?_;rintro e w8 ⟨r8,rfl,hp8,hb8⟩;have hle1:=Ym (YT T line k);have hle2:=Ym [(M,S2)];have hwl:=HWL.o;have hp62b:=HZ.o.1;have HTH:=zh (Vb hp8 (HP1.o.below hb8) (Zl _) (Zl _) (by simp at hle2;omega));have HB8:=zh (HB4.o.trans ((HBX.o.mono nR).trans (hb8.mono HBX.o.size) |>.mono HB4.o.size));have hr0:Bl w8 w8:=bR;clear hle1 hle2 hwl hp62b hp8 hb8 HP1 HBX HST2;go_wp2_with fail;refine (HTH.o _ hr0).mono ?_;rintro e w9 ⟨r9,rfl,hp9,hb9⟩;have HP9:=zh (show Prg w9 w.heap.size r9 (Za [YT T line k,[(M,S2)]]) from by
       have e:Za [YT T line k,[(M,S2)]]=Zf (YT T line k)++Zf [(M,S2)]:=by simp [Za]
       rw [e];exact hp9.mono HB8.o.size)
      have HB9:=zh (HB8.o.trans (hb9.mono HB8.o.size));clear hp9 hb9 HTH hr0;go_wp2;go_returns;exact ⟨_,rfl,HP9.o,HB9.o⟩
end
end Go.Proofs.YteomliechfdhhaaGreatDoor.Dv
