/- Part 17. -/
import Derived.Test.YtbpeehmepehkdaaGreatDoorY16
set_option maxHeartbeats 8000000
set_option maxRecDepth 20000
set_option linter.all false
namespace Go.Proofs.YtbpeehmepehkdaaGreatDoor.Dv
open Tryz
section
open Go.RowKit Go.Proofs.YtbpeehmepehkdaaGreatDoor.Size
def HRep (T c:Nat->Nat)(l0 n:Nat)(ch:Nat->Chk):Prop:=∀ k,k < n->CRep T c (8 * (l0+32 * k)) (ch k)
def Pay (l0 n:Nat)(ch:Nat->Chk)(x:Nat):Prop:=∀ k,k < n->(∀ a,a < 8->x≠8 * (l0+32 * k)+a)/\(0<=(ch k).cl->∀ i,i < perN (ch k)->x≠8 * (l0+32 * k)+hdN (ch k) i)
theorem HRep.congr {T c c':Nat->Nat}{l0 n:Nat}{ch:Nat->Chk}(h:HRep T c l0 n ch)(hc:∀ x,¬ Pay l0 n ch x->c' x=c x):HRep T c' l0 n ch:=by
 intro k hk;refine (h k hk).congr (fun a ha=>hc _ (fun hp=>(hp k hk).1 a ha rfl)) (fun h0 i hi=>hc _ (fun hp=>(hp k hk).2 h0 i hi rfl))
theorem HRep.wrs {T c:Nat->Nat}{l0 n:Nat}{ch:Nat->Chk}(h:HRep T c l0 n ch){l:List (Nat×Nat)}(hl:∀ p∈l,Pay l0 n ch (p.1 / 8)):HRep T (wrs c l) l0 n ch:=
 h.congr fun x hx=>YU fun p hp e=>hx (e▸hl p hp)
theorem Pay.low {l0 n:Nat}{ch:Nat->Chk}{x:Nat}(h:x < 8 * l0):Pay l0 n ch x:=fun k hk=>
 ⟨fun a ha=>by omega,fun _ i hi=>by have:8<=hdN (ch k) i:=Nat.le_add_right _ _;omega⟩
theorem JL (k:Chk)(i:Nat):8<=hdN k i:=Nat.le_add_right _ _
theorem Pay.word {T c:Nat->Nat}{l0 n:Nat}{ch:Nat->Chk}(hR:HRep T c l0 n ch){k j a:Nat}(hk:k < n)(hj:j < perN (ch k))(h1:1<=a)(h2:a < Zu (ch k)):Pay l0 n ch (8 * (l0+32 * k)+hdN (ch k) j+a):=fun m hm=>by
 have hle:=YI (hR k hk).head hj;have hge:=JL (ch k) j;refine ⟨fun b hb=>by omega,fun _ i hi=>?_⟩;have hle2:=YI (hR m hm).head hi;have hge2:=JL (ch m) i
 by_cases e:m=k
 ·subst e
  by_cases e2:i=j
  ·subst e2;omega
  ·have:=QD (hR m hm).head (i:=i) (j:=j) (a:=a) e2 h2
   omega
 ·omega
def ZDo (ch:Nat->Chk)(k:Nat)(x:Chk):Nat->Chk:=fun m=>if m=k then x else ch m
theorem ZAc (ch:Nat->Chk)(k:Nat)(x:Chk):ZDo ch k x k=x:=ZLX rfl
theorem QZ (ch:Nat->Chk){k m:Nat}(x:Chk)(h:m≠k):ZDo ch k x m=ch m:=ZLU h
theorem HRep.after {T c:Nat->Nat}{l0 n:Nat}{ch:Nat->Chk}(h:HRep T c l0 n ch){k:Nat}(hk:k < n)(h0:0<=(ch k).cl){tk:List (Nat×Nat)}{dr:List Nat}(hc:(ch k).Can tk dr):
 HRep T (Dv.wrs c (ZR T (l0+32 * k) (ch k) tk dr)) l0 n (ZDo ch k ((ch k).after tk dr)):=by
 intro m hm
 by_cases e:m=k
 ·subst e
  rw [ZAc];exact (h m hm).after h0 hc
 ·rw [QZ _ _ e]
  have hd:=(h k hk).head;have hsz:=hd.sizes.2.2.2.2.2
  have ho:∀ x,8 * (l0+32 * m)<=x->x < 8 * (l0+32 * m)+256->Dv.wrs c (ZR T (l0+32 * k) (ch k) tk dr) x=c x:=fun x h1 h2=>
   U8 (by omega) (fun i hi=>by
    have:=YI hd (hc.lt i hi);have:=hd.sizes.2.2.2.1;have:=JL (ch k) i;omega)
  refine (h m hm).congr (fun a ha=>ho _ (by omega) (by omega)) (fun _ i hi=>?_);have:=YI (h m hm).head hi;exact ho _ (by omega) (by have:=(h m hm).head.sizes.2.2.2.1;omega)
def cmE (off:Nat)(l:List (Nat×Nat)):List (Nat×Nat):=(List.range l.length).flatMap fun i=>[(off+64+i * 16,(l.getD i (0,0)).1),(off+64+i * 16+8,(l.getD i (0,0)).2)]
theorem ZBO {off:Nat}{l:List (Nat×Nat)}{p:Nat×Nat}(h:p∈cmE off l):∃ i,i < l.length/\(p=(off+64+i * 16,(l.getD i (0,0)).1)\/p=(off+64+i * 16+8,(l.getD i (0,0)).2)):=by
 unfold cmE at h;obtain ⟨i,hi,hp⟩:=List.mem_flatMap.1 h;refine ⟨i,ZLz.1 hi,?_⟩;simpa using hp
theorem QW (off:Nat)(l:List (Nat×Nat)):(cmE off l).length=2 * l.length:=by
 have key:∀ n:Nat,((List.range n).flatMap fun i=>[(off+64+i * 16,(l.getD i (0,0)).1),(off+64+i * 16+8,(l.getD i (0,0)).2)]).length=2 * n:=by
  intro n
  induction n with
  |zero=>rfl
  |succ n ih=>rw [ZLy,List.flatMap_append,ZLc,ih];simp;omega
 exact key _
def cmL (off v:Nat)(l:List (Nat×Nat)):List (List (Nat×Nat)):=[cmE off l,[(off,v)],l,[(off,0)]]
theorem ZJr {c:Nat->Nat}{off size v:Nat}{l:List (Nat×Nat)}(h8:off % 8=0)(hs:64+16 * l.length<=size)(hl:∀ p∈l,p.1 % 8=0){y:Nat}(hy:y * 8 < off\/off+size<=y * 8):Dv.wrs c (cmL off v l).flatten y=Dv.wrs c l y:=by
 have e:(cmL off v l).flatten=cmE off l++([(off,v)]++(l++[(off,0)])):=by simp [cmL]
 rw [e,YF,YF,YF];rw [YU (l:=[(off,0)]) (fun p hp=>by simp at hp;subst hp;simp only;omega)];have hb:∀ x,x=y->Dv.wrs (Dv.wrs c (cmE off l)) [(off,v)] x=c x:=by
  intro x hx;subst hx;rw [YU (l:=[(off,v)]) (fun p hp=>by simp at hp;subst hp;simp only;omega)];refine YU (fun p hp=>?_);obtain ⟨i,hi,e|e⟩:=ZBO hp <;> subst e <;> simp only <;> omega
 have key:∀ (l:List (Nat×Nat)) (a b:Nat->Nat),a y=b y->Dv.wrs a l y=Dv.wrs b l y:=by
  intro l
  induction l with
  |nil=>intro a b h;exact h
  |cons p l ih=>
   intro a b h;rw [YS,YS];refine ih _ _ ?_;unfold upd
   by_cases e:y=p.1 / 8
   ·simp [e]
   ·simp [e,h]
 exact key l _ _ (hb y rfl)
theorem ZBP {c:Nat->Nat}{off v:Nat}{l:List (Nat×Nat)}:Dv.wrs c (cmL off v l).flatten (off / 8)=0:=by
 have e:(cmL off v l).flatten=(cmE off l++[(off,v)]++l)++[(off,0)]:=by simp [cmL]
 rw [e,YF,YS,VV];unfold upd;simp
theorem ZG5 (off v:Nat)(l:List (Nat×Nat)):Zw (cmL off v l)=6 * l.length+8:=by
 show (2 * (cmE off l).length+1)+((2 * 1+1)+((2 * l.length+1)+((2 * 1+1)+0)))=_;rw [QW];omega
variable {w w' w'':World}{A:DAd}{F F' F'':Nat->Option ZM}{L x x':Nat}{T c c':Nat->Nat}
def HAd.own (H:HAd)(k:Nat):Prop:=k=H.pb\/k=H.rb\/k=H.vb
structure HW (w:World)(A:DAd)(F:Nat->Option ZM)(L:Nat)(T c:Nat->Nat)(x:Nat)(H:HAd)(lk:Bool)(p:Nat->Plc)(ex:Nat)(res held:Nat->Option Nat):Prop where
 aq:Aq w A F L T c x
 hp:HpW w A H lk
 set:SetW w H.sb H.pb H.t A H.n H.cap p
 rm:QJ w H.rb ex res
 vm:ZB1 w H.vb ex held
 fh:F H.hb=none
 fs:F H.sb=none
 fo:∀ k,H.own k->F k=none
 rv:H.rb≠H.vb
 hn:H.hb≠H.pb
 nt:∀ k,H.own k->k≠1/\k≠0
variable {H:HAd}{lk:Bool}{p p':Nat->Plc}{ex ex':Nat}{res res' held held':Nat->Option Nat}
structure HMv (F F':Nat->Option ZM)(H:HAd)(w w':World):Prop where
 only:Only (fun k=>F k≠none\/H.own k) w w'
 same:∀ k,k < w.heap.size->F' k=F k
theorem HMv.refl (F:Nat->Option ZM)(H:HAd)(w:World):HMv F F H w w:=⟨Only.refl _ _,fun _ _=>rfl⟩
theorem HMv.trans {a b d:World}(h:HMv F F' H a b)(k:HMv F' F'' H b d):HMv F F'' H a d:=
 ⟨h.only.trans k.only (fun i hi hf=>hf.imp (fun q=>by rw [h.same i hi] at q;exact q) id),fun i hi=>(k.same i (ZLq hi h.only.size)).trans (h.same i hi)⟩
theorem HMv.of_below (hb:Bl w w'):HMv F F H w w':=⟨Only.of_below hb,fun _ _=>rfl⟩
theorem HMv.of_moved (hm:Moved F F' w w'):HMv F F' H w w':=⟨hm.only.mono fun _ h=>.inl h,hm.same⟩
theorem HW.below (h:HW w A F L T c x H lk p ex res held)(hb:Bl w w'):HW w' A F L T c x H lk p ex res held where
 aq:=h.aq.below hb
 hp:=h.hp.below hb
 set:=h.set.below hb
 rm:=h.rm.kept (hb.block _ h.rm.lt)
 vm:=h.vm.kept (hb.block _ h.vm.lt)
 fh:=h.fh
 fs:=h.fs
 fo:=h.fo
 rv:=h.rv
 hn:=h.hn
 nt:=h.nt
theorem HW.ar (h:HW w A F L T c x H lk p ex res held):Ar w A F L T c:=h.aq.ar
theorem HW.ra (h:HW w A F L T c x H lk p ex res held)(hr:Ra w A F L T c' x' w'):∃ F',HW w' A F' L T c' x' H lk p ex res held/\HMv F F' H w w':=by
 obtain ⟨F',ha,hm⟩:=hr;have hk:∀ k,k < w.heap.size->F k=none->w'.heap[k]?=w.heap[k]?:=fun k hk hf=>hm.only.block k hk (fun q=>q hf)
 have hpo:F H.pb=none:=h.fo _ (.inl rfl);have hro:F H.rb=none:=h.fo _ (.inr (.inl rfl));have hvo:F H.vb=none:=h.fo _ (.inr (.inr rfl));refine ⟨F',⟨ha,h.hp.agree (hk _ (heap_lt h.hp.hp) h.fh),h.set.agree (hk _ (heap_lt h.set.set) h.fs) (hk _ h.set.row.lt hpo),h.rm.kept (hk _ h.rm.lt hro),h.vm.kept (hk _ h.vm.lt hvo),?_,?_,?_,h.rv,h.hn,h.nt⟩,HMv.of_moved hm⟩
 ·rw [hm.same _ (heap_lt h.hp.hp)];exact h.fh
 ·rw [hm.same _ (heap_lt h.set.set)];exact h.fs
 ·intro k hk
  rw [hm.same k (by rcases hk with rfl|rfl|rfl;exact h.set.row.lt;exact h.rm.lt;exact h.vm.lt)];exact h.fo k hk
theorem HW.owns (h:HW w A F L T c x H lk p ex res held)(ho:Only H.own w w')(hs:SetW w' H.sb H.pb H.t A H.n H.cap p')(hr:QJ w' H.rb ex' res')(hv:ZB1 w' H.vb ex' held'):HW w' A F L T c x H lk p' ex' res' held'/\HMv F F H w w':=by
 have hlt:∀ k,k < w.heap.size->¬ H.own k->w'.heap[k]?=w.heap[k]?:=ho.block;have hmap:¬ H.own H.hb:=by
  rintro (e|e|e)
  ·exact h.hn e
  ·obtain ⟨D,⟨es,cl,h1,_⟩,_⟩:=h.rm
   have h2:=h.hp.hp;rw [e,h1] at h2;simp at h2
  ·obtain ⟨D,⟨es,cl,h1,_⟩,_⟩:=h.vm
   have h2:=h.hp.hp;rw [e,h1] at h2;simp at h2
 refine ⟨⟨?_,h.hp.agree (hlt _ (heap_lt h.hp.hp) hmap),hs,hr,hv,h.fh,h.fs,h.fo,h.rv,h.hn,h.nt⟩,⟨ho.mono fun _ h=>.inr h,fun _ _=>rfl⟩⟩;obtain ⟨s,h1,h2,h3,h4⟩:=h.aq.dev;refine h.aq.agree (fun k hk=>?_) ho.size;rcases hk with hk|rfl|rfl
 ·exact hlt k (h1.lt k hk) (fun q=>hk (h.fo k q))
 ·exact hlt _ h.aq.nib.lt (fun q=>(h.nt _ q).1 rfl)
 ·exact hlt _ h.aq.tab.lt (fun q=>(h.nt _ q).2 rfl)
theorem HW.places (h:HW w A F L T c x H lk p ex res held)(ho:Only (fun k=>k=H.pb) w w')(hs:SetW w' H.sb H.pb H.t A H.n H.cap p'):HW w' A F L T c x H lk p' ex res held/\HMv F F H w w':=by
 have hne:∀ {b ex} {f:Nat->Option Nat} {k q C},UMap prog k q C w b ex f->b≠H.pb:=by
  intro b ex f k q C hu e;obtain ⟨D,⟨es,cl,h1,_⟩,_⟩:=hu;obtain ⟨cc,h2,_⟩:=h.set.row;rw [e,h2] at h1;simp at h1
 exact h.owns (ho.mono fun _ e=>.inl e) hs (h.rm.kept (ho.block _ h.rm.lt (hne h.rm))) (h.vm.kept (ho.block _ h.vm.lt (hne h.vm)))
theorem Uy {line:Nat}(h:line<=4064):Calls prog 257 #[.int .i64 line] w fun e w'=>e=.returned (.bool true)/\w=w':=by
 have d1:decide ((0:Int)<=line)=true:=by simp
 have d2:decide ((line:Int)<=4064)=true:=ZLp (by omega);clear h;go_in;go_wp2;go_returns;exact ⟨rfl,rfl⟩
def Vo (T:Nat->Nat)(line:Nat)(k:Chk)(n:Nat):List (Nat×Nat):=(List.range n).map fun i=>((8 * line+hdN k i) * 8,Zc T (Blk.info ⟨k.gen,0,176⟩))
def Vp (line n:Nat):List (Nat×Nat):=(List.range n).map fun a=>((8 * line+(a+1)) * 8,0)
def YY (T:Nat->Nat)(line:Nat)(k:Chk):List (Nat×Nat):=Vo T line k (perN k)++Vp line 7
theorem ZEF (T:Nat->Nat)(line:Nat)(k:Chk)(n:Nat):Vo T line k (n+1)=Vo T line k n++[((8 * line+hdN k n) * 8,Zc T (Blk.info ⟨k.gen,0,176⟩))]:=by
 unfold Vo;rw [ZLy,ZLs];rfl
theorem ZEG (line n:Nat):Vp line (n+1)=Vp line n++[((8 * line+(n+1)) * 8,0)]:=by
 unfold Vp;rw [ZLy,ZLs];rfl
theorem VM (T:Nat->Nat)(line:Nat)(k:Chk)(n:Nat):(Vo T line k n).length=n:=by simp [Vo]
theorem VN (line n:Nat):(Vp line n).length=n:=by simp [Vp]
def PlB (W:World)(T:Nat->Nat)(line:Nat)(k:Chk)(v i:Value)(wr:World):Prop:=∃ n:Nat,n<=perN k/\i=.int .i64 (n:Nat)/\wr.ownsRow W.heap.size 138 2 v n (ZT (Vo T line k n))/\Bl W wr
def PlZ (W:World)(T:Nat->Nat)(line:Nat)(k:Chk)(v i:Value)(wr:World):Prop:=∃ n:Nat,n<=7/\i=.int .u64 ((n+1:Nat):Int)/\wr.ownsRow W.heap.size 138 2 v (perN k+n) (ZT (Vo T line k (perN k)++Vp line n))/\Bl W wr
theorem ZHq {T:Nat->Nat}{line:Nat}{k:Chk}(hk:k.Head){S:Nat}(hS:S < 18446744073709551616)(hl:line<=4096):∀ p∈YY T line k,p.1 < 18446744073709551616:=by
 intro p hp;unfold YY at hp;rcases ZLZ.1 hp with hp|hp
 ·obtain ⟨i,hi,rfl⟩:=ZLb.1 hp
  have:=YI hk (ZLz.1 hi);show (8 * line+hdN k i) * 8 < _;omega
 ·obtain ⟨a,ha,rfl⟩:=ZLb.1 hp
  have:=ZLz.1 ha;show (8 * line+(a+1)) * 8 < _;omega
theorem ZHK {w w':World}{b:Nat}{k:Chk}(h:w.heap[b]?=some (.cells #[.int .i64 k.cl,.int .i64 k.ow,.int .u16 k.gen] 209 (0,0)))(hb:Bl w w'):
 w'.cell? ⟨b,0,none⟩=some (.int .i64 k.cl)/\w'.cell? ⟨b,1,none⟩=some (.int .i64 k.ow)/\w'.cell? ⟨b,2,none⟩=some (.int .u16 k.gen):=by
 obtain ⟨a0,a1,a2,_⟩:=ZY ((hb.block _ (heap_lt h)).trans h);exact ⟨a0,a1,a2⟩
theorem Yl {a b:World}{x0:Nat}(hab:Below x0 a b){M S:Nat}(hM:M < 18446744073709551616):
 ∀ V,Bl b V->Calls prog 111 #[.slice (some ⟨V.heap.size,0,none⟩) 1 1] (V.alloc (.cells #[.int .u64 M,.int .u64 S] 138)) fun e w'=>∃ r,e=.returned r/\Prg w' b.heap.size r (Zk [(M,S)])/\Bl b w':=by
 intro V hb;have hs:Seen (V.alloc (.cells #[.int .u64 M,.int .u64 S] 138)) V.heap.size 0 (ZT [(M,S)]):=fun j u hu=>by
  rw [ZLu,ZD (ZC _ _)]
  match j with
  |0=>cases hu;rfl
  |1=>cases hu;rfl
  |j+2=>simp [ZT] at hu
 refine (Uc (c:=1) hs (by simp) (by simp) (fun p hp=>by rcases ZLt.1 hp with rfl;exact hM)).mono ?_;rintro e w' ⟨g,cap,rfl,h1,h2⟩;have hz:b.heap.size<=(V.alloc (.cells #[.int .u64 M,.int .u64 S] 138)).heap.size:=by have:=hb.size;simp;omega
 exact ⟨_,rfl,h1.mono hz,(ZA hb).trans (h2.mono hz)⟩
theorem ZFT (hT:NTab w T)(hS:Tab w){k:Chk}(hk:k.Head)(h0:0<=k.cl){line:Nat}(hl:line<=4064):
 Calls prog 217 #[.int .i64 line,hdV k] w fun e w'=>∃ v,e=.returned (.tuple #[v,.int .i64 0])/\Prg w' w.heap.size v (Ze [YY T line k,[(line * 64,Zc T k.info)]])/\Bl w w':=by
 have hcl:=hk.cl;obtain ⟨z1,z2,z3,z4,z5,z6⟩:=hk.sizes;have hg:=hk.gen;have hgb:Blk.Good ⟨k.gen,0,176⟩:=⟨hg,.inl ⟨rfl,rfl⟩⟩
 have hpp:0 < per k.cl:=by have:=wds_cases k.cl;unfold per;repeat' split <;> omega
 have hp1:1<=perN k:=by omega
 have HPO:=zh (fun w1=>Uy (w:=w1) hl);have HF:=zh (fun w1 (hb:Bl w w1)=>UJ (hS.below hb) (cl:=k.cl) (ow:=k.ow) (g:=k.gen));rw [ZLp (show 0 < per k.cl/\0<=k.ow/\k.ow < 8 by omega)] at HF;have HBW:=zh (fun w1 (hb:Bl w w1)=>ZAX (hT.below hb nR) hgb);have HHW:=zh (fun w1 (hb:Bl w w1)=>ZAl (hT.below hb nR) hk);have HPE:=zh (fun w1 (hb:Bl w w1)=>per_any k.cl w1 (hS.below hb));rw [z1] at HPE;have HOF:=zh (fun (j:Nat) (hj:j < perN k) (w1:World) (hb:Bl w w1)=>ZHd hk hj▸offset_any k.cl j w1 (hS.below hb));have HST:=zh (fun w1=>Yj (w:=w1) (line:=line) (by omega));have hslt:=Xe hT hgb.info_lt;have hslt2:=Xe hT hk.info_lt;have d3:((k.gen:Int) == 0)=false:=by simp;omega
 obtain ⟨S,hSS⟩:=xE (Zc T (Blk.info ⟨k.gen,0,176⟩));rw [<-hSS] at HBW hslt;have HSS:=zh hSS;obtain ⟨S2,hS2⟩:=xE (Zc T k.info);rw [<-hS2] at HHW hslt2 ⊢;obtain ⟨M,hM⟩:∃ M:Nat,M=line * 64:=⟨_,rfl⟩
 rw [<-hM] at HST ⊢;have b1:(M:Int)<=262144:=by omega
 have HL:=zh hM;have HK:=zh hk;have HZ:=zh (And.intro z3 (And.intro hp1 (And.intro hslt hslt2)));unfold hdV bkV at *;clear hT hS hk hcl z1 z2 z3 z4 z5 z6 hg hgb hpp hp1 hslt hslt2 hSS hS2 hM hl h0;go_in;go_wp2_with fail;refine (HPO.o _).mono ?_;rintro e w' ⟨rfl,rfl⟩;go_wp2_with fail;refine (HF.o _ (ZA (Below.refl _ w))).mono ?_;rintro e w1 ⟨rfl,hb⟩;have hh:w1.heap[w.heap.size]?=some (.cells #[.int .i64 k.cl,.int .i64 k.ow,.int .u16 k.gen] 209 (0,0)):=(hb.block _ (by simp)).trans (ZC _ _);have HH1:=zh hh;have HB1:=zh ((ZA (Below.refl _ w)).trans (hb.mono (by simp)));obtain ⟨a0,a1,a2,_⟩:=ZY hh;clear hh hb HF HPO;go_wp2_with fail;refine (HBW.o _ HB1.o).mono ?_;rintro e w2 ⟨rfl,hb⟩;have HB2:=zh (HB1.o.trans (hb.mono HB1.o.size));have HH2:=zh ((hb.block _ (heap_lt HH1.o)).trans HH1.o);clear hb a0 a1 a2 HB1 HH1 HBW;obtain ⟨a0,a1,a2,_⟩:=ZY HH2.o;go_wp2_with fail;refine (HPE.o _ HB2.o).mono ?_;rintro e w' ⟨rfl,rfl⟩;go_wp2_with fail
 go_loopw [6,33] (fun v i wr=>PlB w2 T line k v i wr) (fun _ i _=>perN k - (intOf i).toNat)
 case atStart=>exact ⟨0,by omega,rfl,ZLn _ _ _ _,bR⟩
 case round=>
  obtain ⟨n,hn,rfl,hown,hbel⟩:=hrel;have HB3:=zh (HB2.o.trans (hbel.mono HB2.o.size));have HH3:=zh ((hbel.block _ (heap_lt HH2.o)).trans HH2.o);have HO3:=zh hown;have HBL:=zh hbel;clear a0 a1 a2;obtain ⟨a0,a1,a2,_⟩:=ZY HH3.o
  by_cases hlt:n < perN k
  ·have hlt2:(n:Int) < perN k:=by omega
   have hp62:=HZ.o.1;have hn62:(n:Int) < 62:=by omega
   obtain ⟨ra,rc,hv⟩:=ZN hown;subst hv;clear hown hbel;have hle:=YI HK.o hlt;obtain ⟨N,hN⟩:∃ N:Nat,N=hdN k n:=⟨_,rfl⟩
   have HOF2:=zh (HOF.o n hlt);rw [<-hN] at HOF2 hle;have b2:(N:Int)<=256:=by omega
   have HN:=zh hN;clear hle hN;go_wp2_with fail;refine (HOF2.o _ HB3.o).mono ?_;rintro e w' ⟨rfl,rfl⟩;go_wp2_with fail;refine (HST.o _).mono ?_;rintro e w' ⟨rfl,rfl⟩;have e1:=zh (show ((M:Int)+(N:Int) * 8)=((M+N * 8:Nat):Int) by omega);go_wp2_with (at_builtin;refine ZS elWrites rfl _ _ rfl HO3.o rfl rfl ?c1 rfl ?c2 ?c3 ?c4 ?c5 ?_)
   case c1=>rfl
   case c2=>exact ⟨rfl,rfl⟩
   case c3=>unfold maxLen;omega
   case c4=>omega
   case c5=>exact HBL.o.size
   intro g4 cap4 w5 hop5 hgr5 hg5
   have G:=zh (show PlB w2 T line k (.slice (some ⟨g4,0,none⟩) (n+1) cap4) (.int .i64 ((n+1:Nat):Int)) w5 from ⟨n+1,by omega,rfl,by
    rw [ZEF,Zm,<-HN.o,<-HSS.o,show (8 * line+N) * 8=M+N * 8 by have:=HL.o;omega];rw [e1.o] at hop5;exact hop5,ZL HBL.o hgr5 HBL.o.size (fun b hb=>(HO3.o.lt b hb).1)⟩)
   clear hop5 hgr5 hg5;go_wp2_with fail;go_roundw
   case rel=>simpa using G.o
   case measure=>simp [intOf];omega
  ·obtain rfl:n=perN k:=by omega
   obtain ⟨ra,rc,hv⟩:=ZN hown;subst hv;clear hown hbel HOF;have d1:¬ ((perN k:Int) < perN k):=by omega
   go_wp2_with fail
   go_loopw [6,11] (fun v i wr=>PlZ w2 T line k v i wr) (fun _ i _=>8 - (intOf i).toNat)
   case atStart=>exact ⟨0,by omega,rfl,by rw [show Vp line 0=[] from rfl,List.append_nil];exact HO3.o,HBL.o⟩
   case round=>
    obtain ⟨n,hn,rfl,hown,hbel⟩:=hrel;have HB4:=zh (HB2.o.trans (hbel.mono HB2.o.size));have HH4:=zh ((hbel.block _ (heap_lt HH2.o)).trans HH2.o);have HO4:=zh hown;have HBL4:=zh hbel;clear a0 a1 a2;obtain ⟨a0,a1,a2,_⟩:=ZY HH4.o;obtain ⟨ra,rc,hv⟩:=ZN hown;subst hv;have hp62:=HZ.o.1
    by_cases hlt:n < 7
    ·obtain ⟨m,hm⟩:=xE (n+1)
     have HM:=zh hm;rw [<-hm];have hlt2:(m:Int) < 8:=by omega
     clear hown hbel hm;go_wp2_with fail;refine (HST.o _).mono ?_;rintro e w' ⟨rfl,rfl⟩;have e1:=zh (show ((M:Int)+(m:Int) * 8)=((M+m * 8:Nat):Int) by omega);go_wp2_with (at_builtin;refine ZS elWrites rfl _ _ rfl HO4.o rfl rfl ?c1 rfl ?c2 ?c3 ?c4 ?c5 ?_)
     case c1=>rfl
     case c2=>exact ⟨rfl,rfl⟩
     case c3=>unfold maxLen;omega
     case c4=>omega
     case c5=>exact HBL4.o.size
     intro g4 cap4 w5 hop5 hgr5 hg5
     have G:=zh (show PlZ w2 T line k (.slice (some ⟨g4,0,none⟩) (perN k+n+1) cap4) (.int .u64 ((m+1:Nat):Int)) w5 from ⟨n+1,by omega,by rw [HM.o],by
      rw [ZEG,<-List.append_assoc,Zm,show (8 * line+(n+1)) * 8=M+m * 8 by have:=HL.o;have:=HM.o;omega];rw [e1.o] at hop5;exact hop5,ZL HBL4.o hgr5 HBL4.o.size (fun b hb=>(HO4.o.lt b hb).1)⟩)
     clear hop5 hgr5 hg5;go_wp2_with fail;go_roundw
     case rel=>simpa using G.o
     case measure=>have:=HM.o;simp [intOf];omega
    ·obtain rfl:n=7:=by omega
     have d2:¬ (((7+1:Nat):Int) < 8):=by omega
     clear hown hbel HO3 HB3 HH3 HBL HH2;go_wp2_with fail;have HHW1:=zh (Xi HB4.o HHW.o);have HSS1:=zh (Yl HB4.o (M:=M) (S:=S2) (by omega));have HR0:=zh (Below.refl wr.heap.size wr);clear HHW
     go_cut [12] (fun v wx=>Prg wx wr.heap.size v (Zk [(M,S2)])/\Bl wr wx)
     ·go_region_held3 (fun w'=>w'.cell? ⟨w.heap.size,0,none⟩=some (.int .i64 k.cl)/\w'.cell? ⟨w.heap.size,1,none⟩=some (.int .i64 k.ow)/\w'.cell? ⟨w.heap.size,2,none⟩=some (.int .u16 k.gen))
       (exact ZHK HH4.o (by repeat (with_reducible first|assumption|exact HR0.o|apply ZA|apply ZB)))
       (first
         |(go_at_call 230;refine (HST.o _).mono ?_;rintro e V1 ⟨rfl,rfl⟩)
         |(go_at_call 260;refine (HHW1.o _ (by repeat (with_reducible first|assumption|exact HR0.o|apply ZA|apply ZB))).mono ?_;rintro e V2 ⟨rfl,hb2⟩)
         |(go_at_call 111;refine (HSS1.o _ (by repeat (with_reducible first|assumption|exact HR0.o|apply ZA|apply ZB))).mono ?_;rintro e V3 ⟨r,rfl,hp3,hb3⟩))
      all_goals
       go_wp2_with fail;go_meet;exact ⟨hp3,hb3⟩
     ·obtain ⟨hp,hbx⟩:=hcut
      have HP1:=zh hp;have HBX:=zh hbx;clear hp hbx HHW1 HSS1 HR0;have HW7:=zh (show Wrt wr w2.heap.size (.slice ra (perN k+7) rc) (YY T line k) from by
       unfold Wrt YY;rw [ZLc,VM,VN];exact HO4.o)
      have HWL:=zh (show (YY T line k).length=perN k+7 by unfold YY;rw [ZLc,VM,VN]);have HST2:=zh (YZ HW7.o (by have:=HWL.o;omega) (by have:=HWL.o;have:=HZ.o.1;omega) (ZHq HK.o HZ.o.2.2.2 (by have:=HL.o;omega)));clear HW7 HO4;go_wp2_with fail;refine (HST2.o _ HBX.o).mono ?_;rintro e w8 ⟨r8,rfl,hp8,hb8⟩;have hle1:=Ys (YY T line k);have hle2:=Ys [(M,S2)];have hwl:=HWL.o;have hp62b:=HZ.o.1;have HTH:=zh (Vu hp8 (HP1.o.below hb8) (Zq _) (Zq _) (by simp at hle2;omega));have HB8:=zh (HB4.o.trans ((HBX.o.mono nR).trans (hb8.mono HBX.o.size) |>.mono HB4.o.size));have hr0:Bl w8 w8:=bR;clear hle1 hle2 hwl hp62b hp8 hb8 HP1 HBX HST2;go_wp2_with fail;refine (HTH.o _ hr0).mono ?_;rintro e w9 ⟨r9,rfl,hp9,hb9⟩;have HP9:=zh (show Prg w9 w.heap.size r9 (Ze [YY T line k,[(M,S2)]]) from by
       have e:Ze [YY T line k,[(M,S2)]]=Zk (YY T line k)++Zk [(M,S2)]:=by simp [Ze]
       rw [e];exact hp9.mono HB8.o.size)
      have HB9:=zh (HB8.o.trans (hb9.mono HB8.o.size));clear hp9 hb9 HTH hr0;go_wp2;go_returns;exact ⟨_,rfl,HP9.o,HB9.o⟩
def Chk.made (cl th:Int)(gen:Nat):Chk:=⟨cl,th,gen,fun _=>⟨gen,0,176⟩⟩
def YP (T:Nat->Nat)(line:Nat)(k:Chk):List (Nat×Nat):=YY T line k++[(line * 64,Zc T k.info)]
theorem VK (T:Nat->Nat)(line:Nat)(k:Chk):(YP T line k).map (·.1 / 8)=(List.range (perN k)).map (fun i=>8 * line+hdN k i)++(List.range 7).map (fun a=>8 * line+(a+1))++[8 * line]:=by
 unfold YP YY Vo Vp;rw [ZLs,ZLs,List.map_map,List.map_map]
 congr 1
 ·congr 1
  ·refine List.map_congr_left fun i _=>?_
   simp only [Function.comp];omega
  ·refine List.map_congr_left fun i _=>?_
   simp only [Function.comp];omega
 ·simp;omega
theorem ZCh {T:Nat->Nat}{line:Nat}{k:Chk}(hk:k.Head):((YP T line k).map (·.1 / 8)).Nodup:=by
 rw [VK,ZL3,ZL3];refine ⟨⟨?_,?_,?_⟩,by simp,?_⟩
 ·unfold List.Nodup
  rw [List.pairwise_map];refine List.Pairwise.imp_of_mem ?_ List.nodup_range;intro a b ha hb hab e;have:=QD hk (a:=0) hab (by have:=hk.sizes.2.2.2.1;omega);omega
 ·unfold List.Nodup
  rw [List.pairwise_map];exact List.Pairwise.imp (fun hab e=>by omega) List.nodup_range
 ·intro a ha b hb e
  obtain ⟨i,_,rfl⟩:=ZLb.1 ha;obtain ⟨j,hj,rfl⟩:=ZLb.1 hb;have:=JL k i;have:=ZLz.1 hj;omega
 ·intro a ha b hb e
  have hb2:b=8 * line:=by simpa using hb
  rcases ZLZ.1 ha with ha|ha
  ·obtain ⟨i,_,rfl⟩:=ZLb.1 ha
   have:=JL k i;omega
  ·obtain ⟨j,_,rfl⟩:=ZLb.1 ha;omega
theorem CRep.made {T c:Nat->Nat}{line:Nat}{cl th:Int}{gen:Nat}(hk:(Chk.made cl th gen).Head):CRep T (wrs c (YP T line (Chk.made cl th gen))) (8 * line) (Chk.made cl th gen):=by
 obtain ⟨k,hkk⟩:=xE (Chk.made cl th gen);have hn:=ZCh (T:=T) (line:=line) hk;have hb:∀ i,(Chk.made cl th gen).blk i=⟨gen,0,176⟩:=fun _=>rfl
 have hg:(Chk.made cl th gen).gen=gen:=rfl;rw [<-hkk] at hk hn hb hg ⊢;have at_:∀ q∈YP T line k,∀ x,q.1 / 8=x->wrs c (YP T line k) x=q.2:=fun q hq x hx=>by rw [<-hx];exact ZB0 hn q hq
 have hus:∀ i,k.used i=false:=fun i=>by unfold Chk.used;rw [hb];rfl
 have hz:∀ n,Zi k.used n=0:=by
  intro n
  induction n with
  |zero=>rfl
  |succ n ih=>unfold Zi;rw [ih,hus];simp
 have mB:∀ i,i < perN k->((8 * line+hdN k i) * 8,Zc T (Blk.info ⟨k.gen,0,176⟩))∈YP T line k:=fun i hi=>by
  unfold YP YY Vo;exact ZLZ.2 (.inl (ZLZ.2 (.inl (ZLb.2 ⟨i,ZLz.2 hi,rfl⟩))))
 have mZ:∀ a,a < 7->((8 * line+(a+1)) * 8,0)∈YP T line k:=fun a ha=>by
  unfold YP YY Vp;exact ZLZ.2 (.inl (ZLZ.2 (.inr (ZLb.2 ⟨a,ZLz.2 ha,rfl⟩))))
 have mH:(line * 64,Zc T k.info)∈YP T line k:=by unfold YP;simp
 refine ⟨hk,at_ _ mH _ (by simp only;omega),fun _=>?_,fun _ a h1 h2=>?_,fun _ i hi=>?_,fun _ i hi=>?_⟩
 ·rw [hz]
  exact at_ _ (mZ 0 (by omega)) _ (by simp only;omega)
 ·exact at_ _ (mZ (a - 1) (by omega)) _ (by simp only;omega)
 ·rw [hb];exact ⟨by rw [<-hg];exact hk.gen,.inl ⟨rfl,rfl⟩⟩
 ·rw [hb,<-hg]
  exact at_ _ (mB i hi) _ (by simp only;omega)
theorem HRep.made {T c:Nat->Nat}{l0 n:Nat}{ch:Nat->Chk}(h:HRep T c l0 n ch){m:Nat}(hm:m < n){cl th:Int}{gen:Nat}(hk:(Chk.made cl th gen).Head):
 HRep T (Dv.wrs c (YP T (l0+32 * m) (Chk.made cl th gen))) l0 n (ZDo ch m (Chk.made cl th gen)):=by
 intro j hj
 by_cases e:j=m
 ·subst e;rw [ZAc];exact CRep.made hk
 ·rw [QZ _ _ e]
  have ho:∀ x,8 * (l0+32 * j)<=x->x < 8 * (l0+32 * j)+256->Dv.wrs c (YP T (l0+32 * m) (Chk.made cl th gen)) x=c x:=fun x h1 h2=>
   YU fun q hq hx=>by
    have hm2:q.1 / 8∈(YP T (l0+32 * m) (Chk.made cl th gen)).map (·.1 / 8):=ZLb.2 ⟨q,hq,rfl⟩;rw [VK,ZLZ,ZLZ] at hm2;have hst:=hk.sizes.2.2.2.1;rcases hm2 with (hm2|hm2)|hm2
    ·obtain ⟨i,hi,e2⟩:=ZLb.1 hm2
     have:=YI hk (ZLz.1 hi);have:=JL (Chk.made cl th gen) i;omega
    ·obtain ⟨i,hi,e2⟩:=ZLb.1 hm2
     have:=ZLz.1 hi;omega
    ·have e2:q.1 / 8=8 * (l0+32 * m):=by simpa using hm2
     omega
  refine (h j hj).congr (fun a ha=>ho _ (by omega) (by omega)) (fun _ i hi=>?_);have:=YI (h j hj).head hi;exact ho _ (by omega) (by have:=(h j hj).head.sizes.2.2.2.1;omega)
theorem ZD9 (T:Nat->Nat)(line:Nat)(k:Chk):[YY T line k,[(line * 64,Zc T k.info)]].flatten=YP T line k:=by simp [YP]
theorem ZHX {T:Nat->Nat}{line:Nat}{cl th:Int}{gen L:Nat}(hk:(Chk.made cl th gen).Head)(hl:line+32<=L)(hT:∀ i,i < 4294967296->Zc T i < 18446744073709551616):∀ l∈[YY T line (Chk.made cl th gen),[(line * 64,Zc T (Chk.made cl th gen).info)]],∀ q∈l,q.1 % 8=0/\q.1 < 64 * L/\q.2 < 18446744073709551616:=by
 intro l hl2 q hq;have hst:=hk.sizes.2.2.2.1;have hgb:Blk.Good ⟨(Chk.made cl th gen).gen,0,176⟩:=⟨hk.gen,.inl ⟨rfl,rfl⟩⟩
 simp only [List.mem_cons,List.not_mem_nil,or_false] at hl2;rcases hl2 with rfl|rfl
 ·unfold YY Vo Vp at hq
  rcases ZLZ.1 hq with hq|hq
  ·obtain ⟨i,hi,rfl⟩:=ZLb.1 hq
   have:=YI hk (ZLz.1 hi);exact ⟨by simp only;omega,by simp only;omega,hT _ hgb.info_lt⟩
  ·obtain ⟨i,hi,rfl⟩:=ZLb.1 hq
   have:=ZLz.1 hi;exact ⟨by simp only;omega,by simp only;omega,by simp only;omega⟩
 ·simp only [ZLt] at hq
  subst hq;exact ⟨by simp only;omega,by simp only;omega,hT _ hk.info_lt⟩
theorem Qm (h:Ar w A F L T c){i:Nat}(hi:i < 8){line:Nat}(hl:line+32<=L){k:Chk}(hR:CRep T c (8 * line) k):
 Calls prog 166 #[Xv (A.t i),.int .i64 line] w fun e w'=>e=.returned (.tuple #[hdV k,.int .i64 0])/\Bl w w':=by
 have hL:=h.lines;have HLD:=zh (fun w1 hb=>Y4 h hi w1 hb (line * 64) (by omega) (by omega));have HER:=zh (fun w1 hb=>Zs h hi w1 hb);have HSZ:=zh (fun w1 hb=>Xp h hi w1 hb);have HST:=zh (fun w1=>Yj (w:=w1) (line:=line) (by omega));have HH:=zh (fun (w1:World) (hb:Bl w w1)=>ZDy (T:=T) (h.below hb).nib (h.below hb).tab hR.head);rw [show line * 64 / 8=8 * line by omega,hR.w0] at HLD;have b1:(line:Int)+32<=L:=by omega
 have b2:(L:Int)<=4096:=by omega
 have d1:¬ (line:Int) < 0:=by omega
 have d2:¬ (L:Int) < 32:=by omega
 have d3:¬ (line:Int) > (L:Int) - 32:=by omega
 have e1:((L * 64:Nat):Int) / 64=(L:Int):=by omega
 obtain ⟨M,hM⟩:∃ M:Int,M=((L * 64:Nat):Int):=⟨_,rfl⟩
 rw [<-hM] at HSZ e1;have b3:0<=M:=by omega
 have b4:M < 18446744073709551616:=by omega
 obtain ⟨N,hN⟩:∃ N:Nat,N=line * 64:=⟨_,rfl⟩
 rw [<-hN] at HLD HST;unfold Xv ptr;clear h hR hL hM hl hN;go_in;go_wp2_with fail;refine (HSZ.o _ (ZA (Below.refl _ w))).mono ?_;rintro e w' ⟨rfl,rfl⟩;go_wp2_with fail;refine (HER.o _ (ZA (Below.refl _ w))).mono ?_;rintro e w' ⟨rfl,rfl⟩;have HB:=zh (ZA (o:=.cells #[.int .i64 0,.int .i64 0,.int .u16 0] 209) (Below.refl w.heap.size w));have hn:=ZC w (.cells #[.int .i64 0,.int .i64 0,.int .u16 0] 209);obtain ⟨w1,hw1⟩:=xE (w.alloc (.cells #[.int .i64 0,.int .i64 0,.int .u16 0] 209));rw [<-hw1] at HB hn;have HN:=zh hn;have HW:=zh hw1;clear hn hw1;go_wp2_with fail;rw [<-HW.o]
 go_quiet (first
  |(rw [Y5];exact ⟨rfl,rfl⟩)
  |(go_at_call 230;exact ZZ (HST.o _))
  |(go_invoke;go_simp;go_at_call 52;exact ZZ (HLD.o _ (ZU HB.o))))
 have HB2:=zh (ZU (n:=nq) HB.o);obtain ⟨w2,hw2⟩:=xE (w1.drewN nq);have hn:=HN.o;rw [show w1.heap=w2.heap by rw [hw2];rfl] at hn;rw [<-hw2] at HB2;have HN2:=zh hn;rw [<-hw2];clear hn hw2 HN HW;go_wp2_with fail;refine (HER.o _ HB2.o).mono ?_;rintro e w' ⟨rfl,rfl⟩;go_wp2_with fail;refine (HH.o _ HB2.o).mono ?_;rintro e w3 ⟨rfl,hb⟩;have h1:=(hb.block w.heap.size (heap_lt HN2.o)).trans HN2.o;have h2:(w3.alloc (.cells #[.int .i64 k.cl,.int .i64 k.ow,.int .u16 k.gen] 209)).heap[w.heap.size]?=some (.cells #[.int .i64 0,.int .i64 0,.int .u16 0] 209 (0,0)):=(ZK (heap_lt h1)).trans h1;obtain ⟨c0,c1,c2,f0,f1,f2⟩:=ZY h2;have HB3:=zh (ZA (o:=.cells #[.int .i64 k.cl,.int .i64 k.ow,.int .u16 k.gen] 209) (HB2.o.trans (hb.mono HB2.o.size)));unfold hdV;clear h1 h2 hb HH HER HLD HSZ HST;go_wp2_with fail
 (try simp only [Exit.inBlock,Exit.then])
 refine bodyPost_ret (by simp [results,results166,go_sem,c0,c1,c2];try rfl) rfl ?_;exact ⟨rfl,by repeat (with_reducible first|exact HB3.o|exact nR|apply ZE)⟩
theorem Y3 (h:Ar w A F L T c){i:Nat}(hi:i < 8){line:Nat}(hl:line+32<=L){k:Chk}(hR:CRep T c (8 * line) k)(hk:0<=k.cl):
 Calls prog 105 #[Xv (A.t i),.int .i64 line] w fun e w'=>e=.returned (.tuple #[chV A i line k,.int .i64 0])/\Bl w w':=by
 have HLK:=zh (fun w1 (hb:Bl w w1)=>Qm (h.below hb) hi hl hR);have d1:¬ k.cl < 0:=by omega
 unfold Xv ptr hdV chV at *;clear h hR hl hi;go_in;go_wp2_with fail;refine (HLK.o _ (ZA (Below.refl _ w))).mono ?_;rintro e w1 ⟨rfl,hb⟩;have h1:=(hb.block w.heap.size (by simp)).trans (ZC w _);have h2:=(ZK (o:=.cells #[.int .i64 k.cl,.int .i64 k.ow,.int .u16 k.gen] 209) (heap_lt h1)).trans h1;obtain ⟨c0,c1,c2,c3,c4,f0,f1,f2,f3,f4⟩:=ZCp h2;have HB3:=zh (ZA (o:=.cells #[.int .i64 k.cl,.int .i64 k.ow,.int .u16 k.gen] 209) ((ZA (Below.refl _ w)).trans (hb.mono (by simp))));clear h1 h2 hb HLK;go_wp2_with fail
 (try simp only [Exit.inBlock,Exit.then])
 refine bodyPost_ret (by simp [results,results105,go_sem,c0,c1,c2,c3,c4];try rfl) rfl ?_;exact ⟨rfl,by repeat (with_reducible first|exact HB3.o|exact nR|apply ZE)⟩
theorem HW.new (h:HW w A F L T c x H lk p ex res held){g:Nat}(hg:w.heap.size<=g):F g=none:=by
 obtain ⟨s,h1,_⟩:=h.aq.dev;cases e:F g with
 |none=>rfl
 |some r=>exact absurd (h1.lt g (by rw [e];simp)) (by omega)
theorem HW.sealed_lt (h:HW w A F L T c x H lk p ex res held):∀ i,i < 4294967296->Zc T i < 18446744073709551616:=fun i hi=>Xe h.aq.nib hi
theorem Zp {w:World}{B B':Nat}{e:TypeId}{z n:Nat}{v:Value}{xs:List Value}(h:w.ownsRow B e z v n xs)(hB:B'<=B):w.ownsRow B' e z v n xs:=by
 refine ⟨h.1,?_⟩;rcases h.2 with hn|⟨g,cap,cur,hv,h1,rest⟩
 ·exact .inl hn
 ·exact .inr ⟨g,cap,cur,hv,ZLi hB h1,rest⟩
theorem ZAY {P:Program}{f:FuncId}{args:Array Value}{b w1:World}{g:Value->Value}{l:List Ins}(hb:Bl b w1)(h:Calls P f args w1 fun e w'=>∃ v,e=.returned (g v)/\Prg w' w1.heap.size v l/\Bl w1 w'):
 Calls P f args w1 fun e w'=>∃ v,e=.returned (g v)/\Prg w' b.heap.size v l/\Bl b w':=
 h.mono fun e w' ⟨v,h1,h2,h3⟩=>⟨v,h1,Zp h2 hb.size,hb.trans (h3.mono hb.size)⟩
def ClP (w:World)(A:DAd)(F:Nat->Option ZM)(L:Nat)(T c:Nat->Nat)(x:Nat)(H:HAd)(lk:Bool)(p:Nat->Plc)(ex:Nat)(res held:Nat->Option Nat)(w':World):Prop:=
 ∃ F',HW w' A F' L T c x H lk p ex res held/\HMv F F' H w w'
theorem ZCS (h:HW w A F L T c x H lk p ex res held) {ls:List (List (Nat×Nat))} {v:Value} {B:Nat} (hp:Prg w B v (Ze ls)) (hB:∀ g,B<=g->F g=none) (h0:0 < (Ze ls).length)
 (hl:∀ l∈ls,∀ q∈l,q.1 % 8=0/\q.1 < 64 * L/\q.2 < 18446744073709551616)(hn:x+Zw ls<=x')(hx:x'<=1000000):
 Calls prog 112 #[v,.iface 116 (.pointer (some ⟨A.t H.t,0,none⟩))] w fun e w'=>e=.returned (.int .i64 0)/\ClP w A F L T (wrs c ls.flatten) x' H lk p ex res held w':=by
 obtain ⟨g,cap,rfl,hs,hg⟩:=Zb hp h0;refine (ZBs (k:=cap) h.aq h.hp.t hs (hB g hg) hl (by omega)).mono ?_;rintro e w' ⟨rfl,hr⟩;obtain ⟨F',h1,h2⟩:=h.ra hr;refine ⟨rfl,F',{h1 with aq:=h1.aq.mono (by omega)},h2⟩
theorem ZEN (h:HW w A F L T c x H lk p ex res held){j:Nat}(hj:j < H.n)(hd:∀ m,m < j->0<=(p m).cl)(hc:(p j).cl < 0){k:Chk}(hl:(p j).line+32<=L)(hR:CRep T c (8 * (p j).line) k){cl th:Nat}(hcl:cl<=4)(hth:th < 8)(hx:x+200<=1000000):
 Calls prog 215 #[.pointer (some ⟨H.sb,0,none⟩),.int .i64 th,.int .i64 cl] w fun e w'=>e=.returned (.tuple #[.int .i64 (p j).line,.int .i64 0])/\ClP w A F L T (wrs c (YP T (p j).line (Chk.made cl th k.gen))) (x+200) H lk (Xo p j ⟨(p j).line,cl,th,(p j).held⟩) ex res held w':=by
 have hLL:=h.ar.lines;have hmk:(Chk.made cl th k.gen).Head:=⟨hR.head.gen,.inr ⟨by simp only [Chk.made];omega,by simp only [Chk.made];omega,by simp only [Chk.made];omega,by simp only [Chk.made];omega⟩⟩
 obtain ⟨z1,_,z3,_⟩:=hmk.sizes;have HPE:=zh (per_any cl w h.aq.tab);have hper:per (cl:Int)=((perN (Chk.made cl th k.gen):Nat):Int):=z1;have hpp:0 < per (cl:Int):=by have:=wds_cases cl;unfold per;repeat' split <;> omega
 have HER:=zh (fun w1 hb=>Zs h.ar h.hp.t w1 hb);have HPK:=zh (ZGV h.set hj hd hc);have HLK:=zh (fun w1 (hb:Bl w w1)=>VA (Qm (h.ar.below hb) h.hp.t hl hR) hb);have HPL:=zh (fun w1 (hb:Bl w w1)=>ZFT (h.aq.nib.below hb nR) (h.aq.tab.below hb) hmk (show (0:Int)<=cl by omega) (line:=(p j).line) (by omega));have hcost:x+Zw [YY T (p j).line (Chk.made cl th k.gen),[((p j).line * 64,Zc T (Chk.made cl th k.gen).info)]]<=x+200:=by
  unfold Zw YY Zw Zw;rw [ZLc,VM,VN];simp;omega
 have HRUN:=zh (fun (w1:World) (hb:Bl w w1) (v:Value) (B:Nat) (hB:w.heap.size<=B) (hp:Prg w1 B v (Ze [YY T (p j).line (Chk.made cl th k.gen),[((p j).line * 64,Zc T (Chk.made cl th k.gen).info)]]))=>
  ZCS (h.below hb) hp (fun g hg=>h.new (by omega)) (by have:=Zq (YY T (p j).line (Chk.made cl th k.gen));simp [Ze];omega) (ZHX hmk hl h.sealed_lt) hcost hx)
 rw [ZD9] at HRUN;obtain ⟨c0,c1⟩:=h.set.cells;obtain ⟨a0,a1,a2,a3⟩:=h.set.at hj;have HS:=zh h.set;have HH:=zh h;have HJ:=zh hj;have d1:((per (cl:Int)) == 0)=false:=by simp;omega
 have d2:¬ (th:Int) < 0:=by omega
 have d3:¬ (th:Int)>=8:=by omega
 have hjn:(j:Int)<=200:=by have:=h.set.size;omega
 obtain ⟨line,hline⟩:=xE ((p j).line);rw [<-hline] at HLK HPL HRUN a0 ⊢;have HLN:=zh hline;obtain ⟨ti,hti⟩:=xE H.t;rw [<-hti] at HER HLK HRUN c0;have HTI:=zh hti;unfold hdV Xv ptr at *;have hg:(Chk.made cl th k.gen).gen=k.gen:=rfl;have hc2:(Chk.made cl th k.gen).cl=cl:=rfl;have hc3:(Chk.made cl th k.gen).ow=th:=rfl;rw [hg,hc2,hc3] at HPL;obtain ⟨PL,hPL⟩:=xE (Ze [YY T line (Chk.made cl th k.gen),[(line * 64,Zc T (Chk.made cl th k.gen).info)]]);rw [<-hPL] at HPL HRUN;have HKP:=zh (fun (w1:World) (hb:Bl w w1)=>(show w1.cell? ⟨H.sb,0,none⟩=some (.iface 116 (.pointer (some ⟨A.t ti,0,none⟩)))/\w1.cell? ⟨H.pb,j * 4,none⟩=some (.int .i64 line) from ⟨(hb.cell (ZLf _ _ c0)).trans c0,(hb.cell (ZLf _ _ a0)).trans a0⟩));have HR0:=zh (Below.refl w.heap.size w);have HGE:=zh hR.head.gen;clear h hd hl hR hmk z1 z3 hper hpp hcost hLL hx hline hti hg hc2 hc3 hPL hcl hth hj;go_in;go_wp2_with fail;refine HPE.o.mono ?_;rintro e w' ⟨rfl,rfl⟩;go_wp2_with fail;refine (HER.o _ HR0.o).mono ?_;rintro e w' ⟨rfl,rfl⟩;go_wp2_with fail;refine HPK.o.mono ?_;rintro e w' ⟨rfl,rfl⟩;go_upto_region 11 with fail
 go_cut [10,11] (fun e v wx=>e=.int .i64 0/\∃ hbk,v=.pointer (some ⟨hbk,0,none⟩)/\wx.heap[hbk]?=some (.cells #[.int .i64 k.cl,.int .i64 k.ow,.int .u16 k.gen] 209 (0,0))/\Bl w wx)
 ·go_region_held3 (fun w'=>w'.cell? ⟨H.sb,0,none⟩=some (.iface 116 (.pointer (some ⟨A.t ti,0,none⟩)))/\w'.cell? ⟨H.pb,j * 4,none⟩=some (.int .i64 line))
   (exact HKP.o _ (by repeat (with_reducible first|assumption|exact HR0.o|apply ZA|apply ZB|apply ZE|exact nR|exact hb1.size)))
   (first
     |(go_at_call 166;refine (HLK.o _ (by repeat (with_reducible first|assumption|exact HR0.o|apply ZA|apply ZB))).mono ?_;rintro e V1 ⟨rfl,hb1,l1,l2,l3,l4⟩))
  all_goals
   go_wp2_with fail;go_meet
   first
    |exact ⟨rfl,_,rfl,ZC _ _,ZA hb1⟩
    |exact ⟨rfl,_,rfl,ZI (ZI (ZI ((l4.o.block w.heap.size (by simp)).trans (ZC _ _)))),ZE (ZE (ZE hb1 nR) nR) nR⟩
 ·obtain ⟨rfl,hbk,rfl,hh,hbel⟩:=hcut
  obtain ⟨W1,hW1⟩:=xE wc;subst hW1;have HB:=zh hbel;have HHK:=zh hh;have HPL1:=zh (fun (w1:World) (hb:Bl W1 w1)=>ZAY (g:=fun v=>.tuple #[v,.int .i64 0]) hb (HPL.o w1 (hbel.trans (hb.mono hbel.size))));have HKP2:=zh (fun (w1:World) (hb:Bl W1 w1)=>(show w1.cell? ⟨H.pb,j * 4,none⟩=some (.int .i64 line)/\w1.cell? ⟨hbk,2,none⟩=some (.int .u16 k.gen) from ⟨(HKP.o w1 (hbel.trans (hb.mono hbel.size))).2,(hb.cell (ZLf _ _ (ZY hh).2.2.1)).trans (ZY hh).2.2.1⟩));have HR1:=zh (Below.refl W1.heap.size W1);clear hh hbel c0 c1 a0 a1 a2 a3;go_upto_region 14 with fail
  go_cut [10,12] (fun e v wx=>e=.int .i64 0/\Prg wx W1.heap.size v PL/\Bl W1 wx)
  ·obtain ⟨a0,b2⟩:=HKP2.o _ HR1.o
   go_region_held3 (fun w'=>w'.cell? ⟨H.pb,j * 4,none⟩=some (.int .i64 line)/\w'.cell? ⟨hbk,2,none⟩=some (.int .u16 k.gen))
    (exact HKP2.o _ (by repeat (with_reducible first|assumption|exact HR1.o|apply ZA|apply ZB)))
    (first
      |(go_at_call 217;refine (HPL1.o _ (by repeat (with_reducible first|assumption|exact HR1.o|apply ZA|apply ZB))).mono ?_;rintro e V1 ⟨rv,rfl,hp1,hb1⟩))
   all_goals
    go_wp2_with fail;go_meet;exact ⟨rfl,hp1,hb1⟩
  ·obtain ⟨rfl,hp,hbel2⟩:=hcut
   have HB2:=zh (HB.o.trans (hbel2.mono HB.o.size));have HP:=zh hp;clear hp hbel2;obtain ⟨c0,_⟩:=HKP.o _ HB2.o;go_wp2_with fail;refine (HRUN.o _ HB2.o _ _ HB.o.size HP.o).mono ?_;rintro e w9 ⟨rfl,F',hw9,hmv⟩;have HW9:=zh hw9;have HMV:=zh hmv;clear c0;obtain ⟨c0,c1⟩:=hw9.set.cells;obtain ⟨a0,a1,a2,a3⟩:=hw9.set.at HJ.o;rw [<-HLN.o] at a0;have f1:=hw9.set.row.free (j * 4+1);have f2:=hw9.set.row.free (j * 4+2);clear hw9 hmv;go_wp2;go_returns;obtain ⟨h1,h2⟩:=HW9.o.places (((Only.refl (fun k=>k=H.pb) w9).set rfl (.int .i64 cl)).set rfl (.int .i64 th)) (HW9.o.set.claim HJ.o cl th);rw [HLN.o] at h1 ⊢;exact ⟨rfl,F',h1,(HMv.of_below HB2.o).trans (HMV.o.trans h2)⟩
end
end Go.Proofs.YtbpeehmepehkdaaGreatDoor.Dv
