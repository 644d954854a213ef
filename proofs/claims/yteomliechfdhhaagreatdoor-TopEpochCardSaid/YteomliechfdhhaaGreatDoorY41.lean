/- Part 41. -/
import Derived.Test.YteomliechfdhhaaGreatDoorY40
set_option maxHeartbeats 8000000
set_option maxRecDepth 20000
set_option linter.all false
namespace Go.Proofs.YteomliechfdhhaaGreatDoor.Dv
open Tryz
section
open Go.RowKit Go.Proofs.YteomliechfdhhaaGreatDoor.Size
variable {w w':World}{A:DAd}{F F':Nat->Option ZK}{L:Nat}{T c c':Nat->Nat}{x x':Nat}{H:HAd}{lk:Bool}{p p':Nat->Plc}{ex ex':Nat}{res held res' held':Nat->Option Nat}
theorem ZGJ (h:HW w A F L T c x H false p ex res held){t db lb off size:Nat}(hd:DrW w A F H t db lb off size)(hoff:off % 8=0/\off+size<=64 * L)(hsz:size < 1000000)(hz:c (off / 8)=0){v:Value}{lw:List (Nat×Nat)}(hv:Wrs w v lw)(h1:1<=lw.length)(h96:lw.length<=96)(hs:64+16 * lw.length<=size)(hok:Vp L off size lw)(hx1:x+6 * lw.length+8<=x')(hx:x'<=1000000):
 Calls prog 26 #[.pointer (some ⟨db,0,none⟩),v,.slice none 0 0,.slice none 0 0] w fun e w'=>e=.returned (.int .i64 0)/\ClP w A F L T (wrs c (cmL off (cmV T lw) lw).flatten) x' H false p ex res held w':=by
 have:=Xx (x':=x') (p':=p) (ex':=ex) (res':=res) (held':=held) (la:=[]) (tv:=.slice none 0 0) (dv:=.slice none 0 0) h hd hoff hsz hz hv h1 (by simpa using h96) (by simpa using hs) (by simpa using hok) (by simpa using hx1) hx
  (fun w1 hb=>(ZBC (h.below hb)).mono fun e w' ⟨h1,h2⟩=>⟨_,h1,ZLD _ _ _ _,fun _=>rfl,h2⟩)
  (fun F1 w1 hw hm=>hsettle_nil.mono fun e w' ⟨h1,h2⟩=>⟨h1,by subst h2;exact hw,by subst h2;exact HMv.refl _ _ _⟩)
 simpa using this
theorem ZEy (h:HW w A F L T c x H false p ex res held) {t db lb off size:Nat} (hd:DrW w A F H t db lb off size) (hoff:off % 8=0/\off+size<=64 * L) (hsz:size < 1000000) (hz:c (off / 8)=0) {m:Nat} (hm:m < H.n) (hl:H.l0+32 * m+32<=L) {k:Chk} (hR:CRep T c (8 * (H.l0+32 * m)) k) (hk:0<=k.cl) {ps bs:List Nat} (hlen:ps.length=bs.length) (hb1:1<=bs.length) (h30:bs.length<=30)
 (hat:∀ i (hi:i < ps.length) (hj:i < bs.length),bs[i] < perN k/\ZM ps[i]=k.pay (H.l0+32 * m) bs[i]/\ps[i]≠0/\ps[i] < 72057594037927936/\(k.block (H.l0+32 * m) ps[i]).2=0) (hnd:ps.Nodup) (hcan:k.Can [] bs) {tb tq tc:Nat} (ht:Seen w tb tq (ps.map fun (n:Nat)=>Value.int .u64 (n:Int)))
 {v:Value} {lw:List (Nat×Nat)} (hv:Wrs w v lw) (h1:1<=lw.length) (h96:(lw++ZO T (H.l0+32 * m) k [] bs).length<=96) (hs:64+16 * (lw++ZO T (H.l0+32 * m) k [] bs).length<=size) (hok:Vp L off size (lw++ZO T (H.l0+32 * m) k [] bs)) (hx1:x+6 * (lw++ZO T (H.l0+32 * m) k [] bs).length+8<=x') (hx:x'<=1000000):
 Calls prog 26 #[.pointer (some ⟨db,0,none⟩),v,.slice none 0 0,.slice (some ⟨tb,tq,none⟩) ps.length tc] w fun e w'=>e=.returned (.int .i64 0)/\ClP w A F L T (wrs c (cmL off (cmV T (lw++ZO T (H.l0+32 * m) k [] bs)) (lw++ZO T (H.l0+32 * m) k [] bs)).flatten) x' H false p ex res held w':=
 Xx (x':=x') (p':=p) (ex':=ex) (res':=res) (held':=held) h hd hoff hsz hz hv h1 h96 hs hok hx1 hx
  (fun w1 hb=>Qu (h.below hb) hm hl hR hk hlen hb1 h30 hat hnd hcan (ht.below hb nR))
  (fun F1 w1 hw hmv=>hsettle_nil.mono fun e w' ⟨h1,h2⟩=>⟨h1,by subst h2;exact hw,by subst h2;exact HMv.refl _ _ _⟩)
theorem Vh (h:HW w A F L T c x H false p ex res held) {t db lb off size:Nat} (hd:DrW w A F H t db lb off size) (hoff:off % 8=0/\off+size<=64 * L) (hsz:size < 1000000) (hz:c (off / 8)=0) {m:Nat} (hm:m < H.n) (hl:H.l0+32 * m+32<=L) {k:Chk} (hR:CRep T c (8 * (H.l0+32 * m)) k) (hk:0<=k.cl) {b kd P:Nat} (hb:b < perN k) (ho:ZM P=k.pay (H.l0+32 * m) b) (hkp:Z0 P=kd) (hkd:kd<=127) (hP0:P≠0) (hP:P < 72057594037927936) (hr:res (ZM P)=some P) (hcan:k.Can [(b,kd)] [])
 {tb tq tc:Nat} (ht:w.cell? ⟨tb,tq,none⟩=some (.int .u64 (P:Nat))) (htf:F tb=none/\¬ H.own tb) (hlp:∀ m,m < H.n->(p m).line=H.l0+32 * m) (hpc:0<=(p m).cl) (h1p:64 * (H.l0+32 * m)<=ZM P) (h2p:ZM P < 64 * (H.l0+32 * m)+2048) {g:Nat} (hg:held (H.l0+32 * m)=some (g+1)) (hh:g<=1000000) (hex:ex+1<=1000000)
 {v:Value} {lw:List (Nat×Nat)} (hv:Wrs w v lw) (h1:1<=lw.length) (h96:(lw++ZO T (H.l0+32 * m) k [(b,kd)] []).length<=96) (hs:64+16 * (lw++ZO T (H.l0+32 * m) k [(b,kd)] []).length<=size) (hok:Vp L off size (lw++ZO T (H.l0+32 * m) k [(b,kd)] [])) (hx1:x+6 * (lw++ZO T (H.l0+32 * m) k [(b,kd)] []).length+8<=x') (hx:x'<=1000000):
 Calls prog 26 #[.pointer (some ⟨db,0,none⟩),v,.slice (some ⟨tb,tq,none⟩) 1 tc,.slice none 0 0] w fun e w'=>e=.returned (.int .i64 0)/\ClP w A F L T (wrs c (cmL off (cmV T (lw++ZO T (H.l0+32 * m) k [(b,kd)] [])) (lw++ZO T (H.l0+32 * m) k [(b,kd)] [])).flatten) x' H false (Qc p m g) (ex+1) (XV res (ZM P)) (Jo held (H.l0+32 * m) g) w':=
 Xx (x':=x') (p':=Qc p m g) (ex':=ex+1) (res':=XV res (ZM P)) (held':=Jo held (H.l0+32 * m) g) h hd hoff hsz hz hv h1 h96 hs hok hx1 hx
  (fun w1 hb1=>Qv (h.below hb1) hm hl hR hk hb ho hkp hkd hP0 hP hr hcan (Zp hb1 ht))
  (fun F1 w1 hw hmv=>ZCA hw hP hm hlp hpc h1p h2p hg hh hex hr ((ZK8 (hmv.only.block tb (ZK2 _ _ ht) (fun q=>q.elim (fun q=>q htf.1) htf.2))).trans ht))
theorem Jq {P:Program} {ops:Array Oper} {o:Oper} {a:Act} {K:Act->World->Prop} {Q:Exit->Act->World->Prop} {B:Prop} {W:World} {t e:TypeId} {size bytes:Nat} (E:El P t e size bytes) (hgd:o.guard=none) (s x:Operand)
 (ho:o.op=.call {callee:=.builtin .append,args:=#[s,x],argTypes:=#[t,t]}) {base:Nat} {v:Value} {n m cp:Nat} {xs:List Value} (cs:List Value) (hown:W.ownsRow base e size v n xs)
 {N:Nat} (hs:a.eval s=v) (hx:a.eval x=.slice (some ⟨N,0,none⟩) m cp) (hm:0 < m) (hcs:cs.length=m * size) (hc:∀ j u,cs[j]?=some u->W.cell? ⟨N,j,none⟩=some u) (h1:∀ u∈cs,u.oneCell'=true) (h63:n+m<=maxLen) (hbytes:(n+m) * bytes<=140737488355328) (hbase:base<=W.heap.size)
 (h:∀ g cap w',w'.ownsRow base e size (.slice (some ⟨g,0,none⟩) (n+m) cap) (n+m) (xs++cs)->W.grownBy w' v.ownBlock->K (a.put o.dst (.slice (some ⟨g,0,none⟩) (n+m) cap)) w'):
 if Region.wanted o (yielded ops a.tmps)=true then Oper.wp P o a W K Q else B:=by
 have hw:Region.wanted o (yielded ops a.tmps)=true:=by simp [Region.wanted,hgd]
 rw [ZKv hw];obtain ⟨g,cap,w',hrun,how,hgr,hg⟩:=Zm (w:=W) E hown ⟨N,0,none⟩ m cp cs hcs (fun j u hj=>by
  rw [Addr.add_lit,ZLI];exact hc j u hj) h1 hm h63 hbytes hbase
 have hK:=h g cap w' how hgr;have hr:=hrun o.type;unfold Oper.wp;simp [execOp,ho,resolve,invoke,builtin,hs,hx,hr,Result.andThen];exact hK
theorem nilD_publish (w:World)(v:Value)(k:Nat):(nilAhead (k+1) 27 v "Publish").run prog w=.ok (some false) w:=by kernel_rfl
theorem Ja (h:HW w A F L T c x H false p ex res held) {t db lb off size:Nat} (hd:DrW w A F H t db lb off size) {lib P kb cnt now Q:Nat} {q e an:Nat->Nat} (hl:LiB w lib P kb) (hk:CkB w A kb now an) (hn:NdC c L P 0 cnt q e) (hcnt:cnt<=29) (hQ:PtrOk Q)
 (hck:∀ w1,Bl w w1->Calls prog 18 #[.pointer (some ⟨db,0,none⟩),.int .u64 P,.int .u8 12] w1 fun e' w'=>e'=.returned (.int .i64 0)/\Bl w1 w')
 (hckq:∀ w1,Bl w w1->Calls prog 18 #[.pointer (some ⟨db,0,none⟩),.int .u64 Q,.int .u8 0] w1 fun e' w'=>e'=.returned (.int .i64 0)/\Bl w1 w')
 (hno:¬ ZEZ (itm q e 29) Q) (hnow:now<=1000000)
 {v:Value} {lw l:List (Nat×Nat)} {Post:World->Prop} (hv:Wrs w v lw) (hlw:l=lw++[(ZM P+8 * (2+2 * cnt),Q),(ZM P+8 * (3+2 * cnt),now),(ZM P+8 * 1,cnt+1)]) (h1:1<=lw.length) (h90:lw.length<=80)
 (hpub:cnt < 29->∀ wx,Bl w wx->∀ v1,Wrs wx v1 l->Calls prog 26 #[.pointer (some ⟨db,0,none⟩),v1,.slice none 0 0,.slice none 0 0] wx fun e' w'=>e'=.returned (.int .i64 0)/\Post w')
 (hext:cnt=29->∀ wx,Bl w wx->∀ iv,Calls prog 81 #[.pointer (some ⟨lib,0,none⟩),.iface 27 (.pointer (some ⟨db,0,none⟩)),.agg #[.int .u64 P,.int .u64 (0:Nat),.int .i64 cnt,iv],.agg #[.int .i64 0,.int .u64 Q,.int .u64 now],v] wx fun e' w'=>e'=.returned (.int .i64 0)/\Post w'):
 Calls prog 41 #[.pointer (some ⟨lib,0,none⟩),.iface 27 (.pointer (some ⟨db,0,none⟩)),.int .u64 Q,v] w fun e' w'=>e'=.returned (.int .i64 0)/\Post w':=by
 have hq64:Q < 18446744073709551616:=by have:=hQ.lt;omega
 have hll:l.length=lw.length+3:=by rw [hlw];simp
 obtain ⟨w1,hw1⟩:=xE (w.alloc (.cells #[.int .u64 Q] 30));have hb1:Bl w w1:=by rw [hw1];exact ZA bR
 have ht:∀ wx,Bl w1 wx->Bl w wx:=fun wx hb=>hb1.trans (hb.mono hb1.size)
 have HPB:=zh (fun (hc:cnt < 29) (wx:World) (hb:Bl w1 wx) (v1:Value) (hv1:Wrs wx v1 l)=>hpub hc wx (ht _ hb) v1 hv1);have HEX:=zh (fun (hc:cnt=29) (wx:World) (hb:Bl w1 wx)=>hext hc wx (ht _ hb));obtain ⟨A1,hA1⟩:=xE (ZM P+8 * (2+2 * cnt));obtain ⟨A2,hA2⟩:=xE (ZM P+8 * (3+2 * cnt));obtain ⟨A3,hA3⟩:=xE (ZM P+8 * 1);rw [<-hA1,<-hA2,<-hA3] at hlw;obtain ⟨X2,hX2⟩:=xE (2+2 * cnt);obtain ⟨X3,hX3⟩:=xE (3+2 * cnt);have HLW:=zh hlw;have HL1:=zh (show 1<=lw.length/\lw.length<=80 from ⟨h1,h90⟩);have HER:=zh (fun (wx:World) (hb:Bl w1 wx)=>ZBx (h.ar.below (ht _ hb)) (hd.below (ht _ hb)));have HCH:=zh (fun (wx:World) (hb:Bl w1 wx)=>UA (h.ar.below (ht _ hb)) (hd.below (ht _ hb)) (hl.below (ht _ hb)) hn (fun w2 hb2=>hck w2 ((ht _ hb).trans (hb2.mono (ht _ hb).size))));have HNOW:=zh (fun (wx:World) (hb:Bl w1 wx)=>ZDF (h.ar.below (ht _ hb)) (hk.below (ht _ hb)));have HAT1:=zh (fun (hc:cnt < 29) (w1:World)=>show Calls prog 13 #[.int .u64 P,.int .i64 X2] w1 (fun e w'=>e=.returned (.int .u64 A1)/\w'=w1) from by
  rw [hX2,hA1];exact (YK (w:=w1) (p:=P) (by have:=hn.ok.lt;omega) hn.ok.ne (by omega)).mono (fun e w' h=>⟨h.1,h.2.symm⟩))
 have HAT2:=zh (fun (hc:cnt < 29) (w1:World)=>show Calls prog 13 #[.int .u64 P,.int .i64 X3] w1 (fun e w'=>e=.returned (.int .u64 A2)/\w'=w1) from by
  rw [hX3,hA2];exact (YK (w:=w1) (p:=P) (by have:=hn.ok.lt;omega) hn.ok.ne (by omega)).mono (fun e w' h=>⟨h.1,h.2.symm⟩))
 have HAT3:=zh (fun (w1:World)=>show Calls prog 13 #[.int .u64 P,.int .i64 1] w1 (fun e w'=>e=.returned (.int .u64 A3)/\w'=w1) from by
  rw [hA3];exact (YK (w:=w1) (p:=P) (k:=1) (by have:=hn.ok.lt;omega) hn.ok.ne (by omega)).mono (fun e w' h=>⟨h.1,h.2.symm⟩))
 have HPA:=zh (fun (hc:cnt < 29) (w1:World)=>show Calls prog 77 #[.int .i64 cnt] w1 (fun e w'=>e=.returned (.int .i64 X2)/\w'=w1) from by
  rw [hX2];exact (Vn (w:=w1) (i:=cnt) (by omega)).mono (fun e w' h=>⟨h.1,h.2.symm⟩))
 have HEA:=zh (fun (hc:cnt < 29) (w1:World)=>show Calls prog 80 #[.int .i64 cnt] w1 (fun e w'=>e=.returned (.int .i64 X3)/\w'=w1) from by
  rw [hX3];exact (VP (w:=w1) (i:=cnt) (by omega)).mono (fun e w' h=>⟨h.1,h.2.symm⟩))
 have HCK:=zh (fun (wx:World) (hb:Bl w1 wx)=>hckq _ (ht _ hb));have HNO:=zh hno;have HN29:=zh (Jw q e 29);have HV:=zh (fun (wx:World) (hb:Bl w1 wx)=>hv.below (ht _ hb));have HLI:=zh (fun (wx:World) (hb:Bl w1 wx)=>hl.below (ht _ hb));have HNI:=zh (fun (w1:World)=>show Calls prog 14 #[.int .u64 Q] w1 (fun e' w'=>e'=.returned (.bool false)/\w1=w') from by
  have:=Z6 (w:=w1) (p:=Q);rw [ZLB hQ.ne] at this;exact this)
 have hsl:∃ a cap,v=.slice a lw.length cap:=hv.len;have HBB:=zh hb1;have hpq:w1.heap[w.heap.size]?=some (.cells #[.int .u64 Q] 30):=by rw [hw1];exact ZB _ _
 have HPQ:=zh (fun (wx:World) (hb:Bl w1 wx)=>show wx.cell? ⟨w.heap.size,0,none⟩=some (.int .u64 Q) from (ZC ((hb.block _ (heap_lt hpq)).trans hpq)).trans rfl);have HC29:=zh (show (cnt:Int)<=29 by omega);have HR1:=zh (Below.refl w1.heap.size w1);have HP1:=zh (show w.heap.size < w1.heap.size from heap_lt hpq);clear h hd hl hk hn hcnt hQ hck hckq hno hnow hv hlw h1 h90 hpub hext hq64 hll hA1 hA2 hA3 hX2 hX3 hb1 ht hpq;obtain ⟨va,vc,rfl⟩:=hsl;obtain ⟨PB,hPB⟩:=xE w.heap.size;rw [<-hPB] at HPQ HP1;go_in;go_wp2_with fail;rw [<-hw1];refine (HNI.o _).mono ?_;rintro e' w' ⟨rfl,rfl⟩;go_wp2_with fail;rw [<-hw1,<-hPB];refine (HER.o _ HR1.o).mono ?_;rintro e' w' ⟨rfl,rfl⟩;clear hw1 hPB;have p1:=HPQ.o _ HR1.o
 go_wp2_with (first
  |(rw [UD];exact ⟨rfl,rfl⟩)
  |(go_invoke;go_simp;go_at_call 18;refine (HCK.o _ HR1.o).mono ?_;rintro e' w2 ⟨rfl,hb2⟩))
 have HB2:=zh hb2;clear hb2 p1 HCK;go_wp2_with fail;refine (HCH.o _ HB2.o).mono ?_;rintro e' w3 ⟨nv,rfl,g,cap,iv,rfl,hs,hiv,hb3,hg⟩;have HB3:=zh (HB2.o.trans (hb3.mono HB2.o.size));have HND:=zh (fun (wx:World) (hb:Bl w3 wx)=>hs.below hb nR);have HIT:=zh (fun (wx:World) (hb:Bl w3 wx)=>hiv.itm.below hb);have hisl:∃ a cap,iv=.slice a (itm q e 29).length cap:=ZR hiv;have HPQ3:=zh (fun (wx:World) (hb:Bl w3 wx)=>HPQ.o wx (HB3.o.trans (hb.mono HB3.o.size)));have HLI3:=zh (fun (wx:World) (hb:Bl w3 wx)=>HLI.o wx (HB3.o.trans (hb.mono HB3.o.size)));have HNOW3:=zh (fun (wx:World) (hb:Bl w3 wx)=>HNOW.o wx (HB3.o.trans (hb.mono HB3.o.size)));have HV3:=zh (fun (wx:World) (hb:Bl w3 wx)=>HV.o wx (HB3.o.trans (hb.mono HB3.o.size)));have HPB3:=zh (fun (hc:cnt < 29) (wx:World) (hb:Bl w3 wx)=>HPB.o hc wx (HB3.o.trans (hb.mono HB3.o.size)));have HEX3:=zh (fun (hc:cnt=29) (wx:World) (hb:Bl w3 wx)=>HEX.o hc wx (HB3.o.trans (hb.mono HB3.o.size)));have HR3:=zh (Below.refl w3.heap.size w3);obtain ⟨ia,ic,rfl⟩:=hisl;obtain ⟨IL,hIL⟩:=xE (itm q e 29);rw [<-hIL] at HIT HN29 HNO HND;clear hb3 hg hs hiv HB2 HB3 hIL HCH HPQ HLI HNOW HV HPB HEX HR1 HER HNI;obtain ⟨K,hK⟩:=xE IL.length;have HK:=zh hK;rw [<-hK] at HND HIT;clear hK;go_wp2_with fail
 go_loopw [50] (fun i wr=>Bl w3 wr/\(i=.int .i64 0\/i=.int .i64 1)) (fun i _=>1 - (intOf i).toNat)
 case atStart=>exact ⟨HR3.o,.inl rfl⟩
 case round=>
 obtain ⟨hb,hi⟩:=hrel;have HB4:=zh hb;clear hb;rcases hi with rfl|rfl
 ·have hs4:=HND.o _ HB4.o
  have n0:=hs4 0 _ rfl;have n1:=hs4 1 _ rfl;have n2:=hs4 2 _ rfl;have n3:=hs4 3 _ rfl;clear hs4;go_wp2_with fail;obtain ⟨w4,hw4⟩:=xE (wr.alloc (.cells #[.int .u64 P,.int .u64 0,.int .i64 cnt,.slice ia K ic] 184));have HB5:=zh (show Bl w3 w4 by rw [hw4];exact ZA HB4.o);have HCN:=zh (ZHp (b:=false) (HPQ3.o _ HB5.o) (by have:=HIT.o _ HB5.o;rw [HK.o] at this;exact this) (by have:=HN29.o;omega) ⟨fun h=>(nomatch h),fun h=>absurd h HNO.o⟩);rw [<-HK.o] at HCN;rw [<-hw4];clear hw4 HB4 n0 n1 n2 n3;refine HCN.o.mono ?_;rintro e' w5 ⟨rfl,hb5⟩;have HB6:=zh (HB5.o.trans (hb5.mono HB5.o.size));clear hb5 HB5;go_wp2_with fail;exact ⟨⟨HB6.o,.inr rfl⟩,by simp [intOf]⟩
 ·have hs4:=HND.o _ HB4.o
  have n0:=hs4 0 _ rfl;have n1:=hs4 1 _ rfl;have n2:=hs4 2 _ rfl;have n3:=hs4 3 _ rfl;obtain ⟨l0,l1,_⟩:=XX (HLI3.o _ HB4.o);clear hs4;have h29:cnt < 29\/cnt=29:=by have:=HC29.o;omega
  rcases h29 with h29|h29
  case inr=>
   have HP29:=zh h29;have c29:¬ (cnt:Int) < 29:=by omega
   clear h29;go_wp2_with fail;refine (HNOW3.o _ HB4.o).mono ?_;rintro e' w' ⟨rfl,rfl⟩;have HR7:=zh (show Bl w3 (wr.alloc (.cells #[.int .u64 P,.int .u64 0,.int .i64 cnt,.slice ia K ic] 184)) from ZA HB4.o);have p7:=HPQ3.o _ HR7.o;have HX7:=zh (HEX3.o HP29.o _ HR7.o (.slice ia K ic));go_wp2_with fail;refine HX7.o.mono ?_;rintro e' w9 ⟨rfl,hcl⟩;have HCL:=zh hcl;clear hcl;go_wp2;go_returns;exact ⟨rfl,HCL.o⟩
  have HP29:=zh h29;have c29:(cnt:Int) < 29:=by omega
  clear h29;go_wp2_with fail;refine (HNOW3.o _ HB4.o).mono ?_;rintro e' w' ⟨rfl,rfl⟩;go_wp2_with fail;obtain ⟨w6,hw6⟩:=xE (wr.alloc (.cells #[.int .u64 P,.int .u64 0,.int .i64 cnt,.slice ia K ic] 184));obtain ⟨NN,hNN⟩:=xE wr.heap.size;have hn6:w6.heap[NN]?=some (ndO P 0 cnt (.slice ia K ic)):=by rw [hw6,hNN];exact ZB _ _
  have HB6:=zh (show Bl w3 w6 by rw [hw6];exact ZA HB4.o);have HR6:=zh (Below.refl w6.heap.size w6);have HS6:=zh (fun (wx:World) (hb:Bl w6 wx)=>show wx.cell? ⟨PB,0,none⟩=some (.int .u64 Q)/\wx.cell? ⟨NN,0,none⟩=some (.int .u64 P)/\wx.cell? ⟨NN,2,none⟩=some (.int .i64 cnt) from by
   have hx:=YS ((hb.block _ (heap_lt hn6)).trans hn6);exact ⟨HPQ3.o _ (HB6.o.trans (hb.mono HB6.o.size)),hx.1,hx.2.2.1⟩)
  have HV6:=zh (fun (wx:World) (hb:Bl w6 wx)=>Ut (HV3.o wx (HB6.o.trans (hb.mono HB6.o.size))) HL1.o.1 (by have:=HL1.o;omega));rw [<-hw6,<-hNN];have hc1:IntKind.i64.wrap ((cnt:Int)+1)=(cnt:Int)+1:=IntWalk.i64_in _ (by omega);have hc2:IntKind.u64.wrap ((cnt:Int)+1)=(cnt:Int)+1:=by
   have:=HP29.o;have h0:(0:Int)<=cnt:=by omega
   show ((cnt:Int)+1) % 18446744073709551616=(cnt:Int)+1;omega
  clear hw6 hNN hn6 n0 n1 n2 n3 l0 l1;have e3:ZP [(A1,Q),(A2,now),(A3,cnt+1)]=[.int .u64 A1,.int .u64 Q,.int .u64 A2,.int .u64 now,.int .u64 A3,.int .u64 ((cnt:Int)+1)]:=rfl
  go_region_held3 (fun wx=>wx.cell? ⟨PB,0,none⟩=some (.int .u64 Q)/\wx.cell? ⟨NN,0,none⟩=some (.int .u64 P)/\wx.cell? ⟨NN,2,none⟩=some (.int .i64 cnt))
   (first|exact HS6.o _ (by repeat (with_reducible first|assumption|exact HR6.o|apply ZA|apply ZD)))
   (first
     |(refine ZJ rfl func67 rfl rfl rfl (HV6.o _ (by repeat (with_reducible first|assumption|exact HR6.o|apply ZA|apply ZD))) (by first|(simp [Act.eval];done)|(simp [Act.eval];rfl)) ?_;rintro e' V1 ⟨r,rfl,hwr,hbv⟩;have hbz:Bl w6 V1:=(show Bl w6 _ from by repeat (with_reducible first|exact HR6.o|apply ZA|apply ZD)).trans (hbv.mono nR);clear hbv;refine ⟨_,rfl,?_⟩)
     |(refine ZJ rfl func13 rfl rfl rfl (HAT1.o HP29.o _) (by first|(simp [Act.eval];done)|(simp [Act.eval];rfl)) ?_;rintro e' V2 ⟨rfl,rfl⟩;refine ⟨_,rfl,?_⟩)
     |(refine ZJ rfl func13 rfl rfl rfl (HAT2.o HP29.o _) (by first|(simp [Act.eval];done)|(simp [Act.eval];rfl)) ?_;rintro e' V2 ⟨rfl,rfl⟩;refine ⟨_,rfl,?_⟩)
     |(refine ZJ rfl func13 rfl rfl rfl (HAT3.o _) (by first|(simp [Act.eval];done)|(simp [Act.eval];rfl)) ?_;rintro e' V2 ⟨rfl,rfl⟩;refine ⟨_,rfl,?_⟩)
     |(refine ZJ rfl func77 rfl rfl rfl (HPA.o HP29.o _) (by first|(simp [Act.eval];done)|(simp [Act.eval];rfl)) ?_;rintro e' V2 ⟨rfl,rfl⟩;refine ⟨_,rfl,?_⟩)
     |(refine ZJ rfl func80 rfl rfl rfl (HEA.o HP29.o _) (by first|(simp [Act.eval];done)|(simp [Act.eval];rfl)) ?_;rintro e' V2 ⟨rfl,rfl⟩;refine ⟨_,rfl,?_⟩)
     |(refine Jq elWrites rfl _ _ rfl [.int .u64 A1,.int .u64 Q,.int .u64 A2,.int .u64 now,.int .u64 A3,.int .u64 ((cnt:Int)+1)] (World.ownsRow.alloc hwr _) rfl rfl (by omega) rfl (fun j u hj=>Yh hj) (by intro u hu;simp at hu;rcases hu with rfl|rfl|rfl|rfl|rfl|rfl <;> rfl) (by have:=HL1.o;unfold maxLen;omega) (by have:=HL1.o;omega) (by have:=hbz.size;simp;omega) ?_;intro g8 cap8 w8 how hgr;have hbx:Bl w6 w8:=ZN (by repeat (with_reducible first|assumption|exact HR6.o|apply ZA|apply ZD)) hgr (by have:=hbz.size;simp;omega) (fun k hk=>(World.ownsRow.lt hwr k hk).1)))
  have HB8:=zh (HB6.o.trans (hbx.mono HB6.o.size));have HV8:=zh (show Wrs w8 (.slice (some ⟨g8,0,none⟩) (lw.length+3) cap8) l from by
   have e4:l.length=lw.length+3:=by rw [HLW.o];simp
   have e5:ZP lw++[.int .u64 A1,.int .u64 Q,.int .u64 A2,.int .u64 now,.int .u64 A3,.int .u64 ((cnt:Int)+1)]=ZP l:=by rw [HLW.o];simp [ZP,u64]
   rw [e5] at how;refine VE (B:=w6.drew.heap.size) (show Wrt w8 _ _ l from ?_);unfold Wrt;rw [e4];exact how)
  have HPB8:=zh (HPB3.o HP29.o _ HB8.o _ HV8.o);clear how hgr hbx hwr hbz HPB3 HV3 HV6 HV8
  go_wp2_with (first
   |(rw [nilD_publish];exact ⟨rfl,rfl⟩)
   |(go_invoke;go_simp;go_at_call 26;refine HPB8.o.mono ?_;rintro e' w9 ⟨rfl,hcl⟩))
  have HCL:=zh hcl;clear hcl;go_wp2;go_returns;exact ⟨rfl,HCL.o⟩
theorem ZCH (h:HW w A F L T c x H false p ex res held) {t db lb off size:Nat} (hd:DrW w A F H t db lb off size) (hoff:off % 8=0/\off+size<=64 * L) (hsz:size < 1000000) (hz:c (off / 8)=0) {lib P kb cnt now Q:Nat} {q e an:Nat->Nat} (hl:LiB w lib P kb) (hk:CkB w A kb now an) (hn:NdC c L P 0 cnt q e) (hcnt:cnt < 29) (hQ:PtrOk Q)
 (hck:∀ w1,Bl w w1->Calls prog 18 #[.pointer (some ⟨db,0,none⟩),.int .u64 P,.int .u8 12] w1 fun e' w'=>e'=.returned (.int .i64 0)/\Bl w1 w')
 (hckq:∀ w1,Bl w w1->Calls prog 18 #[.pointer (some ⟨db,0,none⟩),.int .u64 Q,.int .u8 0] w1 fun e' w'=>e'=.returned (.int .i64 0)/\Bl w1 w')
 (hno:¬ ZEZ (itm q e 29) Q) (hnow:now<=1000000)
 {v:Value} {lw l:List (Nat×Nat)} (hv:Wrs w v lw) (hlw:l=lw++[(ZM P+8 * (2+2 * cnt),Q),(ZM P+8 * (3+2 * cnt),now),(ZM P+8 * 1,cnt+1)]) (h1:1<=lw.length) (h90:lw.length<=80) (hs:64+16 * l.length<=size) (hok:Vp L off size l) (hx1:x+6 * l.length+8<=x') (hx:x'<=1000000):
 Calls prog 41 #[.pointer (some ⟨lib,0,none⟩),.iface 27 (.pointer (some ⟨db,0,none⟩)),.int .u64 Q,v] w fun e' w'=>e'=.returned (.int .i64 0)/\ClP w A F L T (wrs c (cmL off (cmV T l) l).flatten) x' H false p ex res held w':=by
 have hll:l.length=lw.length+3:=by rw [hlw];simp
 exact Ja h hd hl hk hn (by omega) hQ hck hckq hno hnow hv hlw h1 h90
  (fun _ wx hb v1 hv1=>(ZGJ (x':=x') (h.below hb) (hd.below hb) hoff hsz hz hv1 (by omega) (by omega) hs hok hx1 hx).mono fun e' w' ⟨h1,F',h2,h3⟩=>⟨h1,F',h2,(HMv.of_below (F:=F) (H:=H) hb).trans h3⟩)
  (fun hc=>absurd hcnt (by omega))
variable {c0:Nat->Nat}{s:LS}
structure WAd where
 wb:Nat
 pb:Nat
 db:Nat
 lg:Nat
 lib:Nat
 kb:Nat
 rb:Nat
 mb:Nat
 xs:List (Nat×Obj)
 w0:World
abbrev pL:Nat:=3377704015495745
abbrev pA:Nat:=18014402804449918
def plc (k:Chk):Nat->Plc:=fun j=>if j=1 then ⟨103,k.cl,k.ow,false⟩ else ⟨71+32 * j,4,0,false⟩
def wwC (B:WAd)(s:LS)(fv iv:Value):Nat->Value:=fun i=>
 if i=0 then .pointer (some ⟨B.pb,0,none⟩) else if i=1 then .pointer (some ⟨B.db,0,none⟩) else if i=2 then .pointer (some ⟨B.lib,0,none⟩) else if i=3 then .int .u64 pA
 else if i < 44 then .int .u64 (s.lp (i - 4)) else if i=44 then fv else if i=45 then iv else if i=46 then .int .u64 s.now else .int .u64 (s.ann (i - 47))
def OwF (w:World)(F:Nat->Option ZK)(H:HAd)(e:TypeId)(z:Nat)(v:Value)(n:Nat)(xs:List Value):Prop:=w.ownsRow 0 e z v n xs/\∀ k,v.ownBlock=some k->Frn F H k/\H.x0<=k
def ZJl (H:HAd)(p:Nat×Obj):Prop:=p.1 < H.x0\/(∃ es cl,p.2=.map es cl)\/∃ cs,p.2=.cells cs 47 (0,0)
def XsB (w:World)(F:Nat->Option ZK)(H:HAd)(l:List (Nat×Obj)):Prop:=∀ p∈l,w.heap[p.1]?=some p.2/\(F p.1=none/\¬ H.own p.1)/\ZJl H p
theorem XsB.below {l:List (Nat×Obj)}(h:XsB w F H l)(hb:Bl w w'):XsB w' F H l:=fun p hp=>⟨(hb.block _ (heap_lt (h p hp).1)).trans (h p hp).1,(h p hp).2⟩
theorem XsB.ne {l:List (Nat×Obj)}(h:XsB w F H l){p:Nat×Obj}(hp:p∈l){b:Nat}{a:Array Value}{e:TypeId}{z:Nat×Nat}(hb:w.heap[b]?=some (.cells a e z))(he:H.x0<=b)(hne:e≠47):p.1≠b:=by
 intro q;have h1:=(h p hp).1;rcases (h p hp).2.2 with h2|⟨es,cl,h2⟩|⟨cs,h2⟩
 ·omega
 ·rw [q,hb,h2] at h1;simp at h1
 ·rw [q,hb,h2] at h1;cases h1;exact hne rfl
theorem XsB.only {l:List (Nat×Obj)}(h:XsB w F H l){G:Nat->Prop}(ho:Only G w w')(hG:∀ p∈l,¬ G p.1):XsB w' F H l:=fun p hp=>⟨(ho.block _ (heap_lt (h p hp).1) (hG p hp)).trans (h p hp).1,(h p hp).2⟩
theorem Zr {n:Nat}{a:World}{G:Nat->Prop}(h:Below n a w)(ho:Only G w w')(hn:n<=w.heap.size)(hG:∀ k,k < w.heap.size->G k->n<=k):Below n a w':=
 h.trans ⟨ho.os,ho.tape,ho.output,ho.size,fun k hk=>ho.block k (ZLC hk hn) (fun q=>by have:=hG k (ZLC hk hn) q;omega)⟩
theorem XsB.moved {l:List (Nat×Obj)}(h:XsB w F H l)(hm:HMv F F' H w w'):XsB w' F' H l:=fun p hp=>by
 obtain ⟨h1,h2,h3⟩:=h p hp;have hlt:=heap_lt h1;exact ⟨(hm.only.block p.1 hlt (fun q=>q.elim (fun q=>q h2.1) h2.2)).trans h1,⟨by rw [hm.same _ hlt];exact h2.1,h2.2⟩,h3⟩
structure WC (w:World)(A:DAd)(F:Nat->Option ZK)(T c:Nat->Nat)(x:Nat)(H:HAd)(ex:Nat)(B:WAd)(c0:Nat->Nat)(s:LS):Prop where
 hw:HW w A F 160 T c x H false (plc s.k) ex (fun _=>none) (fun _=>none)
 l0:H.l0=71/\H.ls=64/\H.t=0
 dr:DrW w A F H 0 B.db B.lg 640 1664
 ck:CkB w A B.kb s.now s.ann
 fk:Frn F H B.kb
 li:LiB w B.lib pL B.kb
 fi:Frn F H B.lib
 po:PoB w A B.pb H.hb B.rb B.kb B.mb
 fp:Frn F H B.pb
 rt:RtB w A B.rb
 fr:Frn F H B.rb
 rep:s.Rep T c c0
 xk:H.x0<=B.kb/\H.x0<=B.wb/\H.x0<=H.hb
 xo:∀ k,H.own k->H.x0<=k
 xf:∀ k,F k≠none->H.x0<=k
 xb:Below H.x0 B.w0 w
 xt:XsB w F H B.xs
structure WR (w:World)(F:Nat->Option ZK)(H:HAd)(B:WAd)(s:LS)(fv iv:Value):Prop where
 row:Row w B.wb 38 55 (wwC B s fv iv)
 fre:OwF w F H 30 1 fv s.fr.length (ptl s.fr)
 ite:OwF w F H 452 2 iv s.its.length (rcl s.its)
 fw:Frn F H B.wb
theorem OwF.below {e:TypeId}{z n:Nat}{v:Value}{xs:List Value}(h:OwF w F H e z v n xs)(hb:Bl w w'):OwF w' F H e z v n xs:=⟨ZQ h.1 hb,h.2⟩
theorem WR.below {B:WAd}{fv iv:Value}(h:WR w F H B s fv iv)(hb:Bl w w'):WR w' F H B s fv iv:=⟨h.row.of_block (hb.block _ h.row.lt),h.fre.below hb,h.ite.below hb,h.fw⟩
theorem WC.below {B:WAd}(h:WC w A F T c x H ex B c0 s)(hb:Bl w w'):WC w' A F T c x H ex B c0 s:=
 {h with hw:=h.hw.below hb,dr:=h.dr.below hb,ck:=h.ck.below hb,li:=h.li.below hb,po:=h.po.below hb,rt:=(hb.block _ (heap_lt h.rt)).trans h.rt,xt:=h.xt.below hb,xb:=Zr h.xb (Only.of_below (F:=fun _=>False) hb) (ZK6 h.xk.2.2 (Nat.le_of_lt (heap_lt h.hw.hp.hp))) (fun _ _ q=>q.elim)}
theorem Z4 {e:TypeId}{z n:Nat}{v:Value}{xs:List Value}{b:Nat}{G:Nat->Prop}(h:w.ownsRow b e z v n xs)(ho:Only G w w')(hn:∀ k,v.ownBlock=some k->¬ G k):w'.ownsRow b e z v n xs:=by
 obtain ⟨h1,h2⟩:=h;refine ⟨h1,h2.imp id ?_⟩;rintro ⟨g,cap,cur,rfl,hg,hb,rest⟩;exact ⟨g,cap,cur,rfl,hg,(ho.block g (heap_lt hb) (hn g rfl)).trans hb,rest⟩
theorem HMv.notG (h:HMv F F' H w w'){k:Nat}(hf:Frn F H k):¬ (F k≠none\/H.own k):=fun q=>q.elim (fun q=>q hf.f) hf.o
theorem OwF.moved {e:TypeId}{z n:Nat}{v:Value}{xs:List Value}(h:OwF w F H e z v n xs)(hm:HMv F F' H w w'):OwF w' F' H e z v n xs:=
 ⟨Z4 h.1 hm.only (fun k hk=>hm.notG (h.2 k hk).1),fun k hk=>⟨(hm.frn (h.2 k hk).1 (h.1.lt k hk).2).2,(h.2 k hk).2⟩⟩
theorem WR.moved {B:WAd}{fv iv:Value}(h:WR w F H B s fv iv)(hm:HMv F F' H w w'):WR w' F' H B s fv iv:=
 ⟨h.row.of_block (hm.frn h.fw h.row.lt).1,h.fre.moved hm,h.ite.moved hm,(hm.frn h.fw h.row.lt).2⟩
theorem WC.moved {B:WAd}{s':LS}{ex':Nat}(h:WC w A F T c x H ex B c0 s)(hw:HW w' A F' 160 T c' x' H false (plc s'.k) ex' (fun _=>none) (fun _=>none))(hm:HMv F F' H w w')(hr:s'.Rep T c' c0)(hn:s'.now=s.now/\s'.ann=s.ann):WC w' A F' T c' x' H ex' B c0 s' where
 hw:=hw
 l0:=h.l0
 dr:=h.dr.moved hm
 ck:=by rw [hn.1,hn.2];exact (hm.frn h.fk (heap_lt h.ck)).1.trans h.ck
 fk:=(hm.frn h.fk (heap_lt h.ck)).2
 li:=(hm.frn h.fi (heap_lt h.li)).1.trans h.li
 fi:=(hm.frn h.fi (heap_lt h.li)).2
 po:=(hm.frn h.fp (heap_lt h.po)).1.trans h.po
 fp:=(hm.frn h.fp (heap_lt h.po)).2
 rt:=(hm.frn h.fr (heap_lt h.rt)).1.trans h.rt
 fr:=(hm.frn h.fr (heap_lt h.rt)).2
 rep:=hr
 xk:=h.xk
 xo:=h.xo
 xf:=fun k hk=>by
  have h1:=h.xk.2.2;have h2:=heap_lt h.hw.hp.hp
  by_cases e:k < w.heap.size
  ·rw [hm.same k e] at hk;exact h.xf k hk
  ·omega
 xb:=Zr h.xb hm.only (ZK6 h.xk.2.2 (Nat.le_of_lt (heap_lt h.hw.hp.hp))) (fun k _ q=>q.elim (h.xf k) (h.xo k))
 xt:=h.xt.moved hm
theorem WC.x0 {B:WAd}(h:WC w A F T c x H ex B c0 s):H.x0<=w.heap.size:=by
 have h1:=h.xk.2.2;have h2:=heap_lt h.hw.hp.hp;omega
theorem XG {b b':Nat}{a:Array Value}{e e':TypeId}{n:Nat}{f:Nat->Value}(h:w.heap[b]?=some (.cells a e (0,0)))(h':Row w b' e' n f)(hne:e≠e'):b≠b':=by
 rintro rfl;obtain ⟨c,hc,_⟩:=h';rw [hc] at h;cases h;exact hne rfl
theorem WC.setw {B:WAd}{n i:Nat}{f:Nat->Value}(h:WC w A F T c x H ex B c0 s)(hr:Row w B.wb 38 n f)(hf:Frn F H B.wb)(u:Value):WC (w.setCell ⟨B.wb,i,none⟩ u) A F T c x H ex B c0 s:=by
 have ho:Only (fun k=>k=B.wb) w (w.setCell ⟨B.wb,i,none⟩ u):=(Only.refl (fun k=>k=B.wb) w).set (F:=fun k=>k=B.wb) rfl u;have hb:∀ k,k≠B.wb->(w.setCell ⟨B.wb,i,none⟩ u).heap[k]?=w.heap[k]?:=fun k hk=>ZF hk
 refine {h with hw:=h.hw.only ho (fun k _ hk=>hk▸hf),dr:=h.dr.only ho (XG h.dr.dr hr (by decide)) (XG h.dr.lg hr (by decide)),ck:=?_,li:=?_,po:=?_,rt:=?_,xt:=?_,xb:=Zr h.xb ho (ZK6 h.xk.2.2 (Nat.le_of_lt (heap_lt h.hw.hp.hp))) (fun k _ q=>by have q:k=B.wb:=q;rw [q];exact h.xk.2.1)}
 ·exact (hb _ (XG h.ck hr (by decide))).trans h.ck
 ·exact (hb _ (XG h.li hr (by decide))).trans h.li
 ·exact (hb _ (XG h.po hr (by decide))).trans h.po
 ·exact (hb _ (XG h.rt hr (by decide))).trans h.rt
 ·obtain ⟨cw,hcw,_⟩:=hr
  exact h.xt.only ho (fun p hp=>h.xt.ne hp hcw h.xk.2.1 (by decide))
theorem OwF.setw {wb i:Nat}{e:TypeId}{z n m:Nat}{v:Value}{xs:List Value}{f:Nat->Value}(h:OwF w F H e z v n xs)(hr:Row w wb 38 m f)(he:e≠38)(u:Value):OwF (w.setCell ⟨wb,i,none⟩ u) F H e z v n xs:=
 ⟨Z4 h.1 ((Only.refl (fun k=>k=wb) w).set (F:=fun k=>k=wb) rfl u) (fun k hk q=>by
   have q:k=wb:=q;rw [q] at hk;obtain ⟨c,hc,_⟩:=hr;exact Zc h.1 hc he hk),h.2⟩
variable {n:Nat}
theorem QQ (q e:Nat->Nat):∀ n,itm q e n=((List.range n).filter fun i=>q i != 0).map fun i=>(i,q i,e i)
 |0=>rfl
 |n+1=>by
  show itm q e n++_=_;rw [QQ q e n,ZLN,ZLU,ZLH]
  congr 1
  by_cases h:q n=0
  ·simp [h]
  ·simp [h]
def LS.q (s:LS)(i:Nat):Nat:=(s.en.getD i (0,0)).1
def epW (c:Nat->Nat)(i:Nat):Nat:=c (580+2 * i)
theorem LS.q_ge (s:LS){i:Nat}(h:s.en.length<=i):s.q i=0:=by unfold LS.q;rw [Vi h]
theorem LS.range_q (s:LS)(h:s.en.length<=29)(p:Nat->Bool):(List.range 29).filter (fun i=>s.q i != 0 && p i)=(List.range s.en.length).filter (fun i=>s.q i != 0 && p i):=by
 obtain ⟨d,hd⟩:∃ d,29=s.en.length+d:=⟨29 - s.en.length,by omega⟩
 rw [hd,List.range_add,ZLU];have hz:List.filter (fun i=>s.q i != 0 && p i) (List.map (fun x=>s.en.length+x) (List.range d))=[]:=List.filter_eq_nil_iff.2 fun x hx=>by
  obtain ⟨j,_,rfl⟩:=ZKz.1 hx;rw [s.q_ge (Nat.le_add_right _ _)];simp
 rw [hz,List.append_nil]
theorem LS.Rep.itm_eq (h:s.Rep T c c0):Dv.itm s.q (epW c) 29=((List.range s.en.length).filter fun i=>s.q i != 0).map fun i=>(i,s.en.getD i (0,0)):=by
 rw [QQ];have h1:=s.range_q h.n29 (fun _=>true);simp only [Bool.and_true] at h1;rw [h1];refine List.map_congr_left fun i hi=>?_
 have hlt:i < s.en.length:=ZLJ.1 (ZLK.1 hi).1;show (i,s.q i,epW c i)=_;unfold epW LS.q;rw [h.epo i hlt]
theorem LS.Rep.itm_full (h:s.Rep T c c0):(Dv.itm s.q (epW c) 29).map (fun y=>(y.2.1,y.2.2))=full s.en:=by
 rw [h.itm_eq,List.map_map];unfold full
 conv=>rhs;rw [<-Qb s.en]
 rw [List.filter_map];rfl
theorem LS.Rep.itm_fl (h:s.Rep T c c0):(Dv.itm s.q (epW c) 29).filter (fun y=>YG s.now s.ann y.2.2)=s.ixs.map fun i=>(i,s.en.getD i (0,0)):=by
 rw [h.itm_eq,List.filter_map,List.filter_filter];unfold LS.ixs
 congr 1
 refine List.filter_congr fun i _=>?_
 show (YG s.now s.ann (s.en.getD i (0,0)).2 && (s.q i != 0))=_;rw [Bool.and_comm];rfl
theorem LS.colW_eq (s:LS){all:Bool}(ha:all=true↔full (s.en.map s.clr)=[]):QG 3377704015495745 (s.ixs.map fun i=>(i,s.en.getD i (0,0))) all=YB s:=by
 unfold QG YB;rw [List.map_map]
 congr 1
 ·refine List.map_congr_left fun i _=>?_
  show (ZM 3377704015495745+8 * (2+2 * i),0)=_;rw [Xk.2.1];congr 1;omega
 ·by_cases h:full (s.en.map s.clr)=[]
  ·rw [ZKv h,ZKv (ha.2 h),Xk.2.1]
  ·rw [ZKu h]
   cases all with
   |true=>exact absurd (ha.1 rfl) h
   |false=>rfl
theorem LS.Rep.all_iff (h:s.Rep T c c0):((s.ixs.map fun i=>(i,s.en.getD i (0,0))).length == (Dv.itm s.q (epW c) 29).length)=true↔full (s.en.map s.clr)=[]:=by
 have e1:(Dv.itm s.q (epW c) 29).length=(full s.en).length:=by rw [<-h.itm_full,ZK7]
 have e2:s.ixs.length=s.frees.length:=by rw [LS.frees_ixs,ZK7]
 rw [e1,ZK7,e2,beq_iff_eq,UR s];have e3:=VQ s.sf (full s.en);unfold LS.frees;constructor
 ·intro q;exact ZLM (by omega)
 ·intro q;rw [q,List.length_nil] at e3;omega
theorem LS.Rep.ndc (h:s.Rep T c c0)(hi:s.Inv n)(hn:n<=60):NdC c 160 3377704015495745 0 s.en.length s.q (epW c) where
 ok:=Xk.1
 fit:=by rw [Xk.2.1];omega
 nxt:=by rw [Xk.2.1];exact h.nxt
 num:=by rw [Xk.2.1];exact h.num
 c29:=h.n29
 ents:=fun i h29=>by
  rw [Xk.2.1];refine ⟨?_,?_⟩
  ·rw [show 4616 / 8+(2+2 * i)=579+2 * i by omega];exact h.ptr i h29
  ·rw [show 4616 / 8+(3+2 * i)=580+2 * i by omega];rfl
 good:=fun i h29 h0=>by
  have hlt:i < s.en.length:=Nat.lt_of_not_le fun q=>h0 (s.q_ge q)
  have hm:s.en.getD i (0,0)∈full s.en:=by
   refine ZLK.2 ⟨?_,by simpa [LS.q] using h0⟩;rw [ZLQ,ZK9 hlt];exact ZLF hlt
  have hk:=(h.rep 1 (by omega)).head;obtain ⟨_,h2,_,_⟩:=hi.live_chk hn (by simpa [Y4] using hk) (LS.mem_en hm);exact ⟨hlt,h2.ok,by have:=h2.hi;show ZM (s.en.getD i (0,0)).1 < 64 * 160;omega⟩
 some:=by
  rcases hi.ok.fm with h1|h1
  ·exact .inl (by rw [h1];rfl)
  ·refine .inr fun q=>h1 ?_
   rw [<-h.itm_full,q];rfl
theorem LS.Rep.head (h:s.Rep T c c0):s.k.Head:=by have:=(h.rep 1 (by omega)).head;simpa [Y4] using this
theorem LS.Inv.its_perm (hi:s.Inv n)(h:s.Rep T c c0):s.its.Perm ((Dv.itm s.q (epW c) 29).map fun y=>(y.2.1,y.2.2)):=by rw [h.itm_full];exact hi.ok.per
theorem LS.Inv.its_nd (hi:s.Inv n):(s.its.map fun x=>x.1 % 4294967296).Nodup:=by
 by_cases h0:s.na=0
 ·rw [(hi.ok.zero h0).2.2.2.2];exact List.nodup_nil
 have hc:=(hi.cl0 h0).1;have h1:(s.its.map (·.1)).Nodup:=by
  have hnd:=hi.ok.nd;rw [LS.live_eq] at hnd;exact (hi.ok.per.map (·.1)).nodup_iff.2 (ZLO.1 hnd).2.1
 have e:s.its.map (fun x=>x.1 % 4294967296)=(s.its.map (·.1)).map (· % 4294967296):=by rw [List.map_map];rfl
 rw [e];refine List.pairwise_map.2 (List.Pairwise.imp_of_mem (fun {a b} ha hb hne hab=>hne ?_) h1);obtain ⟨x,hx,rfl⟩:=ZKz.1 ha;obtain ⟨y,hy,rfl⟩:=ZKz.1 hb;obtain ⟨j,hj⟩:=hi.ok.liv x.1 (LS.mem_en (hi.ok.per.mem_iff.1 hx));obtain ⟨m,hm⟩:=hi.ok.liv y.1 (LS.mem_en (hi.ok.per.mem_iff.1 hy));have e1:=hj.low hc;have e2:=hm.low hc;have:j=m:=by omega
 subst this;exact hj.2.2.2.trans hm.2.2.2.symm
end
end Go.Proofs.YteomliechfdhhaaGreatDoor.Dv
