/- Part 45. -/
import Derived.Test.YteomliechfdhhaaGreatDoorY44
import Derived.Test.YteomliechfdhhaaGreatDoorY42
set_option maxHeartbeats 8000000
set_option maxRecDepth 20000
set_option linter.all false
namespace Go.Proofs.YteomliechfdhhaaGreatDoor.Dv
open Tryz
section
open Go.RowKit Go.Proofs.YteomliechfdhhaaGreatDoor.Size
variable {w w':World}{A:DAd}{F F':Nat->Option ZK}{T c c':Nat->Nat}{x x' L:Nat}{H:HAd}{p p':Nat->Plc}{ex ex':Nat}{res held res' held':Nat->Option Nat}
def wbA (v0 v1 v2 v3 n:Value):Array Value:=#[v0,v1,v2,v3,.int .u64 0,.int .u64 0,.int .u64 0,.int .u64 0,.int .u64 0,.int .u64 0,.int .u64 0,.int .u64 0,.int .u64 0,.int .u64 0,.int .u64 0,.int .u64 0,.int .u64 0,.int .u64 0,.int .u64 0,.int .u64 0,.int .u64 0,.int .u64 0,.int .u64 0,.int .u64 0,.int .u64 0,.int .u64 0,.int .u64 0,.int .u64 0,.int .u64 0,.int .u64 0,.int .u64 0,.int .u64 0,.int .u64 0,.int .u64 0,.int .u64 0,.int .u64 0,.int .u64 0,.int .u64 0,.int .u64 0,.int .u64 0,.int .u64 0,.int .u64 0,.int .u64 0,.int .u64 0,.slice none 0 0,.slice none 0 0,n,.int .u64 0,.int .u64 0,.int .u64 0,.int .u64 0,.int .u64 0,.int .u64 0,.int .u64 0,.int .u64 0]
theorem ZJh {B:WAd}(h:w.heap[B.wb]?=some (.cells (wbA (.pointer (some ⟨B.pb,0,none⟩)) (.pointer (some ⟨B.db,0,none⟩)) (.pointer (some ⟨B.lib,0,none⟩)) (.int .u64 pA) (.int .u64 2)) 38 (0,0))):Row w B.wb 38 55 (wwC B s00 (.slice none 0 0) (.slice none 0 0)):=by
 refine ⟨_,h,Nat.le_of_eq rfl,fun i hi=>?_⟩;have e:wbA (.pointer (some ⟨B.pb,0,none⟩)) (.pointer (some ⟨B.db,0,none⟩)) (.pointer (some ⟨B.lib,0,none⟩)) (.int .u64 pA) (.int .u64 2)=((List.range 55).map (wwC B s00 (.slice none 0 0) (.slice none 0 0))).toArray:=by kernel_rfl
 rw [e];simp [hi]
theorem XS {b b':Nat}{a a':Array Value}{e e':TypeId}{z z':Nat×Nat}(h:w.heap[b]?=some (.cells a e z))(h':w.heap[b']?=some (.cells a' e' z'))(hn:e≠e'):b≠b':=fun q=>by
 rw [q,h'] at h;cases h;exact hn rfl
structure BgS (w0:World)(A:DAd)(F:Nat->Option ZK)(c:Nat->Nat)(x:Nat)(H:HAd)(p:Nat->Plc)(ex:Nat)(res held:Nat->Option Nat)(wb pb rb kb mb:Nat)(v0 v1 v2 v3 n:Value)(w:World):Prop where
 hw:HW w A F 160 T0 c x H false p ex res held
 l:(H.l0=71/\H.ls=64)/\H.t=0/\H.x0=w0.heap.size
 po:PoB w A pb H.hb rb kb mb
 ck:CkB w A kb 2 an0
 rt:RtB w A rb
 fr:Frn F H pb/\Frn F H kb/\Frn F H rb/\Frn F H wb
 row:w.heap[wb]?=some (.cells (wbA v0 v1 v2 v3 n) 38 (0,0))
 xk:w0.heap.size<=kb/\w0.heap.size<=wb/\w0.heap.size<=H.hb
 xo:∀ k,H.own k->w0.heap.size<=k
 xf:∀ k,F k≠none->w0.heap.size<=k
 xb:Bl w0 w
variable {w0:World}{wb pb rb kb mb:Nat}{v0 v1 v2 v3 n u0 u1 u2 u3 m:Value}
theorem BgS.x0 (h:BgS w0 A F c x H p ex res held wb pb rb kb mb v0 v1 v2 v3 n w):w0.heap.size<=w.heap.size:=by
 have h1:=h.xk.2.2;have h2:=heap_lt h.hw.hp.hp;omega
theorem BgS.below (h:BgS w0 A F c x H p ex res held wb pb rb kb mb v0 v1 v2 v3 n w)(hb:Bl w w'):BgS w0 A F c x H p ex res held wb pb rb kb mb v0 v1 v2 v3 n w':=
 {h with hw:=h.hw.below hb,po:=h.po.below hb,ck:=h.ck.below hb,rt:=(hb.block _ (heap_lt h.rt)).trans h.rt,row:=(hb.block _ (heap_lt h.row)).trans h.row,xb:=Zr h.xb (Only.of_below (F:=fun _=>False) hb) h.x0 (fun _ _ q=>q.elim)}
theorem BgS.moved (h:BgS w0 A F c x H p ex res held wb pb rb kb mb v0 v1 v2 v3 n w)(hw:HW w' A F' 160 T0 c' x' H false p' ex' res' held')(hm:HMv F F' H w w'):BgS w0 A F' c' x' H p' ex' res' held' wb pb rb kb mb v0 v1 v2 v3 n w' where
 hw:=hw
 l:=h.l
 po:=(hm.frn h.fr.1 (heap_lt h.po)).1.trans h.po
 ck:=(hm.frn h.fr.2.1 (heap_lt h.ck)).1.trans h.ck
 rt:=(hm.frn h.fr.2.2.1 (heap_lt h.rt)).1.trans h.rt
 fr:=⟨(hm.frn h.fr.1 (heap_lt h.po)).2,(hm.frn h.fr.2.1 (heap_lt h.ck)).2,(hm.frn h.fr.2.2.1 (heap_lt h.rt)).2,(hm.frn h.fr.2.2.2 (heap_lt h.row)).2⟩
 row:=(hm.frn h.fr.2.2.2 (heap_lt h.row)).1.trans h.row
 xk:=h.xk
 xo:=h.xo
 xf:=fun k hk=>by
  have h1:=h.xk.2.2;have h2:=heap_lt h.hw.hp.hp
  by_cases e:k < w.heap.size
  ·rw [hm.same k e] at hk;exact h.xf k hk
  ·omega
 xb:=Zr h.xb hm.only h.x0 (fun k _ q=>q.elim (h.xf k) (h.xo k))
theorem BgS.only (h:BgS w0 A F c x H p ex res held wb pb rb kb mb v0 v1 v2 v3 n w)(ho:Only (fun k=>k=wb) w w')(hr:w'.heap[wb]?=some (.cells (wbA u0 u1 u2 u3 m) 38 (0,0))):BgS w0 A F c x H p ex res held wb pb rb kb mb u0 u1 u2 u3 m w':=
 {h with
  hw:=h.hw.only ho (fun k _ hk=>hk▸h.fr.2.2.2)
  po:=(ho.block _ (heap_lt h.po) (XS h.po h.row (by decide))).trans h.po
  ck:=(ho.block _ (heap_lt h.ck) (XS h.ck h.row (by decide))).trans h.ck
  rt:=(ho.block _ (heap_lt h.rt) (XS h.rt h.row (by decide))).trans h.rt
  row:=hr
  xb:=Zr h.xb ho h.x0 (fun k _ q=>by have q:k=wb:=q;rw [q];exact h.xk.2.1)}
theorem BgS.setw (h:BgS w0 A F c x H p ex res held wb pb rb kb mb v0 v1 v2 v3 n w){i:Nat}{v:Value}(e:(wbA v0 v1 v2 v3 n).setIfInBounds i v=wbA u0 u1 u2 u3 m):BgS w0 A F c x H p ex res held wb pb rb kb mb u0 u1 u2 u3 m (w.setCell ⟨wb,i,none⟩ v):=
 h.only ((Only.refl (fun k=>k=wb) w).set (F:=fun k=>k=wb) rfl v) ((ZH h.row).trans (by rw [e]))
theorem DrW.setw {db lb:Nat}(h:DrW w A F H 0 db lb 640 1664){a:Array Value}(hr:w.heap[wb]?=some (.cells a 38 (0,0)))(ho:Only (fun k=>k=wb) w w'):DrW w' A F H 0 db lb 640 1664:=
 h.only ho (XS h.dr hr (by decide)) (XS h.lg hr (by decide))
structure SlB (w:World)(F:Nat->Option ZK)(H:HAd)(sl:Nat):Prop where
 row:w.heap[sl]?=some (.cells #[.int .u64 (pL:Nat)] 30 (0,0))
 fr:Frn F H sl
theorem SlB.below {sl:Nat}(h:SlB w F H sl)(hb:Bl w w'):SlB w' F H sl:=⟨(hb.block _ (heap_lt h.row)).trans h.row,h.fr⟩
theorem SlB.moved {sl:Nat}(h:SlB w F H sl)(hm:HMv F F' H w w'):SlB w' F' H sl:=⟨(hm.frn h.fr (heap_lt h.row)).1.trans h.row,(hm.frn h.fr (heap_lt h.row)).2⟩
theorem SlB.setw {sl:Nat}(h:SlB w F H sl){a:Array Value}(hr:w.heap[wb]?=some (.cells a 38 (0,0)))(ho:Only (fun k=>k=wb) w w'):SlB w' F H sl:=⟨(ho.block _ (heap_lt h.row) (XS h.row hr (by decide))).trans h.row,h.fr⟩
theorem ZIA {t u:TypeId}(hw:Ev.GOk w0 t u){F0:Nat->Option ZK}(hd:Dev w A (Yd 160 (fun _=>0)) F0)(hb:Bl w0 w)(hF:∀ k,F0 k≠none->False\/w0.heap.size<=k):Aq w A F0 160 T0 cz 0:=by
 have h1:=ZHu hw;have h2:=ZHv hw;refine ⟨⟨_,hd,⟨rfl,rfl,fun _=>rfl,fun _ _=>rfl,fun _=>rfl,fun _=>rfl⟩,rfl,nR⟩,h1.below hb nR,h2.below hb,?_,?_⟩
 ·refine Classical.byContradiction fun q=>?_
  have:=(hF _ q).resolve_left id;have:=h1.lt;omega
 ·refine Classical.byContradiction fun q=>?_
  have:=(hF _ q).resolve_left id;have:=h2.lt;omega
theorem BgS.made {F0:Nat->Option ZK} {w1 w2 w3:World} (hb1:Bl w0 w1) (hF0:∀ k,F0 k≠none->False\/w0.heap.size<=k) (ha:Aq w1 A F0 160 T0 cz 0) (h12:Bl w1 w2) (hr:w2.heap[w1.heap.size]?=some (.cells (wbA (.pointer none) (.pointer none) (.pointer none) (.int .u64 0) (.int .u64 0)) 38 (0,0)))
 (hl:H.l0=71/\H.ls=64/\H.t=0/\H.x0=w0.heap.size)(hw:HW w3 A F 160 T0 c x H false p ex res held)(hp:PoB w3 A pb H.hb rb kb mb)(hk:CkB w3 A kb 2 an0)(ht:RtB w3 A rb)(f1:Frn F H pb)(f2:Frn F H kb)(f3:Frn F H rb)(hm:Moved F0 F w2 w3)(hn:w2.heap.size<=pb/\w2.heap.size<=kb/\w2.heap.size<=rb/\w2.heap.size<=H.hb/\∀ k,H.own k->w2.heap.size<=k):
 BgS w0 A F c x H p ex res held w1.heap.size pb rb kb mb (.pointer none) (.pointer none) (.pointer none) (.int .u64 0) (.int .u64 0) w3:=by
 obtain ⟨n1,n2,n3,n4,n5⟩:=hn;have hlt:=heap_lt hr;have hs:=hb1.size;have hs2:=h12.size;have hF1:F0 w1.heap.size=none:=ha.new nR;have hr3:=YH hm hF1 hr;refine ⟨hw,⟨⟨hl.1,hl.2.1⟩,hl.2.2⟩,hp,hk,ht,⟨f1,f2,f3,⟨(hm.same _ hlt).trans hF1,fun q=>by have:=n5 _ q;omega,⟨by omega,?_⟩,⟨by have:=ha.nib.lt;omega,by have:=ha.tab.lt;omega⟩⟩⟩,hr3,⟨by omega,hs,by omega⟩,fun k q=>by have:=n5 k q;omega,fun k q=>?_,?_⟩
 ·exact XS hr3 hw.set.set (by decide)
 ·by_cases e:k < w2.heap.size
  ·rw [hm.same k e] at q;exact (hF0 k q).resolve_left id
  ·omega
 ·exact Zr (hb1.trans (h12.mono hs)) hm.only (by omega) (fun k _ q=>(hF0 k q).resolve_left id)
theorem ZKm:Uq 16 (fun m=>Nat.beq (cA T0 (16+(4 * m+3))) 0)=true:=by kernel_rfl
theorem ZKn:Uq 16 (fun m=>match Nat.ble 1 m with
 |true=>Nat.beq (cP T0 (16+(4 * m+3))) 0
 |false=>true)=true:=by kernel_rfl
theorem ZHC:cP T0 16=478392707436/\cP T0 17=0/\Nat.beq (cP T0 19) 0=false:=⟨by kernel_rfl,by kernel_rfl,by kernel_rfl⟩
theorem ZJ7:nmS 478392707436 0={data:=#[108,105,109,98,111]}:=by kernel_rfl
theorem sLb:(({data:=#[108,105,109,98,111]}:ByteArray).toList == ({data:=#[97,110,99,104,111,114]}:ByteArray).toList)=false:=by kernel_rfl
theorem ZJt (h:Ar w A F 160 T0 (cA T0))(hr:RtB w A rb):
 Calls prog 25 #[.pointer (some ⟨rb,0,none⟩),.string {data:=#[108,105,109,98,111]},.int .u64 (pL:Nat)] w fun r w'=>∃ v,r=.returned (.tuple #[v,.int .i64 0])/\Wrs w' v (Uw T0 0 478392707436 pL)/\Bl w w':=by
 have hz:∀ m,m < 16->cA T0 (16+(4 * m+3))=0:=fun m hm=>ZLP (Z1 ZKm m hm)
 exact Uf h hr (NmT.of (f:=fun y=>cA T0 (16+y)) (n:=0) (xs:=fun _=>(0,0)) (fun y=>h.word_lt _) (fun m hm _=>hz m hm) (fun m hm=>by omega)) (fun m hm t ht=>by dsimp only at ht;rw [ZKu (by omega)] at ht;cases ht) (fun wx=>ZIS) (by omega) (fun m hm=>by omega) (hz 0 (by omega)) (by omega) (fun wx=>ZIU) Xk.1 (by rw [Xk.2.1];omega) (by decide)
theorem ZJs (h:Ar w A F 160 T0 (cP T0))(hr:RtB w A rb):
 Calls prog 25 #[.pointer (some ⟨rb,0,none⟩),.string {data:=#[97,110,99,104,111,114]},.int .u64 (pA:Nat)] w fun r w'=>∃ v,r=.returned (.tuple #[v,.int .i64 0])/\Wrs w' v (Uw T0 1 125822818283105 pA)/\Bl w w':=by
 have hz:∀ m,m < 16->1<=m->cP T0 (16+(4 * m+3))=0:=fun m hm h1=>by
  have h:=Z1 ZKn m hm;rw [Nat.ble_eq_true_of_le h1] at h;exact ZLP h
 have h19:cP T0 19≠0:=fun e=>by have h:=ZHC.2.2;rw [e] at h;cases h
 refine Uf h hr (NmT.of (f:=fun y=>cP T0 (16+y)) (n:=1) (xs:=fun _=>(478392707436,0)) (fun y=>h.word_lt _) (fun m hm h1=>hz m hm h1) (fun m hm=>?_)) (fun m hm t ht=>?_) (fun wx=>ZIR) (e:=1) (by omega) (fun m hm=>?_) (hz 1 (by omega) (by omega)) (by omega) (fun wx=>ZIT) ZEP.1 (by rw [ZEP.2.1];omega) (by decide)
 ·obtain rfl:m=0:=by omega
  exact ⟨ZHC.1,ZHC.2.1,h19⟩
 ·dsimp only at ht
  by_cases e:m < 1
  ·rw [ZKv e] at ht
   cases ht;rw [ZJ7];exact sLb
  ·rw [ZKu e] at ht;cases ht
 ·obtain rfl:m=0:=by omega
  exact h19
theorem ZF8 (h:HW w A F 160 T0 cw0 x H false p ex res held)(hl:H.l0=71/\H.ls=64){db lb:Nat}(hd:DrW w A F H 0 db lb 640 1664):
 Calls prog 18 #[.pointer (some ⟨db,0,none⟩),.int .u64 (pL:Nat),.int .u8 12] w fun e w'=>e=.returned (.int .i64 0)/\Bl w w':=by
 have hn:H.n=2:=by unfold HAd.n;rw [hl.2]
 have h1:=Xy h.ar h.hp (m:=0) (k:=k0) (by rw [hn];omega) (by rw [hl.1];omega) (by rw [hl.1];exact ZHI) (by decide) (p:=pL) (by decide) (by decide) (by rw [hl.1];decide) (by rw [hl.1];decide) 12 (by omega);rw [hl.1] at h1;exact V7 hd (by simpa [ZEK,V6,Xk.2.2] using h1)
theorem ZHa:(((((((((wbA v0 v1 v2 v3 (.int .u64 0)).setIfInBounds 46 (.int .u64 2)).setIfInBounds 47 (.int .u64 0)).setIfInBounds 48 (.int .u64 0)).setIfInBounds 49 (.int .u64 0)).setIfInBounds 50 (.int .u64 0)).setIfInBounds 51 (.int .u64 0)).setIfInBounds 52 (.int .u64 0)).setIfInBounds 53 (.int .u64 0)).setIfInBounds 54 (.int .u64 0)=wbA v0 v1 v2 v3 (.int .u64 2):=by kernel_rfl
theorem BgS.clock (h:BgS w0 A F c x H p ex res held wb pb rb kb mb v0 v1 v2 v3 (.int .u64 0) w)(ho:Only (fun k=>k=wb) w (w.setCells wb 46 #[.int .u64 2,.int .u64 0,.int .u64 0,.int .u64 0,.int .u64 0,.int .u64 0,.int .u64 0,.int .u64 0,.int .u64 0].toList)):BgS w0 A F c x H p ex res held wb pb rb kb mb v0 v1 v2 v3 (.int .u64 2) (w.setCells wb 46 #[.int .u64 2,.int .u64 0,.int .u64 0,.int .u64 0,.int .u64 0,.int .u64 0,.int .u64 0,.int .u64 0,.int .u64 0].toList):=
 h.only ho (by
  have h9:=ZH (i:=54) (v:=.int .u64 0) (ZH (i:=53) (v:=.int .u64 0) (ZH (i:=52) (v:=.int .u64 0) (ZH (i:=51) (v:=.int .u64 0) (ZH (i:=50) (v:=.int .u64 0) (ZH (i:=49) (v:=.int .u64 0) (ZH (i:=48) (v:=.int .u64 0) (ZH (i:=47) (v:=.int .u64 0) (ZH (i:=46) (v:=.int .u64 2) h.row))))))));rw [ZHa] at h9;exact h9)
theorem ZDA {db lb:Nat}(hs:BgS w0 A F cw0 x H p ex res held wb pb rb kb mb v0 v1 v2 v3 n w)(hd:DrW w A F H 0 db lb 640 1664):
 Calls prog 28 #[.iface 27 (.pointer (some ⟨db,0,none⟩)),.int .u64 (pL:Nat),.pointer (some ⟨kb,0,none⟩)] w fun e w'=>∃ lib,e=.returned (.tuple #[.pointer (some ⟨lib,0,none⟩),.int .i64 0])/\LiB w' lib pL kb/\Frn F H lib/\w.heap.size<=lib/\Bl w w':=by
 have hn:NdC cw0 160 pL 0 s00.en.length s00.q (epW cw0):=rep_00.ndc ZGc (by omega);refine (ZFG hs.hw.ar hd (P:=pL) (kb:=kb) hn (fun w1 hb1=>ZF8 (hs.hw.below hb1) hs.l.1 (hd.below hb1))).mono ?_;rintro e w' ⟨h1,h2,h3⟩;exact ⟨_,h1,h2,hs.hw.newf nR,nR,h3⟩
theorem BgS.done {db lb lib:Nat}{xs:List (Nat×Obj)}(h:BgS w0 A F cw0 910 H (plc kF) 4 (fun _=>none) (fun _=>none) wb pb rb kb mb (.pointer (some ⟨pb,0,none⟩)) (.pointer (some ⟨db,0,none⟩)) (.pointer (some ⟨lib,0,none⟩)) (.int .u64 (pA:Nat)) (.int .u64 2) w)(hd:DrW w A F H 0 db lb 640 1664)(hl:LiB w lib pL kb)(hf:Frn F H lib)(hxs:∀ p∈xs,w0.heap[p.1]?=some p.2):
 ∃ A F H B,B.xs=xs/\B.w0=w0/\H.x0=w0.heap.size/\Ending.returned (.pointer (some ⟨wb,0,none⟩))=.returned (.pointer (some ⟨B.wb,0,none⟩))/\WC w A F T0 cw0 910 H 4 B cw0 s00/\WR w F H B s00 (.slice none 0 0) (.slice none 0 0)/\w0.heap.size<=B.wb/\Bl w0 w:=by
 have hx0:=h.l.2.2;refine ⟨A,F,H,⟨wb,pb,db,lb,lib,kb,rb,mb,xs,w0⟩,rfl,rfl,hx0,rfl,?_,?_,h.xk.2.1,h.xb⟩
 ·refine ⟨h.hw,⟨h.l.1.1,h.l.1.2,h.l.2.1⟩,hd,h.ck,h.fr.2.1,hl,hf,h.po,h.fr.1,h.rt,h.fr.2.2.1,rep_00,?_,?_,?_,?_,fun q hq=>⟨(h.xb.block _ (heap_lt (hxs q hq))).trans (hxs q hq),⟨?_,fun e=>?_⟩,.inl ?_⟩⟩
  ·rw [hx0];exact h.xk
  ·rw [hx0];exact h.xo
  ·rw [hx0];exact h.xf
  ·rw [hx0];exact h.xb
  ·refine Classical.byContradiction fun e=>?_
   have:=h.xf _ e;have:=heap_lt (hxs q hq);omega
  ·have:=h.xo _ e;have:=heap_lt (hxs q hq);omega
  ·rw [hx0];exact heap_lt (hxs q hq)
 ·exact ⟨ZJh (B:=⟨wb,pb,db,lb,lib,kb,rb,mb,xs,w0⟩) h.row,⟨ZLD _ _ _ _,fun k hk=>by cases hk⟩,⟨ZLD _ _ _ _,fun k hk=>by cases hk⟩,h.fr.2.2.2⟩
theorem ZEf {w0:World}{t u:TypeId}(hw:Ev.GOk w0 t u){xs:List (Nat×Obj)}(hxs:∀ p∈xs,w0.heap[p.1]?=some p.2):
 Calls prog 4 #[] w0 fun e w=>∃ A F H B,B.xs=xs/\B.w0=w0/\H.x0=w0.heap.size/\e=.returned (.pointer (some ⟨B.wb,0,none⟩))/\WC w A F T0 cw0 910 H 4 B cw0 s00/\WR w F H B s00 (.slice none 0 0) (.slice none 0 0)/\w0.heap.size<=B.wb/\Bl w0 w:=by
 have HG:=zh hw;have HXS:=zh hxs;clear hw hxs;go_in;go_wp2_with fail;refine (ZID (L:=160) (by omega)).mono ?_;rintro e w1 ⟨v,rfl,A,F0,rfl,hdev,hb1,hF0⟩;have HA1:=zh (ZIA HG.o hdev hb1 hF0);have HB1:=zh hb1;have HF0:=zh hF0;unfold ptr;clear hdev hb1 hF0;go_upto_region 5 with fail;obtain ⟨w2,hw2⟩:=xE (w1.alloc (.cells #[.pointer none,.pointer none,.pointer none,.int .u64 0,.int .u64 0,.int .u64 0,.int .u64 0,.int .u64 0,.int .u64 0,.int .u64 0,.int .u64 0,.int .u64 0,.int .u64 0,.int .u64 0,.int .u64 0,.int .u64 0,.int .u64 0,.int .u64 0,.int .u64 0,.int .u64 0,.int .u64 0,.int .u64 0,.int .u64 0,.int .u64 0,.int .u64 0,.int .u64 0,.int .u64 0,.int .u64 0,.int .u64 0,.int .u64 0,.int .u64 0,.int .u64 0,.int .u64 0,.int .u64 0,.int .u64 0,.int .u64 0,.int .u64 0,.int .u64 0,.int .u64 0,.int .u64 0,.int .u64 0,.int .u64 0,.int .u64 0,.int .u64 0,.slice none 0 0,.slice none 0 0,.int .u64 0,.int .u64 0,.int .u64 0,.int .u64 0,.int .u64 0,.int .u64 0,.int .u64 0,.int .u64 0,.int .u64 0] 38));have HR2:=zh (show w2.heap[w1.heap.size]?=some (.cells (wbA (.pointer none) (.pointer none) (.pointer none) (.int .u64 0) (.int .u64 0)) 38 (0,0)) by rw [hw2];exact ZB _ _);have H12:=zh (show Bl w1 w2 by rw [hw2];exact ZA bR);rw [<-hw2];clear hw2;go_wp2_with fail;refine default_yes.mono ?_;rintro e w3 ⟨rfl,hb3⟩;have H13:=zh (H12.o.trans (hb3.mono H12.o.size));have HR3:=zh ((hb3.block _ (heap_lt HR2.o)).trans HR2.o);clear hb3 HR2 H12;go_wp2_with fail;refine (ZCS (HA1.o.below H13.o) (by omega) w0.heap.size).mono ?_;rintro e w4 ⟨F,H,pb,rb,kb,mb,rfl,hH,hw,hp,hk,hr,f1,f2,f3,hm,hn⟩;have HS4:=zh (BgS.made HB1.o HF0.o HA1.o H13.o HR3.o hH hw hp hk hr f1 f2 f3 hm hn);clear hH hw hp hk hr f1 f2 f3 hm hn HA1 HF0 HR3;obtain ⟨wb,hwb⟩:=xE w1.heap.size;rw [<-hwb] at HS4 ⊢;clear hwb H13 HB1;have c0:w4.cell? ⟨wb,0,none⟩=some (.pointer none):=(ZC HS4.o.row).trans rfl;have f0:=ZG (i:=0) HS4.o.row;go_upto_region 8 with fail;have HS5:=zh (HS4.o.setw (i:=0) (v:=.pointer (some ⟨pb,0,none⟩)) (u0:=.pointer (some ⟨pb,0,none⟩)) rfl);obtain ⟨w5,hw5⟩:=xE (w4.setCell ⟨wb,0,none⟩ (.pointer (some ⟨pb,0,none⟩)));rw [<-hw5] at HS5 ⊢;clear hw5 HS4 c0 f0;have c0:w5.cell? ⟨wb,0,none⟩=some (.pointer (some ⟨pb,0,none⟩)):=(ZC HS5.o.row).trans rfl;go_wp2_with fail;refine (ZFR HS5.o.po HS5.o.hw.ar (t:=0) (by omega)).mono ?_;rintro e w6 ⟨db,lb,rfl,⟨hb6,hlb,hlg⟩,hdb,hdr⟩;have HS6:=zh (HS5.o.below hb6);have HD6:=zh (show DrW w6 A F H 0 db lb 640 1664 from ⟨hdr,hlg,by omega,⟨(HS5.o.hw.newf hdb).f,(HS5.o.hw.newf hdb).o⟩,⟨(HS5.o.hw.newf hlb).f,(HS5.o.hw.newf hlb).o⟩⟩);clear hb6 hlb hlg hdb hdr c0 HS5;have c1:w6.cell? ⟨wb,1,none⟩=some (.pointer none):=(ZC HS6.o.row).trans rfl;have f1:=ZG (i:=1) HS6.o.row;go_upto_region 9 with fail;have HS7:=zh (HS6.o.setw (i:=1) (v:=.pointer (some ⟨db,0,none⟩)) (u1:=.pointer (some ⟨db,0,none⟩)) rfl);have HD7:=zh (HD6.o.setw HS6.o.row ((Only.refl (fun k=>k=wb) w6).set (F:=fun k=>k=wb) (b:=wb) (i:=1) rfl (.pointer (some ⟨db,0,none⟩))));obtain ⟨w7,hw7⟩:=xE (w6.setCell ⟨wb,1,none⟩ (.pointer (some ⟨db,0,none⟩)));rw [<-hw7] at HS7 HD7 ⊢;clear hw7 HS6 HD6 c1 f1;have c1:w7.cell? ⟨wb,1,none⟩=some (.pointer (some ⟨db,0,none⟩)):=(ZC HS7.o.row).trans rfl;go_wp2_with fail;refine (ZCF (ZF7 HS7.o.hw HS7.o.l.1 (by omega) (by omega) HD7.o)).mono ?_;rintro e w9 ⟨w8,⟨F2,hw8,hm8⟩,rfl,hw9⟩;have h89:Bl w8 w9:=by rw [hw9];exact ZA bR
 have HS9:=zh ((HS7.o.moved hw8 hm8).below h89);have HD9:=zh ((HD7.o.moved hm8).below h89);obtain ⟨sl,hsl⟩:=xE w8.heap.size;have HL9:=zh (show SlB w9 F2 H sl from ⟨by rw [hw9,hsl];exact ZB _ _,by rw [hsl];exact hw8.newf nR⟩);rw [<-hsl];clear hw9 hsl h89 hw8 hm8 HS7 HD7 c1;have c1:w9.cell? ⟨wb,1,none⟩=some (.pointer (some ⟨db,0,none⟩)):=(ZC HS9.o.row).trans rfl;have l0:w9.cell? ⟨sl,0,none⟩=some (.int .u64 (pL:Nat)):=(ZC HL9.o.row).trans rfl;go_upto_region 12 with fail;go_wp2_with fail;refine (ZF6 HS9.o.hw HS9.o.l.1 (by omega) (by omega) HD9.o).mono ?_;rintro e w10 ⟨rfl,F3,hw10,hm10⟩;have HS10:=zh (HS9.o.moved hw10 hm10);have HD10:=zh (HD9.o.moved hm10);have HL10:=zh (HL9.o.moved hm10);clear hw10 hm10 HS9 HD9 HL9 c1 l0;have c3:w10.cell? ⟨wb,3,none⟩=some (.int .u64 0):=(ZC HS10.o.row).trans rfl;have f3:=ZG (i:=3) HS10.o.row;go_upto_region 15 with fail;have HS11:=zh (HS10.o.setw (i:=3) (v:=.int .u64 18014402804449918) (u3:=.int .u64 (pA:Nat)) rfl);have HO:=zh (show Only (fun k=>k=wb) w10 (w10.setCell ⟨wb,3,none⟩ (.int .u64 18014402804449918)) from (Only.refl (fun k=>k=wb) w10).set (F:=fun k=>k=wb) (b:=wb) (i:=3) rfl (.int .u64 18014402804449918));have HD11:=zh (HD10.o.setw HS10.o.row HO.o);have HL11:=zh (HL10.o.setw HS10.o.row HO.o);obtain ⟨w11,hw11⟩:=xE (w10.setCell ⟨wb,3,none⟩ (.int .u64 18014402804449918));rw [<-hw11] at HS11 HD11 HL11 ⊢;clear hw11 HO HS10 HD10 HL10 c3 f3;have c0:w11.cell? ⟨wb,0,none⟩=some (.pointer (some ⟨pb,0,none⟩)):=(ZC HS11.o.row).trans rfl;go_wp2_with fail;refine (QY HS11.o.po).mono ?_;rintro e w' ⟨rfl,rfl⟩;go_wp2_with fail;refine (ZJt HS11.o.hw.ar HS11.o.rt).mono ?_;rintro e w12 ⟨va,rfl,hva,hb12⟩;have HS12:=zh (HS11.o.below hb12);have HD12:=zh (HD11.o.below hb12);have HL12:=zh (HL11.o.below hb12);have HV12:=zh hva;clear hva hb12 HS11 HD11 HL11 c0;have c1:w12.cell? ⟨wb,1,none⟩=some (.pointer (some ⟨db,0,none⟩)):=(ZC HS12.o.row).trans rfl;go_wp2_with fail;refine (ZI1 HS12.o.hw HS12.o.l.1 (by omega) (by omega) HD12.o HV12.o ((ZC HL12.o.row).trans rfl) ⟨HL12.o.fr.f,HL12.o.fr.o⟩).mono ?_;rintro e w13 ⟨rfl,F4,hw13,hm13⟩;have HS13:=zh (HS12.o.moved hw13 hm13);have HD13:=zh (HD12.o.moved hm13);clear hw13 hm13 HS12 HD12 HL12 HV12 c1;go_upto_region 18 with fail;have HKP:=zh (fun (wx:World) (hb:Bl w13 wx)=>show wx.cell? ⟨wb,0,none⟩=some (.pointer (some ⟨pb,0,none⟩))/\wx.cell? ⟨wb,3,none⟩=some (.int .u64 (pA:Nat)) from ⟨(ZC (HS13.o.below hb).row).trans rfl,(ZC (HS13.o.below hb).row).trans rfl⟩);have HRO:=zh (fun (wx:World) (hb:Bl w13 wx)=>QY (HS13.o.below hb).po);have HAC:=zh (fun (wx:World) (hb:Bl w13 wx)=>(ZJs (HS13.o.below hb).hw.ar (HS13.o.below hb).rt).mono (R':=fun r w'=>∃ v,r=.returned (.tuple #[v,.int .i64 0])/\Wrs w' v (Uw T0 1 125822818283105 pA)/\Bl w13 w') (fun e w' ⟨v,h1,h2,h3⟩=>⟨v,h1,h2,hb.trans (h3.mono hb.size)⟩));have HR:=zh (Below.refl w13.heap.size w13);obtain ⟨c0,c3⟩:=HKP.o _ HR.o
 go_region_held3 (fun wx=>wx.cell? ⟨wb,0,none⟩=some (.pointer (some ⟨pb,0,none⟩))/\wx.cell? ⟨wb,3,none⟩=some (.int .u64 (pA:Nat)))
  (first|exact HKP.o _ hb14|exact HKP.o _ (by repeat (with_reducible first|assumption|exact HR.o|apply ZA|apply ZD)))
  (first
    |(go_at_call 6;refine (HRO.o _ (by repeat (with_reducible first|assumption|exact HR.o|apply ZA|apply ZD))).mono ?_;rintro e V1 ⟨rfl,rfl⟩)
    |(go_at_call 25;refine (HAC.o _ (by repeat (with_reducible first|assumption|exact HR.o|apply ZA|apply ZD))).mono ?_;rintro e V2 ⟨vb,rfl,hvb,hb14⟩))
 go_upto_region 19 with fail;have HS14:=zh (HS13.o.below hb14);have HD14:=zh (HD13.o.below hb14);have HV14:=zh hvb;clear hvb hb14 HS13 HD13 HKP HRO HAC HR c0 c3;have HKP:=zh (fun (wx:World) (hb:Bl V2 wx)=>show wx.cell? ⟨wb,1,none⟩=some (.pointer (some ⟨db,0,none⟩))/\wx.cell? ⟨wb,3,none⟩=some (.int .u64 (pA:Nat)) from ⟨(ZC (HS14.o.below hb).row).trans rfl,(ZC (HS14.o.below hb).row).trans rfl⟩);have HPB:=zh (fun (wx:World) (hb:Bl V2 wx) (tb:Nat) (ht:wx.cell? ⟨tb,0,none⟩=some (.int .u64 (pA:Nat))) (htn:V2.heap.size<=tb)=>(ZI0 (HS14.o.below hb).hw HS14.o.l.1 (by omega) (by omega) (HD14.o.below hb) (HV14.o.below hb) (tc:=1) ht ⟨(HS14.o.hw.newf htn).f,(HS14.o.hw.newf htn).o⟩).mono (R':=fun e w'=>e=.returned (.int .i64 0)/\∃ F',BgS w0 A F' cw0 (0+190+400+200+60+60) H (plc kF) (0+1+1+1+1) (fun _=>none) (fun _=>none) wb pb rb kb mb (.pointer (some ⟨pb,0,none⟩)) (.pointer (some ⟨db,0,none⟩)) (.pointer none) (.int .u64 (pA:Nat)) (.int .u64 0) w'/\DrW w' A F' H 0 db lb 640 1664) (fun e w' ⟨h1,F',h2,h3⟩=>⟨h1,F',(HS14.o.below hb).moved h2 h3,(HD14.o.below hb).moved h3⟩));have HR:=zh (Below.refl V2.heap.size V2);obtain ⟨c1,c3⟩:=HKP.o _ HR.o
 go_region_held3 (fun wx=>wx.cell? ⟨wb,1,none⟩=some (.pointer (some ⟨db,0,none⟩))/\wx.cell? ⟨wb,3,none⟩=some (.int .u64 (pA:Nat)))
  (first|exact ⟨(ZC hs15.row).trans rfl,(ZC hs15.row).trans rfl⟩|exact HKP.o _ (by repeat (with_reducible first|assumption|exact HR.o|apply ZA|apply ZD)))
  (first
    |(go_at_call 26;refine (HPB.o _ (by repeat (with_reducible first|assumption|exact HR.o|apply ZA|apply ZD)) _ (by exact (ZC (ZB _ _)).trans rfl) (by simp)).mono ?_;rintro e V3 ⟨rfl,F5,hs15,hd15⟩))
 go_upto_region 21 with fail;have HS15:=zh hs15;have HD15:=zh hd15;clear hs15 hd15 HS14 HD14 HV14 HKP HPB HR c1 c3;have c0:V3.cell? ⟨wb,0,none⟩=some (.pointer (some ⟨pb,0,none⟩)):=(ZC HS15.o.row).trans rfl;go_wp2_with fail;refine (JF HS15.o.po).mono ?_;rintro e w' ⟨rfl,rfl⟩;go_wp2_with fail;refine (ZDF HS15.o.hw.ar HS15.o.ck).mono ?_;rintro e w' ⟨rfl,rfl⟩;have HT:=zh (show V3.there wb 46 9 from fun j hj=>by
  refine ⟨?_,ZG HS15.o.row⟩;rw [ZC HS15.o.row];rcases (show j=0\/j=1\/j=2\/j=3\/j=4\/j=5\/j=6\/j=7\/j=8 by omega) with rfl|rfl|rfl|rfl|rfl|rfl|rfl|rfl|rfl <;> rfl)
 go_upto_region 22 with (refine Y9 rfl 36 _ _ (by rfl) wb 46 #[.int .u64 2,.int .u64 0,.int .u64 0,.int .u64 0,.int .u64 0,.int .u64 0,.int .u64 0,.int .u64 0,.int .u64 0] (by rfl) (by rfl) HT.o (by kernel_rfl) (by kernel_rfl) ?_)
 have HO:=zh (show Only (fun k=>k=wb) V3 (V3.setCells wb 46 #[.int .u64 2,.int .u64 0,.int .u64 0,.int .u64 0,.int .u64 0,.int .u64 0,.int .u64 0,.int .u64 0,.int .u64 0].toList) from Only.setCells (F:=fun k=>k=wb) (b:=wb) rfl _ (Only.refl _ _));have HS16:=zh (HS15.o.clock HO.o);have HD16:=zh (HD15.o.setw HS15.o.row HO.o);obtain ⟨w16,hw16⟩:=xE (V3.setCells wb 46 #[.int .u64 2,.int .u64 0,.int .u64 0,.int .u64 0,.int .u64 0,.int .u64 0,.int .u64 0,.int .u64 0,.int .u64 0].toList);rw [<-hw16] at HS16 HD16 ⊢;clear hw16 HO HS15 HD15 HT c0;have HKP:=zh (fun (wx:World) (hb:Bl w16 wx)=>show wx.cell? ⟨wb,0,none⟩=some (.pointer (some ⟨pb,0,none⟩))/\wx.cell? ⟨wb,1,none⟩=some (.pointer (some ⟨db,0,none⟩)) from ⟨(ZC (HS16.o.below hb).row).trans rfl,(ZC (HS16.o.below hb).row).trans rfl⟩);have HEP:=zh (fun (wx:World) (hb:Bl w16 wx)=>JF (HS16.o.below hb).po);have HLO:=zh (fun (wx:World) (hb:Bl w16 wx)=>(ZDA (HS16.o.below hb) (HD16.o.below hb)).mono (R':=fun e w'=>∃ lib,e=.returned (.tuple #[.pointer (some ⟨lib,0,none⟩),.int .i64 0])/\LiB w' lib pL kb/\Frn F5 H lib/\w16.heap.size<=lib/\Bl w16 w') (fun e w' ⟨lib,h1,h2,h3,h4,h5⟩=>⟨lib,h1,h2,h3,ZK6 hb.size h4,hb.trans (h5.mono hb.size)⟩));have HR:=zh (Below.refl w16.heap.size w16);obtain ⟨c0,c1⟩:=HKP.o _ HR.o
 go_region_held3 (fun wx=>wx.cell? ⟨wb,0,none⟩=some (.pointer (some ⟨pb,0,none⟩))/\wx.cell? ⟨wb,1,none⟩=some (.pointer (some ⟨db,0,none⟩)))
  (first|exact HKP.o _ hb17|exact ⟨(ZC (HS17.o.setw (i:=2) (v:=.pointer (some ⟨lib,0,none⟩)) (u2:=.pointer (some ⟨lib,0,none⟩)) rfl).row).trans rfl,(ZC (HS17.o.setw (i:=2) (v:=.pointer (some ⟨lib,0,none⟩)) (u2:=.pointer (some ⟨lib,0,none⟩)) rfl).row).trans rfl⟩|exact HKP.o _ (by repeat (with_reducible first|assumption|exact HR.o|apply ZA|apply ZD)))
  (first
    |(go_at_call 5;refine (HEP.o _ (by repeat (with_reducible first|assumption|exact HR.o|apply ZA|apply ZD))).mono ?_;rintro e V1 ⟨rfl,rfl⟩)
    |(go_at_call 28;refine (HLO.o _ (by repeat (with_reducible first|assumption|exact HR.o|apply ZA|apply ZD))).mono ?_;rintro e V4 ⟨lib,rfl,hli,hfl,hnl,hb17⟩;have HS17:=zh (HS16.o.below hb17);have c2:V4.cell? ⟨wb,2,none⟩=some (.pointer none):=(ZC HS17.o.row).trans rfl;have f2:=ZG (i:=2) HS17.o.row))
 have HO:=zh (show Only (fun k=>k=wb) V4 (V4.setCell ⟨wb,2,none⟩ (.pointer (some ⟨lib,0,none⟩))) from (Only.refl (fun k=>k=wb) V4).set (F:=fun k=>k=wb) (b:=wb) (i:=2) rfl (.pointer (some ⟨lib,0,none⟩)));have HS18:=zh (HS17.o.setw (i:=2) (v:=.pointer (some ⟨lib,0,none⟩)) (u2:=.pointer (some ⟨lib,0,none⟩)) rfl);have HD18:=zh ((HD16.o.below hb17).setw HS17.o.row HO.o);have HL18:=zh (show LiB (V4.setCell ⟨wb,2,none⟩ (.pointer (some ⟨lib,0,none⟩))) lib pL kb from (ZF (XS hli HS17.o.row (by decide))).trans hli);have HF18:=zh hfl;obtain ⟨w18,hw18⟩:=xE (V4.setCell ⟨wb,2,none⟩ (.pointer (some ⟨lib,0,none⟩)));rw [<-hw18] at HS18 HD18 HL18 ⊢;clear hw18 HO HS17 HS16 HD16 HKP HEP HLO HR c0 c1 c2 f2 hli hfl hnl hb17;go_wp2;go_returns;exact HS18.o.done HD18.o HL18.o HF18.o HXS.o
end
section
open Go.RowKit Go.Proofs.YteomliechfdhhaaGreatDoor.Size
variable {w w':World}{A:DAd}{F F':Nat->Option ZK}{T c c' c0:Nat->Nat}{x x':Nat}{H:HAd}{ex n:Nat}{s:LS}{B:WAd}{fv iv:Value}
theorem WC.redir {db lg:Nat}(h:WC w A F T c x H ex B c0 s)(hd:DrW w A F H 0 db lg 640 1664):WC w A F T c x H ex {B with db:=db,lg:=lg} c0 s:={h with dr:=hd}
theorem WC.relist {lib:Nat}(h:WC w A F T c x H ex B c0 s)(hl:LiB w lib pL B.kb)(hf:Frn F H lib):WC w A F T c x H ex {B with lib:=lib} c0 s:={h with li:=hl,fi:=hf}
def ZKT (w:World)(rb:Nat)(name:ByteArray)(P:Nat):Prop:=∀ wx,Bl w wx->Calls prog 7 #[.pointer (some ⟨rb,0,none⟩),.string name] wx fun e w'=>e=.returned (.tuple #[.int .u64 P,.int .i64 0])/\Bl wx w'
variable {L:Nat}
theorem Jd {P:Program} {fn:Func} {o p q:Tmp} {ty:TypeId} (h:fn.results=#[.tmp o,.cell p ty,.tmp q]) (tmps:Array Value) (w:World) (g:Nat) (t:TypeId) (cs:Array Value) (fr:Nat×Nat) (d:TypeDesc)
 (hp:tmps.getD p undef=.pointer (some ⟨g,0,none⟩)) (hg:w.heap[g]?=some (.cells cs t fr))
 (hu:P.underlying ty=some d)(hd:(match d with|.struct _|.array _ _=>true|_=>false)=true)(hi:(P.info? ty).map (·.size)=some cs.size):
 (results fn tmps).run P w=.ok (.tuple #[tmps.getD o undef,.agg cs,tmps.getD q undef]) w:=by
 have hp':tmps[p]?.getD undef=.pointer (some ⟨g,0,none⟩):=by simpa using hp
 simp [results,h,hp',asAddr,run_loadVar_row w g t ty cs fr d hg hu hd hi]
theorem ZDm (h:Ar w A F L T c) (hL:80<=8 * L) {rb:Nat} (hr:RtB w A rb) {nm:ByteArray} {k:Nat} (hk:k=0\/k=1)
 (hfd:∀ CS:Array Value,CS.size=64->(∀ y,y < 64->CS[y]?=some (.int .u64 (c (16+y):Nat)))->∀ wx,Bl w wx->Calls prog 61 #[.agg CS,.string nm] wx fun e w'=>e=.returned (.int .i64 k)/\Bl wx w'):
 Calls prog 29 #[.pointer (some ⟨rb,0,none⟩),.string nm] w fun e w'=>e=.returned (.tuple #[.int .i64 k,.agg #[.int .u64 (c (16+4 * k):Nat),.int .u64 (c (16+4 * k+1):Nat),.int .u64 (c (16+4 * k+2):Nat),.int .u64 (c (16+4 * k+3):Nat)],.int .i64 0])/\Bl w w':=by
 have HNO:=zh (fun (wx:World) (hb:Bl w wx)=>ZAb (hr.below hb));have HLD:=zh (fun (wx:World) (hb:Bl w wx)=>JJ (h.below hb) hL (hr.below hb));have HFD:=zh hfd;have HK:=zh hk;have HB0:=zh (Below.refl w.heap.size w);clear h hL hr hfd hk;go_in;go_wp2_with fail;obtain ⟨w1,hw1⟩:=xE (w.alloc (.cells #[.int .u64 0,.int .u64 0,.int .u64 0,.int .u64 0] 94));have HB1:=zh (show Bl w w1 by rw [hw1];exact ZA HB0.o);have HX1:=zh (show w1.heap[w.heap.size]?=some (.cells #[.int .u64 0,.int .u64 0,.int .u64 0,.int .u64 0] 94 (0,0)) by rw [hw1];exact ZB _ _);rw [<-hw1];clear hw1;obtain ⟨rb1,hrb1⟩:=xE w.heap.size;have HRB:=zh hrb1;refine (HNO.o _ HB1.o).mono ?_;rintro e w' ⟨rfl,rfl⟩;go_wp2_with fail;refine (HLD.o _ HB1.o).mono ?_;rintro e w2 ⟨CS,rfl,hcs,hcg,hb2⟩;have HB2:=zh (HB1.o.trans (hb2.mono HB1.o.size));have HX2:=zh ((hb2.block _ (heap_lt HX1.o)).trans HX1.o);have HCZ:=zh hcs;have HCG:=zh hcg;clear hb2 hcs hcg;have hall:CS.all (·.oneCell')=true:=by
  refine Array.all_eq_true_iff_forall_mem.2 fun v hv=>?_
  obtain ⟨j,hj,e⟩:=Array.getElem_of_mem hv;have hj64:j < 64:=by rw [HCZ.o] at hj;exact hj
  have:=HCG.o j hj64;rw [ZLW hj,e] at this;cases this;rfl
 have HALL:=zh hall;clear hall;go_upto_region 6 with (refine wpList_store_row rfl 149 (.tmp 7) (.tmp 16) rfl w2.heap.size CS rfl rfl 149 _ (ZB _ _) (by rw [HCZ.o];kernel_rfl) (by rw [HCZ.o];rfl) HALL.o ?_)
 generalize hold:(Obj.cells _ 149 (0,0))=OB;obtain ⟨w3,hw3⟩:=xE ((w2.alloc OB).setRow w2.heap.size CS);have HX3:=zh (show w3.heap[w2.heap.size]?=some (.cells CS 149 (0,0)) by rw [hw3,<-hold];exact setRow_heap _ _ _ _ _ _ (ZB _ _));have HB3:=zh (show Bl w2 w3 by rw [hw3];exact Ye (ZA bR) nR CS);rw [<-hw3];clear hw3 hold OB HALL;obtain ⟨g,hg⟩:=xE w2.heap.size;have HG:=zh hg;rw [<-hg] at HX3 ⊢;clear hg;have HB4:=zh (HB2.o.trans (HB3.o.mono HB2.o.size));have HX4:=zh ((HB3.o.block _ (heap_lt HX2.o)).trans HX2.o);go_wp2_with (refine wpList_load_row rfl 149 (.tmp 7) rfl g rfl 149 CS (0,0) _ HX3.o underlying149 rfl (by rw [HCZ.o];kernel_rfl) ?_);refine (HFD.o CS HCZ.o HCG.o _ HB4.o).mono ?_;rintro e w5 ⟨rfl,hb5⟩;have HB5:=zh (HB4.o.trans (hb5.mono HB4.o.size));have hx5:=(hb5.block _ (heap_lt HX4.o)).trans HX4.o;have hc5:=(hb5.block _ (heap_lt HX3.o)).trans HX3.o;have z:∀ j,j < 64->w5.cell? ⟨g,j,none⟩=some (.int .u64 (c (16+j):Nat)):=fun j hj=>(ZC hc5).trans (HCG.o j hj)
 have f:∀ i,w5.frozen? ⟨w.heap.size,i,none⟩=false:=fun i=>ZG hx5
 obtain ⟨r0,r1,r2,r3,_⟩:=YS hx5;clear hb5 hc5 HX1 HX2 HX3 HX4 HB1 HB2 HB3 HB4 HCZ HCG HFD HLD HNO;rcases HK.o with hk|hk
 ·subst hk
  have z0:=z 0 (by omega);have z1:=z 1 (by omega);have z2:=z 2 (by omega);have z3:=z 3 (by omega);clear z;go_wp2_with fail;have f0:=f 0;have f1:=f 1;have f2:=f 2;have f3:=f 3
  go_region
  obtain ⟨w6,hw6⟩:=xE (((((w5.setCell ⟨w.heap.size,0,none⟩ (.int .u64 (c 16:Nat))).setCell ⟨w.heap.size,1,none⟩ (.int .u64 (c 17:Nat))).setCell ⟨w.heap.size,2,none⟩ (.int .u64 (c 18:Nat))).setCell ⟨w.heap.size,3,none⟩ (.int .u64 (c 19:Nat))).drew);have HX6:=zh (show w6.heap[w.heap.size]?=some (.cells #[.int .u64 (c 16:Nat),.int .u64 (c 17:Nat),.int .u64 (c 18:Nat),.int .u64 (c 19:Nat)] 94 (0,0)) by
   rw [hw6];exact ZH (ZH (ZH (ZH hx5))))
  have HB6:=zh (show Bl w w6 by
   rw [hw6];exact ZD (ZE (ZE (ZE (ZE HB5.o nR) nR) nR) nR))
  rw [<-hw6];clear hw6 z0 z1 z2 z3 f0 f1 f2 f3 f r0 r1 r2 r3 hx5;go_wp2_with fail;refine bodyPost_ret (Jd rfl _ _ w.heap.size 94 _ (0,0) _ rfl HX6.o underlying94 rfl (by kernel_rfl)) rfl ?_;exact ⟨rfl,HB6.o⟩
 ·subst hk
  have z0:=z 4 (by omega);have z1:=z 5 (by omega);have z2:=z 6 (by omega);have z3:=z 7 (by omega);clear z;go_wp2_with fail;have f0:=f 0;have f1:=f 1;have f2:=f 2;have f3:=f 3
  go_region
  obtain ⟨w6,hw6⟩:=xE (((((w5.setCell ⟨w.heap.size,0,none⟩ (.int .u64 (c 20:Nat))).setCell ⟨w.heap.size,1,none⟩ (.int .u64 (c 21:Nat))).setCell ⟨w.heap.size,2,none⟩ (.int .u64 (c 22:Nat))).setCell ⟨w.heap.size,3,none⟩ (.int .u64 (c 23:Nat))).drew);have HX6:=zh (show w6.heap[w.heap.size]?=some (.cells #[.int .u64 (c 20:Nat),.int .u64 (c 21:Nat),.int .u64 (c 22:Nat),.int .u64 (c 23:Nat)] 94 (0,0)) by
   rw [hw6];exact ZH (ZH (ZH (ZH hx5))))
  have HB6:=zh (show Bl w w6 by
   rw [hw6];exact ZD (ZE (ZE (ZE (ZE HB5.o nR) nR) nR) nR))
  rw [<-hw6];clear hw6 z0 z1 z2 z3 f0 f1 f2 f3 f r0 r1 r2 r3 hx5;go_wp2_with fail;refine bodyPost_ret (Jd rfl _ _ w.heap.size 94 _ (0,0) _ rfl HX6.o underlying94 rfl (by kernel_rfl)) rfl ?_;exact ⟨rfl,HB6.o⟩
theorem ZHJ (h:Ar w A F L T c) (hL:80<=8 * L) {rb:Nat} (hr:RtB w A rb) {nm:ByteArray} {k:Nat} (hk:k=0\/k=1)
 (hfd:∀ CS:Array Value,CS.size=64->(∀ y,y < 64->CS[y]?=some (.int .u64 (c (16+y):Nat)))->∀ wx,Bl w wx->Calls prog 61 #[.agg CS,.string nm] wx fun e w'=>e=.returned (.int .i64 k)/\Bl wx w'):
 Calls prog 7 #[.pointer (some ⟨rb,0,none⟩),.string nm] w fun e w'=>e=.returned (.tuple #[.int .u64 (c (16+4 * k+2):Nat),.int .i64 0])/\Bl w w':=by
 have HEN:=zh (ZDm h hL hr hk hfd);clear h hL hr hk hfd;go_in;go_wp2_with fail;refine HEN.o.mono ?_;rintro e w1 ⟨rfl,hb1⟩;have HB1:=zh hb1;clear hb1;go_wp2;go_returns;exact ⟨rfl,by repeat (with_reducible first|exact HB1.o|apply ZA|refine ZE ?_ HB1.o.size)⟩
def ZBy (m:Nat):Nat×Nat:=if m=0 then (478392707436,0) else (125822818283105,0)
theorem ZKg:nmS 478392707436 0={data:=#[108,105,109,98,111]}:=by kernel_rfl
theorem ZKf:nmS 125822818283105 0={data:=#[97,110,99,104,111,114]}:=by kernel_rfl
theorem ZEw {n:Nat}(h:Ar w A F 160 T c)(h0:∀ m,m < 16->n<=m->c (16+(4 * m+3))=0)(h1:∀ m,m < n->c (16+4 * m)=(ZBy m).1/\c (16+(4 * m+1))=(ZBy m).2/\c (16+(4 * m+3))≠0):NmT (fun y=>c (16+y)) fun m=>if m < n then some (nmS (ZBy m).1 (ZBy m).2) else none:=
 NmT.of (f:=fun y=>c (16+y)) (fun y=>h.word_lt _) h0 h1
theorem ZJz:cw0 16=478392707436/\cw0 17=0/\cw0 18=pL/\Nat.beq (cw0 19) 0=false/\cw0 20=125822818283105/\cw0 21=0/\cw0 22=pA/\Nat.beq (cw0 23) 0=false:=⟨by kernel_rfl,by kernel_rfl,by kernel_rfl,by kernel_rfl,by kernel_rfl,by kernel_rfl,by kernel_rfl,by kernel_rfl⟩
theorem ZKY:Uq 16 (fun m=>match Nat.ble 2 m with
 |true=>Nat.beq (cw0 (16+(4 * m+3))) 0
 |false=>true)=true:=by kernel_rfl
theorem ZHb (h:WC w A F T c x H ex B cw0 s):NmT (fun y=>c (16+y)) fun m=>if m < 2 then some (nmS (ZBy m).1 (ZBy m).2) else none:=by
 obtain ⟨d0,d1,d2,d3,d4,d5,d6,d7⟩:=ZJz;refine ZEw h.ar (fun m hm h2=>?_) (fun m hm=>?_)
 ·have hq:=Z1 ZKY m hm
  rw [Nat.ble_eq_true_of_le h2] at hq;rw [h.rep.rts _ (by omega) (by omega)];exact ZLP hq
 ·rw [h.rep.rts _ (by omega) (by omega),h.rep.rts _ (by omega) (by omega),h.rep.rts _ (by omega) (by omega)]
  rcases (show m=0\/m=1 by omega) with rfl|rfl
  ·exact ⟨d0,d1,fun e=>by rw [show 16+(4 * 0+3)=19 from rfl] at e;rw [e] at d3;cases d3⟩
  ·exact ⟨d4,d5,fun e=>by rw [show 16+(4 * 1+3)=23 from rfl] at e;rw [e] at d7;cases d7⟩
theorem sLA:(({data:=#[108,105,109,98,111]}:ByteArray).toList == ({data:=#[97,110,99,104,111,114]}:ByteArray).toList)=false:=by kernel_rfl
theorem ZDU (h:WC w A F T c x H ex B cw0 s):ZKT w B.rb {data:=#[97,110,99,104,111,114]} pA:=fun wx hb=>by
 have:=ZHJ (nm:={data:=#[97,110,99,104,111,114]}) (h.below hb).ar (by omega) (h.below hb).rt (k:=1) (.inr rfl) (fun CS hz hc w1 hb1=>ZAa (w:=w1) hz hc (ZHb h) (.inr ⟨1,by omega,rfl,by rw [ZKv (by omega)];exact congrArg some ZKf,fun m hm=>by
  obtain rfl:m=0:=by omega
  intro t ht;dsimp only at ht;rw [ZKv (by omega)] at ht;cases ht;rw [show nmS (ZBy 0).1 (ZBy 0).2=_ from ZKg];exact sLA⟩))
 rw [show c (16+4 * 1+2)=pA from (h.rep.rts 22 (by omega) (by omega)).trans ZJz.2.2.2.2.2.2.1] at this;exact this
end
end Go.Proofs.YteomliechfdhhaaGreatDoor.Dv
