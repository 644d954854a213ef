/- Part 42. -/
import Derived.Test.YtbpeehmepehkdaaGreatDoorV41
import Derived.Test.YtbpeehmepehkdaaGreatDoorY35
set_option maxHeartbeats 8000000
set_option maxRecDepth 20000
set_option linter.all false
namespace Go.Proofs.YtbpeehmepehkdaaGreatDoor.Dv
open Tryz
section
open Go.RowKit Go.Proofs.YtbpeehmepehkdaaGreatDoor.Size
variable {w w':World}{A:DAd}{F F':Nat->Option ZM}{T c c':Nat->Nat}{x x' L:Nat}{H:HAd}{p p':Nat->Plc}{ex ex':Nat}{res held res' held':Nat->Option Nat}
def wbA (v0 v1 v2 v3 n:Value):Array Value:=#[v0,v1,v2,v3,.int .u64 0,.int .u64 0,.int .u64 0,.int .u64 0,.int .u64 0,.int .u64 0,.int .u64 0,.int .u64 0,.int .u64 0,.int .u64 0,.int .u64 0,.int .u64 0,.int .u64 0,.int .u64 0,.int .u64 0,.int .u64 0,.int .u64 0,.int .u64 0,.int .u64 0,.int .u64 0,.int .u64 0,.int .u64 0,.int .u64 0,.int .u64 0,.int .u64 0,.int .u64 0,.int .u64 0,.int .u64 0,.int .u64 0,.int .u64 0,.int .u64 0,.int .u64 0,.int .u64 0,.int .u64 0,.int .u64 0,.int .u64 0,.int .u64 0,.int .u64 0,.int .u64 0,.int .u64 0,.slice none 0 0,.slice none 0 0,n,.int .u64 0,.int .u64 0,.int .u64 0,.int .u64 0,.int .u64 0,.int .u64 0,.int .u64 0,.int .u64 0]
theorem ZKS {B:WAd}(h:w.heap[B.wb]?=some (.cells (wbA (.pointer (some ⟨B.pb,0,none⟩)) (.pointer (some ⟨B.db,0,none⟩)) (.pointer (some ⟨B.lib,0,none⟩)) (.int .u64 pA) (.int .u64 2)) 46 (0,0))):Row w B.wb 46 55 (wwC B s00 (.slice none 0 0) (.slice none 0 0)):=by
 refine ⟨_,h,Nat.le_of_eq rfl,fun i hi=>?_⟩;have e:wbA (.pointer (some ⟨B.pb,0,none⟩)) (.pointer (some ⟨B.db,0,none⟩)) (.pointer (some ⟨B.lib,0,none⟩)) (.int .u64 pA) (.int .u64 2)=((List.range 55).map (wwC B s00 (.slice none 0 0) (.slice none 0 0))).toArray:=by kernel_rfl
 rw [e];simp [hi]
theorem Xj {b b':Nat}{a a':Array Value}{e e':TypeId}{z z':Nat×Nat}(h:w.heap[b]?=some (.cells a e z))(h':w.heap[b']?=some (.cells a' e' z'))(hn:e≠e'):b≠b':=fun q=>by
 rw [q,h'] at h;cases h;exact hn rfl
structure BgS (w0:World)(A:DAd)(F:Nat->Option ZM)(c:Nat->Nat)(x:Nat)(H:HAd)(p:Nat->Plc)(ex:Nat)(res held:Nat->Option Nat)(wb pb rb kb mb:Nat)(v0 v1 v2 v3 n:Value)(w:World):Prop where
 hw:HW w A F 160 T0 c x H false p ex res held
 l:(H.l0=71/\H.ls=64)/\H.t=0/\H.x0=w0.heap.size
 po:PoB w A pb H.hb rb kb mb
 ck:CkB w A kb 2 an0
 rt:RtB w A rb
 fr:Frn F H pb/\Frn F H kb/\Frn F H rb/\Frn F H wb
 row:w.heap[wb]?=some (.cells (wbA v0 v1 v2 v3 n) 46 (0,0))
 xk:w0.heap.size<=kb/\w0.heap.size<=wb/\w0.heap.size<=H.hb
 xo:∀ k,H.own k->w0.heap.size<=k
 xf:∀ k,F k≠none->w0.heap.size<=k
 xb:Bl w0 w
variable {w0:World}{wb pb rb kb mb:Nat}{v0 v1 v2 v3 n u0 u1 u2 u3 m:Value}
theorem BgS.x0 (h:BgS w0 A F c x H p ex res held wb pb rb kb mb v0 v1 v2 v3 n w):w0.heap.size<=w.heap.size:=by
 have h1:=h.xk.2.2;have h2:=heap_lt h.hw.hp.hp;omega
theorem BgS.below (h:BgS w0 A F c x H p ex res held wb pb rb kb mb v0 v1 v2 v3 n w)(hb:Bl w w'):BgS w0 A F c x H p ex res held wb pb rb kb mb v0 v1 v2 v3 n w':=
 {h with hw:=h.hw.below hb,po:=h.po.below hb,ck:=h.ck.below hb,rt:=(hb.block _ (heap_lt h.rt)).trans h.rt,row:=(hb.block _ (heap_lt h.row)).trans h.row,xb:=Zz h.xb (Only.of_below (F:=fun _=>False) hb) h.x0 (fun _ _ q=>q.elim)}
theorem BgS.moved (h:BgS w0 A F c x H p ex res held wb pb rb kb mb v0 v1 v2 v3 n w)(hw:HW w' A F' 160 T0 c' x' H false p' ex' res' held')(hm:HMv F F' H w w'):BgS w0 A F' c' x' H p' ex' res' held' wb pb rb kb mb v0 v1 v2 v3 n w' where
 hw:=hw
 l:=h.l
 po:=(hm.frn h.fr.1 (heap_lt h.po)).1.trans h.po
 ck:=(hm.frn h.fr.2.1 (heap_lt h.ck)).1.trans h.ck
 rt:=(hm.frn h.fr.2.2.1 (heap_lt h.rt)).1.trans h.rt
 fr:=⟨(hm.frn h.fr.1 (heap_lt h.po)).2,(hm.frn h.fr.2.1 (heap_lt h.ck)).2,(hm.frn h.fr.2.2.1 (heap_lt h.rt)).2,(hm.frn h.fr.2.2.2 (heap_lt h.row)).2⟩
 row:=(hm.frn h.fr.2.2.2 (heap_lt h.row)).1.trans h.row
 xk:=h.xk
 xo:=h.xo
 xf:=fun k hk=>by
  have h1:=h.xk.2.2;have h2:=heap_lt h.hw.hp.hp
  by_cases e:k < w.heap.size
  ·rw [hm.same k e] at hk;exact h.xf k hk
  ·omega
 xb:=Zz h.xb hm.only h.x0 (fun k _ q=>q.elim (h.xf k) (h.xo k))
theorem BgS.only (h:BgS w0 A F c x H p ex res held wb pb rb kb mb v0 v1 v2 v3 n w)(ho:Only (fun k=>k=wb) w w')(hr:w'.heap[wb]?=some (.cells (wbA u0 u1 u2 u3 m) 46 (0,0))):BgS w0 A F c x H p ex res held wb pb rb kb mb u0 u1 u2 u3 m w':=
 {h with
  hw:=h.hw.only ho (fun k _ hk=>hk▸h.fr.2.2.2)
  po:=(ho.block _ (heap_lt h.po) (Xj h.po h.row (by decide))).trans h.po
  ck:=(ho.block _ (heap_lt h.ck) (Xj h.ck h.row (by decide))).trans h.ck
  rt:=(ho.block _ (heap_lt h.rt) (Xj h.rt h.row (by decide))).trans h.rt
  row:=hr
  xb:=Zz h.xb ho h.x0 (fun k _ q=>by have q:k=wb:=q;rw [q];exact h.xk.2.1)}
theorem BgS.setw (h:BgS w0 A F c x H p ex res held wb pb rb kb mb v0 v1 v2 v3 n w){i:Nat}{v:Value}(e:(wbA v0 v1 v2 v3 n).setIfInBounds i v=wbA u0 u1 u2 u3 m):BgS w0 A F c x H p ex res held wb pb rb kb mb u0 u1 u2 u3 m (w.setCell ⟨wb,i,none⟩ v):=
 h.only ((Only.refl (fun k=>k=wb) w).set (F:=fun k=>k=wb) rfl v) ((ZI h.row).trans (by rw [e]))
theorem DrW.setw {db lb:Nat}(h:DrW w A F H 0 db lb 640 1664){a:Array Value}(hr:w.heap[wb]?=some (.cells a 46 (0,0)))(ho:Only (fun k=>k=wb) w w'):DrW w' A F H 0 db lb 640 1664:=
 h.only ho (Xj h.dr hr (by decide)) (Xj h.lg hr (by decide))
structure SlB (w:World)(F:Nat->Option ZM)(H:HAd)(sl:Nat):Prop where
 row:w.heap[sl]?=some (.cells #[.int .u64 (pL:Nat)] 32 (0,0))
 fr:Frn F H sl
theorem SlB.below {sl:Nat}(h:SlB w F H sl)(hb:Bl w w'):SlB w' F H sl:=⟨(hb.block _ (heap_lt h.row)).trans h.row,h.fr⟩
theorem SlB.moved {sl:Nat}(h:SlB w F H sl)(hm:HMv F F' H w w'):SlB w' F' H sl:=⟨(hm.frn h.fr (heap_lt h.row)).1.trans h.row,(hm.frn h.fr (heap_lt h.row)).2⟩
theorem SlB.setw {sl:Nat}(h:SlB w F H sl){a:Array Value}(hr:w.heap[wb]?=some (.cells a 46 (0,0)))(ho:Only (fun k=>k=wb) w w'):SlB w' F H sl:=⟨(ho.block _ (heap_lt h.row) (Xj h.row hr (by decide))).trans h.row,h.fr⟩
theorem ZI1 {t u:TypeId}(hw:Ev.GOk w0 t u){F0:Nat->Option ZM}(hd:Dev w A (Yf 160 (fun _=>0)) F0)(hb:Bl w0 w)(hF:∀ k,F0 k≠none->False\/w0.heap.size<=k):Aq w A F0 160 T0 cz 0:=by
 have h1:=ZIk hw;have h2:=ZIl hw;refine ⟨⟨_,hd,⟨rfl,rfl,fun _=>rfl,fun _ _=>rfl,fun _=>rfl,fun _=>rfl⟩,rfl,nR⟩,h1.below hb nR,h2.below hb,?_,?_⟩
 ·refine Classical.byContradiction fun q=>?_
  have:=(hF _ q).resolve_left id;have:=h1.lt;omega
 ·refine Classical.byContradiction fun q=>?_
  have:=(hF _ q).resolve_left id;have:=h2.lt;omega
theorem BgS.made {F0:Nat->Option ZM} {w1 w2 w3:World} (hb1:Bl w0 w1) (hF0:∀ k,F0 k≠none->False\/w0.heap.size<=k) (ha:Aq w1 A F0 160 T0 cz 0) (h12:Bl w1 w2) (hr:w2.heap[w1.heap.size]?=some (.cells (wbA (.pointer none) (.pointer none) (.pointer none) (.int .u64 0) (.int .u64 0)) 46 (0,0)))
 (hl:H.l0=71/\H.ls=64/\H.t=0/\H.x0=w0.heap.size)(hw:HW w3 A F 160 T0 c x H false p ex res held)(hp:PoB w3 A pb H.hb rb kb mb)(hk:CkB w3 A kb 2 an0)(ht:RtB w3 A rb)(f1:Frn F H pb)(f2:Frn F H kb)(f3:Frn F H rb)(hm:Moved F0 F w2 w3)(hn:w2.heap.size<=pb/\w2.heap.size<=kb/\w2.heap.size<=rb/\w2.heap.size<=H.hb/\∀ k,H.own k->w2.heap.size<=k):
 BgS w0 A F c x H p ex res held w1.heap.size pb rb kb mb (.pointer none) (.pointer none) (.pointer none) (.int .u64 0) (.int .u64 0) w3:=by
 obtain ⟨n1,n2,n3,n4,n5⟩:=hn;have hlt:=heap_lt hr;have hs:=hb1.size;have hs2:=h12.size;have hF1:F0 w1.heap.size=none:=ha.new nR;have hr3:=YL hm hF1 hr;refine ⟨hw,⟨⟨hl.1,hl.2.1⟩,hl.2.2⟩,hp,hk,ht,⟨f1,f2,f3,⟨(hm.same _ hlt).trans hF1,fun q=>by have:=n5 _ q;omega,⟨by omega,?_⟩,⟨by have:=ha.nib.lt;omega,by have:=ha.tab.lt;omega⟩⟩⟩,hr3,⟨by omega,hs,by omega⟩,fun k q=>by have:=n5 k q;omega,fun k q=>?_,?_⟩
 ·exact Xj hr3 hw.set.set (by decide)
 ·by_cases e:k < w2.heap.size
  ·rw [hm.same k e] at q;exact (hF0 k q).resolve_left id
  ·omega
 ·exact Zz (hb1.trans (h12.mono hs)) hm.only (by omega) (fun k _ q=>(hF0 k q).resolve_left id)
theorem ZLP:JA 16 (fun m=>Nat.beq (cA T0 (16+(4 * m+3))) 0)=true:=by kernel_rfl
theorem ZLQ:JA 16 (fun m=>match Nat.ble 1 m with
 |true=>Nat.beq (cP T0 (16+(4 * m+3))) 0
 |false=>true)=true:=by kernel_rfl
theorem ZHw:cP T0 16=478392707436/\cP T0 17=0/\Nat.beq (cP T0 19) 0=false:=⟨by kernel_rfl,by kernel_rfl,by kernel_rfl⟩
theorem ZKv:nmS 478392707436 0={data:=#[108,105,109,98,111]}:=by kernel_rfl
theorem sLb:(({data:=#[108,105,109,98,111]}:ByteArray).toList == ({data:=#[97,110,99,104,111,114]}:ByteArray).toList)=false:=by kernel_rfl
theorem ZKh (h:Ar w A F 160 T0 (cA T0))(hr:RtB w A rb):
 Calls prog 37 #[.pointer (some ⟨rb,0,none⟩),.string {data:=#[108,105,109,98,111]},.int .u64 (pL:Nat)] w fun r w'=>∃ v,r=.returned (.tuple #[v,.int .i64 0])/\Wrs w' v (JG T0 0 478392707436 pL)/\Bl w w':=by
 have hz:∀ m,m < 16->cA T0 (16+(4 * m+3))=0:=fun m hm=>ZL2 (Z6 ZLP m hm)
 exact Uz h hr (NmT.of (f:=fun y=>cA T0 (16+y)) (n:=0) (xs:=fun _=>(0,0)) (fun y=>h.word_lt _) (fun m hm _=>hz m hm) (fun m hm=>by omega)) (fun m hm t ht=>by dsimp only at ht;rw [ZLU (by omega)] at ht;cases ht) (fun wx=>ZJE) (by omega) (fun m hm=>by omega) (hz 0 (by omega)) (by omega) (fun wx=>ZJG) XV.1 (by rw [XV.2.1];omega) (by decide)
theorem ZKg (h:Ar w A F 160 T0 (cP T0))(hr:RtB w A rb):
 Calls prog 37 #[.pointer (some ⟨rb,0,none⟩),.string {data:=#[97,110,99,104,111,114]},.int .u64 (pA:Nat)] w fun r w'=>∃ v,r=.returned (.tuple #[v,.int .i64 0])/\Wrs w' v (JG T0 1 125822818283105 pA)/\Bl w w':=by
 have hz:∀ m,m < 16->1<=m->cP T0 (16+(4 * m+3))=0:=fun m hm h1=>by
  have h:=Z6 ZLQ m hm;rw [Nat.ble_eq_true_of_le h1] at h;exact ZL2 h
 have h19:cP T0 19≠0:=fun e=>by have h:=ZHw.2.2;rw [e] at h;cases h
 refine Uz h hr (NmT.of (f:=fun y=>cP T0 (16+y)) (n:=1) (xs:=fun _=>(478392707436,0)) (fun y=>h.word_lt _) (fun m hm h1=>hz m hm h1) (fun m hm=>?_)) (fun m hm t ht=>?_) (fun wx=>ZJD) (e:=1) (by omega) (fun m hm=>?_) (hz 1 (by omega) (by omega)) (by omega) (fun wx=>ZJF) Jp.1 (by rw [Jp.2.1];omega) (by decide)
 ·obtain rfl:m=0:=by omega
  exact ⟨ZHw.1,ZHw.2.1,h19⟩
 ·dsimp only at ht
  by_cases e:m < 1
  ·rw [ZLX e] at ht
   cases ht;rw [ZKv];exact sLb
  ·rw [ZLU e] at ht;cases ht
 ·obtain rfl:m=0:=by omega
  exact h19
theorem ZGy (h:HW w A F 160 T0 cw0 x H false p ex res held)(hl:H.l0=71/\H.ls=64){db lb:Nat}(hd:DrW w A F H 0 db lb 640 1664):
 Calls prog 16 #[.pointer (some ⟨db,0,none⟩),.int .u64 (pL:Nat),.int .u8 12] w fun e w'=>e=.returned (.int .i64 0)/\Bl w w':=by
 have hn:H.n=2:=by unfold HAd.n;rw [hl.2]
 have h1:=Xb h.ar h.hp (m:=0) (k:=k0) (by rw [hn];omega) (by rw [hl.1];omega) (by rw [hl.1];exact ZH3) (by decide) (p:=pL) (by decide) (by decide) (by rw [hl.1];decide) (by rw [hl.1];decide) 12 (by omega);rw [hl.1] at h1;exact VC hd (by simpa [ZEu,UD,XV.2.2] using h1)
theorem ZIL:(((((((((wbA v0 v1 v2 v3 (.int .u64 0)).setIfInBounds 46 (.int .u64 2)).setIfInBounds 47 (.int .u64 0)).setIfInBounds 48 (.int .u64 0)).setIfInBounds 49 (.int .u64 0)).setIfInBounds 50 (.int .u64 0)).setIfInBounds 51 (.int .u64 0)).setIfInBounds 52 (.int .u64 0)).setIfInBounds 53 (.int .u64 0)).setIfInBounds 54 (.int .u64 0)=wbA v0 v1 v2 v3 (.int .u64 2):=by kernel_rfl
theorem BgS.clock (h:BgS w0 A F c x H p ex res held wb pb rb kb mb v0 v1 v2 v3 (.int .u64 0) w)(ho:Only (fun k=>k=wb) w (w.setCells wb 46 #[.int .u64 2,.int .u64 0,.int .u64 0,.int .u64 0,.int .u64 0,.int .u64 0,.int .u64 0,.int .u64 0,.int .u64 0].toList)):BgS w0 A F c x H p ex res held wb pb rb kb mb v0 v1 v2 v3 (.int .u64 2) (w.setCells wb 46 #[.int .u64 2,.int .u64 0,.int .u64 0,.int .u64 0,.int .u64 0,.int .u64 0,.int .u64 0,.int .u64 0,.int .u64 0].toList):=
 h.only ho (by
  have h9:=ZI (i:=54) (v:=.int .u64 0) (ZI (i:=53) (v:=.int .u64 0) (ZI (i:=52) (v:=.int .u64 0) (ZI (i:=51) (v:=.int .u64 0) (ZI (i:=50) (v:=.int .u64 0) (ZI (i:=49) (v:=.int .u64 0) (ZI (i:=48) (v:=.int .u64 0) (ZI (i:=47) (v:=.int .u64 0) (ZI (i:=46) (v:=.int .u64 2) h.row))))))));rw [ZIL] at h9;exact h9)
theorem ZDe {db lb:Nat}(hs:BgS w0 A F cw0 x H p ex res held wb pb rb kb mb v0 v1 v2 v3 n w)(hd:DrW w A F H 0 db lb 640 1664):
 Calls prog 22 #[.iface 37 (.pointer (some ⟨db,0,none⟩)),.int .u64 (pL:Nat),.pointer (some ⟨kb,0,none⟩)] w fun e w'=>∃ lib,e=.returned (.tuple #[.pointer (some ⟨lib,0,none⟩),.int .i64 0])/\LiB w' lib pL kb/\Frn F H lib/\w.heap.size<=lib/\Bl w w':=by
 have hn:NdC cw0 160 pL 0 s00.en.length s00.q (epW cw0):=rep_00.ndc ZDz (by omega);refine (ZAr hs.hw.ar hd (P:=pL) (kb:=kb) hn (fun w1 hb1=>ZGy (hs.hw.below hb1) hs.l.1 (hd.below hb1))).mono ?_;rintro e w' ⟨h1,h2,h3⟩;exact ⟨_,h1,h2,hs.hw.newf nR,nR,h3⟩
theorem BgS.done {db lb lib:Nat}{xs:List (Nat×Obj)}(h:BgS w0 A F cw0 910 H (plc kF) 4 (fun _=>none) (fun _=>none) wb pb rb kb mb (.pointer (some ⟨pb,0,none⟩)) (.pointer (some ⟨db,0,none⟩)) (.pointer (some ⟨lib,0,none⟩)) (.int .u64 (pA:Nat)) (.int .u64 2) w)(hd:DrW w A F H 0 db lb 640 1664)(hl:LiB w lib pL kb)(hf:Frn F H lib)(hxs:∀ p∈xs,w0.heap[p.1]?=some p.2):
 ∃ A F H B,B.xs=xs/\B.w0=w0/\H.x0=w0.heap.size/\Ending.returned (.pointer (some ⟨wb,0,none⟩))=.returned (.pointer (some ⟨B.wb,0,none⟩))/\WC w A F T0 cw0 910 H 4 B cw0 s00/\WR w F H B s00 (.slice none 0 0) (.slice none 0 0)/\w0.heap.size<=B.wb/\Bl w0 w:=by
 have hx0:=h.l.2.2;refine ⟨A,F,H,⟨wb,pb,db,lb,lib,kb,rb,mb,xs,w0⟩,rfl,rfl,hx0,rfl,?_,?_,h.xk.2.1,h.xb⟩
 ·refine ⟨h.hw,⟨h.l.1.1,h.l.1.2,h.l.2.1⟩,hd,h.ck,h.fr.2.1,hl,hf,h.po,h.fr.1,h.rt,h.fr.2.2.1,rep_00,?_,?_,?_,?_,fun q hq=>⟨(h.xb.block _ (heap_lt (hxs q hq))).trans (hxs q hq),⟨?_,fun e=>?_⟩,.inl ?_⟩⟩
  ·rw [hx0];exact h.xk
  ·rw [hx0];exact h.xo
  ·rw [hx0];exact h.xf
  ·rw [hx0];exact h.xb
  ·refine Classical.byContradiction fun e=>?_
   have:=h.xf _ e;have:=heap_lt (hxs q hq);omega
  ·have:=h.xo _ e;have:=heap_lt (hxs q hq);omega
  ·rw [hx0];exact heap_lt (hxs q hq)
 ·exact ⟨ZKS (B:=⟨wb,pb,db,lb,lib,kb,rb,mb,xs,w0⟩) h.row,⟨ZLn _ _ _ _,fun k hk=>by cases hk⟩,⟨ZLn _ _ _ _,fun k hk=>by cases hk⟩,h.fr.2.2.2⟩
abbrev a9:Array Value:=#[.int .u64 2,.int .u64 0,.int .u64 0,.int .u64 0,.int .u64 0,.int .u64 0,.int .u64 0,.int .u64 0,.int .u64 0]
theorem ZAV {w0:World}{t u:TypeId}(hw:Ev.GOk w0 t u){xs:List (Nat×Obj)}(hxs:∀ p∈xs,w0.heap[p.1]?=some p.2):
 Calls prog 8 #[] w0 fun e w=>∃ A F H B,B.xs=xs/\B.w0=w0/\H.x0=w0.heap.size/\e=.returned (.pointer (some ⟨B.wb,0,none⟩))/\WC w A F T0 cw0 910 H 4 B cw0 s00/\WR w F H B s00 (.slice none 0 0) (.slice none 0 0)/\w0.heap.size<=B.wb/\Bl w0 w:=by
 have HG:=zh hw;have HXS:=zh hxs;clear hw hxs;go_in;go_wp2_with fail;refine (ZI3 (L:=160) (by omega)).mono ?_;rintro e w1 ⟨v,rfl,A,F0,rfl,hdev,hb1,hF0⟩;have HA1:=zh (ZI1 HG.o hdev hb1 hF0);have HB1:=zh hb1;have HF0:=zh hF0;unfold ptr;clear hdev hb1 hF0;go_upto_region 5 with fail;obtain ⟨w2,hw2⟩:=xE (w1.alloc (.cells #[.pointer none,.pointer none,.pointer none,.int .u64 0,.int .u64 0,.int .u64 0,.int .u64 0,.int .u64 0,.int .u64 0,.int .u64 0,.int .u64 0,.int .u64 0,.int .u64 0,.int .u64 0,.int .u64 0,.int .u64 0,.int .u64 0,.int .u64 0,.int .u64 0,.int .u64 0,.int .u64 0,.int .u64 0,.int .u64 0,.int .u64 0,.int .u64 0,.int .u64 0,.int .u64 0,.int .u64 0,.int .u64 0,.int .u64 0,.int .u64 0,.int .u64 0,.int .u64 0,.int .u64 0,.int .u64 0,.int .u64 0,.int .u64 0,.int .u64 0,.int .u64 0,.int .u64 0,.int .u64 0,.int .u64 0,.int .u64 0,.int .u64 0,.slice none 0 0,.slice none 0 0,.int .u64 0,.int .u64 0,.int .u64 0,.int .u64 0,.int .u64 0,.int .u64 0,.int .u64 0,.int .u64 0,.int .u64 0] 46));have HR2:=zh (show w2.heap[w1.heap.size]?=some (.cells (wbA (.pointer none) (.pointer none) (.pointer none) (.int .u64 0) (.int .u64 0)) 46 (0,0)) by rw [hw2];exact ZC _ _);have H12:=zh (show Bl w1 w2 by rw [hw2];exact ZA bR);rw [<-hw2];clear hw2;go_wp2_with fail;refine default_yes.mono ?_;rintro e w3 ⟨rfl,hb3⟩;have H13:=zh (H12.o.trans (hb3.mono H12.o.size));have HR3:=zh ((hb3.block _ (heap_lt HR2.o)).trans HR2.o);clear hb3 HR2 H12;go_wp2_with fail;refine (ZCu (HA1.o.below H13.o) (by omega) w0.heap.size).mono ?_;rintro e w4 ⟨F,H,pb,rb,kb,mb,rfl,hH,hw,hp,hk,hr,f1,f2,f3,hm,hn⟩;have HS4:=zh (BgS.made HB1.o HF0.o HA1.o H13.o HR3.o hH hw hp hk hr f1 f2 f3 hm hn);clear hH hw hp hk hr f1 f2 f3 hm hn HA1 HF0 HR3;obtain ⟨wb,hwb⟩:=xE w1.heap.size;rw [<-hwb] at HS4 ⊢;clear hwb H13 HB1;have c0:w4.cell? ⟨wb,0,none⟩=some (.pointer none):=(ZD HS4.o.row).trans rfl;have f0:=ZH (i:=0) HS4.o.row;go_upto_region 8 with fail;have HS5:=zh (HS4.o.setw (i:=0) (v:=.pointer (some ⟨pb,0,none⟩)) (u0:=.pointer (some ⟨pb,0,none⟩)) rfl);obtain ⟨w5,hw5⟩:=xE (w4.setCell ⟨wb,0,none⟩ (.pointer (some ⟨pb,0,none⟩)));rw [<-hw5] at HS5 ⊢;clear hw5 HS4 c0 f0;have c0:w5.cell? ⟨wb,0,none⟩=some (.pointer (some ⟨pb,0,none⟩)):=(ZD HS5.o.row).trans rfl;go_wp2_with fail;refine (ZAx HS5.o.po HS5.o.hw.ar (t:=0) (by omega)).mono ?_;rintro e w6 ⟨db,lb,rfl,⟨hb6,hlb,hlg⟩,hdb,hdr⟩;have HS6:=zh (HS5.o.below hb6);have HD6:=zh (show DrW w6 A F H 0 db lb 640 1664 from ⟨hdr,hlg,by omega,⟨(HS5.o.hw.newf hdb).f,(HS5.o.hw.newf hdb).o⟩,⟨(HS5.o.hw.newf hlb).f,(HS5.o.hw.newf hlb).o⟩⟩);clear hb6 hlb hlg hdb hdr c0 HS5;have c1:w6.cell? ⟨wb,1,none⟩=some (.pointer none):=(ZD HS6.o.row).trans rfl;have f1:=ZH (i:=1) HS6.o.row;go_upto_region 9 with fail;have HS7:=zh (HS6.o.setw (i:=1) (v:=.pointer (some ⟨db,0,none⟩)) (u1:=.pointer (some ⟨db,0,none⟩)) rfl);have HD7:=zh (HD6.o.setw HS6.o.row ((Only.refl (fun k=>k=wb) w6).set (F:=fun k=>k=wb) (b:=wb) (i:=1) rfl (.pointer (some ⟨db,0,none⟩))));obtain ⟨w7,hw7⟩:=xE (w6.setCell ⟨wb,1,none⟩ (.pointer (some ⟨db,0,none⟩)));rw [<-hw7] at HS7 HD7 ⊢;clear hw7 HS6 HD6 c1 f1;have c1:w7.cell? ⟨wb,1,none⟩=some (.pointer (some ⟨db,0,none⟩)):=(ZD HS7.o.row).trans rfl;go_wp2_with fail;refine (ZCc (ZGx HS7.o.hw HS7.o.l.1 (by omega) (by omega) HD7.o)).mono ?_;rintro e w9 ⟨w8,⟨F2,hw8,hm8⟩,rfl,hw9⟩;have h89:Bl w8 w9:=by rw [hw9];exact ZA bR
 have HS9:=zh ((HS7.o.moved hw8 hm8).below h89);have HD9:=zh ((HD7.o.moved hm8).below h89);obtain ⟨sl,hsl⟩:=xE w8.heap.size;have HL9:=zh (show SlB w9 F2 H sl from ⟨by rw [hw9,hsl];exact ZC _ _,by rw [hsl];exact hw8.newf nR⟩);rw [<-hsl];clear hw9 hsl h89 hw8 hm8 HS7 HD7 c1;have c1:w9.cell? ⟨wb,1,none⟩=some (.pointer (some ⟨db,0,none⟩)):=(ZD HS9.o.row).trans rfl;have l0:w9.cell? ⟨sl,0,none⟩=some (.int .u64 (pL:Nat)):=(ZD HL9.o.row).trans rfl;go_upto_region 12 with fail;go_wp2_with fail;refine (ZGw HS9.o.hw HS9.o.l.1 (by omega) (by omega) HD9.o).mono ?_;rintro e w10 ⟨rfl,F3,hw10,hm10⟩;have HS10:=zh (HS9.o.moved hw10 hm10);have HD10:=zh (HD9.o.moved hm10);have HL10:=zh (HL9.o.moved hm10);clear hw10 hm10 HS9 HD9 HL9 c1 l0;have c3:w10.cell? ⟨wb,3,none⟩=some (.int .u64 0):=(ZD HS10.o.row).trans rfl;have f3:=ZH (i:=3) HS10.o.row;go_upto_region 15 with fail;have HS11:=zh (HS10.o.setw (i:=3) (v:=.int .u64 18014402804449918) (u3:=.int .u64 (pA:Nat)) rfl);have HO:=zh (show Only (fun k=>k=wb) w10 (w10.setCell ⟨wb,3,none⟩ (.int .u64 18014402804449918)) from (Only.refl (fun k=>k=wb) w10).set (F:=fun k=>k=wb) (b:=wb) (i:=3) rfl (.int .u64 18014402804449918));have HD11:=zh (HD10.o.setw HS10.o.row HO.o);have HL11:=zh (HL10.o.setw HS10.o.row HO.o);obtain ⟨w11,hw11⟩:=xE (w10.setCell ⟨wb,3,none⟩ (.int .u64 18014402804449918));rw [<-hw11] at HS11 HD11 HL11 ⊢;clear hw11 HO HS10 HD10 HL10 c3 f3;have c0:w11.cell? ⟨wb,0,none⟩=some (.pointer (some ⟨pb,0,none⟩)):=(ZD HS11.o.row).trans rfl;go_wp2_with fail;refine (Ux HS11.o.po).mono ?_;rintro e w' ⟨rfl,rfl⟩;go_wp2_with fail;refine (ZKh HS11.o.hw.ar HS11.o.rt).mono ?_;rintro e w12 ⟨va,rfl,hva,hb12⟩;have HS12:=zh (HS11.o.below hb12);have HD12:=zh (HD11.o.below hb12);have HL12:=zh (HL11.o.below hb12);have HV12:=zh hva;clear hva hb12 HS11 HD11 HL11 c0;have c1:w12.cell? ⟨wb,1,none⟩=some (.pointer (some ⟨db,0,none⟩)):=(ZD HS12.o.row).trans rfl;go_wp2_with fail;refine (ZJn HS12.o.hw HS12.o.l.1 (by omega) (by omega) HD12.o HV12.o ((ZD HL12.o.row).trans rfl) ⟨HL12.o.fr.f,HL12.o.fr.o⟩).mono ?_;rintro e w13 ⟨rfl,F4,hw13,hm13⟩;have HS13:=zh (HS12.o.moved hw13 hm13);have HD13:=zh (HD12.o.moved hm13);clear hw13 hm13 HS12 HD12 HL12 HV12 c1;go_upto_region 18 with fail;have HKP:=zh (fun wx (hb:Bl w13 wx)=>show wx.cell? ⟨wb,0,none⟩=some (.pointer (some ⟨pb,0,none⟩))/\wx.cell? ⟨wb,3,none⟩=some (.int .u64 (pA:Nat)) from ⟨(ZD (HS13.o.below hb).row).trans rfl,(ZD (HS13.o.below hb).row).trans rfl⟩);have HRO:=zh (fun wx (hb:Bl w13 wx)=>Ux (HS13.o.below hb).po);have HAC:=zh (fun wx (hb:Bl w13 wx)=>(ZKg (HS13.o.below hb).hw.ar (HS13.o.below hb).rt).mono (R':=fun r w'=>∃ v,r=.returned (.tuple #[v,.int .i64 0])/\Wrs w' v (JG T0 1 125822818283105 pA)/\Bl w13 w') (fun e w' ⟨v,h1,h2,h3⟩=>⟨v,h1,h2,hb.trans (h3.mono hb.size)⟩));have HR:=zh (bZ w13);obtain ⟨c0,c3⟩:=HKP.o _ HR.o
 go_region_held3 (fun wx=>wx.cell? ⟨wb,0,none⟩=some (.pointer (some ⟨pb,0,none⟩))/\wx.cell? ⟨wb,3,none⟩=some (.int .u64 (pA:Nat)))
  (first|exact HKP.o _ hb14|exact HKP.o _ (by repeat (with_reducible first|assumption|exact HR.o|apply ZA|apply ZB)))
  (first
    |(go_at_call 13;refine (HRO.o _ (by repeat (with_reducible first|assumption|exact HR.o|apply ZA|apply ZB))).mono ?_;rintro e V1 ⟨rfl,rfl⟩)
    |(go_at_call 37;refine (HAC.o _ (by repeat (with_reducible first|assumption|exact HR.o|apply ZA|apply ZB))).mono ?_;rintro e V2 ⟨vb,rfl,hvb,hb14⟩))
 go_upto_region 19 with fail;have HS14:=zh (HS13.o.below hb14);have HD14:=zh (HD13.o.below hb14);have HV14:=zh hvb;clear hvb hb14 HS13 HD13 HKP HRO HAC HR c0 c3;have HKP:=zh (fun wx (hb:Bl V2 wx)=>show wx.cell? ⟨wb,1,none⟩=some (.pointer (some ⟨db,0,none⟩))/\wx.cell? ⟨wb,3,none⟩=some (.int .u64 (pA:Nat)) from ⟨(ZD (HS14.o.below hb).row).trans rfl,(ZD (HS14.o.below hb).row).trans rfl⟩);have HPB:=zh (fun wx (hb:Bl V2 wx) (tb:Nat) (ht:wx.cell? ⟨tb,0,none⟩=some (.int .u64 (pA:Nat))) (htn:V2.heap.size<=tb)=>(ZJm (HS14.o.below hb).hw HS14.o.l.1 (by omega) (by omega) (HD14.o.below hb) (HV14.o.below hb) (tc:=1) ht ⟨(HS14.o.hw.newf htn).f,(HS14.o.hw.newf htn).o⟩).mono (R':=fun e w'=>e=.returned (.int .i64 0)/\∃ F',BgS w0 A F' cw0 (0+190+400+200+60+60) H (plc kF) (0+1+1+1+1) (fun _=>none) (fun _=>none) wb pb rb kb mb (.pointer (some ⟨pb,0,none⟩)) (.pointer (some ⟨db,0,none⟩)) (.pointer none) (.int .u64 (pA:Nat)) (.int .u64 0) w'/\DrW w' A F' H 0 db lb 640 1664) (fun e w' ⟨h1,F',h2,h3⟩=>⟨h1,F',(HS14.o.below hb).moved h2 h3,(HD14.o.below hb).moved h3⟩));have HR:=zh (bZ V2);obtain ⟨c1,c3⟩:=HKP.o _ HR.o
 go_region_held3 (fun wx=>wx.cell? ⟨wb,1,none⟩=some (.pointer (some ⟨db,0,none⟩))/\wx.cell? ⟨wb,3,none⟩=some (.int .u64 (pA:Nat)))
  (first|exact ⟨(ZD hs15.row).trans rfl,(ZD hs15.row).trans rfl⟩|exact HKP.o _ (by repeat (with_reducible first|assumption|exact HR.o|apply ZA|apply ZB)))
  (first
    |(go_at_call 38;refine (HPB.o _ (by repeat (with_reducible first|assumption|exact HR.o|apply ZA|apply ZB)) _ (by exact (ZD (ZC _ _)).trans rfl) (by simp)).mono ?_;rintro e V3 ⟨rfl,F5,hs15,hd15⟩))
 go_upto_region 21 with fail;have HS15:=zh hs15;have HD15:=zh hd15;clear hs15 hd15 HS14 HD14 HV14 HKP HPB HR c1 c3;have c0:V3.cell? ⟨wb,0,none⟩=some (.pointer (some ⟨pb,0,none⟩)):=(ZD HS15.o.row).trans rfl;go_wp2_with fail;refine (Yo HS15.o.po).mono ?_;rintro e w' ⟨rfl,rfl⟩;go_wp2_with fail;refine (ZBN HS15.o.hw.ar HS15.o.ck).mono ?_;rintro e w' ⟨rfl,rfl⟩;have HT:=zh (show V3.there wb 46 9 from fun j hj=>by
  refine ⟨?_,ZH HS15.o.row⟩;rw [ZD HS15.o.row];rcases (show j=0\/j=1\/j=2\/j=3\/j=4\/j=5\/j=6\/j=7\/j=8 by omega) with rfl|rfl|rfl|rfl|rfl|rfl|rfl|rfl|rfl <;> rfl)
 go_upto_region 22 with (refine VY rfl 44 _ _ (by rfl) wb 46 a9 (by rfl) (by rfl) HT.o (by kernel_rfl) (by kernel_rfl) ?_)
 have HO:=zh (show Only (fun k=>k=wb) V3 (V3.setCells wb 46 a9.toList) from Only.setCells (F:=fun k=>k=wb) (b:=wb) rfl _ (Only.refl _ _));have HS16:=zh (HS15.o.clock HO.o);have HD16:=zh (HD15.o.setw HS15.o.row HO.o);obtain ⟨w16,hw16⟩:=xE (V3.setCells wb 46 a9.toList);rw [<-hw16] at HS16 HD16 ⊢;clear hw16 HO HS15 HD15 HT c0;have HKP:=zh (fun wx (hb:Bl w16 wx)=>show wx.cell? ⟨wb,0,none⟩=some (.pointer (some ⟨pb,0,none⟩))/\wx.cell? ⟨wb,1,none⟩=some (.pointer (some ⟨db,0,none⟩)) from ⟨(ZD (HS16.o.below hb).row).trans rfl,(ZD (HS16.o.below hb).row).trans rfl⟩);have HEP:=zh (fun wx (hb:Bl w16 wx)=>Yo (HS16.o.below hb).po);have HLO:=zh (fun wx (hb:Bl w16 wx)=>(ZDe (HS16.o.below hb) (HD16.o.below hb)).mono (R':=fun e w'=>∃ lib,e=.returned (.tuple #[.pointer (some ⟨lib,0,none⟩),.int .i64 0])/\LiB w' lib pL kb/\Frn F5 H lib/\w16.heap.size<=lib/\Bl w16 w') (fun e w' ⟨lib,h1,h2,h3,h4,h5⟩=>⟨lib,h1,h2,h3,ZLi hb.size h4,hb.trans (h5.mono hb.size)⟩));have HR:=zh (bZ w16);obtain ⟨c0,c1⟩:=HKP.o _ HR.o
 go_region_held3 (fun wx=>wx.cell? ⟨wb,0,none⟩=some (.pointer (some ⟨pb,0,none⟩))/\wx.cell? ⟨wb,1,none⟩=some (.pointer (some ⟨db,0,none⟩)))
  (first|exact HKP.o _ hb17|exact ⟨(ZD (HS17.o.setw (i:=2) (v:=.pointer (some ⟨lib,0,none⟩)) (u2:=.pointer (some ⟨lib,0,none⟩)) rfl).row).trans rfl,(ZD (HS17.o.setw (i:=2) (v:=.pointer (some ⟨lib,0,none⟩)) (u2:=.pointer (some ⟨lib,0,none⟩)) rfl).row).trans rfl⟩|exact HKP.o _ (by repeat (with_reducible first|assumption|exact HR.o|apply ZA|apply ZB)))
  (first
    |(go_at_call 23;refine (HEP.o _ (by repeat (with_reducible first|assumption|exact HR.o|apply ZA|apply ZB))).mono ?_;rintro e V1 ⟨rfl,rfl⟩)
    |(go_at_call 22;refine (HLO.o _ (by repeat (with_reducible first|assumption|exact HR.o|apply ZA|apply ZB))).mono ?_;rintro e V4 ⟨lib,rfl,hli,hfl,hnl,hb17⟩;have HS17:=zh (HS16.o.below hb17);have c2:V4.cell? ⟨wb,2,none⟩=some (.pointer none):=(ZD HS17.o.row).trans rfl;have f2:=ZH (i:=2) HS17.o.row))
 have HO:=zh (show Only (fun k=>k=wb) V4 (V4.setCell ⟨wb,2,none⟩ (.pointer (some ⟨lib,0,none⟩))) from (Only.refl (fun k=>k=wb) V4).set (F:=fun k=>k=wb) (b:=wb) (i:=2) rfl (.pointer (some ⟨lib,0,none⟩)));have HS18:=zh (HS17.o.setw (i:=2) (v:=.pointer (some ⟨lib,0,none⟩)) (u2:=.pointer (some ⟨lib,0,none⟩)) rfl);have HD18:=zh ((HD16.o.below hb17).setw HS17.o.row HO.o);have HL18:=zh (show LiB (V4.setCell ⟨wb,2,none⟩ (.pointer (some ⟨lib,0,none⟩))) lib pL kb from (ZG (Xj hli HS17.o.row (by decide))).trans hli);have HF18:=zh hfl;obtain ⟨w18,hw18⟩:=xE (V4.setCell ⟨wb,2,none⟩ (.pointer (some ⟨lib,0,none⟩)));rw [<-hw18] at HS18 HD18 HL18 ⊢;clear hw18 HO HS17 HS16 HD16 HKP HEP HLO HR c0 c1 c2 f2 hli hfl hnl hb17;go_wp2;go_returns;exact HS18.o.done HD18.o HL18.o HF18.o HXS.o
end
section
open Go.RowKit Go.Proofs.YtbpeehmepehkdaaGreatDoor.Size
variable {w w':World}{A:DAd}{F F':Nat->Option ZM}{T c c' c0:Nat->Nat}{x x':Nat}{H:HAd}{ex n:Nat}{s:LS}{B:WAd}{fv iv:Value}
theorem V9 {t u:TypeId}(h:Ev.GOk w t u)(hb:Bl w w'):Ev.GOk w' t u:=by
 obtain ⟨hs,⟨a1,p1,p2⟩,⟨a2,n1,n2⟩⟩:=h;exact ⟨ZLi hs hb.size,⟨a1,(hb.block _ (heap_lt p1)).trans p1,p2⟩,⟨a2,(hb.block _ (heap_lt n1)).trans n1,n2⟩⟩
def StS (w0:World)(wb:Nat)(xs:List (Nat×Obj))(n:Nat)(s:LS)(wr:World):Prop:=
 ∃ A F H B c x ex fv iv,s.Inv n/\WC wr A F T0 c x H ex B cw0 s/\WR wr F H B s fv iv/\x<=910+2000 * n/\ex<=4+2 * n/\B.wb=wb/\B.xs=xs/\B.w0=w0/\H.x0=w0.heap.size/\Ev.Gn<=w0.heap.size
theorem StS.below {w0:World}{wb n:Nat}{xs:List (Nat×Obj)}(h:StS w0 wb xs n s w)(hb:Bl w w'):StS w0 wb xs n s w':=by
 obtain ⟨A,F,H,B,c,x,ex,fv,iv,h1,h2,h3,h4⟩:=h;exact ⟨A,F,H,B,c,x,ex,fv,iv,h1,h2.below hb,h3.below hb,h4⟩
theorem StS.base {w0:World}{wb n:Nat}{xs:List (Nat×Obj)}(h:StS w0 wb xs n s w):Bl w0 w:=by
 obtain ⟨A,F,H,B,c,x,ex,fv,iv,h1,h2,h3,h4,h5,h6,h7,h8,h9,h10⟩:=h;have:=h2.xb;rw [h8,h9] at this;exact this
def LS.act (s:LS)(r:Int×Int×Int):LS:=s.stp (ZX r.1 7) (ZX r.2.1 40) (ZX r.2.2 8)
theorem ZJc {a b n:Nat}(h:a<=b+2000)(k:b<=910+2000 * n):a<=910+2000 * (n+1):=by omega
theorem ZGu {a b n:Nat}(h:a<=b+2)(k:b<=4+2 * n):a<=4+2 * (n+1):=by omega
theorem ZEn {w0:World}{wb:Nat}{xs:List (Nat×Obj)}(h:StS w0 wb xs n s w)(hn:n<=50)(r:Int×Int×Int):
 Calls prog 11 #[.pointer (some ⟨wb,0,none⟩),.agg #[.int .i64 r.1,.int .i64 r.2.1,.int .i64 r.2.2]] w fun e w'=>e=.returned (.bool true)/\StS w0 wb xs (n+1) (s.act r) w':=by
 obtain ⟨A,F,H,B,c,x,ex,fv,iv,h1,h2,h3,h4,h5,h6,h7,h8,h9,h10⟩:=h;have h40:ZX r.2.1 40 < 40:=Z4 (by omega) rfl;rw [<-h6];refine (ZJv h2 h3 h1 hn (by omega) (by omega) (ZAj h2) (ZDw h2)).mono ?_;rintro e w' ⟨rfl,lib',F',c',x',ex',fv',iv',e1,e2,e3,e4⟩;exact ⟨rfl,A,F',H,_,c',x',ex',fv',iv',h1.stp (by omega) h40,e3,e4,ZJc e1 h4,ZGu e2 h5,rfl,h7,h8,h9,h10⟩
theorem ZJJ {w0:World}{wb:Nat}{xs:List (Nat×Obj)}(h:StS w0 wb xs n s w)(hn:n<=50):
 Calls prog 12 #[.pointer (some ⟨wb,0,none⟩)] w fun e w'=>e=.returned (.bool true)/\Bl w w':=by
 obtain ⟨A,F,H,B,c,x,ex,fv,iv,h1,h2,h3,h4,h5,h6,h7,h8,h9⟩:=h;rw [<-h6];exact ZC5 h2 h3 h1 (by omega)
theorem Ui {w0:World}{t u:TypeId}(hw:Ev.GOk w0 t u):
 Calls prog 8 #[] w0 fun e w=>∃ wb,e=.returned (.pointer (some ⟨wb,0,none⟩))/\StS w0 wb [] 0 s00 w/\Bl w0 w:=by
 refine (ZAV hw (xs:=[]) (fun p hp=>by cases hp)).mono ?_;rintro e w ⟨A,F,H,B,h1,h2,h3,rfl,h4,h5,h6,h7⟩;exact ⟨_,rfl,⟨A,F,H,B,cw0,910,4,_,_,ZDz,h4,h5,nR,nR,rfl,h1,h2,h3,hw.size⟩,h7⟩
def runS (rc:Nat->Int×Int×Int):Nat->LS
 |0=>s00
 |k+1=>(runS rc k).act (rc k)
def StA (A:DAd)(H:HAd)(B:WAd)(n:Nat)(s:LS)(wr:World):Prop:=
 ∃ F c x ex fv iv,s.Inv n/\WC wr A F T0 c x H ex B cw0 s/\WR wr F H B s fv iv/\x<=910+2000 * n/\ex<=4+2 * n
theorem StA.below (h:StA A H B n s w)(hb:Bl w w'):StA A H B n s w':=by
 obtain ⟨F,c,x,ex,fv,iv,h1,h2,h3,h4⟩:=h;exact ⟨F,c,x,ex,fv,iv,h1,h2.below hb,h3.below hb,h4⟩
theorem StA.cells (h:StA A H B n s w):w.cell? ⟨B.wb,1,none⟩=some (.pointer (some ⟨B.db,0,none⟩))/\w.cell? ⟨B.wb,2,none⟩=some (.pointer (some ⟨B.lib,0,none⟩)):=by
 obtain ⟨F,c,x,ex,fv,iv,h1,h2,h3,h4⟩:=h;exact ⟨h3.row.cell 1 (by omega),h3.row.cell 2 (by omega)⟩
theorem StA.xs (h:StA A H B n s w){p:Nat×Obj}(hp:p∈B.xs):w.heap[p.1]?=some p.2:=by
 obtain ⟨F,c,x,ex,fv,iv,h1,h2,h3,h4⟩:=h;exact (h2.xt p hp).1
theorem StA.base (h:StA A H B n s w)(hx:H.x0=B.w0.heap.size):Below B.w0.heap.size B.w0 w:=by
 obtain ⟨F,c,x,ex,fv,iv,h1,h2,h3,h4⟩:=h;rw [<-hx];exact h2.xb
theorem ZDs (h:StA A H B n s w)(hn:n<=50)(r:Int×Int×Int)(hk:ZX r.1 7≠6):
 Calls prog 11 #[.pointer (some ⟨B.wb,0,none⟩),.agg #[.int .i64 r.1,.int .i64 r.2.1,.int .i64 r.2.2]] w fun e w'=>e=.returned (.bool true)/\StA A H B (n+1) (s.act r) w':=by
 obtain ⟨F,c,x,ex,fv,iv,h1,h2,h3,h4,h5⟩:=h;have h40:ZX r.2.1 40 < 40:=Z4 (by omega) rfl;refine (ZHA h2 h3 h1 hn (by omega) (by omega) hk).mono ?_;rintro e w' ⟨rfl,F',c',x',ex',fv',iv',e1,e2,e3,e4⟩;exact ⟨rfl,F',c',x',ex',fv',iv',h1.stp (by omega) h40,e3,e4,ZJc e1 h4,ZGu e2 h5⟩
theorem ZEg (h:StA A H B n s w)(hn:n<=50){m:Nat}(hm:s.its.length=m):
 Calls prog 25 #[.pointer (some ⟨B.lib,0,none⟩),.iface 37 (.pointer (some ⟨B.db,0,none⟩))] w fun e w'=>∃ a k,e=.returned (.slice a m k)/\Bl w w':=by
 obtain ⟨F,c,x,ex,fv,iv,hi,h2,h3,h4,h5⟩:=h;refine (ZCZ h2.ar h2.dr h2.li (h2.rep.ndc hi (by omega)) (fun w1 hb1=>YG (h2.below hb1)) hi.ok.its (hi.its_perm h2.rep) hi.its_nd).mono ?_;rintro e w' ⟨v,rfl,ho,hb⟩;obtain ⟨va,vc,rfl⟩:=ZN ho;exact ⟨va,vc,by rw [<-hm],hb⟩
def acw (k:Nat):Int×Int×Int:=if k=0 then (0,3,0) else if k=1 then (3,0,0) else if k=2 then (1,3,0) else if k=3 then (5,0,1) else if k=4 then (2,0,0) else if k=5 then (4,0,0) else (2,0,0)
theorem ZIV (k:Nat):ZX (acw k).1 7≠6:=by
 unfold acw
 repeat (first|decide|(split))
theorem ZKi:(runS acw 5).its.length=1:=by kernel_rfl
theorem ZKj:(runS acw 7).its.length=0:=by kernel_rfl
theorem WC.addx (h:WC w A F T c x H ex B c0 s)(cs:Array Value):WC (w.alloc (.cells cs 28)) A F T c x H ex {B with xs:=[(w.heap.size,.cells cs 28 (0,0))]} c0 s:=by
 have hb:Bl w (w.alloc (.cells cs 28)):=ZA bR;have h':=h.below hb;have hf:=h.hw.newf (Nat.le_refl w.heap.size);have hx:XsB (w.alloc (.cells cs 28)) F H [(w.heap.size,.cells cs 28 (0,0))]:=fun p hp=>by
  obtain rfl:p=(w.heap.size,Obj.cells cs 28 (0,0)):=by simpa using hp
  exact ⟨ZC _ _,⟨hf.f,hf.o⟩,.inr (.inr ⟨cs,rfl⟩)⟩
 exact {h' with xt:=hx}
theorem WR.addx (h:WR w F H B s fv iv)(l:List (Nat×Obj)):WR w F H {B with xs:=l} s fv iv:=⟨h.row,h.fre,h.ite,h.fw⟩
theorem Vy {w0:World}{t u:TypeId}(hg:Ev.GOk w0 t u):Calls prog 9 #[] w0 fun e w=>e=.returned (.bool true)/\Bl w0 w:=by
 have HBG:=zh (ZAV hg (xs:=[]) (fun p hp=>by cases hp));clear hg;go_in;go_wp2_with fail;refine HBG.o.mono ?_;rintro e w1 ⟨A,F,H,B0,hbx,hb0,hx0,rfl,hwc,hwr,hnw,hb1⟩
 have h2:StA A H {B0 with xs:=[(w1.heap.size,.cells #[.int .i64 0,.int .i64 3,.int .i64 0,.int .i64 3,.int .i64 0,.int .i64 0,.int .i64 1,.int .i64 3,.int .i64 0,.int .i64 5,.int .i64 0,.int .i64 1,.int .i64 2,.int .i64 0,.int .i64 0] 28 (0,0))]} 0 s00 (w1.alloc (.cells #[.int .i64 0,.int .i64 3,.int .i64 0,.int .i64 3,.int .i64 0,.int .i64 0,.int .i64 1,.int .i64 3,.int .i64 0,.int .i64 5,.int .i64 0,.int .i64 1,.int .i64 2,.int .i64 0,.int .i64 0] 28)):=
  ⟨F,cw0,910,4,_,_,ZDz,hwc.addx _,((hwr.below (ZA bR)).addx _),nR,nR⟩
 obtain ⟨B,hB⟩:∃ B:WAd,B={B0 with xs:=[(w1.heap.size,.cells #[.int .i64 0,.int .i64 3,.int .i64 0,.int .i64 3,.int .i64 0,.int .i64 0,.int .i64 1,.int .i64 3,.int .i64 0,.int .i64 5,.int .i64 0,.int .i64 1,.int .i64 2,.int .i64 0,.int .i64 0] 28 (0,0))]}:=⟨_,rfl⟩
 rw [<-hB] at h2;obtain ⟨gb,hgb⟩:=xE w1.heap.size;have HX:=zh (show ∀ (n:Nat) (s:LS) (wx:World),StA A H B n s wx->wx.heap[gb]?=some (.cells #[.int .i64 0,.int .i64 3,.int .i64 0,.int .i64 3,.int .i64 0,.int .i64 0,.int .i64 1,.int .i64 3,.int .i64 0,.int .i64 5,.int .i64 0,.int .i64 1,.int .i64 2,.int .i64 0,.int .i64 0] 28 (0,0)) from fun n s wx hs=>by
  refine hs.xs (p:=(gb,_)) ?_;rw [hB,hgb];exact ZLt.2 rfl)
 have HBS:=zh (show H.x0=B.w0.heap.size/\B.w0=w0 by rw [hB];exact ⟨by rw [hx0,hb0],hb0⟩);have hwb:B0.wb=B.wb:=by rw [hB]
 obtain ⟨w2,hw2⟩:=xE (w1.alloc (.cells #[.int .i64 0,.int .i64 3,.int .i64 0,.int .i64 3,.int .i64 0,.int .i64 0,.int .i64 1,.int .i64 3,.int .i64 0,.int .i64 5,.int .i64 0,.int .i64 1,.int .i64 2,.int .i64 0,.int .i64 0] 28));rw [<-hw2] at h2;have HS2:=zh h2;rw [hwb];clear hbx hb0 hx0 hwc hwr hnw hb1 h2 HBG;have HW2:=zh hw2;have HGB:=zh hgb;clear hw2 hgb hB hwb;go_wp2_with fail;rw [<-HW2.o,<-HGB.o];clear HW2 HGB
 go_loopw [14] (fun i wr=>∃ k:Nat,k<=5/\i=.int .i64 k/\StA A H B k (runS acw k) wr) (fun i _=>5 - (intOf i).toNat)
 case atStart=>exact ⟨0,by omega,rfl,HS2.o⟩
 case round=>
 obtain ⟨k,hk,rfl,hst⟩:=hrel
 by_cases hlt:k < 5
 ·have d1:(k:Int) < 5:=by omega
  obtain ⟨r,hr⟩:=xE (acw k);obtain ⟨q0,q1,q2⟩:wr.cell? ⟨gb,k * 3,none⟩=some (.int .i64 r.1)/\wr.cell? ⟨gb,k * 3+1,none⟩=some (.int .i64 r.2.1)/\wr.cell? ⟨gb,k * 3+2,none⟩=some (.int .i64 r.2.2):=by
   rw [ZD (HX.o _ _ _ hst),ZD (HX.o _ _ _ hst),ZD (HX.o _ _ _ hst),hr];rcases (show k=0\/k=1\/k=2\/k=3\/k=4 by omega) with rfl|rfl|rfl|rfl|rfl <;> exact ⟨rfl,rfl,rfl⟩
  have HS:=zh hst;have HK:=zh hlt;have HRR:=zh hr;clear hst hk hlt hr HS2;go_upto_region 7 with fail;obtain ⟨w3,hw3⟩:=xE (wr.alloc (.cells #[.int .i64 r.1,.int .i64 r.2.1,.int .i64 r.2.2] 28));have hb3:Bl wr w3:=by rw [hw3];exact ZA bR
  have hx3:w3.heap[wr.heap.size]?=some (.cells #[.int .i64 r.1,.int .i64 r.2.1,.int .i64 r.2.2] 28 (0,0)):=by rw [hw3];exact ZC _ _
  rw [<-hw3];obtain ⟨a0,a1,a2,_⟩:=ZY hx3;have HD:=zh (ZDs (HS.o.below hb3) (by have:=HK.o;omega) r (by rw [HRR.o];exact ZIV k));clear hw3 hb3 hx3 HS q0 q1 q2;go_wp2_with fail;refine HD.o.mono ?_;rintro e w4 ⟨rfl,hs4⟩;have HS4:=zh (show StA A H B (k+1) (runS acw (k+1)) w4 by rw [HRR.o] at hs4;exact hs4);clear hs4 a0 a1 a2 HD;go_wp2_with fail;exact ⟨⟨k+1,by have:=HK.o;omega,rfl,HS4.o⟩,by have:=HK.o;simp [intOf];omega⟩
 ·obtain rfl:k=5:=by omega
  have HS5:=zh hst;clear hst hk hlt HS2;go_upto_region 10 with fail;have HKP:=zh (fun wx (hb:Bl wr wx)=>show wx.cell? ⟨B.wb,1,none⟩=some (.pointer (some ⟨B.db,0,none⟩))/\wx.cell? ⟨B.wb,2,none⟩=some (.pointer (some ⟨B.lib,0,none⟩)) from (HS5.o.below hb).cells);have HA5:=zh (fun wx (hb:Bl wr wx)=>(ZEg (HS5.o.below hb) (by omega) ZKi).mono (R':=fun e w'=>∃ a k,e=.returned (.slice a (1:Nat) k)/\Bl wr w') (fun e w' ⟨a,k,h1,h2⟩=>⟨a,k,h1,hb.trans (h2.mono hb.size)⟩));have HD6:=zh (fun wx (hb:Bl wr wx)=>show Calls prog 11 #[.pointer (some ⟨B.wb,0,none⟩),.agg #[.int .i64 4,.int .i64 0,.int .i64 0]] wx (fun e w'=>e=.returned (.bool true)/\StA A H B 6 (runS acw 6) w') from ZDs (HS5.o.below hb) (by omega) (4,0,0) (by decide));have HD7:=zh (fun (wx:World) (hs:StA A H B 6 (runS acw 6) wx)=>show Calls prog 11 #[.pointer (some ⟨B.wb,0,none⟩),.agg #[.int .i64 2,.int .i64 0,.int .i64 0]] wx (fun e w'=>e=.returned (.bool true)/\StA A H B 7 (runS acw 7) w') from ZDs hs (by omega) (2,0,0) (by decide));have HA7:=zh (fun (wx:World) (hs:StA A H B 7 (runS acw 7) wx)=>(ZEg hs (by omega) ZKj).mono (R':=fun e w'=>∃ a k,e=.returned (.slice a (0:Nat) k)/\StA A H B 7 (runS acw 7) w') (fun e w' ⟨a,k,h1,h2⟩=>⟨a,k,h1,hs.below h2⟩));have HR:=zh (bZ wr);obtain ⟨c1,c2⟩:=HKP.o _ HR.o
  go_region_held3 (fun wx=>wx.cell? ⟨B.wb,1,none⟩=some (.pointer (some ⟨B.db,0,none⟩))/\wx.cell? ⟨B.wb,2,none⟩=some (.pointer (some ⟨B.lib,0,none⟩)))
   (first|exact h8.cells|exact h7.cells|exact h6.cells|exact HKP.o _ (by repeat (with_reducible first|assumption|exact HR.o|apply ZA|apply ZB)))
   (first
     |(go_at_call 25;first|(refine (HA7.o _ h7).mono ?_;rintro e V4 ⟨a7,k7,rfl,h8⟩)|(refine (HA5.o _ (by repeat (with_reducible first|assumption|exact HR.o|apply ZA|apply ZB))).mono ?_;rintro e V1 ⟨a5,k5,rfl,hb5⟩))
     |(go_at_call 11;first|(refine (HD7.o _ h6).mono ?_;rintro e V3 ⟨rfl,h7⟩)|(refine (HD6.o _ (by repeat (with_reducible first|assumption|exact HR.o|apply ZA|apply ZB))).mono ?_;rintro e V2 ⟨rfl,h6⟩)))
  all_goals
   go_wp2;go_returns;have hb:=h8.base HBS.o.1;rw [HBS.o.2] at hb;exact ⟨rfl,hb⟩
theorem AArg.below {a:Option Addr}{len:Nat}{rc:Nat->Int×Int×Int}(h:AArg w a len rc)(hb:Bl w w'):AArg w' a len rc:=fun i hi=>by
 obtain ⟨b,o,h0,h1,h2,h3⟩:=h i hi;have hl:=ZLf _ _ h1;have hbl:=hb.block b hl;exact ⟨b,o,h0,(ZLo hbl).trans h1,(ZLo hbl).trans h2,(ZLo hbl).trans h3⟩
end
end Go.Proofs.YtbpeehmepehkdaaGreatDoor.Dv
