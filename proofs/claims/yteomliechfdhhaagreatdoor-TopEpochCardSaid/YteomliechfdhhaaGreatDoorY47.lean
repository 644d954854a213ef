/- Part 47. -/
import Derived.Test.YteomliechfdhhaaGreatDoorY46
import Derived.Test.YteomliechfdhhaaGreatDoorY42
import Derived.Test.YteomliechfdhhaaGreatDoorY43
set_option maxHeartbeats 8000000
set_option maxRecDepth 20000
set_option linter.all false
namespace Go.Proofs.YteomliechfdhhaaGreatDoor.Dv
open Tryz
section
open Go.RowKit Go.Proofs.YteomliechfdhhaaGreatDoor.Size
variable {w w':World}{A:DAd}{F F':Nat->Option ZK}{T c c' c0:Nat->Nat}{x x':Nat}{H:HAd}{ex n:Nat}{s:LS}{B:WAd}
theorem Ya {b b':Nat}{a a':Array Value}{e e':TypeId}{z z':Nat×Nat}(h:w.heap[b]?=some (.cells a e z))(h':w.heap[b']?=some (.cells a' e' z'))(hne:e≠e'):b'≠b:=by
 rintro rfl;rw [h] at h';cases h';exact hne rfl
structure OutT (e:TypeId):Prop where
 h:e≠109/\e≠234/\e≠99/\e≠117/\e≠92/\e≠148
theorem WC.keep (h:WC w A F T c x H ex B c0 s) (hxs:B.xs=[]) {G:Nat->Prop} (ho:Only G w w') (hG:∀ k,k < w.heap.size->G k->Frn F H k/\H.x0<=k/\(k=B.kb\/∃ a e z,w.heap[k]?=some (.cells a e z)/\OutT e))
 {s':LS} {now:Nat} {an:Nat->Nat} (hk:CkB w' A B.kb now an) (hs:s'.k=s.k/\s'.now=now/\s'.ann=an) (hr:s'.Rep T c c0):WC w' A F T c x H ex B c0 s':=by
 have hb:∀ {k:Nat} {a':Array Value} {e':TypeId} {z':Nat×Nat},w.heap[k]?=some (.cells a' e' z')->e'≠99->¬ OutT e'->¬ G k:=by
  intro k a' e' z' h1 h2 h3 hg;rcases (hG k (heap_lt h1) hg).2.2 with q|⟨a,e,z,q1,q2⟩
  ·subst q
   have:=h.ck;unfold CkB at this;rw [this] at h1;cases h1;exact h2 rfl
  ·rw [q1] at h1;cases h1;exact h3 q2
 have b1:=hb h.dr.dr (by decide) (fun q=>q.h.1 rfl);have b2:=hb h.dr.lg (by decide) (fun q=>q.h.2.1 rfl);have b4:=hb h.li (by decide) (fun q=>q.h.2.2.2.1 rfl);have b5:=hb h.po (by decide) (fun q=>q.h.2.2.2.2.1 rfl);have b6:=hb h.rt (by decide) (fun q=>q.h.2.2.2.2.2 rfl);obtain ⟨e1,e2,e3⟩:=hs
 exact {h with
  hw:=by rw [e1];exact h.hw.only ho (fun k hk hg=>(hG k hk hg).1)
  dr:=h.dr.only ho b1 b2
  ck:=by rw [e2,e3];exact hk
  li:=(ho.block _ (heap_lt h.li) b4).trans h.li
  po:=(ho.block _ (heap_lt h.po) b5).trans h.po
  rt:=(ho.block _ (heap_lt h.rt) b6).trans h.rt
  rep:=hr
  xt:=fun p hp=>by rw [hxs] at hp;cases hp
  xb:=Zr h.xb ho (ZK6 h.xk.2.2 (Nat.le_of_lt (heap_lt h.hw.hp.hp))) (fun k hk q=>(hG k hk q).2.1)}
theorem LS.Rep.ann (h:s.Rep T c c0)(an:Nat->Nat):({s with ann:=an}:LS).Rep T c c0:=⟨h.rep,h.log,h.nxt,h.num,h.ptr,h.epo,h.lnk,h.clk,h.rts,h.n29⟩
theorem WC.foreign (h:WC w A F T c x H ex B c0 s)(hxs:B.xs=[]){b:Nat}{a:Array Value}{e:TypeId}{z:Nat×Nat}(hb:w.heap[b]?=some (.cells a e z))(he:OutT e)(hf:Frn F H b)(hx:H.x0<=b)(ho:Only (fun k=>k=b) w w'):WC w' A F T c x H ex B c0 s:=
 h.keep hxs ho (fun k _ q=>by have q:k=b:=q;subst q;exact ⟨hf,hx,.inr ⟨_,_,_,hb,he⟩⟩) ((ho.block _ (heap_lt h.ck) (Ya hb h.ck he.h.2.2.1)).trans h.ck) ⟨rfl,rfl,rfl⟩ h.rep
def opV:Option Nat->Value
 |none=>.pointer none
 |some ob=>.pointer (some ⟨ob,0,none⟩)
def VI (rd:Nat->RdS)(hv:Nat->Value):Array Value:=#[opV (rd 0).op,.bool (rd 0).inn,hv 0,opV (rd 1).op,.bool (rd 1).inn,hv 1,opV (rd 2).op,.bool (rd 2).inn,hv 2]
structure RdW (w:World)(F:Nat->Option ZK)(H:HAd)(rb kb:Nat)(rd:Nat->RdS)(hv:Nat->Value):Prop where
 row:w.heap[rb]?=some (.cells (VI rd hv) 51 (0,0))
 fr:Frn F H rb
 xr:H.x0<=rb
 held:∀ t,t < 3->OwF w F H 30 1 (hv t) (rd t).held.length ((rd t).held.map fun (p:Nat)=>.int .u64 p)
 apart:∀ t u,t < 3->u < 3->t≠u->∀ k,(hv t).ownBlock=some k->(hv u).ownBlock≠some k
 op:∀ t,t < 3->∀ ob,(rd t).op=some ob->EnB w ob kb (1+t) false 0/\Frn F H ob/\H.x0<=ob
variable {rb kb:Nat}{rd:Nat->RdS}{hv:Nat->Value}
theorem RdW.below (h:RdW w F H rb kb rd hv)(hb:Bl w w'):RdW w' F H rb kb rd hv:=
 {h with row:=(hb.block _ (heap_lt h.row)).trans h.row,held:=fun t ht=>(h.held t ht).below hb,op:=fun t ht ob e=>⟨(hb.block _ (heap_lt (h.op t ht ob e).1)).trans (h.op t ht ob e).1,(h.op t ht ob e).2⟩}
theorem RdW.moved (h:RdW w F H rb kb rd hv)(hm:HMv F F' H w w'):RdW w' F' H rb kb rd hv where
 row:=(hm.frn h.fr (heap_lt h.row)).1.trans h.row
 fr:=(hm.frn h.fr (heap_lt h.row)).2
 xr:=h.xr
 held:=fun t ht=>(h.held t ht).moved hm
 apart:=h.apart
 op:=fun t ht ob e=>by
  obtain ⟨h1,h2,h3⟩:=h.op t ht ob e;have h4:=hm.frn h2 (heap_lt h1);exact ⟨h4.1.trans h1,h4.2,h3⟩
theorem RdW.clock {A:DAd}{now:Nat}{an:Nat->Nat}(h:RdW w F H rb kb rd hv)(hc:CkB w A kb now an)(ho:Only (fun k=>k=kb) w w'):RdW w' F H rb kb rd hv where
 row:=(ho.block _ (heap_lt h.row) (Ya hc h.row (by decide))).trans h.row
 fr:=h.fr
 xr:=h.xr
 held:=fun t ht=>⟨Z4 (h.held t ht).1 ho (fun k hk q=>by
  have q:k=kb:=q;rw [q] at hk;exact Zc (h.held t ht).1 hc (by decide) hk),(h.held t ht).2⟩
 apart:=h.apart
 op:=fun t ht ob e=>by
  obtain ⟨h1,h2,h3⟩:=h.op t ht ob e;exact ⟨(ho.block _ (heap_lt h1) (Ya hc h1 (by decide))).trans h1,h2,h3⟩
theorem ZJB {a b kb t u:Nat}{e1 e2:Bool}{p1 p2:Nat}(h1:EnB w a kb t e1 p1)(h2:EnB w b kb u e2 p2)(hne:t≠u):a≠b:=by
 rintro rfl;unfold EnB at h1 h2;rw [h1] at h2;simp at h2;exact hne (by omega)
theorem RdW.put (h:RdW w F H rb kb rd hv) {A:DAd} {now:Nat} {an:Nat->Nat} (hck:CkB w A kb now an) {t:Nat} (ht:t < 3) {r':RdS} {v':Value} {G:Nat->Prop} (ho:Only G w w') (hG:∀ k,k < w.heap.size->G k->k=rb\/k=kb\/(rd t).op=some k\/(hv t).ownBlock=some k) (hrow:w'.heap[rb]?=some (.cells (VI (upd rd t r') (upd hv t v')) 51 (0,0)))
 (hh:OwF w' F H 30 1 v' r'.held.length (r'.held.map fun (p:Nat)=>.int .u64 p)) (ha:∀ u,u < 3->u≠t->∀ k,v'.ownBlock=some k->(hv u).ownBlock≠some k)
 (hp:∀ ob,r'.op=some ob->EnB w' ob kb (1+t) false 0/\Frn F H ob/\H.x0<=ob):RdW w' F H rb kb (upd rd t r') (upd hv t v') where
 row:=hrow
 fr:=h.fr
 xr:=h.xr
 held:=fun u hu=>by
  by_cases e:u=t
  ·subst e;rw [ZS,ZS];exact hh
  ·rw [ZZ _ _ e,ZZ _ _ e]
   refine ⟨Z4 (h.held u hu).1 ho (fun k hk q=>?_),(h.held u hu).2⟩;rcases hG k ((h.held u hu).1.lt k hk).2 q with q|q|q|q
   ·rw [q] at hk
    exact Zc (h.held u hu).1 h.row (by decide) hk
   ·rw [q] at hk
    exact Zc (h.held u hu).1 hck (by decide) hk
   ·exact Zc (h.held u hu).1 (h.op t ht k q).1 (by decide) hk
   ·exact h.apart t u ht hu (fun q=>e q.symm) k q hk
 apart:=fun a b h1 h2 hne k hk=>by
  by_cases e:a=t
  ·subst e
   rw [ZS] at hk;rw [ZZ _ _ (fun q=>hne q.symm)];exact ha b h2 (fun q=>hne q.symm) k hk
  ·rw [ZZ _ _ e] at hk
   by_cases e2:b=t
   ·subst e2
    rw [ZS];exact fun q=>ha a h1 e k q hk
   ·rw [ZZ _ _ e2]
    exact h.apart a b h1 h2 hne k hk
 op:=fun u hu ob hb=>by
  by_cases e:u=t
  ·subst e;rw [ZS] at hb;exact hp ob hb
  ·rw [ZZ _ _ e] at hb
   obtain ⟨h1,h2,h3⟩:=h.op u hu ob hb;refine ⟨(ho.block _ (heap_lt h1) (fun q=>?_)).trans h1,h2,h3⟩;rcases hG ob (heap_lt h1) q with q|q|q|q
   ·exact Ya h.row h1 (by decide) q
   ·exact Ya hck h1 (by decide) q
   ·exact ZJB h1 (h.op t ht ob q).1 (by omega) rfl
   ·exact Zc (h.held t ht).1 h1 (by decide) q
theorem ZER {t:Nat}(ht:t < 3)(o:Option Nat):(VI rd hv).setIfInBounds (3 * t) (opV o)=VI (upd rd t {rd t with op:=o}) hv:=by
 rcases (show t=0\/t=1\/t=2 by omega) with rfl|rfl|rfl <;> rfl
theorem ZHG {t:Nat}(ht:t < 3)(b:Bool):(VI rd hv).setIfInBounds (3 * t+1) (.bool b)=VI (upd rd t {rd t with inn:=b}) hv:=by
 rcases (show t=0\/t=1\/t=2 by omega) with rfl|rfl|rfl <;> rfl
theorem ZFY {t:Nat}(ht:t < 3)(v:Value)(l:List Nat):(VI rd hv).setIfInBounds (3 * t+2) v=VI (upd rd t {rd t with held:=l}) (upd hv t v):=by
 rcases (show t=0\/t=1\/t=2 by omega) with rfl|rfl|rfl <;> rfl
theorem ZAZ {t:Nat}(ht:t < 3):(VI rd hv)[3 * t]?=some (opV (rd t).op)/\(VI rd hv)[3 * t+1]?=some (.bool (rd t).inn)/\(VI rd hv)[3 * t+2]?=some (hv t):=by
 rcases (show t=0\/t=1\/t=2 by omega) with rfl|rfl|rfl <;> exact ⟨rfl,rfl,rfl⟩
theorem RdW.cells (h:RdW w F H rb kb rd hv){t:Nat}(ht:t < 3):w.cell? ⟨rb,3 * t,none⟩=some (opV (rd t).op)/\w.cell? ⟨rb,3 * t+1,none⟩=some (.bool (rd t).inn)/\w.cell? ⟨rb,3 * t+2,none⟩=some (hv t):=by
 obtain ⟨h1,h2,h3⟩:=ZAZ (rd:=rd) (hv:=hv) ht;exact ⟨(ZC h.row).trans h1,(ZC h.row).trans h2,(ZC h.row).trans h3⟩
variable {s':LS}
abbrev WZ (w:World)(F:Nat->Option ZK)(H:HAd)(B:WAd):Prop:=WR w F H B s00 (.slice none 0 0) (.slice none 0 0)
theorem WZ.foreign (h:WZ w F H B){b:Nat}{a:Array Value}{e:TypeId}{z:Nat×Nat}(hb:w.heap[b]?=some (.cells a e z))(he:e≠38)(ho:Only (fun k=>k=b) w w'):WZ w' F H B:=by
 have hne:B.wb≠b:=by
  obtain ⟨c,hc,_⟩:=h.row;exact Ya hb hc he
 exact ⟨h.row.of_block (ho.block _ h.row.lt hne),⟨Z4 h.fre.1 ho (fun k hk=>by cases hk),h.fre.2⟩,⟨Z4 h.ite.1 ho (fun k hk=>by cases hk),h.ite.2⟩,h.fw⟩
def TES (A:DAd)(H:HAd)(B:WAd)(rb k:Nat)(s:LS)(rd:Nat->RdS)(hv:Nat->Value)(w:World):Prop:=
 ∃ F c x ex,WC w A F T0 c x H ex B cw0 s/\WZ w F H B/\RdW w F H rb B.kb rd hv/\x<=910+2000 * k/\ex<=4+2 * k
theorem TES.below {k:Nat}(h:TES A H B rb k s rd hv w)(hb:Bl w w'):TES A H B rb k s rd hv w':=by
 obtain ⟨F,c,x,ex,h1,h2,h3,h4,h5⟩:=h;exact ⟨F,c,x,ex,h1.below hb,h2.below hb,h3.below hb,h4,h5⟩
theorem TES.more {k:Nat}(h:TES A H B rb k s rd hv w):TES A H B rb (k+1) s rd hv w:=by
 obtain ⟨F,c,x,ex,h1,h2,h3,h4,h5⟩:=h;exact ⟨F,c,x,ex,h1,h2,h3,by omega,by omega⟩
theorem XI (a:Int)(m:Nat)(hm:0 < m):∃ r:Int,a.tmod m=r/\-(m:Int) < r/\r < m/\(r+m).tmod m=(JC a m:Nat)/\(r+m) % m=(JC a m:Nat)/\JC a m < m:=by
 have h1:=Int.tmod_lt_of_pos a (show (0:Int) < m by omega);have h2:=Int.lt_tmod_of_pos a (show (0:Int) < m by omega);obtain ⟨h3,h4⟩:=ZIC (a:=a) (n:=m) (by omega);refine ⟨a.tmod m,rfl,h2,h1,h4,?_,by omega⟩;rw [<-Int.tmod_eq_emod_of_nonneg (by omega)];exact h4
theorem JV (h:WC w A F T c x H ex B c0 s){i:Nat}(hi:i < 40):∀ w1,Bl w w1->Calls prog 12 #[.pointer (some ⟨B.db,0,none⟩),.int .u64 (ZM pA+8 * i:Nat)] w1 fun e w'=>e=.returned (.int .u64 (s.lp i:Nat))/\w1=w':=by
 intro w1 hb;have e:ZM pA+8 * i=8 * (638+i):=by rw [show ZM pA=5104 from ZEP.2.1];omega
 have:=ZAF (h.below hb).ar (h.below hb).dr (o:=ZM pA+8 * i) (by rw [e];omega) (by rw [e];omega);rw [show (ZM pA+8 * i) / 8=638+i by rw [e];omega,h.rep.lnk i hi] at this;exact this
def DwP (A:DAd)(T:Nat->Nat)(H:HAd)(B:WAd)(c0:Nat->Nat)(x ex:Nat)(s:LS)(k i:Nat)(F:Nat->Option ZK)(w w':World):Prop:=
 ∃ F',HMv F F' H w w'/\((∃ c' x' ex',x'<=x+2000/\ex'<=ex+2/\WC w' A F' T c' x' H ex' B c0 (s.stp k i 0))\/(k=1/\s.lp i≠0/\s.en.length=29))
theorem DwP.none (h:WC w A F T c x H ex B c0 s){k i:Nat}(hb:Bl w w')(he:s.stp k i 0=s):DwP A T H B c0 x ex s k i F w w':=
 ⟨F,HMv.of_below hb,.inl ⟨c,x,ex,by omega,by omega,by rw [he];exact h.below hb⟩⟩
theorem ZHV (s:LS){i:Nat}(h:s.lp i=0):s.stp 0 i 0=s.mk0 i:=by unfold LS.stp;simp [h]
theorem ZCp (s:LS){i:Nat}(h:s.lp i≠0):s.stp 0 i 0=s:=by unfold LS.stp;simp [h]
theorem ZId (s:LS){i:Nat}(h:s.lp i≠0):s.stp 1 i 0=s.retire i:=by unfold LS.stp;simp [h]
theorem ZDx (s:LS){i:Nat}(h:s.lp i=0):s.stp 1 i 0=s:=by unfold LS.stp;simp [h]
theorem WZ.moved (h:WZ w F H B)(hm:HMv F F' H w w'):WZ w' F' H B:=WR.moved h hm
theorem WZ.below (h:WZ w F H B)(hb:Bl w w'):WZ w' F H B:=WR.below h hb
theorem WZ.two3 (h:WZ w F H B):w.cell? ⟨B.wb,1,none⟩=some (.pointer (some ⟨B.db,0,none⟩))/\w.cell? ⟨B.wb,2,none⟩=some (.pointer (some ⟨B.lib,0,none⟩)):=⟨WR.one h,WR.two h⟩
theorem ZI9 (h:WC w A F T c x H ex B c0 s)(hz:WZ w F H B)(hi:s.Inv n)(hn:n<=59)(hx:x<=900000)(hex:ex<=900000){k:Nat}(hk:k=0\/k=1){b:Int}:
 Calls prog 17 #[.pointer (some ⟨B.wb,0,none⟩),.int .i64 k,.int .i64 b,.int .u64 pA] w fun e w'=>e=.returned (.bool true)/\DwP A T H B c0 x ex s k (JC b 40) F w w':=by
 obtain ⟨r,e1,ra,rb1,e2,e3,hi40⟩:=XI b 40 (by omega);obtain ⟨i,hie⟩:=xE (JC b 40);replace e1:b.tmod 40=r:=e1;replace ra:-40 < r:=ra;replace rb1:r < 40:=rb1;replace e2:(r+40).tmod 40=(i:Nat):=by rw [hie];exact e2
 replace e3:(r+40) % 40=(i:Nat):=by rw [hie];exact e3
 replace hi40:i < 40:=by rw [hie];exact hi40
 rw [<-hie];clear hie;have b40:(i:Int) < 40:=by omega
 obtain ⟨O,hO⟩:∃ O:Nat,O=ZM pA+8 * i:=⟨_,rfl⟩
 have hO2:O=8 * (638+i):=by rw [hO,show ZM pA=5104 from ZEP.2.1];omega
 obtain ⟨p,hp⟩:=xE (s.lp i);have HAT:=zh (fun (wx:World)=>show Calls prog 13 #[.int .u64 pA,.int .i64 i] wx (fun e w'=>e=.returned (.int .u64 (O:Nat))/\wx=w') from by rw [hO];exact YK (w:=wx) (p:=pA) (k:=i) (by decide) (by decide) (by omega));have HLD:=zh (JV h hi40);rw [<-hO,<-hp] at HLD;have HZ:=zh (fun (wx:World) (hb:Bl w wx)=>(hz.below hb).two3);have HR:=zh (Below.refl w.heap.size w);have HH:=zh h;have HZZ:=zh hz;have HI40:=zh hi40;have HP:=zh hp;have HI:=zh hi;have HO:=zh hO;have HO2:=zh hO2;obtain ⟨z1,z2⟩:=HZ.o _ HR.o;clear h hz hi40 hO hO2 hp hi;rcases hk with rfl|rfl
 ·by_cases h0:p=0
  ·
   subst h0;have HNI:=zh (fun (w1:World)=>show Calls prog 14 #[.int .u64 (0:Nat)] w1 (fun e w'=>e=.returned (.bool true)/\w1=w') from by
    have:=Z6 (w:=w1) (p:=0);simpa using this)
   obtain ⟨q,hq⟩:=xE s.np;have HAL:=zh (fun (wx:World) (hb:Bl w wx)=>show Calls prog 24 #[.pointer (some ⟨B.db,0,none⟩),.int .i64 3,.int .u8 65] wx (fun e w'=>e=.returned (.tuple #[.int .u64 q,.int .i64 0])/\ZF1 A F T x H ex c0 s wx w') from by
    rw [hq];exact ZHe (HH.o.below hb) HI.o hn hx hex)
   have HLK:=zh (fun (wx:World)=>ZAS (w:=wx) (P:=pA) (i:=i) (v:=q) (by decide) (by decide) (by have:=HI40.o;omega));rw [<-HO.o] at HLK
   have HPB:=zh (fun (w1 w2 wx:World) (hb:Bl w w1) (hr:ZF1 A F T x H ex c0 s w1 w2) (hb2:Bl w2 wx) (vb tb:Nat) (hv:Seen wx vb 0 [.int .u64 (O:Nat),.int .u64 (q:Nat)]) (ht:wx.cell? ⟨tb,0,none⟩=some (.int .u64 (q:Nat))) (htb:w2.heap.size<=tb)=>
    ZD5 (HH.o.below hb) HI.o hn hx hex HI40.o hr hb2 (v:=.slice (some ⟨vb,0,none⟩) 1 1) (.inr ⟨_,_,_,rfl,by rw [<-HO2.o,<-hq];exact hv⟩) (tc:=1) (by rw [<-hq];exact ht) htb)
   have HE:=zh (fun (w1 w3:World) (F3:Nat->Option ZK) (c3:Nat->Nat) (hb:Bl w w1) (hW:WC w3 A F3 T c3 (x+800) H (ex+2) B c0 (s.mk0 i)) (hm:HMv F F3 H w1 w3)=>show DwP A T H B c0 x ex s 0 i F w w3 from
    ⟨F3,(HMv.of_below hb).trans hm,.inl ⟨c3,x+800,ex+2,by omega,by omega,by rw [ZHV s HP.o.symm];exact hW⟩⟩)
   clear hx hex hn hq HH HI HP HO2 HO HI40;go_in;go_upto_region 2 with fail
   go_region_held3 (fun wx=>wx.cell? ⟨B.wb,1,none⟩=some (.pointer (some ⟨B.db,0,none⟩)))
    (first|assumption|exact (HZ.o _ (by repeat (with_reducible first|exact HR.o|apply ZD))).1)
    (first
      |(refine ZJ rfl func13 rfl rfl rfl (HAT.o _) (by first|(simp [Act.eval,e1,e2,e3];done)|(simp [Act.eval,e1,e2,e3];rfl)) ?_;rintro e' V2 ⟨rfl,rfl⟩;refine ⟨_,rfl,?_⟩)
      |(refine ZJ rfl func12 rfl rfl rfl (HLD.o _ (ZD HR.o)) (by first|(simp [Act.eval];done)|(simp [Act.eval];rfl)) ?_;rintro e' V2 ⟨rfl,rfl⟩;refine ⟨_,rfl,?_⟩))
   have HB1:=zh (ZD HR.o);obtain ⟨w1,hw1⟩:=xE w.drew;rw [<-hw1] at HB1 ⊢;clear hw1 z1 z2;obtain ⟨z1,z2⟩:=HZ.o _ HB1.o;go_wp2_with fail;refine (HNI.o _).mono ?_;rintro e' w' ⟨rfl,rfl⟩;go_wp2_with fail;refine (HAL.o _ HB1.o).mono ?_;rintro e' w2 ⟨rfl,hrp⟩;have HRP:=zh hrp;obtain ⟨F2,c2,x2,hx2,hw2,hm2,hrep2⟩:=hrp;have HZ2:=zh ((HZZ.o.below HB1.o).moved hm2);have HBR:=zh (Below.refl w2.heap.size w2);clear z1 z2;obtain ⟨z1,z2⟩:=HZ2.o.two3;have HQZ:=zh (fun (wx:World) (hb:Bl w2 wx)=>(HZ2.o.below hb).two3.1);clear hx2 hw2 hm2 hrep2 z2;go_upto_region 7 with fail
   go_region_held3 (fun wx=>wx.cell? ⟨B.wb,1,none⟩=some (.pointer (some ⟨B.db,0,none⟩)))
    (first|exact hsx|exact HQZ.o _ (by repeat (with_reducible first|assumption|exact HBR.o|apply ZA|apply ZD)))
    (first
      |(refine ZJ rfl func40 rfl rfl rfl (HLK.o _) (by first|(simp [Act.eval];done)|(simp [Act.eval];rfl)) ?_;rintro e' V2 ⟨rfl,rfl⟩;refine ⟨_,rfl,?_⟩)
      |(refine ZJ rfl func26 rfl rfl rfl (HPB.o _ _ _ HB1.o HRP.o (by repeat (with_reducible first|exact HBR.o|apply ZA|apply ZD)) _ _ (by first|exact Yi _ _ _ _|exact (Yi w2 _ _ _).below (ZD (ZA bR)) nR|exact (Yi (w2.alloc (.cells #[.int .u64 (q:Nat)] 30)) _ _ _).below (ZD bR) nR) (by first|exact Yh rfl|exact Zp (ZA bR) (Yh rfl)|exact Zp (ZD (ZA bR)) (Yh (w:=w2) rfl)) (by simp)) (by first|(simp [Act.eval];done)|(simp [Act.eval];rfl)) ?_;rintro e' V3 ⟨rfl,F3,c3,hW3,hm3⟩;refine ⟨_,rfl,?_⟩;have hsx:=((HZZ.o.below HB1.o).moved hm3).two3.1))
   all_goals
    have HF:=zh (HE.o _ _ _ _ HB1.o hW3 hm3);clear hW3 hm3 hsx z1;go_wp2;go_returns;exact ⟨rfl,HF.o⟩
  ·
   have HNI:=zh (fun (w1:World)=>show Calls prog 14 #[.int .u64 p] w1 (fun e w'=>e=.returned (.bool false)/\w1=w') from by
    have:=Z6 (w:=w1) (p:=p);rw [show decide (p=0)=false by simp [h0]] at this;exact this)
   have HE:=zh (fun (w1:World) (hb:Bl w w1)=>DwP.none HH.o (k:=0) (i:=i) hb (ZCp s (by rw [<-HP.o];exact h0)));clear hx hex hn HH HI HP HO2 HO HI40 HZZ h0;go_in;go_upto_region 2 with fail
   go_region_held3 (fun wx=>wx.cell? ⟨B.wb,1,none⟩=some (.pointer (some ⟨B.db,0,none⟩)))
    (first|assumption|exact (HZ.o _ (by repeat (with_reducible first|exact HR.o|apply ZD))).1)
    (first
      |(refine ZJ rfl func13 rfl rfl rfl (HAT.o _) (by first|(simp [Act.eval,e1,e2,e3];done)|(simp [Act.eval,e1,e2,e3];rfl)) ?_;rintro e' V2 ⟨rfl,rfl⟩;refine ⟨_,rfl,?_⟩)
      |(refine ZJ rfl func12 rfl rfl rfl (HLD.o _ (ZD HR.o)) (by first|(simp [Act.eval];done)|(simp [Act.eval];rfl)) ?_;rintro e' V2 ⟨rfl,rfl⟩;refine ⟨_,rfl,?_⟩))
   have HB1:=zh (HE.o _ (ZD HR.o));clear z1 z2;go_wp2_with fail;refine (HNI.o _).mono ?_;rintro e' w' ⟨rfl,rfl⟩;go_wp2;go_returns;exact ⟨rfl,HB1.o⟩
 ·by_cases h0:p=0
  ·
   subst h0;have HNI:=zh (fun (w1:World)=>show Calls prog 14 #[.int .u64 (0:Nat)] w1 (fun e w'=>e=.returned (.bool true)/\w1=w') from by
    have:=Z6 (w:=w1) (p:=0);simpa using this)
   have HE:=zh (fun (w1:World) (hb:Bl w w1)=>DwP.none HH.o (k:=1) (i:=i) hb (ZDx s HP.o.symm));clear hx hex hn HH HI HP HO2 HO HI40 HZZ;go_in;go_upto_region 2 with fail
   go_region_held3 (fun wx=>wx.cell? ⟨B.wb,1,none⟩=some (.pointer (some ⟨B.db,0,none⟩)))
    (first|assumption|exact (HZ.o _ (by repeat (with_reducible first|exact HR.o|apply ZD))).1)
    (first
      |(refine ZJ rfl func13 rfl rfl rfl (HAT.o _) (by first|(simp [Act.eval,e1,e2,e3];done)|(simp [Act.eval,e1,e2,e3];rfl)) ?_;rintro e' V2 ⟨rfl,rfl⟩;refine ⟨_,rfl,?_⟩)
      |(refine ZJ rfl func12 rfl rfl rfl (HLD.o _ (ZD HR.o)) (by first|(simp [Act.eval];done)|(simp [Act.eval];rfl)) ?_;rintro e' V2 ⟨rfl,rfl⟩;refine ⟨_,rfl,?_⟩))
   have HB1:=zh (HE.o _ (ZD HR.o));clear z1 z2;go_wp2_with fail;refine (HNI.o _).mono ?_;rintro e' w' ⟨rfl,rfl⟩;go_wp2;go_returns;exact ⟨rfl,HB1.o⟩
  ·
   have HNI:=zh (fun (w1:World)=>show Calls prog 14 #[.int .u64 p] w1 (fun e w'=>e=.returned (.bool false)/\w1=w') from by
    have:=Z6 (w:=w1) (p:=p);rw [show decide (p=0)=false by simp [h0]] at this;exact this)
   have HLK:=zh (fun (wx:World)=>ZAS (w:=wx) (P:=pA) (i:=i) (v:=0) (by decide) (by decide) (by have:=HI40.o;omega));rw [<-HO.o] at HLK;have HN0:=zh (show s.lp i≠0 by rw [<-HP.o];exact h0);have HEN:=zh (show s.en.length<=29 from HH.o.rep.n29);have HRT:=zh (fun (wx:World) (hb:Bl w wx)=>show Calls prog 41 #[.pointer (some ⟨B.lib,0,none⟩),.iface 27 (.pointer (some ⟨B.db,0,none⟩)),.int .u64 p,.slice (some ⟨wx.heap.size,0,none⟩) 1 1] (wx.alloc (.cells #[.int .u64 (O:Nat),.int .u64 (0:Nat)] 155)) (fun e w'=>e=.returned (.int .i64 0)/\DwP A T H B c0 x ex s 1 i F w w'/\∃ F',HMv F F' H w w') from by
    have hb2:Bl w (wx.alloc (.cells #[.int .u64 (O:Nat),.int .u64 (0:Nat)] 155)):=ZA hb;have hW:=HH.o.below hb2
    have hv:Wrs (wx.alloc (.cells #[.int .u64 (O:Nat),.int .u64 (0:Nat)] 155)) (.slice (some ⟨wx.heap.size,0,none⟩) 1 1) [(8 * (638+i),0)]:=.inr ⟨_,_,_,rfl,by
     rw [HO2.o];exact Yi _ _ _ _⟩
    rw [HP.o]
    by_cases hf:s.en.length < 29
    ·refine (ZFw hW HI.o hn hf HI40.o HN0.o hx hv).mono ?_
     rintro e w' ⟨rfl,F3,h3,h4⟩;have hm:=(HMv.of_below hb2).trans h4;exact ⟨rfl,⟨F3,hm,.inl ⟨_,x+100,ex,by omega,by omega,by rw [ZId s HN0.o];exact h3⟩⟩,F3,hm⟩
    ·have h29:s.en.length=29:=by have:=HEN.o;omega
     refine (Qo hW HI.o hn h29 HI40.o HN0.o hx hex hv (fun b o k cap e=>?_)).mono ?_
     ·have hb0:b=wx.heap.size:=by simp at e;exact e.1.1.symm
      have:=(HH.o.below hb).hw.newf (b:=b) (by omega);exact ⟨this.f,this.o⟩
     ·rintro e w' ⟨rfl,F3,h4⟩
      have hm:=(HMv.of_below hb2).trans h4;exact ⟨rfl,⟨F3,hm,.inr ⟨rfl,HN0.o,h29⟩⟩,F3,hm⟩)
   clear hx hex hn HH HI HP HO2 HO HI40 h0 HN0 HEN;go_in;go_upto_region 2 with fail
   go_region_held3 (fun wx=>wx.cell? ⟨B.wb,1,none⟩=some (.pointer (some ⟨B.db,0,none⟩)))
    (first|assumption|exact (HZ.o _ (by repeat (with_reducible first|exact HR.o|apply ZD))).1)
    (first
      |(refine ZJ rfl func13 rfl rfl rfl (HAT.o _) (by first|(simp [Act.eval,e1,e2,e3];done)|(simp [Act.eval,e1,e2,e3];rfl)) ?_;rintro e' V2 ⟨rfl,rfl⟩;refine ⟨_,rfl,?_⟩)
      |(refine ZJ rfl func12 rfl rfl rfl (HLD.o _ (ZD HR.o)) (by first|(simp [Act.eval];done)|(simp [Act.eval];rfl)) ?_;rintro e' V2 ⟨rfl,rfl⟩;refine ⟨_,rfl,?_⟩))
   have HB1:=zh (ZD HR.o);obtain ⟨w1,hw1⟩:=xE w.drew;rw [<-hw1] at HB1 ⊢;clear hw1 z1 z2;obtain ⟨z1,z2⟩:=HZ.o _ HB1.o;go_wp2_with fail;refine (HNI.o _).mono ?_;rintro e' w' ⟨rfl,rfl⟩;have HS1:=zh (fun (wx:World) (hb:Bl w1 wx)=>(HZZ.o.below (HB1.o.trans (hb.mono HB1.o.size))).two3);have HR1:=zh (Below.refl w1.heap.size w1);go_upto_region 9 with fail
   go_region_held3 (fun wx=>wx.cell? ⟨B.wb,1,none⟩=some (.pointer (some ⟨B.db,0,none⟩))/\wx.cell? ⟨B.wb,2,none⟩=some (.pointer (some ⟨B.lib,0,none⟩)))
    (first|exact hsx|exact HS1.o _ (by repeat (with_reducible first|assumption|exact HR1.o|apply ZA|apply ZD)))
    (first
      |(refine ZJ rfl func40 rfl rfl rfl (HLK.o _) (by first|(simp [Act.eval];done)|(simp [Act.eval];rfl)) ?_;rintro e' V2 ⟨rfl,rfl⟩;refine ⟨_,rfl,?_⟩)
      |(refine ZJ rfl func41 rfl rfl rfl (HRT.o _ (ZD HB1.o)) (by first|(simp [Act.eval];done)|(simp [Act.eval];rfl)) ?_;rintro e' V3 ⟨rfl,hdw,F2,hm3⟩;refine ⟨_,rfl,?_⟩;have hsx:=(HZZ.o.moved hm3).two3))
   have HF:=zh hdw;clear hdw hm3 hsx z1 z2;go_wp2;go_returns;exact ⟨rfl,HF.o⟩
variable {r:Nat->Option Nat}{k:Nat}
theorem ZCv {α:Type}(f:Nat->α)(t:Nat):upd f t (f t)=f:=by
 funext y;unfold upd;by_cases e:y=t
 ·rw [ZKv e,e]
 ·rw [ZKu e]
theorem WZ.keep (h:WZ w F H B){G:Nat->Prop}(ho:Only G w w')(hG:∀ k,k < w.heap.size->G k->∃ a e z,w.heap[k]?=some (.cells a e z)/\e≠38):WZ w' F H B:=
 ⟨h.row.of_block (ho.block _ h.row.lt (fun q=>by
   obtain ⟨a,e,z,h1,h2⟩:=hG _ h.row.lt q;obtain ⟨c,hc,_⟩:=h.row;exact Ya h1 hc h2 rfl)),⟨Z4 h.fre.1 ho (fun k hk=>by cases hk),h.fre.2⟩,⟨Z4 h.ite.1 ho (fun k hk=>by cases hk),h.ite.2⟩,h.fw⟩
def PsS (A:DAd)(H:HAd)(B:WAd)(rb k:Nat)(w:World):Prop:=∃ s rd r hv,TI s rd r k/\TES A H B rb k s rd hv w
def PsE (H:HAd)(B:WAd)(rb k:Nat)(w:World):Prop:=k=60/\∃ F rd hv,RdW w F H rb B.kb rd hv/\WZ w F H B/\(∀ t,t < 3->(rd t).held=[])/\Below H.x0 B.w0 w
def Pst (A:DAd)(H:HAd)(B:WAd)(rb k:Nat)(w:World):Prop:=PsS A H B rb k w\/PsE H B rb k w
theorem RdW.below2 (h:RdW w F H rb n rd hv)(hb:Bl w w'):RdW w' F H rb n rd hv:=h.below hb
theorem Pst.below (h:Pst A H B rb k w)(hb:Bl w w'):Pst A H B rb k w':=by
 rcases h with ⟨s,rd,r,hv,h1,h2⟩|⟨h0,F,rd,hv,h1,h2,h3,h4⟩
 ·exact .inl ⟨s,rd,r,hv,h1,h2.below hb⟩
 ·exact .inr ⟨h0,F,rd,hv,h1.below hb,h2.below hb,h3,Zr h4 (Only.of_below (F:=fun _=>False) hb) (ZK6 h1.xr (Nat.le_of_lt (heap_lt h1.row))) (fun _ _ q=>q.elim)⟩
theorem Pst.base (h:Pst A H B rb k w):Below H.x0 B.w0 w:=by
 rcases h with ⟨s,rd,r,hv,h1,F,c,x,ex,h2,_⟩|⟨h0,F,rd,hv,h1,h2,h3,h4⟩
 ·exact h2.xb
 ·exact h4
def ChS (H:HAd)(B:WAd)(rb:Nat)(rd:Nat->RdS)(hv:Nat->Value)(w:World):Prop:=
 (∃ F,RdW w F H rb B.kb rd hv/\WZ w F H B)/\(∀ t,t < 3->(rd t).held.length<=60)/\∀ t,t < 3->∀ P,P∈(rd t).held->∀ wx,Bl w wx->Calls prog 18 #[.pointer (some ⟨B.db,0,none⟩),.int .u64 P,.int .u8 65] wx fun e w'=>e=.returned (.int .i64 0)/\Bl wx w'
theorem Pst.chs (h:Pst A H B rb k w)(hk:k<=60):∃ rd hv,ChS H B rb rd hv w:=by
 rcases h with ⟨s,rd,r,hv,h1,F,c,x,ex,h2,h3,h4,_⟩|⟨h0,F,rd,hv,h1,h2,h3,h4⟩
 ·exact ⟨rd,hv,⟨F,h4,h3⟩,fun t ht=>by have:=h1.len t ht;omega,fun t ht P hP wx hb=>Xd (h2.below hb) h1.inv hk (h1.live ht hP) (.inr rfl)⟩
 ·exact ⟨rd,hv,⟨F,h1,h2⟩,fun t ht=>by rw [h3 t ht];exact Nat.zero_le _,fun t ht P hP=>by rw [h3 t ht] at hP;cases hP⟩
theorem Vm (h:TI s rd r k)(hw:TES A H B rb k s rd hv w)(hb:Bl w w'):Pst A H B rb (k+1) w':=.inl ⟨s,rd,r,hv,h.mono,(hw.below hb).more⟩
theorem ZIF:OutT 51:=⟨by decide,by decide,by decide,by decide,by decide,by decide⟩
theorem ZKj:OutT 30:=⟨by decide,by decide,by decide,by decide,by decide,by decide⟩
theorem ZKi:OutT 103:=⟨by decide,by decide,by decide,by decide,by decide,by decide⟩
theorem ZG7 (h:TI s rd r k)(hw:TES A H B rb k s rd hv w)(hxs:B.xs=[]){t ob o:Nat}(ht:t < 3)(ho:o=3 * t)(h0:(rd t).inn=false){w1:World}(hb:Bl w w1)(he:EnB w1 ob B.kb (1+t) false 0)(hn:w.heap.size<=ob):
 Pst A H B rb (k+1) (w1.setCell ⟨rb,o,none⟩ (.pointer (some ⟨ob,0,none⟩))):=by
 subst ho;have hf:∃ F c x ex,WC w A F T0 c x H ex B cw0 s/\WZ w F H B/\RdW w F H rb B.kb rd hv/\x<=910+2000 * k/\ex<=4+2 * k:=hw;obtain ⟨F,c,x,ex,h1,h2,h3,h4,h5⟩:=hf;have hnf:=h1.hw.newf hn;have hx0:=h1.x0;have h1:=h1.below hb;have h2:=h2.below hb;have h3:=h3.below hb;have hO:Only (fun k=>k=rb) w1 (w1.setCell ⟨rb,3 * t,none⟩ (.pointer (some ⟨ob,0,none⟩))):=(Only.refl (fun k=>k=rb) w1).set (F:=fun k=>k=rb) rfl _;have hrow:(w1.setCell ⟨rb,3 * t,none⟩ (.pointer (some ⟨ob,0,none⟩))).heap[rb]?=some (.cells (VI (upd rd t {rd t with op:=some ob}) (upd hv t (hv t))) 51 (0,0)):=by
  rw [ZCv,<-ZER ht (some ob)];exact ZH h3.row
 have hne:rb≠ob:=Ya he h3.row (by decide)
 have hp:=h3.put h1.ck ht (r':={rd t with op:=some ob}) (v':=hv t) hO (fun k _ q=>.inl q) hrow
  ⟨Z4 (h3.held t ht).1 hO (fun k hk q=>by
    have q:k=rb:=q;rw [q] at hk;exact Zc (h3.held t ht).1 h3.row (by decide) hk),(h3.held t ht).2⟩
  (fun u hu e k hk=>h3.apart t u ht hu (fun q=>e q.symm) k hk)
  (fun b hb2=>by
    have e:ob=b:=by simpa using hb2
    subst e;exact ⟨(hO.block _ (heap_lt he) (fun q=>hne q.symm)).trans he,hnf,by omega⟩)
 have hti:=h.begin (b:=ob) ht h0;have e:(⟨some ob,false,(rd t).held⟩:RdS)={rd t with op:=some ob}:=by rw [<-h0]
 rw [e] at hti;exact .inl ⟨s,_,r,_,hti,F,c,x,ex,h1.foreign hxs h3.row ZIF h3.fr h3.xr hO,h2.foreign h3.row (by decide) hO,hp,by omega,by omega⟩
theorem ZG8 (h:TI s rd r k)(hw:TES A H B rb k s rd hv w)(hk:k<=59)(hxs:B.xs=[]){t ob o1 o2:Nat}(ht:t < 3)(ho1:o1=3 * t+1)(ho2:o2=3 * t)(hop:(rd t).op=some ob){w1 w2:World}(hO1:Only (fun k=>k=ob\/k=B.kb) w w1)(hck:CkB w1 A B.kb s.now (upd s.ann (1+t) s.now))(hb:Bl w1 w2):
 Pst A H B rb (k+1) ((w2.setCell ⟨rb,o1,none⟩ (.bool true)).setCell ⟨rb,o2,none⟩ (.pointer none)):=by
 subst ho1 ho2;have hf:∃ F c x ex,WC w A F T0 c x H ex B cw0 s/\WZ w F H B/\RdW w F H rb B.kb rd hv/\x<=910+2000 * k/\ex<=4+2 * k:=hw;obtain ⟨F,c,x,ex,h1,h2,h3,h4,h5⟩:=hf;obtain ⟨heb,hef,hex⟩:=h3.op t ht ob hop;have hrk:rb≠B.kb:=Ya h1.ck h3.row (by decide);have hro:rb≠ob:=Ya heb h3.row (by decide);have hO2:Only (fun k=>k=ob\/k=B.kb\/k=rb) w w2:=(hO1.mono (fun k q=>q.elim .inl (fun q=>.inr (.inl q)))).trans (Only.of_below (F:=fun _=>False) hb) (fun _ _ q=>q.elim);have hO:Only (fun k=>k=ob\/k=B.kb\/k=rb) w ((w2.setCell ⟨rb,3 * t+1,none⟩ (.bool true)).setCell ⟨rb,3 * t,none⟩ (.pointer none)):=(hO2.set (.inr (.inr rfl)) _).set (.inr (.inr rfl)) _;have hr2:w2.heap[rb]?=some (.cells (VI rd hv) 51 (0,0)):=(hb.block _ (ZLC (heap_lt h3.row) hO1.size)).trans ((hO1.block _ (heap_lt h3.row) (fun q=>q.elim hro hrk)).trans h3.row);have hkk:CkB ((w2.setCell ⟨rb,3 * t+1,none⟩ (.bool true)).setCell ⟨rb,3 * t,none⟩ (.pointer none)) A B.kb s.now (upd s.ann (1+t) s.now):=(ZF (fun e=>hrk e.symm)).trans ((ZF (fun e=>hrk e.symm)).trans (hck.below hb));have hinn:(rd t).inn=false:=(h.opr t ht (by rw [hop];simp)).1;have hhe:(rd t).held=[]:=by
  cases e:(rd t).held with
  |nil=>rfl
  |cons P l=>exact absurd (h.held t ht P (by rw [e];exact .head _)).1 (by rw [hinn];simp)
 have hrow:((w2.setCell ⟨rb,3 * t+1,none⟩ (.bool true)).setCell ⟨rb,3 * t,none⟩ (.pointer none)).heap[rb]?=some (.cells (VI (upd rd t ⟨none,true,[]⟩) (upd hv t (hv t))) 51 (0,0)):=by
  rw [ZCv,ZH (ZH hr2)]
  congr 2
  rw [ZHG ht,show (Value.pointer none)=opV none from rfl,ZER ht]
  congr 1
  funext y;unfold upd;by_cases e:y=t
  ·subst e;simp [hhe]
  ·simp [e]
 have hp:=h3.put h1.ck ht (r':=⟨none,true,[]⟩) (v':=hv t) hO (fun k _ q=>by
  rcases q with q|q|q
  ·exact .inr (.inr (.inl (by rw [q];exact hop)))
  ·exact .inr (.inl q)
  ·exact .inl q) hrow
  ⟨by
    have:=Z4 (h3.held t ht).1 hO (fun k hk q=>by
     rcases q with q|q|q
     ·rw [q] at hk;exact Zc (h3.held t ht).1 heb (by decide) hk
     ·rw [q] at hk;exact Zc (h3.held t ht).1 h1.ck (by decide) hk
     ·rw [q] at hk;exact Zc (h3.held t ht).1 h3.row (by decide) hk)
    rw [hhe] at this;exact this,(h3.held t ht).2⟩
  (fun u hu e k hk=>h3.apart t u ht hu (fun q=>e q.symm) k hk)
  (fun b hb2=>by cases hb2)
 have hti:=h.enter (by omega) ht (by rw [hop];simp);refine .inl ⟨_,_,r,_,hti,F,c,x,ex,h1.keep hxs hO (fun k hk q=>?_) hkk ⟨rfl,rfl,rfl⟩ (h1.rep.ann _),h2.keep hO (fun k hk q=>?_),hp,by omega,by omega⟩
 ·rcases q with q|q|q
  ·rw [q];exact ⟨hef,hex,.inr ⟨_,_,_,heb,ZKi⟩⟩
  ·rw [q];exact ⟨h1.fk,h1.xk.1,.inl rfl⟩
  ·rw [q];exact ⟨h3.fr,h3.xr,.inr ⟨_,_,_,h3.row,ZIF⟩⟩
 ·rcases q with q|q|q
  ·rw [q];exact ⟨_,_,_,heb,by decide⟩
  ·rw [q];exact ⟨_,_,_,h1.ck,by decide⟩
  ·rw [q];exact ⟨_,_,_,h3.row,by decide⟩
theorem ZIO (h:TI s rd r k) (hw:TES A H B rb k s rd hv w) (hk:k<=59) (hxs:B.xs=[]) {t:Nat} (ht:t < 3) (h0:(rd t).inn=true) {w1 w2:World} (hO1:Only (fun k=>k=B.kb) w w1) (hck:CkB w1 A B.kb s.now (upd s.ann (1+t) 0))
 (hO3:Only (fun k=>k=rb) w1 w2)(hrow:w2.heap[rb]?=some (.cells (VI (upd rd t ⟨none,false,[]⟩) (upd hv t (.slice none 0 0))) 51 (0,0))):Pst A H B rb (k+1) w2:=by
 have hf:∃ F c x ex,WC w A F T0 c x H ex B cw0 s/\WZ w F H B/\RdW w F H rb B.kb rd hv/\x<=910+2000 * k/\ex<=4+2 * k:=hw;obtain ⟨F,c,x,ex,h1,h2,h3,h4,h5⟩:=hf;have hrk:rb≠B.kb:=Ya h1.ck h3.row (by decide);have hO:Only (fun k=>k=B.kb\/k=rb) w w2:=(hO1.mono (fun k q=>.inl q)).trans hO3 (fun k _ q=>.inr q);have hkk:CkB w2 A B.kb s.now (upd s.ann (1+t) 0):=(hO3.block _ (heap_lt hck) (fun q=>hrk q.symm)).trans hck
 have hp:=h3.put h1.ck ht (r':=⟨none,false,[]⟩) (v':=.slice none 0 0) hO (fun k _ q=>q.elim (fun q=>.inr (.inl q)) .inl) hrow
  ⟨ZLD _ _ _ _,fun k hk=>by cases hk⟩ (fun u hu e k hk=>by cases hk) (fun b hb2=>by cases hb2)
 have hti:=h.leave (by omega) ht h0;refine .inl ⟨_,_,r,_,hti,F,c,x,ex,h1.keep hxs hO (fun k hk q=>?_) hkk ⟨rfl,rfl,rfl⟩ (h1.rep.ann _),h2.keep hO (fun k hk q=>?_),hp,by omega,by omega⟩
 ·rcases q with q|q
  ·rw [q];exact ⟨h1.fk,h1.xk.1,.inl rfl⟩
  ·rw [q];exact ⟨h3.fr,h3.xr,.inr ⟨_,_,_,h3.row,ZIF⟩⟩
 ·rcases q with q|q
  ·rw [q];exact ⟨_,_,_,h1.ck,by decide⟩
  ·rw [q];exact ⟨_,_,_,h3.row,by decide⟩
theorem ZIP (h:TI s rd r k) (hw:TES A H B rb k s rd hv w) (hxs:B.xs=[]) {t i o:Nat} (ht:t < 3) (ho:o=3 * t+2) (hi:i < 40) (h0:(rd t).inn=true) (hp0:s.lp i≠0) {w1 w2:World} {g cap L:Nat} (hb:Bl w w1) (hL:L=(rd t).held.length)
 (how:w2.ownsRow 0 30 1 (.slice (some ⟨g,0,none⟩) (L+1) cap) (L+1) ((rd t).held.map (fun (p:Nat)=>Value.int .u64 p)++[.int .u64 (s.lp i:Nat)]))(hgr:w1.grownBy w2 (hv t).ownBlock)(hg:(hv t).ownBlock=some g\/w1.heap.size<=g):
 Pst A H B rb (k+1) (w2.setCell ⟨rb,o,none⟩ (.slice (some ⟨g,0,none⟩) (L+1) cap)):=by
 subst ho;have hf:∃ F c x ex,WC w A F T0 c x H ex B cw0 s/\WZ w F H B/\RdW w F H rb B.kb rd hv/\x<=910+2000 * k/\ex<=4+2 * k:=hw;obtain ⟨F,c,x,ex,h1,h2,h3,h4,h5⟩:=hf;have h1:=h1.below hb;have h2:=h2.below hb;have h3:=h3.below hb;have hx0:=h1.x0;have hOg:Only (fun k=>(hv t).ownBlock=some k) w1 w2:=⟨hgr.os,hgr.tape,hgr.output,hgr.size,fun i hi hn=>hgr.block i hi (fun e=>hn e.symm)⟩
 have hO:Only (fun k=>(hv t).ownBlock=some k\/k=rb) w1 (w2.setCell ⟨rb,3 * t+2,none⟩ (.slice (some ⟨g,0,none⟩) (L+1) cap)):=(hOg.mono (fun k q=>.inl q)).set (.inr rfl) _;have hgt:Frn F H g/\H.x0<=g:=by
  rcases hg with q|q
  ·exact (h3.held t ht).2 g q
  ·exact ⟨h1.hw.newf q,by omega⟩
 have hrb2:w2.heap[rb]?=some (.cells (VI rd hv) 51 (0,0)):=(hOg.block _ (heap_lt h3.row) (Zc (h3.held t ht).1 h3.row (by decide))).trans h3.row;have hrow:(w2.setCell ⟨rb,3 * t+2,none⟩ (.slice (some ⟨g,0,none⟩) (L+1) cap)).heap[rb]?=some (.cells (VI (upd rd t {rd t with held:=(rd t).held++[s.lp i]}) (upd hv t (.slice (some ⟨g,0,none⟩) (L+1) cap))) 51 (0,0)):=by
  rw [<-ZFY ht];exact ZH hrb2
 have hgrb:g≠rb:=by
  rcases hg with q|q
  ·rintro rfl;exact Zc (h3.held t ht).1 h3.row (by decide) q
  ·have:=heap_lt h3.row;omega
 have hkk:CkB (w2.setCell ⟨rb,3 * t+2,none⟩ (.slice (some ⟨g,0,none⟩) (L+1) cap)) A B.kb s.now s.ann:=(hO.block _ (heap_lt h1.ck) (fun q=>by
  rcases q with q|q
  ·exact Zc (h3.held t ht).1 h1.ck (by decide) q
  ·exact Ya h1.ck h3.row (by decide) q.symm)).trans h1.ck
 have hp:=h3.put h1.ck ht (r':={rd t with held:=(rd t).held++[s.lp i]}) (v':=.slice (some ⟨g,0,none⟩) (L+1) cap) hO (fun k _ q=>q.elim (fun q=>.inr (.inr (.inr q))) .inl) hrow
  ⟨by
    have:=Z4 (G:=fun k=>k=rb) how ((Only.refl (fun k=>k=rb) w2).set (F:=fun k=>k=rb) (b:=rb) (i:=3 * t+2) rfl (.slice (some ⟨g,0,none⟩) (L+1) cap)) (fun k hk q=>by
     have q:k=rb:=q;cases hk;exact hgrb q)
    rw [show ({rd t with held:=(rd t).held++[s.lp i]}:RdS).held.length=L+1 by simp [hL]];simpa using this,fun k hk=>by cases hk;exact hgt⟩
  (fun u hu e k hk=>by
    cases hk;rcases hg with q|q
    ·exact h3.apart t u ht hu (fun q=>e q.symm) g q
    ·exact fun q2=>by have:=((h3.held u hu).1.lt g q2).2;omega)
  (fun b hb2=>by
    obtain ⟨q1,q2,q3⟩:=h3.op t ht b hb2;refine ⟨(hO.block _ (heap_lt q1) (fun q=>?_)).trans q1,q2,q3⟩;rcases q with q|q
    ·exact Zc (h3.held t ht).1 q1 (by decide) q
    ·exact Ya q1 h3.row (by decide) q.symm)
 have hti:=h.read ht hi h0 hp0;have e:(⟨(rd t).op,true,(rd t).held++[s.lp i]⟩:RdS)={rd t with held:=(rd t).held++[s.lp i]}:=by rw [<-h0]
 rw [e] at hti;refine .inl ⟨s,_,r,_,hti,F,c,x,ex,h1.keep hxs hO (fun k hk q=>?_) hkk ⟨rfl,rfl,rfl⟩ h1.rep,h2.keep hO (fun k hk q=>?_),hp,by omega,by omega⟩
 ·rcases q with q|q
  ·obtain ⟨z1,z2⟩:=(h3.held t ht).2 k q
   rcases (h3.held t ht).1.2 with ⟨z,_⟩|⟨g2,cap2,cur,z,_,zb,_⟩
   ·rw [z] at q;cases q
   ·rw [z] at q;cases q
    exact ⟨z1,z2,.inr ⟨_,_,_,zb,ZKj⟩⟩
  ·rw [q];exact ⟨h3.fr,h3.xr,.inr ⟨_,_,_,h3.row,ZIF⟩⟩
 ·rcases q with q|q
  ·rcases (h3.held t ht).1.2 with ⟨z,_⟩|⟨g2,cap2,cur,z,_,zb,_⟩
   ·rw [z] at q;cases q
   ·rw [z] at q;cases q
    exact ⟨_,_,_,zb,by decide⟩
  ·rw [q];exact ⟨_,_,_,h3.row,by decide⟩
theorem ZJU (h:TI s rd r k)(hw:TES A H B rb k s rd hv w)(hk:k<=59)(hno:XA s.now s.ann)(hf:∃ F c x ex,WC w A F T0 c x H ex B cw0 s/\WZ w F H B/\RdW w F H rb B.kb rd hv/\x<=910+2000 * k/\ex<=4+2 * k/\BgP w A F 160 T0 (wrs c [(4480,7309464666214760448+(s.now+1))]) (x+100) H false (plc s.k) ex (fun _=>none) (fun _=>none) B.kb s.now s.ann w'):
 Pst A H B rb (k+1) w':=by
 obtain ⟨F,c,x,ex,h1,h2,h3,h4,h5,F2,wm,hwm,hmm,hkm,rfl⟩:=hf;have hO:Only (fun k=>k=B.kb) wm (wm.setCell ⟨B.kb,2,none⟩ (.int .u64 (s.now+1:Nat))):=(Only.refl (fun k=>k=B.kb) wm).set (F:=fun k=>k=B.kb) rfl _;have hti:=h.stp (by omega) (kd:=5) (i:=0) (by omega) (.inr (.inr (.inr rfl)));have e:s.stp 5 0 0=s.advance:=by
  show (if XA s.now s.ann then s.advance else s)=_;rw [ZKv hno]
 rw [e] at hti;exact .inl ⟨_,_,_,_,hti,F2,_,x+100,ex,h1.adv hwm hmm hkm h1.rep.advance ⟨rfl,rfl,rfl⟩,WR.clock (h2.moved hmm) hkm hO,(h3.moved hmm).clock hkm hO,by omega,by omega⟩
theorem ZJV (h:TI s rd r k)(hw:TES A H B rb k s rd hv w)(hk:k<=59)(hf:∃ F c x ex,WC w A F T0 c x H ex B cw0 s/\WZ w F H B/\RdW w F H rb B.kb rd hv/\x<=910+2000 * k/\ex<=4+2 * k/\(s.frees=[]/\Bl w w'\/s.frees≠[]/\∃ F' c',WC w' A F' T0 c' (x+400) H ex B cw0 s.collect/\HMv F F' H w w')):
 Pst A H B rb (k+1) w':=by
 obtain ⟨F,c,x,ex,h1,h2,h3,h4,h5,⟨h6,h7⟩|⟨h6,F2,c2,h7,h8⟩⟩:=hf
 ·exact Vm h hw h7
 ·have hti:=h.stp (by omega) (kd:=2) (i:=0) (by omega) (.inr (.inr (.inl rfl)))
  have e:s.stp 2 0 0=s.collect:=by
   show (if s.frees=[] then s else s.collect)=_;rw [ZKu h6]
  rw [e] at hti;exact .inl ⟨_,_,_,_,hti,F2,c2,x+400,ex,h7,h2.moved h8,h3.moved h8,by omega,by omega⟩
theorem ZG9 (h:TI s rd r k)(hk:k<=59){kd i:Nat}(hkd:kd=0\/kd=1)(hi:i < 40)(hf:∃ F c x ex,WC w A F T0 c x H ex B cw0 s/\WZ w F H B/\RdW w F H rb B.kb rd hv/\x<=910+2000 * k/\ex<=4+2 * k/\DwP A T0 H B cw0 x ex s kd i F w w'):
 Pst A H B rb (k+1) w':=by
 obtain ⟨F,c,x,ex,h1,h2,h3,h4,h5,F2,hm,⟨c2,x2,ex2,e1,e2,h6⟩|⟨rfl,h6,h7⟩⟩:=hf
 ·exact .inl ⟨_,_,_,_,h.stp (by omega) hi (by omega),F2,c2,x2,ex2,h6,h2.moved hm,h3.moved hm,by omega,by omega⟩
 ·have h59:k=59:=by
   have q1:=h.inv.ok.cnt;have q2:=h.inv.ok.len;have q3:=h.inv.cnt
   have q4:1<=(((List.range 40).map s.lp).filter (· != 0)).length:=
    List.length_pos_of_mem (ZLK.2 ⟨ZKz.2 ⟨i,ZLJ.2 hi,rfl⟩,by simpa using h6⟩)
   omega
  have hh:∀ t,t < 3->(rd t).held=[]:=fun t ht=>(h.full hk (by omega) hi h6 ht).1
  refine .inr ⟨by omega,F2,rd,hv,h3.moved hm,h2.moved hm,hh,Zr h1.xb hm.only h1.x0 (fun k _ q=>q.elim (h1.xf k) (h1.xo k))⟩
end
end Go.Proofs.YteomliechfdhhaaGreatDoor.Dv
