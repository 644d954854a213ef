/- Part 59. -/
import Derived.Test.YtbpeehmepehkdaaGreatDoorY48
set_option maxHeartbeats 8000000
set_option maxRecDepth 20000
set_option linter.all false
namespace Go.Proofs.YtbpeehmepehkdaaGreatDoor.Dv
open Tryz
section
open Go.RowKit Go.Proofs.YtbpeehmepehkdaaGreatDoor.Size
variable {w w':World}{A:DAd}{F F':Nat->Option ZM}{T c c' c0:Nat->Nat}{x x':Nat}{H:HAd}{ex n:Nat}{s:LS}{B:WAd}{fv iv:Value}{mb:Nat}{es:Array MapEntry}{cl:Nat}
theorem JP {b:Nat}{a:Array Value}{e:TypeId}{z:Nat×Nat}(hm:w.heap[mb]?=some (.map es cl))(hb:w.heap[b]?=some (.cells a e z)):b≠mb:=by
 rintro rfl;rw [hm] at hb;simp at hb
theorem ZCj {b o:Nat}{v:Value}(hm:w.heap[mb]?=some (.map es cl))(hb:w.cell? ⟨b,o,none⟩=some v):mb≠b:=by
 rintro rfl;simp [World.cell?,hm] at hb
theorem WC.frn_map (h:WC w A F T c x H ex B c0 s)(hm:w.heap[mb]?=some (.map es cl))(hf:F mb=none/\¬ H.own mb):Frn F H mb:=
 ⟨hf.1,hf.2,⟨(JP hm h.hw.hp.hp).symm,(JP hm h.hw.set.set).symm⟩,⟨ZCj hm (h.hw.aq.nib 0 (by omega)).2,ZCj hm h.hw.aq.tab.c0⟩⟩
theorem WC.mapped (h:WC w A F T c x H ex B c0 s)(hm:w.heap[mb]?=some (.map es cl))(hf:F mb=none/\¬ H.own mb)(hx0:H.x0<=mb)(ho:Only (fun k=>k=mb) w w'){l:List (Nat×Obj)}(hl:XsB w' F H l):WC w' A F T c x H ex {B with xs:=l} c0 s:=by
 have hfr:=h.frn_map hm hf;have hb:∀ {b:Nat} {a:Array Value} {e:TypeId},w.heap[b]?=some (.cells a e (0,0))->w'.heap[b]?=w.heap[b]?:=fun {b a e} q=>ho.block b (heap_lt q) (JP hm q)
 exact {h with hw:=h.hw.only ho (fun k _ hk=>hk▸hfr),dr:=⟨(hb h.dr.dr).trans h.dr.dr,(hb h.dr.lg).trans h.dr.lg,h.dr.t,h.dr.fd,h.dr.fl⟩,ck:=(hb h.ck).trans h.ck,li:=(hb h.li).trans h.li,po:=(hb h.po).trans h.po,rt:=(hb h.rt).trans h.rt,xb:=Zz h.xb ho h.x0 (fun k _ q=>by have q:k=mb:=q;rw [q];exact hx0),xt:=hl}
theorem OwF.mapped {e:TypeId}{z n:Nat}{v:Value}{xs:List Value}(h:OwF w F H e z v n xs)(hm:w.heap[mb]?=some (.map es cl))(ho:Only (fun k=>k=mb) w w'):OwF w' F H e z v n xs:=by
 refine ⟨XH h.1 ho (fun k hk q=>?_),h.2⟩;have q:k=mb:=q;rcases h.1.2 with ⟨rfl,_⟩|⟨g,cap,cur,rfl,_,hbl,_⟩
 ·simp [Value.ownBlock] at hk
 ·cases hk
  exact JP hm hbl q
theorem WR.mapped (h:WR w F H B s fv iv)(hm:w.heap[mb]?=some (.map es cl))(ho:Only (fun k=>k=mb) w w')(l:List (Nat×Obj)):WR w' F H {B with xs:=l} s fv iv:=by
 obtain ⟨cw,hcw,h2⟩:=h.row;exact ⟨⟨cw,(ho.block _ (heap_lt hcw) (JP hm hcw)).trans hcw,h2⟩,h.fre.mapped hm ho,h.ite.mapped hm ho,h.fw⟩
theorem StS.remap {w0:World}{wb:Nat}(h:StS w0 wb [(mb,.map es cl)] n s w)(hx0:w0.heap.size<=mb)(ho:Only (fun k=>k=mb) w w'){es':Array MapEntry}{cl':Nat}(h':w'.heap[mb]?=some (.map es' cl')):StS w0 wb [(mb,.map es' cl')] n s w':=by
 obtain ⟨A,F,H,B,c,x,ex,fv,iv,h1,h2,h3,h4,h5,h6,h7,h8,h9,h10⟩:=h;obtain ⟨k1,k2,k3⟩:=h2.xt (mb,.map es cl) (by rw [h7];exact .head _);refine ⟨A,F,H,{B with xs:=[(mb,.map es' cl')]},c,x,ex,fv,iv,h1,h2.mapped k1 k2 (by rw [h9];exact hx0) ho (fun p hp=>?_),h3.mapped k1 ho _,h4,h5,h6,rfl,h8,h9,h10⟩;obtain rfl:=ZLt.1 hp;exact ⟨h',k2,.inr (.inl ⟨_,_,rfl⟩)⟩
theorem StS.addmap {w0:World}{wb:Nat}(h:StS w0 wb [] n s w):StS w0 wb [(w.heap.size,.map #[] 0)] n s (w.alloc (.map #[] 0))/\w0.heap.size<=w.heap.size:=by
 obtain ⟨A,F,H,B,c,x,ex,fv,iv,h1,h2,h3,h4,h5,h6,h7,h8,h9,h10⟩:=h;have hm:(w.alloc (.map #[] 0)).heap[w.heap.size]?=some (.map #[] 0):=ZC w _;have hb:=ZA (o:=Obj.map #[] 0) (Below.refl w.heap.size w);have hf:=h2.hw.newf (b:=w.heap.size) nR;have hx:H.x0<=w.heap.size:=h2.x0;refine ⟨⟨A,F,H,{B with xs:=[(w.heap.size,.map #[] 0)]},c,x,ex,fv,iv,h1,(h2.below hb).mapped hm ⟨hf.f,hf.o⟩ hx (Only.refl _ _) (fun p hp=>?_),(h3.below hb).mapped hm (Only.refl _ _) _,h4,h5,h6,rfl,h8,h9,h10⟩,by rw [<-h9];exact hx⟩;obtain rfl:=ZLt.1 hp;exact ⟨hm,⟨hf.f,hf.o⟩,.inr (.inl ⟨_,_,rfl⟩)⟩
theorem StS.obj {w0:World}{wb:Nat}(h:StS w0 wb [(mb,.map es cl)] n s w):w.heap[mb]?=some (.map es cl):=by
 obtain ⟨A,F,H,B,c,x,ex,fv,iv,h1,h2,h3,h4,h5,h6,h7,h8⟩:=h;exact (h2.xt (mb,.map es cl) (by rw [h7];exact .head _)).1
theorem ZK8 {w0:World}{wb:Nat}{xs:List (Nat×Obj)}(h:StS w0 wb xs n s w):s.Ok:=by
 obtain ⟨A,F,H,B,c,x,ex,fv,iv,h1,h2⟩:=h;exact h1.ok
theorem ZK7 {w0:World}{wb:Nat}{xs:List (Nat×Obj)}(h:StS w0 wb xs n s w){i:Nat}(hi:i < 40):w.cell? ⟨wb,4+i,none⟩=some (.int .u64 (s.lp i:Nat)):=by
 obtain ⟨A,F,H,B,c,x,ex,fv,iv,h1,h2,h3,h4,h5,rfl,h7⟩:=h;exact h3.lp hi
theorem ZIG {w0:World}{wb:Nat}{xs:List (Nat×Obj)}(h:StS w0 wb xs n s w):∃ pb kb,∀ wx,Bl w wx->wx.cell? ⟨wb,0,none⟩=some (.pointer (some ⟨pb,0,none⟩))/\
 Calls prog 23 #[.pointer (some ⟨pb,0,none⟩)] wx (fun e w'=>e=.returned (.pointer (some ⟨kb,0,none⟩))/\wx=w')/\
 Calls prog 27 #[.pointer (some ⟨kb,0,none⟩)] wx (fun e w'=>e=.returned (.int .u64 (s.now:Nat))/\wx=w')/\
 ∀ t:Nat,t < 8->Calls prog 28 #[.pointer (some ⟨kb,0,none⟩),.int .i64 t] wx (fun r w'=>r=.returned (.tuple #[.int .u64 (s.ann t:Nat),.bool (decide (s.ann t≠0))])/\wx=w'):=by
 obtain ⟨A,F,H,B,c,x,ex,fv,iv,h1,h2,h3,h4,h5,rfl,h7⟩:=h;exact ⟨B.pb,B.kb,fun wx hb=>⟨(h3.below hb).zero,Yo (h2.below hb).po,ZBN (h2.below hb).ar (h2.below hb).ck,fun t ht=>ZBM (h2.below hb).ck ht⟩⟩
theorem ZKP {w0:World}{wb:Nat}{xs:List (Nat×Obj)}(h:StS w0 wb xs n s w)(hn:n<=60):∃ db,∀ wx,Bl w wx->wx.cell? ⟨wb,1,none⟩=some (.pointer (some ⟨db,0,none⟩))/\
 ∀ P:Nat,P∈s.live->Calls prog 16 #[.pointer (some ⟨db,0,none⟩),.int .u64 P,.int .u8 (0:Nat)] wx fun e w'=>e=.returned (.int .i64 0)/\Bl wx w':=by
 obtain ⟨A,F,H,B,c,x,ex,fv,iv,h1,h2,h3,h4,h5,rfl,h7⟩:=h;exact ⟨B.db,fun wx hb=>⟨(h3.below hb).one,fun P hP=>Yg (h2.below hb) h1 hn hP (.inl rfl)⟩⟩
theorem ZJ7:s00.Kept (fun _=>none):=⟨fun P e h=>by cases h⟩
theorem ZFr {f:Nat->Option Nat}(h:s.Kept f){P e t:Nat}(hf:f P=some e)(ht:t < 8)(ha:s.ann t≠0)(he:s.ann t<=e):P∈s.live:=by
 rcases h.kept P e hf with h1|⟨_,h2⟩
 ·exact LS.mem_en h1
 ·exfalso
  rcases h2 t ht with h3|h3
  ·exact ha h3
  ·omega
theorem ZIz {w0:World}{wb:Nat}{xs:List (Nat×Obj)}(h:StS w0 wb xs n s w)(hn:n<=60){i:Nat}(hi:i < 40)(h0:s.lp i≠0):s.lp i < 18446744073709551616:=by
 obtain ⟨A,F,H,B,c,x,ex,fv,iv,h1,h2,h3,h4,h5,rfl,h7⟩:=h;have:=(h1.live_chk hn h2.rep.head (LS.mem_lp hi h0)).2.1.ok.lt;omega
theorem ZG1 (v:Value)(y:DataW Unit×List MemPlace)(h:cPtr.R v=some y):∃ c:Nat,v=Value.int .u64 (c:Int):=by
 unfold Codec.R at h;cases e:cPtr.dec v with
 |none=>rw [e] at h;cases h
 |some a=>exact ⟨a,cPtr.vd v a e⟩
theorem ZDc {w w':World}(h:w.grownBy w' none):Bl w w':=⟨h.os,h.tape,h.output,h.size,fun k hk=>h.block k hk (by simp)⟩
theorem ZFF {w0 w w':World}{r:Nat}(hb:Bl w0 w)(h:w.grownBy w' (some r))(hr:w0.heap.size<=r):Bl w0 w':=
 hb.trans ⟨h.os,h.tape,h.output,h.size,fun k hk=>h.block k (ZLq hk hb.size) (fun e=>by cases e;omega)⟩
theorem lholds_any {w0:World}{t u:TypeId}(hg:Ev.GOk w0 t u){a:Option Addr}{len cap:Nat}{rc:Nat->Int×Int×Int}(ha:AArg w0 a len rc)(hl:len<=cap)(hc:cap<=maxLen)(hn:a=none->cap=0):
 Calls prog 6 #[.slice a len cap] w0 fun e w'=>e=.returned (.bool true)/\Bl w0 w':=by
 have HBG:=zh (Ui hg);have HAW:=zh (fun (wx:World) (hb:Bl w0 wx)=>Vy (V9 hg hb));have HFW:=zh (fun (wx:World)=>QB (w:=wx) (a:=a) (n:=len) (c:=cap) (m:=45) hl hc (by omega) (fun e=>by have:=hn e;omega));have HA:=zh ha;clear hg ha hl hc hn;go_in;go_wp2_with fail;refine HBG.o.mono ?_;rintro e w1 ⟨wb,rfl,hst,hb1⟩;have HS1:=zh hst;have HB1:=zh hb1;clear hst hb1 HBG;go_wp2_with fail;refine (HAW.o _ HB1.o).mono ?_;rintro e w2 ⟨rfl,hb2⟩;have HS2:=zh (HS1.o.below hb2);clear hb2 HS1 HB1 HAW;have hmm:=@run_makeMap prog;go_wp2_with fail;obtain ⟨w3,hw3⟩:=xE (w2.alloc (.map #[] 0));obtain ⟨mb,hmb⟩:=xE w2.heap.size;have HM0:=zh (show UMap prog 32 .u64 cPtr w3 mb 0 (fun _=>none) by rw [hw3,hmb];exact UMap.made _ _ _ _ w2);have HS3:=zh (show StS w0 wb [(mb,.map #[] 0)] 0 s00 w3 by rw [hw3,hmb];exact HS2.o.addmap.1);have HMX:=zh (show w0.heap.size<=mb by rw [hmb];exact HS2.o.addmap.2);rw [<-hw3,<-hmb];clear hw3 hmb hmm HS2;refine (HFW.o _).mono ?_;rintro e w' ⟨c',rfl,hc1,hc2,hww⟩;subst hww;obtain ⟨M,hM⟩:=xE (min len 45);have HM:=zh (show M<=len/\M<=45 by omega);rw [<-hM];clear hc1 hc2 hM HFW;go_wp2_with fail
 go_loopw [25] (fun i wr=>∃ (k:Nat) (f:Nat->Option Nat) (es:Array MapEntry) (cl:Nat),k<=M/\i=.int .i64 k/\StS w0 wb [(mb,.map es cl)] k (runS rc k) wr/\UMap prog 32 .u64 cPtr wr mb k f/\(runS rc k).Kept f) (fun i _=>M - (intOf i).toNat)
 case atStart=>exact ⟨0,_,_,_,by omega,rfl,HS3.o,HM0.o,ZJ7⟩
 case round=>
 obtain ⟨k,f,es,cl,hk,rfl,hst,hum,hkp⟩:=hrel
 by_cases hlt:k < M
 ·have d1:(k:Int) < M:=by omega
  have d45:(k:Int) < 45:=by have:=HM.o;omega
  obtain ⟨b,o,rfl,q0,q1,q2⟩:=(HA.o.below (hst.base)) k (by have:=HM.o;omega);have HK:=zh hlt;have hk50:k<=50:=by have:=HM.o;omega
  go_upto_region 8 with fail;obtain ⟨w4,hw4⟩:=xE (wr.alloc (.cells #[.int .i64 (rc k).1,.int .i64 (rc k).2.1,.int .i64 (rc k).2.2] 28));have hb4:Bl wr w4:=by rw [hw4];exact ZA bR
  have hx4:w4.heap[wr.heap.size]?=some (.cells #[.int .i64 (rc k).1,.int .i64 (rc k).2.1,.int .i64 (rc k).2.2] 28 (0,0)):=by rw [hw4];exact ZC _ _
  obtain ⟨ab,hab⟩:=xE wr.heap.size;rw [<-hab] at hx4;rw [<-hw4,<-hab];have HS4:=zh (hst.below hb4);have HU4:=zh (hum.kept (hb4.block _ hum.lt));have HKP:=zh hkp;generalize hs:runS rc k=s at HS4 HKP;obtain ⟨i,hi⟩:=xE (ZX (rc k).2.1 40);obtain ⟨kd,hkd⟩:=xE (ZX (rc k).1 7);have hi40:i < 40:=by rw [hi];exact Z4 (by omega) rfl
  have b40:(i:Int) < 40:=by omega
  have HM1:=zh (fun (wx:World)=>show Calls prog 26 #[.int .i64 (rc k).2.1,.int .i64 40] wx (fun e w'=>e=.returned (.int .i64 i)/\wx=w') from by rw [hi];exact Zh (by omega));have HM2:=zh (fun (wx:World)=>show Calls prog 26 #[.int .i64 (rc k).1,.int .i64 7] wx (fun e w'=>e=.returned (.int .i64 kd)/\wx=w') from by rw [hkd];exact Zh (by omega));have z4:=ZK7 HS4.o hi40;obtain ⟨p,hp⟩:=xE (s.lp i);have HPL:=zh (fun h0=>ZIz HS4.o (by omega) hi40 h0);rw [<-hp] at z4 HPL;have HNI:=zh (fun (wx:World)=>Zd (w:=wx) (p:=p));have HP:=zh hp;have HI:=zh hi;have HKD:=zh hkd;have HSS:=zh hs;have HI40:=zh hi40;have HK50:=zh hk50;have HSE:=zh (show s.act (rc k)=runS rc (k+1) by rw [<-hs];rfl);have HX4:=zh hx4;obtain ⟨pb,kb,hck⟩:=ZIG HS4.o;have HCK:=zh hck;have z0:=(hck w4 bR).1;obtain ⟨a0,a1,a2,_⟩:=ZY hx4;clear hst hum hkp hlt hk hw4 hb4 hx4 hab hs hi hkd hi40 hp hck q0 q1 q2;go_wp2_with fail;refine (HM1.o _).mono ?_;rintro e w' ⟨rfl,rfl⟩;go_upto_region 10 with fail
  go_cut [46] (fun v wc=>v=.bool (decide (kd=1/\p≠0))/\wc=w4)
  case first=>
   by_cases h1:kd=1
   ·by_cases h0:p=0
    ·subst h1;subst h0
     have HN0:=zh (fun (wx:World)=>show Calls prog 15 #[.int .u64 (0:Nat)] wx (fun e w'=>e=.returned (.bool true)/\wx=w') from Zd (w:=wx) (p:=0));go_wp2_with fail;refine (HM2.o _).mono ?_;rintro e w' ⟨rfl,rfl⟩;go_wp2_with fail;refine (HN0.o _).mono ?_;rintro e w' ⟨rfl,rfl⟩;go_wp2_with fail;go_meet;exact ⟨rfl,rfl⟩
    ·subst h1
     have HN0:=zh (fun (wx:World)=>show Calls prog 15 #[.int .u64 p] wx (fun e w'=>e=.returned (.bool false)/\wx=w') from by
      have:=Zd (w:=wx) (p:=p);rw [ZLh h0] at this;exact this)
     have HD0:=zh (show decide ((1:Nat)=1/\p≠0)=true from ZLp ⟨rfl,h0⟩);clear h0;go_wp2_with fail;refine (HM2.o _).mono ?_;rintro e w' ⟨rfl,rfl⟩;go_wp2_with fail;refine (HN0.o _).mono ?_;rintro e w' ⟨rfl,rfl⟩;go_wp2_with fail;go_meet;exact ⟨by rw [HD0.o],rfl⟩
   ·have n1:¬ ((kd:Int)=1):=by omega
    have g1:((kd:Int) == 1)=false:=by simpa using n1
    have k1:decide ((kd:Int)=1)=false:=ZLh n1;have HD0:=zh (show decide (kd=1/\p≠0)=false from ZLh (fun q=>h1 q.1));go_wp2_with fail;refine (HM2.o _).mono ?_;rintro e w' ⟨rfl,rfl⟩;go_wp2_with fail;go_meet;exact ⟨by rw [HD0.o],rfl⟩
  obtain ⟨rfl,hwc⟩:=hcut;rw [hwc];clear hwc;go_upto_if 46 with fail
  go_cut [] (fun wc=>∃ (f':Nat->Option Nat) (es':Array MapEntry) (cl':Nat),StS w0 wb [(mb,.map es' cl')] k s wc/\UMap prog 32 .u64 cPtr wc mb (k+1) f'/\(runS rc (k+1)).Kept f'/\wc.heap[ab]?=some (.cells #[.int .i64 (rc k).1,.int .i64 (rc k).2.1,.int .i64 (rc k).2.2] 28 (0,0)))
  case first=>
   have HKS:=zh (show (runS rc (k+1)).Kept (if kd=1/\p≠0 then YN f p s.now else f) from by
    have:=HKP.o.stp (ZK8 HS4.o) (kd:=kd) (i:=i) (t:=ZX (rc k).2.2 8) HI40.o;rw [<-HP.o] at this;rw [<-HSE.o];unfold LS.act;rw [<-HKD.o,<-HI.o];exact this)
   by_cases hb0:kd=1/\p≠0
   ·have e0:decide (kd=1/\p≠0)=true:=ZLp hb0
    obtain ⟨h1,h0⟩:=hb0;have HKS2:=zh (show (runS rc (k+1)).Kept (YN f p s.now) from by have:=HKS.o;rw [ZLX ⟨h1,h0⟩] at this;exact this);obtain ⟨w5,hput,hu5,hg5⟩:=HU4.o.put underlying32 underlying66 (by have:=HK50.o;unfold maxLen;omega) (n:=p) (wfU (HPL.o h0)) s.now;have HR:=zh (show (∃ (f':Nat->Option Nat) (es':Array MapEntry) (cl':Nat),StS w0 wb [(mb,.map es' cl')] k s w5/\UMap prog 32 .u64 cPtr w5 mb (k+1) f'/\(runS rc (k+1)).Kept f'/\w5.heap[ab]?=some (.cells #[.int .i64 (rc k).1,.int .i64 (rc k).2.1,.int .i64 (rc k).2.2] 28 (0,0))) from by
     obtain ⟨es5,hes5⟩:=hu5;obtain ⟨⟨es',cl',hobj,hrest⟩,hrest2⟩:=hes5;have ho:Only (fun q=>q=mb) w4 w5:=⟨hg5.os,hg5.tape,hg5.output,hg5.size,fun q hq hn=>hg5.block q hq (fun e=>hn (ZLd e))⟩
     have hne:ab≠mb:=JP HS4.o.obj HX4.o;exact ⟨_,es',cl',HS4.o.remap HMX.o ho hobj,⟨es5,⟨es',cl',hobj,hrest⟩,hrest2⟩,HKS2.o,(ho.block _ (heap_lt HX4.o) hne).trans HX4.o⟩)
    obtain ⟨_,c1,c2,_⟩:=HCK.o w4 bR;have HC1:=zh c1;have HC2:=zh c2;have hput:(Instr.mapUpdate 66 (.map (some mb)) (.int .u64 p) (.int .u64 (s.now:Nat))).run prog w4=.ok () w5:=hput;rw [e0];clear hu5 hg5 c1 c2 h0 h1 e0;go_wp2_with fail;refine HC1.o.mono ?_;rintro e w' ⟨rfl,rfl⟩;go_wp2_with fail;refine HC2.o.mono ?_;rintro e w' ⟨rfl,rfl⟩;go_wp2_with fail;go_meet;exact HR.o
   ·have e0:decide (kd=1/\p≠0)=false:=ZLh hb0
    have HR:=zh (show (∃ (f':Nat->Option Nat) (es':Array MapEntry) (cl':Nat),StS w0 wb [(mb,.map es' cl')] k s w4/\UMap prog 32 .u64 cPtr w4 mb (k+1) f'/\(runS rc (k+1)).Kept f'/\w4.heap[ab]?=some (.cells #[.int .i64 (rc k).1,.int .i64 (rc k).2.1,.int .i64 (rc k).2.2] 28 (0,0))) from ⟨f,es,cl,HS4.o,HU4.o.mono (Nat.le_succ k),by have:=HKS.o;rw [ZLU hb0] at this;exact this,HX4.o⟩);rw [e0];clear hb0 e0;go_wp2_with fail;go_meet;exact HR.o
  case rest=>
   obtain ⟨f',es',cl',hs4,hu5,hkp,hx5⟩:=hcut;obtain ⟨w5,hw5⟩:=xE wc;rw [<-hw5] at hs4 hu5 hx5 ⊢;have HD:=zh (ZEn hs4 (by have:=HK50.o;omega) (rc k));have HUL:=zh hu5.lt;have HU5:=zh hu5;have HKP2:=zh hkp;have HOB:=zh hs4.obj;obtain ⟨a0,a1,a2,_⟩:=ZY hx5;clear hs4 hu5 hkp hx5 hw5 z0 z4;go_wp2_with fail;refine HD.o.mono ?_;rintro e w6 ⟨rfl,hs6⟩;rw [HSE.o] at hs6;have HS6:=zh hs6;have hu6:=HU5.o.kept (hs6.obj.trans HOB.o.symm);obtain ⟨pb6,kb6,hck⟩:=ZIG hs6;obtain ⟨db6,hch⟩:=ZKP hs6 (by have:=HK50.o;omega);have HC6:=zh hck;have HH6:=zh hch;have HU6:=zh hu6;obtain ⟨em,hown,hem1,hem2,hem3⟩:=hu6;have HE2:=zh hem2;have HE3:=zh hem3;clear hs6 hck hch hem1 hem2 hem3 a0 a1 a2 HD;go_wp2_with (at_range;refine wpList_range_own _ rfl _ 66 rfl 32 31 (Maps.int_keyed underlying32) underlying66 _ mb (k+1) _ rfl hown ?_;intro w7 hrg0 hg0 hs0);have hb7:=ZDc hg0;have HR7:=zh hrg0;have HB7:=zh hb7;clear hg0 hs0 hrg0 hb7 hown;generalize hs':runS rc (k+1)=s' at HS6 HC6 HH6 HKP2;have HS':=zh hs';clear hs';go_frame
   go_loopw [9,10] (fun _ _ wq=>∃ (left:Lit->Bool) (cnt:Nat),wq.ranges prog 32 cPtr.R mb w6.heap.size (k+1) (.map em) left cnt/\(∀ q:Nat,left (.int .u64 q)=true->(f' q).isSome=true)/\Bl w6 wq) (fun _ _ wq=>wq.rangeLeft mb w6.heap.size)
   case atStart=>exact ⟨_,_,HR7.o,fun q h=>by rw [<-HE2.o q];exact h,HB7.o⟩
   case round=>
   obtain ⟨left,cnt,hrg,hlf,hb⟩:=hrel;have HB8:=zh hb;obtain ⟨w7,hw7⟩:=xE wr;rw [<-hw7] at hrg HB8 ⊢;clear hb hw7;go_wp2_with (at_next;refine wpList_next_ranges _ rfl _ rfl 32 (Maps.int_keyed underlying32) cPtr.R (Value.int .u64) (fun c:Nat=>Value.int .u64 (c:Int)) (fun key kl hkey=>by obtain ⟨x,rfl,_⟩:=Maps.keyOf_int_inv underlying32 hkey;exact ⟨x,rfl⟩) ZG1 mb w6.heap.size (k+1) _ _ _ rfl hrg ?_ ?_)
   ·intro _ hl0
    have HF:=zh (show StS w0 wb [(mb,.map es' cl')] (k+1) s' w7/\UMap prog 32 .u64 cPtr w7 mb (k+1) f' from ⟨HS6.o.below HB8.o,HU6.o.kept (HB8.o.block _ HU6.o.lt)⟩);clear hrg hlf hl0;go_wp2_with fail;exact ⟨⟨k+1,f',es',cl',by have:=HK.o;omega,rfl,by rw [HS'.o];exact HF.o.1,HF.o.2,by rw [HS'.o];exact HKP2.o⟩,by have:=HK.o;simp [intOf];omega⟩
   ·skip
    intro x cv kl ya yb w8 cnt1 hkey hlk hv hat hrg1 hcn hg1 hs1 hen;obtain ⟨x',ex,rfl,hwx⟩:=Maps.keyOf_int_inv underlying32 hkey;cases ex;have hx0:0<=x:=by
     simp [Lit.wf,IntKind.min,IntKind.max,IntKind.bits,IntKind.signed] at hwx;omega
    obtain ⟨q,rfl⟩:=Int.eq_ofNat_of_zero_le hx0;obtain ⟨av,hfa⟩:∃ av,f' q=some av:=Option.isSome_iff_exists.1 (hlf q hlk);obtain rfl:av=cv:=by
     have h1:=HE3.o q av (.lit (.int .u64 0)) hfa;have h2:=hat (.lit (.int .u64 0));have h3:=cPtr.R_val cv;have hv:cPtr.R (cPtr.val cv)=some (ya,yb):=hv;rw [h3] at hv;cases hv;exact cPtr.D_inj (h1.symm.trans h2)
    have HB9:=zh (ZFF HB8.o hg1 nR);have HRG:=zh hrg1;have HOLD:=zh hrg;have HCN:=zh hcn;have HLF:=zh hlf;have HFA:=zh hfa;clear hkey hlk hv hat hrg1 hcn hg1 hs1 hwx hx0 hfa hrg hlf;go_wp2_with fail
    go_loopw [66] (fun tv wq=>∃ j:Nat,j<=8/\tv=.int .i64 j/\Bl w8 wq) (fun tv _=>8 - (intOf tv).toNat)
    case atStart=>exact ⟨0,by omega,rfl,bR⟩
    case round=>
    obtain ⟨j,hj,rfl,hb⟩:=hrel;have HB10:=zh hb;have HB11:=zh (HB9.o.trans (hb.mono HB9.o.size))
    by_cases hj8:j < 8
    ·have bj:(j:Int) < 8:=by omega
     obtain ⟨z0,c1,_,c3⟩:=HC6.o _ HB11.o;obtain ⟨z1,c4⟩:=HH6.o _ HB11.o;have c3:=c3 j hj8;have HLV:=zh (fun (h1:s'.ann j≠0) (h2:s'.ann j<=av)=>c4 q (ZFr HKP2.o HFA.o hj8 h1 h2));obtain ⟨aj,haj⟩:=xE (s'.ann j);rw [<-haj] at c3 HLV;have HC1:=zh c1;have HC3:=zh c3;have HJ:=zh hj8;clear hb c1 c3 c4 haj hj hj8 hen
     by_cases h0:aj=0
     ·have e0:decide (aj≠0)=false:=ZLh (fun q=>q h0)
      rw [e0] at HC3;clear h0 e0;go_wp2_with fail;refine HC1.o.mono ?_;rintro e w' ⟨rfl,rfl⟩;go_wp2_with fail;refine HC3.o.mono ?_;rintro e w' ⟨rfl,rfl⟩;go_wp2_with fail;exact ⟨⟨j+1,by have:=HJ.o;omega,rfl,HB10.o⟩,by have:=HJ.o;simp [intOf];omega⟩
     ·have e0:decide (aj≠0)=true:=ZLp h0
      rw [e0] at HC3
      by_cases h1:aj<=av
      ·have HCH:=zh (HLV.o h0 h1)
       have d1:decide ((aj:Int)<=av)=true:=ZLp (by omega);have d2:(aj:Int)<=av:=by omega
       clear h0 e0 h1;go_wp2_with fail;refine HC1.o.mono ?_;rintro e w' ⟨rfl,rfl⟩;go_wp2_with fail;refine HC3.o.mono ?_;rintro e w' ⟨rfl,rfl⟩;go_wp2_with fail;refine HCH.o.mono ?_;rintro e w9 ⟨rfl,hb9⟩;have HB12:=zh (HB10.o.trans (hb9.mono HB10.o.size));clear hb9 z0 z1;go_wp2_with fail;exact ⟨⟨j+1,by have:=HJ.o;omega,rfl,HB12.o⟩,by have:=HJ.o;simp [intOf];omega⟩
      ·have d1:decide ((aj:Int)<=av)=false:=ZLh (by omega)
       have d2:¬ ((aj:Int)<=av):=by omega
       clear h0 e0;go_wp2_with fail;refine HC1.o.mono ?_;rintro e w' ⟨rfl,rfl⟩;go_wp2_with fail;refine HC3.o.mono ?_;rintro e w' ⟨rfl,rfl⟩;go_wp2_with fail;exact ⟨⟨j+1,by have:=HJ.o;omega,rfl,HB10.o⟩,by have:=HJ.o;simp [intOf];omega⟩
    ·obtain rfl:j=8:=by omega
     have hrg3:=X0 HRG.o (HB10.o.block mb HRG.o.owns.lt) (HB10.o.block w6.heap.size HRG.o.lt);have HRG3:=zh hrg3;clear hb hj hj8 hrg3 hen;go_wp2_with fail;exact ⟨⟨_,cnt1,HRG3.o,fun z hz=>HLF.o z (by simp at hz;exact hz.1),HB11.o⟩,by rw [HRG3.o.left_eq,HOLD.o.left_eq];exact HCN.o⟩
 ·obtain rfl:k=M:=by omega
  have HE:=zh hst.base;clear hst hum hkp hk hlt;go_wp2;go_returns;exact ⟨rfl,HE.o⟩
end
end Go.Proofs.YtbpeehmepehkdaaGreatDoor.Dv
