/- Part 18. -/
import Derived.Test.YtbpeehmepehkdaaGreatDoorY17
set_option maxHeartbeats 8000000
set_option maxRecDepth 20000
set_option linter.all false
namespace Go.Proofs.YtbpeehmepehkdaaGreatDoor.Dv
open Tryz
section
open Go.RowKit Go.Proofs.YtbpeehmepehkdaaGreatDoor.Size
variable {w w':World}{A:DAd}{F:Nat->Option ZM}{L:Nat}{T c c':Nat->Nat}{x x':Nat}{H:HAd}{lk:Bool}{p p':Nat->Plc}{ex:Nat}{res held:Nat->Option Nat}
theorem ClP.c0 {w':World}(h:ClP w A F L T c x H lk p ex res held w'):w'.cell? ⟨H.hb,0,none⟩=some (.iface 116 (.pointer (some ⟨A.t H.t,0,none⟩))):=by
 obtain ⟨F',h1,_⟩:=h;exact (Z5 h1.hp.hp).1
def Yh (off n:Nat):List (Nat×Nat):=(List.range n).map fun a=>(off+8 * a,0)
theorem ZEd (off n:Nat):Yh off (n+1)=Yh off n++[(off+8 * n,0)]:=by unfold Yh;rw [ZLy,ZLs];rfl
theorem XY (off n:Nat):(Yh off n).length=n:=by simp [Yh]
def ZrR (W:World)(off n:Nat)(v i:Value)(wr:World):Prop:=
 ∃ m:Nat,m<=n/\i=.int .i64 (m:Nat)/\wr.ownsRow W.heap.size 138 2 v m (ZT (Yh off m))/\Bl W wr
theorem ZFi (h:HW w A F L T c x H lk p ex res held){q:Nat}(hq:q < 18446744073709551616)(hq0:q≠0){cl:Nat}(hcl:cl<=4){n:Nat}(hn:wds cl=(n:Int))(h8:ZP q+8 * n<=64 * L)(hx:x+200<=1000000):
 Calls prog 146 #[.pointer (some ⟨H.hb,0,none⟩),.int .u64 q,.int .i64 cl] w fun e w'=>e=.returned (.int .i64 0)/\ClP w A F L T (wrs c (Yh (ZP q) n)) (x+200) H lk p ex res held w':=by
 have hLL:=h.ar.lines;have hnn:n<=60/\1<=n:=by have:=wds_cases cl;omega
 have HWD:=zh (Size.words_any cl w h.aq.tab);rw [hn] at HWD;have hof:ZP q % 8=0:=by unfold ZP;omega
 have HAT:=zh (fun (m:Nat) (hm:m < 60) (w1:World)=>XE (w:=w1) (p:=q) (k:=m) hq hq0 hm);obtain ⟨O,hO⟩:=xE (ZP q);rw [<-hO] at HAT hof h8 ⊢;have hcost:x+Zw [Yh O n]<=x+200:=by
  unfold Zw Zw;rw [XY];omega
 have hok:∀ l∈[Yh O n],∀ y∈l,y.1 % 8=0/\y.1 < 64 * L/\y.2 < 18446744073709551616:=by
  intro l hl y hy;rw [ZLt] at hl;subst hl;obtain ⟨a,ha,rfl⟩:=ZLb.1 hy;have:=ZLz.1 ha;exact ⟨by simp only;omega,by simp only;omega,by simp only;omega⟩
 have HRUN:=zh (fun (w1:World) (hb:Bl w w1) (v:Value) (B:Nat) (hB:w.heap.size<=B) (hp:Prg w1 B v (Ze [Yh O n]))=>
  ZCS (h.below hb) hp (fun g hg=>h.new (by omega)) (by have:=Zq (Yh O n);simp [Ze];omega) hok hcost hx)
 have hflat:[Yh O n].flatten=Yh O n:=by simp
 rw [hflat,Z2] at HRUN;obtain ⟨c0,_⟩:=Z5 h.hp.hp;have HH:=zh h.hp;have b1:(O:Int)<=262144:=by omega
 have HNN:=zh hnn;obtain ⟨ti,hti⟩:=xE H.t;rw [<-hti] at HRUN c0;have HTI:=zh hti;have HOB:=zh (show ∀ y∈Yh O n,y.1 < 18446744073709551616 from fun y hy=>by have:=hok _ (ZLt.2 rfl) y hy;omega);clear h hq hq0 hcl hn h8 hx hLL hof hO hcost hok hflat hti hnn;go_in;go_wp2_with fail;refine HWD.o.mono ?_;rintro e w' ⟨rfl,rfl⟩;go_wp2_with fail
 go_loopw [7,11] (fun v i wr=>ZrR w O n v i wr) (fun _ i _=>n - (intOf i).toNat)
 case atStart=>exact ⟨0,by omega,rfl,ZLn _ _ _ _,bR⟩
 case round=>
  obtain ⟨m,hm,rfl,hown,hbel⟩:=hrel;have HB:=zh hbel;have HO:=zh hown;obtain ⟨ra,rc,hv⟩:=ZN hown;subst hv;clear hown hbel
  by_cases hlt:m < n
  ·have d0:(m:Int) < n:=by omega
   have hn60:=HNN.o;have HA:=zh (HAT.o m (by omega));clear hlt;go_wp2_with fail;refine (HA.o _).mono ?_;rintro e w' ⟨rfl,rfl⟩;go_wp2_with (at_builtin;refine ZS elWrites rfl _ _ rfl HO.o rfl rfl ?c1 rfl ?c2 ?c3 ?c4 ?c5 ?_)
   case c1=>rfl
   case c2=>exact ⟨rfl,rfl⟩
   case c3=>unfold maxLen;omega
   case c4=>omega
   case c5=>exact HB.o.size
   intro g4 cap4 w5 hop5 hgr5 hg5
   have G:=zh (show ZrR w O n (.slice (some ⟨g4,0,none⟩) (m+1) cap4) (.int .i64 ((m+1:Nat):Int)) w5 from ⟨m+1,by omega,rfl,by
    rw [ZEd,Zm];exact hop5,ZL HB.o hgr5 HB.o.size (fun b hb=>(HO.o.lt b hb).1)⟩)
   clear hop5 hgr5 hg5;go_wp2_with fail;go_roundw
   case rel=>simpa using G.o
   case measure=>simp [intOf];omega
  ·obtain rfl:m=n:=by omega
   have d0:¬ ((m:Int) < m):=by omega
   have HST:=zh (YZ (l:=Yh O m) (by unfold Wrt;rw [XY];exact HO.o) (by rw [XY];have:=HNN.o;omega) (by rw [XY];have:=HNN.o;omega) HOB.o);clear c0;go_upto_region 7 with fail;have HST1:=zh (fun (w1:World) (hb:Bl wr w1)=>ZAY (g:=fun v=>v) hb (HST.o w1 hb));have HR1:=zh (Below.refl wr.heap.size wr);have HKP:=zh (fun (w1:World) (hb:Bl wr w1)=>(show w1.cell? ⟨H.hb,0,none⟩=some (.iface 116 (.pointer (some ⟨A.t ti,0,none⟩))) from by rw [HTI.o];exact (Z5 (HH.o.below (HB.o.trans (hb.mono HB.o.size))).hp).1));have c0:=HKP.o _ HR1.o
   go_region_held3 (fun w'=>w'.cell? ⟨H.hb,0,none⟩=some (.iface 116 (.pointer (some ⟨A.t ti,0,none⟩))))
    (first|assumption|exact HKP.o _ (by repeat (with_reducible first|assumption|exact HR1.o|apply ZA|apply ZB)))
    (first
      |(go_at_call 111;refine (HST1.o _ (by repeat (with_reducible first|assumption|exact HR1.o|apply ZA|apply ZB))).mono ?_;rintro e V1 ⟨rv,rfl,hp1,hb1⟩)
      |(go_at_call 112;refine (HRUN.o _ (HB.o.trans (hb1.mono HB.o.size)) _ _ HB.o.size hp1).mono ?_;rintro e V2 ⟨rfl,hcl⟩;have k9:=hcl.c0;rw [<-HTI.o] at k9))
   all_goals
    go_wp2;go_returns;obtain ⟨F',h1,h2⟩:=hcl;exact ⟨rfl,F',h1,(HMv.of_below (HB.o.trans (hb1.mono HB.o.size))).trans h2⟩
theorem Vj {th n kd:Nat}(h1:th < 8)(h2:1<=n/\n<=60)(h3:1<=kd/\kd<=127):
 Calls prog 86 #[.int .i64 th,.int .i64 n,.int .u8 kd] w fun e w'=>e=.returned (.int .i64 0)/\w=w':=by
 have d1:¬ (th:Int) < 0:=by omega
 have d2:¬ (th:Int)>=8:=by omega
 have d3:¬ (n:Int) < 1:=by omega
 have d4:((kd:Int) == 0)=false:=by simp;omega
 have d5:¬ (kd:Int) > 127:=by omega
 have d6:¬ (n:Int) > 60:=by omega
 clear h1 h2 h3;go_in;go_wp2;go_returns;exact ⟨rfl,rfl⟩
structure HOK (T c:Nat->Nat)(L:Nat)(H:HAd)(p:Nat->Plc)(ch:Nat->Chk):Prop where
 rep:HRep T c H.l0 H.n ch
 line:∀ j,j < H.n->(p j).line=H.l0+32 * j
 cl:∀ j,j < H.n->(p j).cl=(ch j).cl/\(p j).ow=(ch j).ow
 fit:H.l0+32 * H.n<=L
theorem ZAy {k:Chk}(hk:k.Head){line j kind:Nat}(hg:(k.blk j).gen < 65536)(hj:j < perN k)(hl:line<=4096)(hkd:kind < 256):ZP (k.ptr line j kind)=k.pay line j/\UF (k.ptr line j kind)=(k.blk j).gen/\Z9 (k.ptr line j kind)=kind:=by
 have:=YI hk hj;exact Jo (by unfold Chk.pay;omega) (by unfold Chk.pay;omega) hg hkd
theorem ZHv {k:Chk}(hk:k.Head){line j kind:Nat}(hg:(k.blk j).gen < 65536)(hj:j < perN k)(hl:line<=4096)(hkd:kind<=127):k.ptr line j kind < 72057594037927936:=by
 have:=YI hk hj;unfold Chk.ptr Yr Chk.pay;have:(8 * line+hdN k j+1) * 8 / 8 < 4294967296:=by omega
 omega
theorem Vk (h:Ar w A F L T c)(hp:HpW w A H lk)(hr:QJ w H.rb ex res){k:Chk}{line:Nat}(hl:line+32<=L)(hR:CRep T c (8 * line) k)(hk:0<=k.cl){j:Nat}(hj:j < perN k)(hf:k.free 0=(j:Int))(hu:k.used j=false){kind:Nat}(hkd:1<=kind/\kind<=127)(hn:res (k.pay line j)=none):
 Calls prog 145 #[.pointer (some ⟨H.hb,0,none⟩),.int .i64 line,.int .u8 kind] w fun e w'=>e=.returned (.tuple #[.int .u64 (k.ptr line j kind),.int .i64 0])/\Bl w w':=by
 have hL:=h.lines;have hgd:=hR.good hk j hj;have HOP:=zh (fun w1 (hb:Bl w w1)=>Y3 (h.below hb) hp.t hl hR hk);have HFR:=zh (fun w1 (hb:Bl w w1)=>hf▸V7 (h.below hb) hp.t hl hR hk 0 (by omega));have HPT:=zh (fun w1 (hb:Bl w w1)=>Xk (h.below hb) hp.t hl hR hk hj hu hkd);have HER:=zh (fun w1 hb=>Zs h hp.t w1 hb);have hpp:=(ZAy hR.head (line:=line) (kind:=kind) hgd.gen.2 hj (by omega) (by omega)).1;have hpl:=ZHv hR.head (line:=line) (kind:=kind) hgd.gen.2 hj (by omega) (by omega);have hpo:=VL (k.ptr line j kind);have HOF:=zh (fun w1=>YJ (w:=w1) (p:=k.ptr line j kind) (by omega));rw [hpp] at HOF hpo;have HLK:=zh (fun (w1:World) (hb:Bl w w1)=>(hr.kept (hb.block _ hr.lt)).look2 underlying31 underlying154 (ZKX _) (n:=k.pay line j) (wfU (by omega)));rw [hn] at HLK;unfold cPtr at HLK;simp only at HLK;obtain ⟨P,hP⟩:=xE (k.ptr line j kind);rw [<-hP] at HPT HOF ⊢;obtain ⟨O,hO⟩:=xE (k.pay line j);rw [<-hO] at HOF HLK;have HH:=zh hp;have HB:=zh (Below.refl w.heap.size w);obtain ⟨ti,hti⟩:=xE H.t;rw [<-hti] at HER HOP HFR HPT;have HTI:=zh hti;obtain ⟨c0,_⟩:=Z5 hp.hp;rw [<-HTI.o] at c0;have d1:(j:Int)>=0:=by omega
 unfold chV Xv ptr at *;clear h hp hr hl hR hk hj hf hu hkd hn hL hgd hpp hpl hpo hP hO hti;go_in;go_wp2_with fail;refine (HOP.o _ HB.o).mono ?_;rintro e x1 ⟨rfl,hb⟩;replace HB:=zh (ZA (o:=.cells #[.iface 116 (.pointer (some ⟨A.t ti,0,none⟩)),.int .i64 line,.int .i64 k.cl,.int .i64 k.ow,.int .u16 k.gen] 211) (HB.o.trans (hb.mono HB.o.size)));have HC:=zh (CBox.new (w:=x1) (A:=A) (i:=ti) (line:=line) (k:=k));clear hb c0;obtain ⟨b0,b1,b2,b3,b4⟩:=id HC.o;go_wp2_with fail;refine (HFR.o _ HB.o).mono ?_;rintro e x2 ⟨rfl,hb⟩;replace HB:=zh (HB.o.trans (hb.mono HB.o.size));replace HC:=zh (HC.o.below hb);clear hb b0 b1 b2 b3 b4;go_wp2_with fail
 go_loopw [10] (fun v wr=>v=.int .i64 j/\wr=x2) (fun _ _=>0)
 case atStart=>exact ⟨rfl,rfl⟩
 case round=>
  obtain ⟨rfl,hwr⟩:=hrel;subst hwr;obtain ⟨b0,b1,b2,b3,b4⟩:=id HC.o;go_wp2_with fail;refine (HPT.o _ HB.o).mono ?_;rintro e x3 ⟨rfl,hb⟩;replace HB:=zh (HB.o.trans (hb.mono HB.o.size));clear hb b0 b1 b2 b3 b4;obtain ⟨c0,_,_,_,c4,_⟩:=Z5 (HH.o.below HB.o).hp;rw [<-HTI.o] at c0;go_wp2_with fail;refine (HER.o _ HB.o).mono ?_;rintro e w' ⟨rfl,rfl⟩;go_wp2_with fail;have k4:=fun q:BW x3=>ZW c4 q
  have HOF4:=zh (fun q:BW x3=>Y2 (HOF.o q.v));have hlk:=fun q:BW x3=>HLK.o q.v (HB.o.trans (q.h.mono HB.o.size))
  refine Zv (by kernel_rfl) (by kernel_rfl) ?_
  repeat (quiet_step (first
   |(go_at_call 53;exact HOF4.o _)))
  refine wpQuiet_nil ?_;rintro _ ⟨q,rfl⟩;have HB5:=zh (HB.o.trans (q.h.mono HB.o.size));clear k4 hlk c0 c4;go_wp2;go_returns;exact ⟨rfl,HB5.o⟩
theorem Uq (h:Ar w A F L T c)(hp:HpW w A H lk){k:Chk}{line:Nat}(hl:line+32<=L)(hR:CRep T c (8 * line) k)(hk:0<=k.cl)(hf:k.free 0=-1)(kind:Nat):
 Calls prog 145 #[.pointer (some ⟨H.hb,0,none⟩),.int .i64 line,.int .u8 kind] w fun e w'=>e=.returned (.tuple #[.int .u64 0,.int .i64 5])/\Bl w w':=by
 have HOP:=zh (fun w1 (hb:Bl w w1)=>Y3 (h.below hb) hp.t hl hR hk);have HFR:=zh (fun w1 (hb:Bl w w1)=>hf▸V7 (h.below hb) hp.t hl hR hk 0 (by omega));have HER:=zh (fun w1 hb=>Zs h hp.t w1 hb);have HH:=zh hp;have HB:=zh (Below.refl w.heap.size w);obtain ⟨ti,hti⟩:=xE H.t;rw [<-hti] at HER HOP HFR;have HTI:=zh hti;obtain ⟨c0,_⟩:=Z5 hp.hp;rw [<-HTI.o] at c0;unfold chV Xv ptr at *;clear h hp hl hR hk hf hti;go_in;go_wp2_with fail;refine (HOP.o _ HB.o).mono ?_;rintro e x1 ⟨rfl,hb⟩;replace HB:=zh (ZA (o:=.cells #[.iface 116 (.pointer (some ⟨A.t ti,0,none⟩)),.int .i64 line,.int .i64 k.cl,.int .i64 k.ow,.int .u16 k.gen] 211) (HB.o.trans (hb.mono HB.o.size)));have HC:=zh (CBox.new (w:=x1) (A:=A) (i:=ti) (line:=line) (k:=k));clear hb c0;obtain ⟨b0,b1,b2,b3,b4⟩:=id HC.o;go_wp2_with fail;refine (HFR.o _ HB.o).mono ?_;rintro e x2 ⟨rfl,hb⟩;replace HB:=zh (HB.o.trans (hb.mono HB.o.size));clear hb b0 b1 b2 b3 b4;obtain ⟨c0,_⟩:=Z5 (HH.o.below HB.o).hp;rw [<-HTI.o] at c0;go_wp2_with fail
 go_loopw [10] (fun v wr=>v=.int .i64 (-1)/\wr=x2) (fun _ _=>0)
 case atStart=>exact ⟨rfl,rfl⟩
 case round=>
  obtain ⟨rfl,hwr⟩:=hrel;subst hwr;go_wp2_with fail;refine (HER.o _ HB.o).mono ?_;rintro e w' ⟨rfl,rfl⟩;go_wp2;go_returns;exact ⟨rfl,HB.o⟩
theorem Qp {w:World}{B:Nat}{v:Value}{l:List Nat}(h:w.ownsRow B 3 1 v l.length (l.map fun (n:Nat)=>Value.int .i64 (n:Int))):Nats w v l:=by
 rcases h.2 with ⟨e,e0⟩|⟨g,cap,cur,e,_⟩
 ·exact .inl ⟨e,List.length_eq_zero_iff.1 e0⟩
 ·refine .inr ⟨g,0,cap,e,fun j u hj=>?_⟩
  have:=h.cells (g:=g) (by rw [e];rfl) j u hj;rw [Addr.add_lit] at this;exact this
def Zx (p:Nat->Plc)(th cl:Int)(m:Nat):List Nat:=(List.range m).filter fun j=>decide ((p j).ow=th/\(p j).cl=cl)
theorem ZDA {p:Nat->Plc}{th cl:Int}{m:Nat}(h:(p m).ow=th/\(p m).cl=cl):Zx p th cl (m+1)=Zx p th cl m++[m]:=by
 unfold Zx;rw [ZLy,ZL5];simp [h]
theorem ZBu {p:Nat->Plc}{th cl:Int}{m:Nat}(h:¬ ((p m).ow=th/\(p m).cl=cl)):Zx p th cl (m+1)=Zx p th cl m:=by
 unfold Zx;rw [ZLy,ZL5,List.filter_cons_of_neg (by simpa using h)];simp
theorem ZBt (p:Nat->Plc)(th cl:Int)(m:Nat):(Zx p th cl m).length<=m:=by
 have:=ZL0 (fun j=>decide ((p j).ow=th/\(p j).cl=cl)) (List.range m);simpa [Zx] using this
theorem ZIB {p:Nat->Plc}{th cl:Int}{m j:Nat}:j∈Zx p th cl m↔j < m/\(p j).ow=th/\(p j).cl=cl:=by
 unfold Zx;simp
def YE (p:Nat->Plc)(l:List Nat):List Nat:=l.map fun j=>(p j).line
def CkR (W:World)(p:Nat->Plc)(th cl:Int)(n:Nat)(v i:Value)(wr:World):Prop:=
 ∃ m:Nat,m<=n/\i=.int .i64 (m:Nat)/\wr.ownsRow W.heap.size 3 1 v (Zx p th cl m).length ((YE p (Zx p th cl m)).map fun (n:Nat)=>Value.int .i64 (n:Int))/\Bl W wr
theorem Jv {sb pb t n cap:Nat}{p:Nat->Plc}(h:SetW w sb pb t A n cap p){th cl:Int}(h1:0<=th)(h2:0<=cl):
 Calls prog 214 #[.pointer (some ⟨sb,0,none⟩),.int .i64 th,.int .i64 cl] w fun e w'=>∃ v,e=.returned v/\Nats w' v (YE p (Zx p th cl n))/\Bl w w':=by
 obtain ⟨c0,c1⟩:=h.cells;have hs:=h.size;have HS:=zh h;have d1:¬ th < 0:=by omega
 have d2:¬ cl < 0:=by omega
 clear h;go_in;go_wp2_with fail
 go_loopw [7,25] (fun v i wr=>CkR w p th cl n v i wr) (fun _ i _=>n - (intOf i).toNat)
 case atStart=>exact ⟨0,by omega,rfl,ZLn _ _ _ _,bR⟩
 case round=>
  obtain ⟨m,hm,rfl,hown,hbel⟩:=hrel;have HB:=zh hbel;have HO:=zh hown;clear c0 c1;obtain ⟨c0,c1⟩:=(HS.o.below hbel).cells;obtain ⟨ra,rc,hv⟩:=ZN hown;subst hv;clear hbel hown
  by_cases hlt:m < n
  ·have d0:(m:Int) < n:=by omega
   obtain ⟨a0,a1,a2,a3⟩:=(HS.o.below HB.o).at hlt;have hle:=ZBt p th cl m
   by_cases e1:(p m).ow=th
   ·have f1:((p m).ow == th)=true:=by simp [e1]
    by_cases e2:(p m).cl=cl
    ·have f2:((p m).cl == cl)=true:=by simp [e2]
     have HSE:=zh (ZDA (p:=p) (th:=th) (cl:=cl) (m:=m) ⟨e1,e2⟩);obtain ⟨K,hK⟩:=xE ((Zx p th cl m).length);rw [<-hK] at HO hle ⊢;have HK:=zh hK;clear hK e1 e2;go_wp2_with (at_builtin;refine ZS ZBV rfl _ _ rfl (HO.o.alloc _) rfl rfl ?c1 rfl ?c2 ?c3 ?c4 ?c5 ?_)
     case c1=>simp
     case c2=>first|rfl|simp [Value.oneCell']
     case c3=>unfold maxLen;omega
     case c4=>omega
     case c5=>have:=HB.o.size;simp;omega
     intro g4 cap4 w5 hop5 hgr5 hg5
     have G:=zh (show CkR w p th cl n (.slice (some ⟨g4,0,none⟩) (K+1) cap4) (.int .i64 ((m+1:Nat):Int)) w5 from ⟨m+1,by omega,rfl,by
      rw [HSE.o];unfold YE;rw [ZLc,ZLs,ZLs,<-HK.o];exact hop5,ZL (Zr HB.o HB.o.size) hgr5 (by have:=HB.o.size;simp;omega) (fun b hb=>(HO.o.lt b hb).1)⟩)
     clear hop5 hgr5 hg5;go_wp2_with fail;go_roundw
     case rel=>simpa using G.o
     case measure=>simp [intOf];omega
    ·have f2:((p m).cl == cl)=false:=by simpa using e2
     have HSE:=zh (ZBu (p:=p) (th:=th) (cl:=cl) (m:=m) (fun q=>e2 q.2));clear e1 e2;go_wp2_with fail;go_roundw
     case rel=>exact ⟨m+1,by omega,by go_num,by rw [HSE.o];exact HO.o.alloc _,Zr HB.o HB.o.size⟩
     case measure=>simp [intOf];omega
   ·have f1:((p m).ow == th)=false:=by simpa using e1
    have HSE:=zh (ZBu (p:=p) (th:=th) (cl:=cl) (m:=m) (fun q=>e1 q.1));clear e1;go_wp2_with fail;go_roundw
    case rel=>exact ⟨m+1,by omega,by go_num,by rw [HSE.o];exact HO.o.alloc _,Zr HB.o HB.o.size⟩
    case measure=>simp [intOf];omega
  ·obtain rfl:m=n:=by omega
   have d0:¬ ((m:Int) < m):=by omega
   go_wp2;go_returns;exact ⟨_,rfl,Qp (by unfold YE;rw [ZLj];exact HO.o),HB.o⟩
variable {ch:Nat->Chk}
theorem HOK.sel (ho:HOK T c L H p ch){th cl:Nat}{m:Nat}(hm:m < (Zx p th cl H.n).length):∃ j,j=(Zx p th cl H.n)[m]/\j < H.n/\(YE p (Zx p th cl H.n))[m]'(by unfold YE;simpa using hm)=H.l0+32 * j/\(ch j).cl=cl/\(ch j).ow=th:=by
 refine ⟨_,rfl,?_⟩;have hj:=ZIB.1 (ZLl hm);refine ⟨hj.1,?_,by rw [<-(ho.cl _ hj.1).1];exact hj.2.2,by rw [<-(ho.cl _ hj.1).2];exact hj.2.1⟩;unfold YE;rw [List.getElem_map];exact ho.line _ hj.1
theorem ZCd (l:Int)(w:World):(Instr.lookup 156 (.map none) (.int .i64 l) false).run prog w=.ok (.bool false) w:=by kernel_rfl
def ZGk (p:Nat->Plc)(ch:Nat->Chk)(n th cl m:Nat):Prop:=∀ i (hi:i < (Zx p th cl n).length),i < m->(ch (Zx p th cl n)[i]).free 0=-1
theorem Qh (h:HW w A F L T c x H lk p ex res held)(ho:HOK T c L H p ch){th cl:Nat}{m:Nat}(hm:m < (Zx p th cl H.n).length)(hf:ZGk p ch H.n th cl m){kind P:Nat}(hwi:∀ w1,Bl w w1->Calls prog 145 #[.pointer (some ⟨H.hb,0,none⟩),.int .i64 ((H.l0+32 * (Zx p th cl H.n)[m]:Nat):Int),.int .u8 kind] w1 fun e w'=>e=.returned (.tuple #[.int .u64 P,.int .i64 0])/\Bl w1 w'):
 Calls prog 143 #[.pointer (some ⟨H.hb,0,none⟩),.int .i64 th,.int .i64 cl,.int .u8 kind] w fun e w'=>e=.returned (.tuple #[.int .u64 P,.int .i64 ((H.l0+32 * (Zx p th cl H.n)[m]:Nat):Int),.int .i64 0])/\Bl w w':=by
 have HCK:=zh (Jv h.set (th:=th) (cl:=cl) (by omega) (by omega));have hfit:∀ j,j < H.n->H.l0+32 * j+32<=L:=fun j hj=>by have:=ho.fit;omega
 have HWF:=zh (fun (i:Nat) (hi:i < (Zx p th cl H.n).length) (hi2:i < m) (w1:World) (hb:Bl w w1)=>show Calls prog 145 #[.pointer (some ⟨H.hb,0,none⟩),.int .i64 ((YE p (Zx p th cl H.n))[i]'(by unfold YE;simpa using hi):Nat),.int .u8 kind] w1 (fun e w'=>e=.returned (.tuple #[.int .u64 0,.int .i64 5])/\Bl w1 w') from by
  obtain ⟨j,hj,h1,h2,h3,h4⟩:=ho.sel hi;rw [h2];exact Uq (h.below hb).ar (h.hp.below hb) (hfit j h1) (ho.rep j h1) (by rw [h3];omega) (by rw [hj];exact hf i hi hi2) kind)
 obtain ⟨LM,hLM⟩:=xE (H.l0+32 * (Zx p th cl H.n)[m]);have HWY2:=zh (fun (w1:World) (hb2:Bl w w1)=>show Calls prog 145 #[.pointer (some ⟨H.hb,0,none⟩),.int .i64 LM,.int .u8 kind] w1 (fun e w'=>e=.returned (.tuple #[.int .u64 P,.int .i64 0])/\Bl w1 w') from by
  rw [hLM];exact hwi w1 hb2)
 obtain ⟨jm,hjm,h1,h2,h3,h4⟩:=ho.sel hm;have hlm:(YE p (Zx p th cl H.n)).length=(Zx p th cl H.n).length:=by unfold YE;simp
 have hle:=ZBt p th cl H.n;have hsz:=h.set.size;have hmlt:m < (YE p (Zx p th cl H.n)).length:=by rw [hlm];exact hm
 have HLM:=zh hlm;have HL2:=zh (show (YE p (Zx p th cl H.n))[m]'hmlt=H.l0+32 * (Zx p th cl H.n)[m] by rw [h2,hjm]);have HMLT:=zh hmlt;have HM:=zh hm;rw [<-hLM] at HL2 ⊢;have HSL:=zh h.set;have HH:=zh h.hp;obtain ⟨N,hN⟩:=xE ((YE p (Zx p th cl H.n)).length);have hN200:N<=200:=by omega
 have HN:=zh hN;have hmN:m < N:=by omega
 obtain ⟨c0,c1,c2,c3,c4,c5,c6,c7,_⟩:=Z5 h.hp.hp;clear h ho hf hwi hfit hjm h1 h2 h3 h4 hlm hle hsz hLM hN;go_in;go_wp2_with fail;refine HCK.o.mono ?_;rintro e x1 ⟨v,rfl,hnats,hb⟩;obtain ⟨va,vc,rfl⟩:=hnats.len;rw [<-HN.o];have HB:=zh hb;have HNT:=zh hnats;clear hnats hb c0 c1 c2 c3 c4 c5 c6 c7;go_wp2_with fail
 go_loopw [23] (fun i wr=>∃ n:Nat,n<=m/\i=.int .i64 (n:Nat)/\Bl x1 wr) (fun i _=>N - (intOf i).toNat)
 case atStart=>exact ⟨0,by omega,rfl,bR⟩
 case round=>
  obtain ⟨n,hn,rfl,hb⟩:=hrel;have HB2:=zh (HB.o.trans (hb.mono HB.o.size));have HX:=zh hb;have hnN:n < N:=by omega
  have d0:(n:Int) < N:=by omega
  obtain ⟨b2,o2,r2,g2,k2⟩:=(HNT.o.below hb).at (n:=n) (by rw [<-HN.o];exact hnN)
  rw [<-HN.o] at g2;cases g2;obtain ⟨c0,c1,c2,c3,c4,c5,c6,c7,_⟩:=Z5 (HH.o.below HB2.o).hp;have hnl:=ZCd;clear hb
  by_cases e:n=m
  ·subst e
   rw [HL2.o] at k2;go_wp2_with fail;refine (HWY2.o _ HB2.o).mono ?_;rintro e x3 ⟨rfl,hb⟩;have HB3:=zh (HB2.o.trans (hb.mono HB2.o.size));clear hb;go_wp2;go_returns;exact ⟨rfl,HB3.o⟩
  ·have HW1:=zh (HWF.o n (by have:=HLM.o;have:=HN.o;omega) (by omega))
   obtain ⟨l,hl⟩:=xE ((YE p (Zx p th cl H.n))[n]'(by rw [<-HN.o];exact hnN));rw [<-hl] at k2 HW1;clear hl;go_wp2_with fail;refine (HW1.o _ HB2.o).mono ?_;rintro e x3 ⟨rfl,hb⟩;have HX3:=zh (HX.o.trans (hb.mono HX.o.size));clear hb c0 c1 c2 c3 c4 c5 c6 c7 k2;go_wp2_with fail;go_roundw
   case rel=>exact ⟨n+1,by omega,by go_num,HX3.o⟩
   case measure=>simp [intOf];omega
theorem ZCT (h:HW w A F L T c x H lk p ex res held)(ho:HOK T c L H p ch){th cl:Nat}{m:Nat}(hm:m < (Zx p th cl H.n).length)(hf:ZGk p ch H.n th cl m){b:Nat}(hb:b < perN (ch (Zx p th cl H.n)[m]))(hfb:(ch (Zx p th cl H.n)[m]).free 0=(b:Int))(hu:(ch (Zx p th cl H.n)[m]).used b=false){kind:Nat}(hkd:1<=kind/\kind<=127)(hn:res ((ch (Zx p th cl H.n)[m]).pay (H.l0+32 * (Zx p th cl H.n)[m]) b)=none):
 Calls prog 143 #[.pointer (some ⟨H.hb,0,none⟩),.int .i64 th,.int .i64 cl,.int .u8 kind] w fun e w'=>e=.returned (.tuple #[.int .u64 ((ch (Zx p th cl H.n)[m]).ptr (H.l0+32 * (Zx p th cl H.n)[m]) b kind),.int .i64 ((H.l0+32 * (Zx p th cl H.n)[m]:Nat):Int),.int .i64 0])/\Bl w w':=by
 refine Qh h ho hm hf (fun w1 hb2=>?_);obtain ⟨j,hj,h1,h2,h3,h4⟩:=ho.sel hm;subst hj;exact Vk (h.below hb2).ar (h.hp.below hb2) (h.below hb2).rm (by have:=ho.fit;omega) (ho.rep _ h1) (by rw [h3];omega) hb hfb hu hkd hn
theorem Up (h:HW w A F L T c x H lk p ex res held)(ho:HOK T c L H p ch){th cl:Nat}(hf:ZGk p ch H.n th cl (Zx p th cl H.n).length)(kind:Nat):
 Calls prog 143 #[.pointer (some ⟨H.hb,0,none⟩),.int .i64 th,.int .i64 cl,.int .u8 kind] w fun e w'=>e=.returned (.tuple #[.int .u64 0,.int .i64 0,.int .i64 5])/\Bl w w':=by
 have HCK:=zh (Jv h.set (th:=th) (cl:=cl) (by omega) (by omega));have hfit:∀ j,j < H.n->H.l0+32 * j+32<=L:=fun j hj=>by have:=ho.fit;omega
 have HWF:=zh (fun (i:Nat) (hi:i < (Zx p th cl H.n).length) (w1:World) (hb:Bl w w1)=>show Calls prog 145 #[.pointer (some ⟨H.hb,0,none⟩),.int .i64 ((YE p (Zx p th cl H.n))[i]'(by unfold YE;simpa using hi):Nat),.int .u8 kind] w1 (fun e w'=>e=.returned (.tuple #[.int .u64 0,.int .i64 5])/\Bl w1 w') from by
  obtain ⟨j,hj,h1,h2,h3,h4⟩:=ho.sel hi;rw [h2];exact Uq (h.below hb).ar (h.hp.below hb) (hfit j h1) (ho.rep j h1) (by rw [h3];omega) (by rw [hj];exact hf i hi hi) kind)
 have hlm:(YE p (Zx p th cl H.n)).length=(Zx p th cl H.n).length:=by unfold YE;simp
 have hle:=ZBt p th cl H.n;have hsz:=h.set.size;have HLM:=zh hlm;have HH:=zh h.hp;obtain ⟨N,hN⟩:=xE ((YE p (Zx p th cl H.n)).length);have hN200:N<=200:=by omega
 have HN:=zh hN;obtain ⟨c0,c1,c2,c3,c4,c5,c6,c7,_⟩:=Z5 h.hp.hp;clear h ho hf hfit hlm hle hsz hN;go_in;go_wp2_with fail;refine HCK.o.mono ?_;rintro e x1 ⟨v,rfl,hnats,hb⟩;obtain ⟨va,vc,rfl⟩:=hnats.len;rw [<-HN.o];have HB:=zh hb;have HNT:=zh hnats;clear hnats hb c0 c1 c2 c3 c4 c5 c6 c7;go_wp2_with fail
 go_loopw [23] (fun i wr=>∃ n:Nat,n<=N/\i=.int .i64 (n:Nat)/\Bl x1 wr) (fun i _=>N - (intOf i).toNat)
 case atStart=>exact ⟨0,by omega,rfl,bR⟩
 case round=>
  obtain ⟨n,hn,rfl,hb⟩:=hrel;have HB2:=zh (HB.o.trans (hb.mono HB.o.size));have HX:=zh hb
  by_cases hnN:n < N
  ·have d0:(n:Int) < N:=by omega
   obtain ⟨b2,o2,r2,g2,k2⟩:=(HNT.o.below hb).at (n:=n) (by rw [<-HN.o];exact hnN)
   rw [<-HN.o] at g2;cases g2;obtain ⟨c0,c1,c2,c3,c4,c5,c6,c7,_⟩:=Z5 (HH.o.below HB2.o).hp;have hnl:=ZCd;clear hb;have HW1:=zh (HWF.o n (by have:=HLM.o;have:=HN.o;omega));obtain ⟨l,hl⟩:=xE ((YE p (Zx p th cl H.n))[n]'(by rw [<-HN.o];exact hnN));rw [<-hl] at k2 HW1;clear hl;go_wp2_with fail;refine (HW1.o _ HB2.o).mono ?_;rintro e x3 ⟨rfl,hb⟩;have HX3:=zh (HX.o.trans (hb.mono HX.o.size));clear hb c0 c1 c2 c3 c4 c5 c6 c7 k2;go_wp2_with fail;go_roundw
   case rel=>exact ⟨n+1,by omega,by go_num,HX3.o⟩
   case measure=>simp [intOf];omega
  ·obtain rfl:n=N:=by omega
   have d0:¬ ((n:Int) < n):=by omega
   clear hb;go_wp2;go_returns;exact ⟨rfl,HB2.o⟩
variable {c1:Nat->Nat}{x1:Nat}{p1:Nat->Plc}
theorem Only.grown {G:Nat->Prop}{a w w':World}(h:Only G a w){b:Nat}(hg:w.grownBy w' (some b))(hb:G b):Only G a w':=
 ⟨hg.os.trans h.os,hg.tape.trans h.tape,hg.output.trans h.output,ZLi h.size hg.size,fun k hk hn=>(hg.block k (ZLq hk h.size) (fun e=>hn (by rw [ZLd e];exact hb))).trans (h.block k hk hn)⟩
theorem wfI {n:Nat}(h:n<=1000000):(Lit.int .i64 (n:Int)).wf=true:=by
 simp [Lit.wf,IntKind.min,IntKind.max,IntKind.bits,IntKind.signed];omega
theorem HW.ne (h:HW w A F L T c x H lk p ex res held):(H.rb≠H.sb/\H.rb≠H.pb/\H.rb≠H.hb)/\(H.vb≠H.sb/\H.vb≠H.pb/\H.vb≠H.hb):=by
 obtain ⟨D,⟨es,cl,h1,_⟩,_⟩:=h.rm;obtain ⟨D',⟨es',cl',h1',_⟩,_⟩:=h.vm;have h2:=h.hp.hp;have h3:=h.set.set;obtain ⟨cc,h4,_⟩:=h.set.row;refine ⟨⟨fun e=>?_,fun e=>?_,fun e=>?_⟩,⟨fun e=>?_,fun e=>?_,fun e=>?_⟩⟩
 ·rw [<-e,h1] at h3;simp at h3
 ·rw [<-e,h1] at h4;simp at h4
 ·rw [<-e,h1] at h2;simp at h2
 ·rw [<-e,h1'] at h3;simp at h3
 ·rw [<-e,h1'] at h4;simp at h4
 ·rw [<-e,h1'] at h2;simp at h2
theorem HW.keep8 (h:HW w A F L T c x H lk p ex res held){b:Nat}{w8:World}(ho:Only (fun k=>k=b) w w8)(hb:b=H.rb\/b=H.vb):HpW w8 A H lk/\SetW w8 H.sb H.pb H.t A H.n H.cap p:=by
 obtain ⟨⟨n1,n2,n3⟩,n4,n5,n6⟩:=h.ne;refine ⟨h.hp.agree (ho.block _ (heap_lt h.hp.hp) fun e=>?_),h.set.agree (ho.block _ (heap_lt h.set.set) fun e=>?_) (ho.block _ h.set.row.lt fun e=>?_)⟩ <;> (rcases hb with rfl|rfl <;> simp_all)
theorem ZH6 (h:HW w A F L T c x H lk p ex res held){w8 w9:World}{res' held':Nat->Option Nat}(ho8:Only (fun k=>k=H.rb) w w8)(hr8:QJ w8 H.rb (ex+1) res')(hg9:w8.grownBy w9 (some H.vb))(hv9:ZB1 w9 H.vb (ex+1) held'){j:Nat}(hj:j < H.n)(b:Bool):
 HW (w9.setCell ⟨H.pb,j * 4+3,none⟩ (.bool b)) A F L T c x H lk (Xo p j ⟨(p j).line,(p j).cl,(p j).ow,b⟩) (ex+1) res' held'/\HMv F F H w (w9.setCell ⟨H.pb,j * 4+3,none⟩ (.bool b)):=by
 obtain ⟨⟨n1,n2,n3⟩,n4,n5,n6⟩:=h.ne;obtain ⟨hp8,hs8⟩:=h.keep8 ho8 (.inl rfl);have hs9:SetW w9 H.sb H.pb H.t A H.n H.cap p:=hs8.agree (hg9.block _ (heap_lt hs8.set) (fun e=>n4 (ZLd e).symm)) (hg9.block _ hs8.row.lt (fun e=>n5 (ZLd e).symm));have hr9:=hr8.kept (hg9.block _ hr8.lt (fun e=>h.rv (ZLd e)));have ho9:Only H.own w w9:=Only.grown (ho8.mono fun k e=>.inr (.inl e)) hg9 (.inr (.inr rfl));refine h.owns (ho9.set (.inl rfl) _) (hs9.hold hj b) (hr9.kept (ZG n2)) (hv9.kept (ZG n5))
theorem Qe (h:HW w A F L T c x H lk p ex res held){j:Nat}(hj:j < H.n)(hd:∀ m,m < j->0<=(p m).cl)(hc:(p j).cl < 0){k:Chk}(hl:(p j).line+32<=L)(hR:CRep T c (8 * (p j).line) k){cl th:Nat}(hcl:cl<=4)(hth:th < 8)(hx:x+200<=1000000):
 Calls prog 144 #[.pointer (some ⟨H.hb,0,none⟩),.int .i64 th,.int .i64 cl] w fun e w'=>e=.returned (.tuple #[.int .i64 (p j).line,.int .i64 0])/\ClP w A F L T (wrs c (YP T (p j).line (Chk.made cl th k.gen))) (x+200) H lk (Xo p j ⟨(p j).line,cl,th,(p j).held⟩) ex res held w':=by
 have HCL:=zh (ZEN h hj hd hc hl hR hcl hth hx);obtain ⟨c0,c1,c2,c3,c4,c5,c6,c7,_⟩:=Z5 h.hp.hp;clear h hd hl hR;go_in;go_wp2_with fail;refine HCL.o.mono ?_;rintro e w1 ⟨rfl,hcl⟩;have HC:=zh hcl;clear hcl c0 c1 c2 c3 c4 c5 c6 c7;go_wp2;go_returns;exact ⟨rfl,HC.o⟩
def ZEf (w:World)(A:DAd)(F:Nat->Option ZM)(L:Nat)(T c:Nat->Nat)(x:Nat)(H:HAd)(lk:Bool)(p:Nat->Plc)(ex:Nat)(res held:Nat->Option Nat)(th cl kind:Nat)(c1:Nat->Nat)(x1:Nat)(p1:Nat->Plc)(P line:Nat):Prop:=
 (c1=c/\x1=x/\p1=p/\∀ w1,Bl w w1->Calls prog 143 #[.pointer (some ⟨H.hb,0,none⟩),.int .i64 th,.int .i64 cl,.int .u8 kind] w1 fun e w'=>e=.returned (.tuple #[.int .u64 P,.int .i64 line,.int .i64 0])/\Bl w1 w')\/
 ((∀ w1,Bl w w1->Calls prog 143 #[.pointer (some ⟨H.hb,0,none⟩),.int .i64 th,.int .i64 cl,.int .u8 kind] w1 fun e w'=>e=.returned (.tuple #[.int .u64 0,.int .i64 0,.int .i64 5])/\Bl w1 w')/\
  (∀ w1,Bl w w1->Calls prog 144 #[.pointer (some ⟨H.hb,0,none⟩),.int .i64 th,.int .i64 cl] w1 fun e w'=>e=.returned (.tuple #[.int .i64 line,.int .i64 0])/\ClP w1 A F L T c1 x1 H lk p1 ex res held w')/\
  (∀ F1 w1,HW w1 A F1 L T c1 x1 H lk p1 ex res held->Calls prog 145 #[.pointer (some ⟨H.hb,0,none⟩),.int .i64 line,.int .u8 kind] w1 fun e w'=>e=.returned (.tuple #[.int .u64 P,.int .i64 0])/\Bl w1 w'))
theorem VF (h:HW w A F L T c x H lk p ex res held) {th cl kind n words:Nat} (hth:th < 8) (hwd:1<=words/\words<=60) (hkd:1<=kind/\kind<=127) (hcs:cls words=((cl:Int),0)) (hcl:cl<=4) (hn:wds cl=(n:Int)) {P line:Nat} (hf:ZEf w A F L T c x H lk p ex res held th cl kind c1 x1 p1 P line)
 (hP:P < 72057594037927936)(hP0:P≠0)(h8:ZP P+8 * n<=64 * L)(hx1:x1+200<=1000000){j:Nat}(hj:j < H.n)(hd:∀ m,m < j->(p1 m).line≠(p1 j).line)(hc:0<=(p1 j).cl)(hline:(p1 j).line=line)(hex:ex+1<=1000000)(hh:(held line).getD 0<=1000000)(hl4:line<=4096):
 Calls prog 88 #[.pointer (some ⟨H.hb,0,none⟩),.int .i64 th,.int .i64 words,.int .u8 kind] w fun e w'=>e=.returned (.tuple #[.int .u64 P,.int .i64 0])/\ClP w A F L T (wrs c1 (Yh (ZP P) n)) (x1+200) H lk (Xo p1 j ⟨(p1 j).line,(p1 j).cl,(p1 j).ow,true⟩) (ex+1) (YN res (ZP P) P) (YN held line ((held line).getD 0+1)) w':=by
 have HAR:=zh (fun w1=>Vj (w:=w1) hth hwd hkd);have HER:=zh (fun w1 hb=>Zs h.ar h.hp.t w1 hb);have HCS:=zh (fun (w1:World) (hb:Bl w w1)=>hcs▸class_any (words:Int) w1 (h.aq.tab.below hb));obtain ⟨c0,k1,k2,k3,k4,k5,k6,k7,_⟩:=Z5 h.hp.hp;have HH:=zh h;have HB:=zh (Below.refl w.heap.size w);obtain ⟨ti,hti⟩:=xE H.t;rw [<-hti] at HER c0;have HTI:=zh hti;have HF:=zh hf;have HZ:=zh (fun (F1:Nat->Option ZM) (w1:World) (h1:HW w1 A F1 L T c1 x1 H lk p1 ex res held)=>ZFi h1 (q:=P) (by omega) hP0 hcl hn h8 hx1);have HOF:=zh (fun w1=>YJ (w:=w1) (p:=P) (by omega));have hpo:=VL P;obtain ⟨O,hO⟩:=xE (ZP P);rw [<-hO] at HZ HOF hpo ⊢;obtain ⟨g,hg⟩:=xE ((held line).getD 0);rw [<-hg] at hh ⊢;have HOU:=zh hpo;have HG:=zh hg;have HJ:=zh hj;have HD:=zh hd;have HC:=zh hc;have HLN:=zh hline;have HEX:=zh hex;clear h hth hwd hkd hcs hcl hn hf hP0 h8 hx1 hti hpo hO hg hj hd hc hline hex;go_in;go_wp2_with fail;refine (HAR.o _).mono ?_;rintro e w' ⟨rfl,rfl⟩;go_wp2_with fail;refine (HER.o _ HB.o).mono ?_;rintro e w' ⟨rfl,rfl⟩;go_wp2_with fail;refine (HCS.o _ HB.o).mono ?_;rintro e w' ⟨rfl,rfl⟩;go_wp2_with fail;rcases HF.o with ⟨rfl,rfl,rfl,hs⟩|⟨hs,hclm,hwi⟩
 ·refine (hs _ HB.o).mono ?_
  rintro e wa ⟨rfl,hb⟩;have HWc:=zh (HH.o.below hb);have HMc:=zh (HMv.of_below (F:=F) (H:=H) hb);obtain ⟨Fc,hFc⟩:=xE F;rw [<-hFc] at HWc;have HMc2:=zh (show HMv F Fc H w wa by rw [hFc];exact HMc.o);clear hb hs hFc HMc c0 k1 k2 k3 k4 k5 k6 k7;go_wp2_with fail;refine (HZ.o _ _ HWc.o).mono ?_;rintro e we ⟨rfl,Fe,hwe,hme⟩;have HWe:=zh hwe;have HMe:=zh (HMc2.o.trans hme);obtain ⟨q0,q1,q2,q3,q4,q5,q6,q7,_⟩:=Z5 hwe.hp.hp
  have HOFM:=zh (fun (W:World) (hb:Bl we W)=>show Calls prog 53 #[.int .u64 P] W (fun e w'=>e=.returned (.int .u64 O)/\W=w'/\∃ w8,(Instr.mapUpdate 154 (.map (some H.rb)) (.int .u64 O) (.int .u64 P)).run prog w'=.ok () w8/\Hd (QJ w8 H.rb (ex+1) (YN res O P)/\Only (fun k=>k=H.rb) we w8)) from (HOF.o W).mono (fun e w' ⟨h1,h2⟩=>⟨h1,h2,by
   subst h2;obtain ⟨w8,a1,a2,a3⟩:=(HWe.o.rm.kept (hb.block _ HWe.o.rm.lt)).put underlying31 underlying154 (by have:=HEX.o;unfold maxLen;omega) (n:=O) (wfU (by have:=HOU.o;omega)) P;exact ⟨w8,a1,zh ⟨a2,Only.grown (Only.of_below hb) a3 rfl⟩⟩⟩))
  have HKP:=zh (fun (w1:World) (hb:Bl we w1)=>(show w1.cell? ⟨H.hb,4,none⟩=some (.map (some H.rb)) from (hb.cell (ZLf _ _ q4)).trans q4));have HK8:=zh (fun (w1:World) (ho:Only (fun k=>k=H.rb) we w1)=>(show w1.cell? ⟨H.hb,4,none⟩=some (.map (some H.rb)) from (ZLo (ho.block _ (heap_lt HWe.o.hp.hp) (fun e=>HWe.o.ne.1.2.2 e.symm))).trans q4));have HR1:=zh (Below.refl we.heap.size we);clear hwe hme HZ HWc HMc2;go_upto_region 24 with fail
  go_region_held3 (fun w'=>w'.cell? ⟨H.hb,4,none⟩=some (.map (some H.rb)))
   (first|exact HK8.o _ hinf.o.2|exact HKP.o _ (by repeat (with_reducible first|assumption|exact HR1.o|apply ZA|apply ZB)))
   (first
     |(go_at_call 53;refine (HOFM.o _ (by repeat (with_reducible first|assumption|exact HR1.o|apply ZA|apply ZB))).mono ?_;rintro e V1 ⟨rfl,hww,w8,hput,hinf⟩;subst hww))
  obtain ⟨hrm,ho8⟩:=hinf.o;obtain ⟨hp8,hs8⟩:=HWe.o.keep8 ho8 (.inl rfl);have hv8:ZB1 w8 H.vb ex held:=HWe.o.vm.kept (ho8.block _ HWe.o.vm.lt (fun e=>HWe.o.rv e.symm));have hwfl:(Lit.int .i64 (line:Int)).wf=true:=wfI (by omega);have hlk:=hv8.look underlying3 underlying155 (ZIR _) hwfl;rw [<-HG.o] at hlk;obtain ⟨w9,hput2,hv9,hg9⟩:=hv8.put underlying3 underlying155 (by have:=HEX.o;unfold maxLen;omega) hwfl (g+1);unfold cInt at hlk hput2;simp only [Int.natCast_add,Int.natCast_one] at hlk hput2;have HRM:=zh hrm;have HO8:=zh ho8;have HV9:=zh hv9;have HG9:=zh hg9;have HS8:=zh hs8;have HP8:=zh hp8;clear hput hrm ho8 hp8 hs8 hv8 hwfl hv9 hg9 q0 q1 q2 q3 q4 q5 q6 q7;obtain ⟨q0,q1,q2,q3,q4,q5,q6,q7,_⟩:=Z5 HP8.o.hp;obtain ⟨_,_,_,r3,_,r5,_⟩:=Z5 (show w9.heap[H.hb]?=_ from (HG9.o.block _ (heap_lt HP8.o.hp) (fun e=>HWe.o.ne.2.2.2 (ZLd e).symm)).trans HP8.o.hp);have HHD:=zh (Je (show SetW w9 H.sb H.pb H.t A H.n H.cap p1 from HS8.o.agree (HG9.o.block _ (heap_lt HS8.o.set) (fun e=>HWe.o.ne.2.1 (ZLd e).symm)) (HG9.o.block _ HS8.o.row.lt (fun e=>HWe.o.ne.2.2.1 (ZLd e).symm))) HJ.o HD.o HC.o true);rw [HLN.o] at HHD;go_wp2_with fail;refine HHD.o.mono ?_;rintro e w' ⟨rfl,hww⟩;have G:=zh (ZH6 HWe.o HO8.o HRM.o HG9.o HV9.o HJ.o true);rw [<-hww] at G;clear hww;go_wp2;go_returns;exact ⟨rfl,Fe,G.o.1,HMe.o.trans G.o.2⟩
 ·refine (hs _ HB.o).mono ?_
  rintro e wb ⟨rfl,hb⟩;have HB2:=zh hb;clear hb hs c0 k1 k2 k3 k4 k5 k6 k7;go_wp2_with fail;refine (hclm _ HB2.o).mono ?_;rintro e wd ⟨rfl,Fc,hwd,hmv⟩;have HWd:=zh hwd;have HMd:=zh ((HMv.of_below (F:=F) (H:=H) HB2.o).trans hmv);clear hwd hmv hclm;go_wp2_with fail;refine (hwi _ _ HWd.o).mono ?_;rintro e wa ⟨rfl,hb⟩;have HWc:=zh (HWd.o.below hb);have HMc2:=zh (HMd.o.trans (HMv.of_below hb));clear hb hwi HWd HMd;go_wp2_with fail;refine (HZ.o _ _ HWc.o).mono ?_;rintro e we ⟨rfl,Fe,hwe,hme⟩;have HWe:=zh hwe;have HMe:=zh (HMc2.o.trans hme);obtain ⟨q0,q1,q2,q3,q4,q5,q6,q7,_⟩:=Z5 hwe.hp.hp
  have HOFM:=zh (fun (W:World) (hb:Bl we W)=>show Calls prog 53 #[.int .u64 P] W (fun e w'=>e=.returned (.int .u64 O)/\W=w'/\∃ w8,(Instr.mapUpdate 154 (.map (some H.rb)) (.int .u64 O) (.int .u64 P)).run prog w'=.ok () w8/\Hd (QJ w8 H.rb (ex+1) (YN res O P)/\Only (fun k=>k=H.rb) we w8)) from (HOF.o W).mono (fun e w' ⟨h1,h2⟩=>⟨h1,h2,by
   subst h2;obtain ⟨w8,a1,a2,a3⟩:=(HWe.o.rm.kept (hb.block _ HWe.o.rm.lt)).put underlying31 underlying154 (by have:=HEX.o;unfold maxLen;omega) (n:=O) (wfU (by have:=HOU.o;omega)) P;exact ⟨w8,a1,zh ⟨a2,Only.grown (Only.of_below hb) a3 rfl⟩⟩⟩))
  have HKP:=zh (fun (w1:World) (hb:Bl we w1)=>(show w1.cell? ⟨H.hb,4,none⟩=some (.map (some H.rb)) from (hb.cell (ZLf _ _ q4)).trans q4));have HK8:=zh (fun (w1:World) (ho:Only (fun k=>k=H.rb) we w1)=>(show w1.cell? ⟨H.hb,4,none⟩=some (.map (some H.rb)) from (ZLo (ho.block _ (heap_lt HWe.o.hp.hp) (fun e=>HWe.o.ne.1.2.2 e.symm))).trans q4));have HR1:=zh (Below.refl we.heap.size we);clear hwe hme HZ HWc HMc2;go_upto_region 24 with fail
  go_region_held3 (fun w'=>w'.cell? ⟨H.hb,4,none⟩=some (.map (some H.rb)))
   (first|exact HK8.o _ hinf.o.2|exact HKP.o _ (by repeat (with_reducible first|assumption|exact HR1.o|apply ZA|apply ZB)))
   (first
     |(go_at_call 53;refine (HOFM.o _ (by repeat (with_reducible first|assumption|exact HR1.o|apply ZA|apply ZB))).mono ?_;rintro e V1 ⟨rfl,hww,w8,hput,hinf⟩;subst hww))
  obtain ⟨hrm,ho8⟩:=hinf.o;obtain ⟨hp8,hs8⟩:=HWe.o.keep8 ho8 (.inl rfl);have hv8:ZB1 w8 H.vb ex held:=HWe.o.vm.kept (ho8.block _ HWe.o.vm.lt (fun e=>HWe.o.rv e.symm));have hwfl:(Lit.int .i64 (line:Int)).wf=true:=wfI (by omega);have hlk:=hv8.look underlying3 underlying155 (ZIR _) hwfl;rw [<-HG.o] at hlk;obtain ⟨w9,hput2,hv9,hg9⟩:=hv8.put underlying3 underlying155 (by have:=HEX.o;unfold maxLen;omega) hwfl (g+1);unfold cInt at hlk hput2;simp only [Int.natCast_add,Int.natCast_one] at hlk hput2;have HRM:=zh hrm;have HO8:=zh ho8;have HV9:=zh hv9;have HG9:=zh hg9;have HS8:=zh hs8;have HP8:=zh hp8;clear hput hrm ho8 hp8 hs8 hv8 hwfl hv9 hg9 q0 q1 q2 q3 q4 q5 q6 q7;obtain ⟨q0,q1,q2,q3,q4,q5,q6,q7,_⟩:=Z5 HP8.o.hp;obtain ⟨_,_,_,r3,_,r5,_⟩:=Z5 (show w9.heap[H.hb]?=_ from (HG9.o.block _ (heap_lt HP8.o.hp) (fun e=>HWe.o.ne.2.2.2 (ZLd e).symm)).trans HP8.o.hp);have HHD:=zh (Je (show SetW w9 H.sb H.pb H.t A H.n H.cap p1 from HS8.o.agree (HG9.o.block _ (heap_lt HS8.o.set) (fun e=>HWe.o.ne.2.1 (ZLd e).symm)) (HG9.o.block _ HS8.o.row.lt (fun e=>HWe.o.ne.2.2.1 (ZLd e).symm))) HJ.o HD.o HC.o true);rw [HLN.o] at HHD;go_wp2_with fail;refine HHD.o.mono ?_;rintro e w' ⟨rfl,hww⟩;have G:=zh (ZH6 HWe.o HO8.o HRM.o HG9.o HV9.o HJ.o true);rw [<-hww] at G;clear hww;go_wp2;go_returns;exact ⟨rfl,Fe,G.o.1,HMe.o.trans G.o.2⟩
def Lg (w:World)(b:Nat)(A:DAd)(t off size:Nat):Prop:=
 w.heap[b]?=some (.cells #[.iface 116 (.pointer (some ⟨A.t t,0,none⟩)),.int .u64 off,.int .u64 size] 271 (0,0))
theorem Lg.below {b t off size:Nat}(h:Lg w b A t off size)(hb:Bl w w'):Lg w' b A t off size:=(hb.block _ (heap_lt h)).trans h
theorem ZAu (w:World)(v:Value)(k:Nat):(method (k+1) 116 v "Size").run prog w=.ok (354,v) w:=by kernel_rfl
theorem ZBe (h:Ar w A F L T c){b t off size:Nat}(ht:t < 8)(hg:Lg w b A t off size)(hoff:off < 1000000)(hsz:size < 1000000){o:Nat}(h8:o % 8=0)(hL:o < 64 * L)(ho:o < off\/off+size<=o):
 Calls prog 153 #[.pointer (some ⟨b,0,none⟩),.int .u64 o] w fun e w'=>e=.returned (.bool true)/\Bl w w':=by
 have hLL:=h.lines;obtain ⟨c0,c1,c2,_⟩:=ZY hg;have HSZ:=zh (fun w1 hb=>Xp h ht w1 hb);obtain ⟨M,hM⟩:∃ M:Nat,M=L * 64:=⟨_,rfl⟩
 rw [<-hM] at HSZ;have b0:(o:Int)<=1000000:=by omega
 have d1:((o:Int) % 8 == 0)=true:=by simp;omega
 have d2:(o:Int) < (M:Int):=by omega
 have d2':decide ((o:Int) < (M:Int))=true:=by simp;omega
 have k0:=fun p:BW w=>ZW c0 p
 have k1:=fun p:BW w=>ZW c1 p
 have k2:=fun p:BW w=>ZW c2 p
 have HS4:=zh (fun p:BW w=>Y2 (HSZ.o p.v p.h))
 by_cases hlt:o < off
 ·have d3:(o:Int) < (off:Int):=by omega
  have d3':decide ((o:Int) < (off:Int))=true:=by simp;omega
  clear h hg h8 hL ho hLL hM c0 c1 c2 hlt ht;go_in;go_wp2_with fail;have hme:=fun p:BW w=>ZAu p.v
  refine Zv (by kernel_rfl) (by kernel_rfl) ?_
  repeat (first|go_big_quiet_step ((go_at_call 354;exact HS4.o _))|quiet_step ((go_at_call 354;exact HS4.o _)))
  refine wpQuiet_nil ?_;rintro _ ⟨q,rfl⟩;have HB:=zh q.h;clear k0 k1 k2 hme;go_wp2;go_returns;exact ⟨rfl,HB.o⟩
 ·have d3:¬ (o:Int) < (off:Int):=by omega
  have d3':decide (o < off)=false:=by simp;omega
  have d4:((o:Int) - (off:Int))>=(size:Int):=by omega
  have d4':decide ((size:Int)<=(o:Int) - (off:Int))=true:=by simp;omega
  have b1:(off:Int)<=(o:Int):=by omega
  clear h hg h8 hL ho hLL hM c0 c1 c2 hlt ht;go_in;go_wp2_with fail;have hme:=fun p:BW w=>ZAu p.v
  refine Zv (by kernel_rfl) (by kernel_rfl) ?_
  repeat (first|go_big_quiet_step ((go_at_call 354;exact HS4.o _))|quiet_step ((go_at_call 354;exact HS4.o _)))
  refine wpQuiet_nil ?_;rintro _ ⟨q,rfl⟩;have HB:=zh q.h;clear k0 k1 k2 hme;go_wp2;go_returns;exact ⟨rfl,HB.o⟩
end
end Go.Proofs.YtbpeehmepehkdaaGreatDoor.Dv
