/- Part 19. -/
import Derived.Test.YteomliechfdhhaaGreatDoorY18
set_option maxHeartbeats 8000000
set_option maxRecDepth 20000
set_option linter.all false
namespace Go.Proofs.YteomliechfdhhaaGreatDoor.Dv
open Tryz
section
open Go.RowKit Go.Proofs.YteomliechfdhhaaGreatDoor.Size
def Chk.made (cl th:Int)(gen:Nat):Chk:=⟨cl,th,gen,fun _=>⟨gen,0,176⟩⟩
def YM (T:Nat->Nat)(line:Nat)(k:Chk):List (Nat×Nat):=YT T line k++[(line * 64,ZX T k.info)]
theorem X1 (T:Nat->Nat)(line:Nat)(k:Chk):(YM T line k).map (·.1 / 8)=(List.range (perN k)).map (fun i=>8 * line+hdN k i)++(List.range 7).map (fun a=>8 * line+(a+1))++[8 * line]:=by
 unfold YM YT VW VX;rw [ZLH,ZLH,List.map_map,List.map_map]
 congr 1
 ·congr 1
  ·refine List.map_congr_left fun i _=>?_
   simp only [Function.comp];omega
  ·refine List.map_congr_left fun i _=>?_
   simp only [Function.comp];omega
 ·simp;omega
theorem ZCJ {T:Nat->Nat}{line:Nat}{k:Chk}(hk:k.Head):((YM T line k).map (·.1 / 8)).Nodup:=by
 rw [X1,ZLO,ZLO];refine ⟨⟨?_,?_,?_⟩,by simp,?_⟩
 ·unfold List.Nodup
  rw [List.pairwise_map];refine List.Pairwise.imp_of_mem ?_ List.nodup_range;intro a b ha hb hab e;have:=Jv hk (a:=0) hab (by have:=hk.sizes.2.2.2.1;omega);omega
 ·unfold List.Nodup
  rw [List.pairwise_map];exact List.Pairwise.imp (fun hab e=>by omega) List.nodup_range
 ·intro a ha b hb e
  obtain ⟨i,_,rfl⟩:=ZKz.1 ha;obtain ⟨j,hj,rfl⟩:=ZKz.1 hb;have:=Uz k i;have:=ZLJ.1 hj;omega
 ·intro a ha b hb e
  have hb2:b=8 * line:=by simpa using hb
  rcases ZK1.1 ha with ha|ha
  ·obtain ⟨i,_,rfl⟩:=ZKz.1 ha
   have:=Uz k i;omega
  ·obtain ⟨j,_,rfl⟩:=ZKz.1 ha;omega
theorem CRep.made {T c:Nat->Nat}{line:Nat}{cl th:Int}{gen:Nat}(hk:(Chk.made cl th gen).Head):CRep T (wrs c (YM T line (Chk.made cl th gen))) (8 * line) (Chk.made cl th gen):=by
 obtain ⟨k,hkk⟩:=xE (Chk.made cl th gen);have hn:=ZCJ (T:=T) (line:=line) hk;have hb:∀ i,(Chk.made cl th gen).blk i=⟨gen,0,176⟩:=fun _=>rfl
 have hg:(Chk.made cl th gen).gen=gen:=rfl;rw [<-hkk] at hk hn hb hg ⊢;have at_:∀ q∈YM T line k,∀ x,q.1 / 8=x->wrs c (YM T line k) x=q.2:=fun q hq x hx=>by rw [<-hx];exact ZBd hn q hq
 have hus:∀ i,k.used i=false:=fun i=>by unfold Chk.used;rw [hb];rfl
 have hz:∀ n,Ze k.used n=0:=by
  intro n
  induction n with
  |zero=>rfl
  |succ n ih=>unfold Ze;rw [ih,hus];simp
 have mB:∀ i,i < perN k->((8 * line+hdN k i) * 8,ZX T (Blk.info ⟨k.gen,0,176⟩))∈YM T line k:=fun i hi=>by
  unfold YM YT VW;exact ZK1.2 (.inl (ZK1.2 (.inl (ZKz.2 ⟨i,ZLJ.2 hi,rfl⟩))))
 have mZ:∀ a,a < 7->((8 * line+(a+1)) * 8,0)∈YM T line k:=fun a ha=>by
  unfold YM YT VX;exact ZK1.2 (.inl (ZK1.2 (.inr (ZKz.2 ⟨a,ZLJ.2 ha,rfl⟩))))
 have mH:(line * 64,ZX T k.info)∈YM T line k:=by unfold YM;simp
 refine ⟨hk,at_ _ mH _ (by simp only;omega),fun _=>?_,fun _ a h1 h2=>?_,fun _ i hi=>?_,fun _ i hi=>?_⟩
 ·rw [hz]
  exact at_ _ (mZ 0 (by omega)) _ (by simp only;omega)
 ·exact at_ _ (mZ (a - 1) (by omega)) _ (by simp only;omega)
 ·rw [hb];exact ⟨by rw [<-hg];exact hk.gen,.inl ⟨rfl,rfl⟩⟩
 ·rw [hb,<-hg]
  exact at_ _ (mB i hi) _ (by simp only;omega)
theorem HRep.made {T c:Nat->Nat}{l0 n:Nat}{ch:Nat->Chk}(h:HRep T c l0 n ch){m:Nat}(hm:m < n){cl th:Int}{gen:Nat}(hk:(Chk.made cl th gen).Head):
 HRep T (Dv.wrs c (YM T (l0+32 * m) (Chk.made cl th gen))) l0 n (ZDK ch m (Chk.made cl th gen)):=by
 intro j hj
 by_cases e:j=m
 ·subst e;rw [ZAE];exact CRep.made hk
 ·rw [QH _ _ e]
  have ho:∀ x,8 * (l0+32 * j)<=x->x < 8 * (l0+32 * j)+256->Dv.wrs c (YM T (l0+32 * m) (Chk.made cl th gen)) x=c x:=fun x h1 h2=>
   Z2 fun q hq hx=>by
    have hm2:q.1 / 8∈(YM T (l0+32 * m) (Chk.made cl th gen)).map (·.1 / 8):=ZKz.2 ⟨q,hq,rfl⟩;rw [X1,ZK1,ZK1] at hm2;have hst:=hk.sizes.2.2.2.1;rcases hm2 with (hm2|hm2)|hm2
    ·obtain ⟨i,hi,e2⟩:=ZKz.1 hm2
     have:=YF hk (ZLJ.1 hi);have:=Uz (Chk.made cl th gen) i;omega
    ·obtain ⟨i,hi,e2⟩:=ZKz.1 hm2
     have:=ZLJ.1 hi;omega
    ·have e2:q.1 / 8=8 * (l0+32 * m):=by simpa using hm2
     omega
  refine (h j hj).congr (fun a ha=>ho _ (by omega) (by omega)) (fun _ i hi=>?_);have:=YF (h j hj).head hi;exact ho _ (by omega) (by have:=(h j hj).head.sizes.2.2.2.1;omega)
theorem ZDe (T:Nat->Nat)(line:Nat)(k:Chk):[YT T line k,[(line * 64,ZX T k.info)]].flatten=YM T line k:=by simp [YM]
theorem ZGl {T:Nat->Nat}{line:Nat}{cl th:Int}{gen L:Nat}(hk:(Chk.made cl th gen).Head)(hl:line+32<=L)(hT:∀ i,i < 4294967296->ZX T i < 18446744073709551616):∀ l∈[YT T line (Chk.made cl th gen),[(line * 64,ZX T (Chk.made cl th gen).info)]],∀ q∈l,q.1 % 8=0/\q.1 < 64 * L/\q.2 < 18446744073709551616:=by
 intro l hl2 q hq;have hst:=hk.sizes.2.2.2.1;have hgb:Blk.Good ⟨(Chk.made cl th gen).gen,0,176⟩:=⟨hk.gen,.inl ⟨rfl,rfl⟩⟩
 simp only [List.mem_cons,List.not_mem_nil,or_false] at hl2;rcases hl2 with rfl|rfl
 ·unfold YT VW VX at hq
  rcases ZK1.1 hq with hq|hq
  ·obtain ⟨i,hi,rfl⟩:=ZKz.1 hq
   have:=YF hk (ZLJ.1 hi);exact ⟨by simp only;omega,by simp only;omega,hT _ hgb.info_lt⟩
  ·obtain ⟨i,hi,rfl⟩:=ZKz.1 hq
   have:=ZLJ.1 hi;exact ⟨by simp only;omega,by simp only;omega,by simp only;omega⟩
 ·simp only [ZLL] at hq
  subst hq;exact ⟨by simp only;omega,by simp only;omega,hT _ hk.info_lt⟩
variable {w:World}{A:DAd}{F:Nat->Option ZK}{L:Nat}{T c:Nat->Nat}
theorem QS (h:Ar w A F L T c){i:Nat}(hi:i < 8){line:Nat}(hl:line+32<=L){k:Chk}(hR:CRep T c (8 * line) k):
 Calls prog 138 #[Xg (A.t i),.int .i64 line] w fun e w'=>e=.returned (.tuple #[hdV k,.int .i64 0])/\Bl w w':=by
 have hL:=h.lines;have HLD:=zh (fun w1 hb=>Yw h hi w1 hb (line * 64) (by omega) (by omega));have HER:=zh (fun w1 hb=>Zq h hi w1 hb);have HSZ:=zh (fun w1 hb=>XZ h hi w1 hb);have HST:=zh (fun w1=>Yf (w:=w1) (line:=line) (by omega));have HH:=zh (fun (w1:World) (hb:Bl w w1)=>ZDW (T:=T) (h.below hb).nib (h.below hb).tab hR.head);rw [show line * 64 / 8=8 * line by omega,hR.w0] at HLD;have b1:(line:Int)+32<=L:=by omega
 have b2:(L:Int)<=4096:=by omega
 have d1:¬ (line:Int) < 0:=by omega
 have d2:¬ (L:Int) < 32:=by omega
 have d3:¬ (line:Int) > (L:Int) - 32:=by omega
 have e1:((L * 64:Nat):Int) / 64=(L:Int):=by omega
 obtain ⟨M,hM⟩:∃ M:Int,M=((L * 64:Nat):Int):=⟨_,rfl⟩
 rw [<-hM] at HSZ e1;have b3:0<=M:=by omega
 have b4:M < 18446744073709551616:=by omega
 obtain ⟨N,hN⟩:∃ N:Nat,N=line * 64:=⟨_,rfl⟩
 rw [<-hN] at HLD HST;unfold Xg ptr;clear h hR hL hM hl hN;go_in;go_wp2_with fail;refine (HSZ.o _ (ZA (Below.refl _ w))).mono ?_;rintro e w' ⟨rfl,rfl⟩;go_wp2_with fail;refine (HER.o _ (ZA (Below.refl _ w))).mono ?_;rintro e w' ⟨rfl,rfl⟩;have HB:=zh (ZA (o:=.cells #[.int .i64 0,.int .i64 0,.int .u16 0] 193) (Below.refl w.heap.size w));have hn:=ZB w (.cells #[.int .i64 0,.int .i64 0,.int .u16 0] 193);obtain ⟨w1,hw1⟩:=xE (w.alloc (.cells #[.int .i64 0,.int .i64 0,.int .u16 0] 193));rw [<-hw1] at HB hn;have HN:=zh hn;have HW:=zh hw1;clear hn hw1;go_wp2_with fail;rw [<-HW.o]
 go_quiet (first
  |(rw [Yx];exact ⟨rfl,rfl⟩)
  |(go_at_call 185;exact Zj (HST.o _))
  |(go_invoke;go_simp;go_at_call 34;exact Zj (HLD.o _ (ZY HB.o))))
 have HB2:=zh (ZY (n:=nq) HB.o);obtain ⟨w2,hw2⟩:=xE (w1.drewN nq);have hn:=HN.o;rw [show w1.heap=w2.heap by rw [hw2];rfl] at hn;rw [<-hw2] at HB2;have HN2:=zh hn;rw [<-hw2];clear hn hw2 HN HW;go_wp2_with fail;refine (HER.o _ HB2.o).mono ?_;rintro e w' ⟨rfl,rfl⟩;go_wp2_with fail;refine (HH.o _ HB2.o).mono ?_;rintro e w3 ⟨rfl,hb⟩;have h1:=(hb.block w.heap.size (heap_lt HN2.o)).trans HN2.o;have h2:(w3.alloc (.cells #[.int .i64 k.cl,.int .i64 k.ow,.int .u16 k.gen] 193)).heap[w.heap.size]?=some (.cells #[.int .i64 0,.int .i64 0,.int .u16 0] 193 (0,0)):=(ZI (heap_lt h1)).trans h1;obtain ⟨c0,c1,c2,f0,f1,f2⟩:=Zb h2;have HB3:=zh (ZA (o:=.cells #[.int .i64 k.cl,.int .i64 k.ow,.int .u16 k.gen] 193) (HB2.o.trans (hb.mono HB2.o.size)));unfold hdV;clear h1 h2 hb HH HER HLD HSZ HST;go_wp2_with fail
 (try simp only [Exit.inBlock,Exit.then])
 refine bodyPost_ret (by simp [results,results138,go_sem,c0,c1,c2];try rfl) rfl ?_;exact ⟨rfl,by repeat (with_reducible first|exact HB3.o|exact nR|apply ZE)⟩
theorem Yu (h:Ar w A F L T c){i:Nat}(hi:i < 8){line:Nat}(hl:line+32<=L){k:Chk}(hR:CRep T c (8 * line) k)(hk:0<=k.cl):
 Calls prog 83 #[Xg (A.t i),.int .i64 line] w fun e w'=>e=.returned (.tuple #[chV A i line k,.int .i64 0])/\Bl w w':=by
 have HLK:=zh (fun w1 (hb:Bl w w1)=>QS (h.below hb) hi hl hR);have d1:¬ k.cl < 0:=by omega
 unfold Xg ptr hdV chV at *;clear h hR hl hi;go_in;go_wp2_with fail;refine (HLK.o _ (ZA (Below.refl _ w))).mono ?_;rintro e w1 ⟨rfl,hb⟩;have h1:=(hb.block w.heap.size (by simp)).trans (ZB w _);have h2:=(ZI (o:=.cells #[.int .i64 k.cl,.int .i64 k.ow,.int .u16 k.gen] 193) (heap_lt h1)).trans h1;obtain ⟨c0,c1,c2,c3,c4,f0,f1,f2,f3,f4⟩:=VH h2;have HB3:=zh (ZA (o:=.cells #[.int .i64 k.cl,.int .i64 k.ow,.int .u16 k.gen] 193) ((ZA (Below.refl _ w)).trans (hb.mono (by simp))));clear h1 h2 hb HLK;go_wp2_with fail
 (try simp only [Exit.inBlock,Exit.then])
 refine bodyPost_ret (by simp [results,results83,go_sem,c0,c1,c2,c3,c4];try rfl) rfl ?_;exact ⟨rfl,by repeat (with_reducible first|exact HB3.o|exact nR|apply ZE)⟩
variable {w':World}{c':Nat->Nat}{x x' ex:Nat}{H:HAd}{lk:Bool}{p p':Nat->Plc}{res held:Nat->Option Nat}
theorem HW.new (h:HW w A F L T c x H lk p ex res held){g:Nat}(hg:w.heap.size<=g):F g=none:=by
 obtain ⟨s,h1,_⟩:=h.aq.dev;cases e:F g with
 |none=>rfl
 |some r=>exact absurd (h1.lt g (by rw [e];simp)) (by omega)
theorem HW.sealed_lt (h:HW w A F L T c x H lk p ex res held):∀ i,i < 4294967296->ZX T i < 18446744073709551616:=fun i hi=>XL h.aq.nib hi
theorem YJ {w:World}{B B':Nat}{e:TypeId}{z n:Nat}{v:Value}{xs:List Value}(h:w.ownsRow B e z v n xs)(hB:B'<=B):w.ownsRow B' e z v n xs:=by
 refine ⟨h.1,?_⟩;rcases h.2 with hn|⟨g,cap,cur,hv,h1,rest⟩
 ·exact .inl hn
 ·exact .inr ⟨g,cap,cur,hv,ZK6 hB h1,rest⟩
theorem ZAB {P:Program}{f:FuncId}{args:Array Value}{b w1:World}{g:Value->Value}{l:List Ins}(hb:Bl b w1)(h:Calls P f args w1 fun e w'=>∃ v,e=.returned (g v)/\Prg w' w1.heap.size v l/\Bl w1 w'):
 Calls P f args w1 fun e w'=>∃ v,e=.returned (g v)/\Prg w' b.heap.size v l/\Bl b w':=
 h.mono fun e w' ⟨v,h1,h2,h3⟩=>⟨v,h1,YJ h2 hb.size,hb.trans (h3.mono hb.size)⟩
def ClP (w:World)(A:DAd)(F:Nat->Option ZK)(L:Nat)(T c:Nat->Nat)(x:Nat)(H:HAd)(lk:Bool)(p:Nat->Plc)(ex:Nat)(res held:Nat->Option Nat)(w':World):Prop:=
 ∃ F',HW w' A F' L T c x H lk p ex res held/\HMv F F' H w w'
theorem ZB9 (h:HW w A F L T c x H lk p ex res held) {ls:List (List (Nat×Nat))} {v:Value} {B:Nat} (hp:Prg w B v (Za ls)) (hB:∀ g,B<=g->F g=none) (h0:0 < (Za ls).length)
 (hl:∀ l∈ls,∀ q∈l,q.1 % 8=0/\q.1 < 64 * L/\q.2 < 18446744073709551616)(hn:x+Zn ls<=x')(hx:x'<=1000000):
 Calls prog 76 #[v,.iface 97 (.pointer (some ⟨A.t H.t,0,none⟩))] w fun e w'=>e=.returned (.int .i64 0)/\ClP w A F L T (wrs c ls.flatten) x' H lk p ex res held w':=by
 obtain ⟨g,cap,rfl,hs,hg⟩:=Zi hp h0;refine (ZBV (k:=cap) h.aq h.hp.t hs (hB g hg) hl (by omega)).mono ?_;rintro e w' ⟨rfl,hr⟩;obtain ⟨F',h1,h2⟩:=h.ra hr;refine ⟨rfl,F',{h1 with aq:=h1.aq.mono (by omega)},h2⟩
theorem ZDr (h:HW w A F L T c x H lk p ex res held){j:Nat}(hj:j < H.n)(hd:∀ m,m < j->0<=(p m).cl)(hc:(p j).cl < 0){k:Chk}(hl:(p j).line+32<=L)(hR:CRep T c (8 * (p j).line) k){cl th:Nat}(hcl:cl<=4)(hth:th < 8)(hx:x+200<=1000000):
 Calls prog 165 #[.pointer (some ⟨H.sb,0,none⟩),.int .i64 th,.int .i64 cl] w fun e w'=>e=.returned (.tuple #[.int .i64 (p j).line,.int .i64 0])/\ClP w A F L T (wrs c (YM T (p j).line (Chk.made cl th k.gen))) (x+200) H lk (XQ p j ⟨(p j).line,cl,th,(p j).held⟩) ex res held w':=by
 have hLL:=h.ar.lines;have hmk:(Chk.made cl th k.gen).Head:=⟨hR.head.gen,.inr ⟨by simp only [Chk.made];omega,by simp only [Chk.made];omega,by simp only [Chk.made];omega,by simp only [Chk.made];omega⟩⟩
 obtain ⟨z1,_,z3,_⟩:=hmk.sizes;have HPE:=zh (per_any cl w h.aq.tab);have hper:per (cl:Int)=((perN (Chk.made cl th k.gen):Nat):Int):=z1;have hpp:0 < per (cl:Int):=by have:=wds_cases cl;unfold per;repeat' split <;> omega
 have HER:=zh (fun w1 hb=>Zq h.ar h.hp.t w1 hb);have HPK:=zh (ZFj h.set hj hd hc);have HLK:=zh (fun w1 (hb:Bl w w1)=>Xs (QS (h.ar.below hb) h.hp.t hl hR) hb);have HPL:=zh (fun w1 (hb:Bl w w1)=>ZEs (h.aq.nib.below hb nR) (h.aq.tab.below hb) hmk (show (0:Int)<=cl by omega) (line:=(p j).line) (by omega));have hcost:x+Zn [YT T (p j).line (Chk.made cl th k.gen),[((p j).line * 64,ZX T (Chk.made cl th k.gen).info)]]<=x+200:=by
  unfold Zn YT Zn Zn;rw [ZK4,X4,X5];simp;omega
 have HRUN:=zh (fun (w1:World) (hb:Bl w w1) (v:Value) (B:Nat) (hB:w.heap.size<=B) (hp:Prg w1 B v (Za [YT T (p j).line (Chk.made cl th k.gen),[((p j).line * 64,ZX T (Chk.made cl th k.gen).info)]]))=>
  ZB9 (h.below hb) hp (fun g hg=>h.new (by omega)) (by have:=Zl (YT T (p j).line (Chk.made cl th k.gen));simp [Za];omega) (ZGl hmk hl h.sealed_lt) hcost hx)
 rw [ZDe] at HRUN;obtain ⟨c0,c1⟩:=h.set.cells;obtain ⟨a0,a1,a2,a3⟩:=h.set.at hj;have HS:=zh h.set;have HH:=zh h;have HJ:=zh hj;have d1:((per (cl:Int)) == 0)=false:=by simp;omega
 have d2:¬ (th:Int) < 0:=by omega
 have d3:¬ (th:Int)>=8:=by omega
 have hjn:(j:Int)<=200:=by have:=h.set.size;omega
 obtain ⟨line,hline⟩:=xE ((p j).line);rw [<-hline] at HLK HPL HRUN a0 ⊢;have HLN:=zh hline;obtain ⟨ti,hti⟩:=xE H.t;rw [<-hti] at HER HLK HRUN c0;have HTI:=zh hti;unfold hdV Xg ptr at *;have hg:(Chk.made cl th k.gen).gen=k.gen:=rfl;have hc2:(Chk.made cl th k.gen).cl=cl:=rfl;have hc3:(Chk.made cl th k.gen).ow=th:=rfl;rw [hg,hc2,hc3] at HPL;obtain ⟨PL,hPL⟩:=xE (Za [YT T line (Chk.made cl th k.gen),[(line * 64,ZX T (Chk.made cl th k.gen).info)]]);rw [<-hPL] at HPL HRUN;have HKP:=zh (fun (w1:World) (hb:Bl w w1)=>(show w1.cell? ⟨H.sb,0,none⟩=some (.iface 97 (.pointer (some ⟨A.t ti,0,none⟩)))/\w1.cell? ⟨H.pb,j * 4,none⟩=some (.int .i64 line) from ⟨(hb.cell (ZK2 _ _ c0)).trans c0,(hb.cell (ZK2 _ _ a0)).trans a0⟩));have HR0:=zh (Below.refl w.heap.size w);have HGE:=zh hR.head.gen;clear h hd hl hR hmk z1 z3 hper hpp hcost hLL hx hline hti hg hc2 hc3 hPL hcl hth hj;go_in;go_wp2_with fail;refine HPE.o.mono ?_;rintro e w' ⟨rfl,rfl⟩;go_wp2_with fail;refine (HER.o _ HR0.o).mono ?_;rintro e w' ⟨rfl,rfl⟩;go_wp2_with fail;refine HPK.o.mono ?_;rintro e w' ⟨rfl,rfl⟩;go_upto_region 11 with fail
 go_cut [10,11] (fun e v wx=>e=.int .i64 0/\∃ hbk,v=.pointer (some ⟨hbk,0,none⟩)/\wx.heap[hbk]?=some (.cells #[.int .i64 k.cl,.int .i64 k.ow,.int .u16 k.gen] 193 (0,0))/\Bl w wx)
 ·go_region_held3 (fun w'=>w'.cell? ⟨H.sb,0,none⟩=some (.iface 97 (.pointer (some ⟨A.t ti,0,none⟩)))/\w'.cell? ⟨H.pb,j * 4,none⟩=some (.int .i64 line))
   (exact HKP.o _ (by repeat (with_reducible first|assumption|exact HR0.o|apply ZA|apply ZD|apply ZE|exact nR|exact hb1.size)))
   (first
     |(go_at_call 138;refine (HLK.o _ (by repeat (with_reducible first|assumption|exact HR0.o|apply ZA|apply ZD))).mono ?_;rintro e V1 ⟨rfl,hb1,l1,l2,l3,l4⟩))
  all_goals
   go_wp2_with fail;go_meet
   first
    |exact ⟨rfl,_,rfl,ZB _ _,ZA hb1⟩
    |exact ⟨rfl,_,rfl,ZH (ZH (ZH ((l4.o.block w.heap.size (by simp)).trans (ZB _ _)))),ZE (ZE (ZE hb1 nR) nR) nR⟩
 ·obtain ⟨rfl,hbk,rfl,hh,hbel⟩:=hcut
  obtain ⟨W1,hW1⟩:=xE wc;subst hW1;have HB:=zh hbel;have HHK:=zh hh;have HPL1:=zh (fun (w1:World) (hb:Bl W1 w1)=>ZAB (g:=fun v=>.tuple #[v,.int .i64 0]) hb (HPL.o w1 (hbel.trans (hb.mono hbel.size))));have HKP2:=zh (fun (w1:World) (hb:Bl W1 w1)=>(show w1.cell? ⟨H.pb,j * 4,none⟩=some (.int .i64 line)/\w1.cell? ⟨hbk,2,none⟩=some (.int .u16 k.gen) from ⟨(HKP.o w1 (hbel.trans (hb.mono hbel.size))).2,(hb.cell (ZK2 _ _ (Zb hh).2.2.1)).trans (Zb hh).2.2.1⟩));have HR1:=zh (Below.refl W1.heap.size W1);clear hh hbel c0 c1 a0 a1 a2 a3;go_upto_region 14 with fail
  go_cut [10,12] (fun e v wx=>e=.int .i64 0/\Prg wx W1.heap.size v PL/\Bl W1 wx)
  ·obtain ⟨a0,b2⟩:=HKP2.o _ HR1.o
   go_region_held3 (fun w'=>w'.cell? ⟨H.pb,j * 4,none⟩=some (.int .i64 line)/\w'.cell? ⟨hbk,2,none⟩=some (.int .u16 k.gen))
    (exact HKP2.o _ (by repeat (with_reducible first|assumption|exact HR1.o|apply ZA|apply ZD)))
    (first
      |(go_at_call 167;refine (HPL1.o _ (by repeat (with_reducible first|assumption|exact HR1.o|apply ZA|apply ZD))).mono ?_;rintro e V1 ⟨rv,rfl,hp1,hb1⟩))
   all_goals
    go_wp2_with fail;go_meet;exact ⟨rfl,hp1,hb1⟩
  ·obtain ⟨rfl,hp,hbel2⟩:=hcut
   have HB2:=zh (HB.o.trans (hbel2.mono HB.o.size));have HP:=zh hp;clear hp hbel2;obtain ⟨c0,_⟩:=HKP.o _ HB2.o;go_wp2_with fail;refine (HRUN.o _ HB2.o _ _ HB.o.size HP.o).mono ?_;rintro e w9 ⟨rfl,F',hw9,hmv⟩;have HW9:=zh hw9;have HMV:=zh hmv;clear c0;obtain ⟨c0,c1⟩:=hw9.set.cells;obtain ⟨a0,a1,a2,a3⟩:=hw9.set.at HJ.o;rw [<-HLN.o] at a0;have f1:=hw9.set.row.free (j * 4+1);have f2:=hw9.set.row.free (j * 4+2);clear hw9 hmv;go_wp2;go_returns;obtain ⟨h1,h2⟩:=HW9.o.places (((Only.refl (fun k=>k=H.pb) w9).set rfl (.int .i64 cl)).set rfl (.int .i64 th)) (HW9.o.set.claim HJ.o cl th);rw [HLN.o] at h1 ⊢;exact ⟨rfl,F',h1,(HMv.of_below HB2.o).trans (HMV.o.trans h2)⟩
theorem ClP.c0 {w':World}(h:ClP w A F L T c x H lk p ex res held w'):w'.cell? ⟨H.hb,0,none⟩=some (.iface 97 (.pointer (some ⟨A.t H.t,0,none⟩))):=by
 obtain ⟨F',h1,_⟩:=h;exact (Zz h1.hp.hp).1
def YD (off n:Nat):List (Nat×Nat):=(List.range n).map fun a=>(off+8 * a,0)
theorem ZD7 (off n:Nat):YD off (n+1)=YD off n++[(off+8 * n,0)]:=by unfold YD;rw [ZLN,ZLH];rfl
theorem XE (off n:Nat):(YD off n).length=n:=by simp [YD]
def ZrR (W:World)(off n:Nat)(v i:Value)(wr:World):Prop:=
 ∃ m:Nat,m<=n/\i=.int .i64 (m:Nat)/\wr.ownsRow W.heap.size 155 2 v m (ZP (YD off m))/\Bl W wr
theorem ZE6 (h:HW w A F L T c x H lk p ex res held){q:Nat}(hq:q < 18446744073709551616)(hq0:q≠0){cl:Nat}(hcl:cl<=4){n:Nat}(hn:wds cl=(n:Int))(h8:ZM q+8 * n<=64 * L)(hx:x+200<=1000000):
 Calls prog 109 #[.pointer (some ⟨H.hb,0,none⟩),.int .u64 q,.int .i64 cl] w fun e w'=>e=.returned (.int .i64 0)/\ClP w A F L T (wrs c (YD (ZM q) n)) (x+200) H lk p ex res held w':=by
 have hLL:=h.ar.lines;have hnn:n<=60/\1<=n:=by have:=wds_cases cl;omega
 have HWD:=zh (Size.words_any cl w h.aq.tab);rw [hn] at HWD;have hof:ZM q % 8=0:=by unfold ZM;omega
 have HAT:=zh (fun (m:Nat) (hm:m < 60) (w1:World)=>YK (w:=w1) (p:=q) (k:=m) hq hq0 hm);obtain ⟨O,hO⟩:=xE (ZM q);rw [<-hO] at HAT hof h8 ⊢;have hcost:x+Zn [YD O n]<=x+200:=by
  unfold Zn Zn;rw [XE];omega
 have hok:∀ l∈[YD O n],∀ y∈l,y.1 % 8=0/\y.1 < 64 * L/\y.2 < 18446744073709551616:=by
  intro l hl y hy;rw [ZLL] at hl;subst hl;obtain ⟨a,ha,rfl⟩:=ZKz.1 hy;have:=ZLJ.1 ha;exact ⟨by simp only;omega,by simp only;omega,by simp only;omega⟩
 have HRUN:=zh (fun (w1:World) (hb:Bl w w1) (v:Value) (B:Nat) (hB:w.heap.size<=B) (hp:Prg w1 B v (Za [YD O n]))=>
  ZB9 (h.below hb) hp (fun g hg=>h.new (by omega)) (by have:=Zl (YD O n);simp [Za];omega) hok hcost hx)
 have hflat:[YD O n].flatten=YD O n:=by simp
 rw [hflat,Zs] at HRUN;obtain ⟨c0,_⟩:=Zz h.hp.hp;have HH:=zh h.hp;have b1:(O:Int)<=262144:=by omega
 have HNN:=zh hnn;obtain ⟨ti,hti⟩:=xE H.t;rw [<-hti] at HRUN c0;have HTI:=zh hti;have HOB:=zh (show ∀ y∈YD O n,y.1 < 18446744073709551616 from fun y hy=>by have:=hok _ (ZLL.2 rfl) y hy;omega);clear h hq hq0 hcl hn h8 hx hLL hof hO hcost hok hflat hti hnn;go_in;go_wp2_with fail;refine HWD.o.mono ?_;rintro e w' ⟨rfl,rfl⟩;go_wp2_with fail
 go_loopw [7,11] (fun v i wr=>ZrR w O n v i wr) (fun _ i _=>n - (intOf i).toNat)
 case atStart=>exact ⟨0,by omega,rfl,ZLD _ _ _ _,bR⟩
 case round=>
  obtain ⟨m,hm,rfl,hown,hbel⟩:=hrel;have HB:=zh hbel;have HO:=zh hown;obtain ⟨ra,rc,hv⟩:=ZR hown;subst hv;clear hown hbel
  by_cases hlt:m < n
  ·have d0:(m:Int) < n:=by omega
   have hn60:=HNN.o;have HA:=zh (HAT.o m (by omega));clear hlt;go_wp2_with fail;refine (HA.o _).mono ?_;rintro e w' ⟨rfl,rfl⟩;go_wp2_with (at_builtin;refine ZT elWrites rfl _ _ rfl HO.o rfl rfl ?c1 rfl ?c2 ?c3 ?c4 ?c5 ?_)
   case c1=>rfl
   case c2=>exact ⟨rfl,rfl⟩
   case c3=>unfold maxLen;omega
   case c4=>omega
   case c5=>exact HB.o.size
   intro g4 cap4 w5 hop5 hgr5 hg5
   have G:=zh (show ZrR w O n (.slice (some ⟨g4,0,none⟩) (m+1) cap4) (.int .i64 ((m+1:Nat):Int)) w5 from ⟨m+1,by omega,rfl,by
    rw [ZD7,Zk];exact hop5,ZN HB.o hgr5 HB.o.size (fun b hb=>(HO.o.lt b hb).1)⟩)
   clear hop5 hgr5 hg5;go_wp2_with fail;go_roundw
   case rel=>simpa using G.o
   case measure=>simp [intOf];omega
  ·obtain rfl:m=n:=by omega
   have d0:¬ ((m:Int) < m):=by omega
   have HST:=zh (YV (l:=YD O m) (by unfold Wrt;rw [XE];exact HO.o) (by rw [XE];have:=HNN.o;omega) (by rw [XE];have:=HNN.o;omega) HOB.o);clear c0;go_upto_region 7 with fail;have HST1:=zh (fun (w1:World) (hb:Bl wr w1)=>ZAB (g:=fun v=>v) hb (HST.o w1 hb));have HR1:=zh (Below.refl wr.heap.size wr);have HKP:=zh (fun (w1:World) (hb:Bl wr w1)=>(show w1.cell? ⟨H.hb,0,none⟩=some (.iface 97 (.pointer (some ⟨A.t ti,0,none⟩))) from by rw [HTI.o];exact (Zz (HH.o.below (HB.o.trans (hb.mono HB.o.size))).hp).1));have c0:=HKP.o _ HR1.o
   go_region_held3 (fun w'=>w'.cell? ⟨H.hb,0,none⟩=some (.iface 97 (.pointer (some ⟨A.t ti,0,none⟩))))
    (first|assumption|exact HKP.o _ (by repeat (with_reducible first|assumption|exact HR1.o|apply ZA|apply ZD)))
    (first
      |(go_at_call 74;refine (HST1.o _ (by repeat (with_reducible first|assumption|exact HR1.o|apply ZA|apply ZD))).mono ?_;rintro e V1 ⟨rv,rfl,hp1,hb1⟩)
      |(go_at_call 76;refine (HRUN.o _ (HB.o.trans (hb1.mono HB.o.size)) _ _ HB.o.size hp1).mono ?_;rintro e V2 ⟨rfl,hcl⟩;have k9:=hcl.c0;rw [<-HTI.o] at k9))
   all_goals
    go_wp2;go_returns;obtain ⟨F',h1,h2⟩:=hcl;exact ⟨rfl,F',h1,(HMv.of_below (HB.o.trans (hb1.mono HB.o.size))).trans h2⟩
theorem VS {th n kd:Nat}(h1:th < 8)(h2:1<=n/\n<=60)(h3:1<=kd/\kd<=127):
 Calls prog 54 #[.int .i64 th,.int .i64 n,.int .u8 kd] w fun e w'=>e=.returned (.int .i64 0)/\w=w':=by
 have d1:¬ (th:Int) < 0:=by omega
 have d2:¬ (th:Int)>=8:=by omega
 have d3:¬ (n:Int) < 1:=by omega
 have d4:((kd:Int) == 0)=false:=by simp;omega
 have d5:¬ (kd:Int) > 127:=by omega
 have d6:¬ (n:Int) > 60:=by omega
 clear h1 h2 h3;go_in;go_wp2;go_returns;exact ⟨rfl,rfl⟩
structure HOK (T c:Nat->Nat)(L:Nat)(H:HAd)(p:Nat->Plc)(ch:Nat->Chk):Prop where
 rep:HRep T c H.l0 H.n ch
 line:∀ j,j < H.n->(p j).line=H.l0+32 * j
 cl:∀ j,j < H.n->(p j).cl=(ch j).cl/\(p j).ow=(ch j).ow
 fit:H.l0+32 * H.n<=L
theorem ZAY {k:Chk}(hk:k.Head){line j kind:Nat}(hg:(k.blk j).gen < 65536)(hj:j < perN k)(hl:line<=4096)(hkd:kind < 256):ZM (k.ptr line j kind)=k.pay line j/\Vr (k.ptr line j kind)=(k.blk j).gen/\Z0 (k.ptr line j kind)=kind:=by
 have:=YF hk hj;exact Jb (by unfold Chk.pay;omega) (by unfold Chk.pay;omega) hg hkd
theorem ZHB {k:Chk}(hk:k.Head){line j kind:Nat}(hg:(k.blk j).gen < 65536)(hj:j < perN k)(hl:line<=4096)(hkd:kind<=127):k.ptr line j kind < 72057594037927936:=by
 have:=YF hk hj;unfold Chk.ptr Yl Chk.pay;have:(8 * line+hdN k j+1) * 8 / 8 < 4294967296:=by omega
 omega
theorem VT (h:Ar w A F L T c)(hp:HpW w A H lk)(hr:J1 w H.rb ex res){k:Chk}{line:Nat}(hl:line+32<=L)(hR:CRep T c (8 * line) k)(hk:0<=k.cl){j:Nat}(hj:j < perN k)(hf:k.free 0=(j:Int))(hu:k.used j=false){kind:Nat}(hkd:1<=kind/\kind<=127)(hn:res (k.pay line j)=none):
 Calls prog 108 #[.pointer (some ⟨H.hb,0,none⟩),.int .i64 line,.int .u8 kind] w fun e w'=>e=.returned (.tuple #[.int .u64 (k.ptr line j kind),.int .i64 0])/\Bl w w':=by
 have hL:=h.lines;have hgd:=hR.good hk j hj;have HOP:=zh (fun w1 (hb:Bl w w1)=>Yu (h.below hb) hp.t hl hR hk);have HFR:=zh (fun w1 (hb:Bl w w1)=>hf▸Vg (h.below hb) hp.t hl hR hk 0 (by omega));have HPT:=zh (fun w1 (hb:Bl w w1)=>XU (h.below hb) hp.t hl hR hk hj hu hkd);have HER:=zh (fun w1 hb=>Zq h hp.t w1 hb);have hpp:=(ZAY hR.head (line:=line) (kind:=kind) hgd.gen.2 hj (by omega) (by omega)).1;have hpl:=ZHB hR.head (line:=line) (kind:=kind) hgd.gen.2 hj (by omega) (by omega);have hpo:=XT (k.ptr line j kind);have HOF:=zh (fun w1=>YU (w:=w1) (p:=k.ptr line j kind) (by omega));rw [hpp] at HOF hpo;have HLK:=zh (fun (w1:World) (hb:Bl w w1)=>(hr.kept (hb.block _ hr.lt)).look2 underlying29 underlying140 (ZJk _) (n:=k.pay line j) (wfU (by omega)));rw [hn] at HLK;unfold cPtr at HLK;simp only at HLK;obtain ⟨P,hP⟩:=xE (k.ptr line j kind);rw [<-hP] at HPT HOF ⊢;obtain ⟨O,hO⟩:=xE (k.pay line j);rw [<-hO] at HOF HLK;have HH:=zh hp;have HB:=zh (Below.refl w.heap.size w);obtain ⟨ti,hti⟩:=xE H.t;rw [<-hti] at HER HOP HFR HPT;have HTI:=zh hti;obtain ⟨c0,_⟩:=Zz hp.hp;rw [<-HTI.o] at c0;have d1:(j:Int)>=0:=by omega
 unfold chV Xg ptr at *;clear h hp hr hl hR hk hj hf hu hkd hn hL hgd hpp hpl hpo hP hO hti;go_in;go_wp2_with fail;refine (HOP.o _ HB.o).mono ?_;rintro e x1 ⟨rfl,hb⟩;replace HB:=zh (ZA (o:=.cells #[.iface 97 (.pointer (some ⟨A.t ti,0,none⟩)),.int .i64 line,.int .i64 k.cl,.int .i64 k.ow,.int .u16 k.gen] 195) (HB.o.trans (hb.mono HB.o.size)));have HC:=zh (CBox.new (w:=x1) (A:=A) (i:=ti) (line:=line) (k:=k));clear hb c0;obtain ⟨b0,b1,b2,b3,b4⟩:=id HC.o;go_wp2_with fail;refine (HFR.o _ HB.o).mono ?_;rintro e x2 ⟨rfl,hb⟩;replace HB:=zh (HB.o.trans (hb.mono HB.o.size));replace HC:=zh (HC.o.below hb);clear hb b0 b1 b2 b3 b4;go_wp2_with fail
 go_loopw [10] (fun v wr=>v=.int .i64 j/\wr=x2) (fun _ _=>0)
 case atStart=>exact ⟨rfl,rfl⟩
 case round=>
  obtain ⟨rfl,hwr⟩:=hrel;subst hwr;obtain ⟨b0,b1,b2,b3,b4⟩:=id HC.o;go_wp2_with fail;refine (HPT.o _ HB.o).mono ?_;rintro e x3 ⟨rfl,hb⟩;replace HB:=zh (HB.o.trans (hb.mono HB.o.size));clear hb b0 b1 b2 b3 b4;obtain ⟨c0,_,_,_,c4,_⟩:=Zz (HH.o.below HB.o).hp;rw [<-HTI.o] at c0;go_wp2_with fail;refine (HER.o _ HB.o).mono ?_;rintro e w' ⟨rfl,rfl⟩;go_wp2_with fail;have k4:=fun q:BW x3=>ZV c4 q
  have HOF4:=zh (fun q:BW x3=>Yt (HOF.o q.v));have hlk:=fun q:BW x3=>HLK.o q.v (HB.o.trans (q.h.mono HB.o.size))
  refine Zv (by kernel_rfl) (by kernel_rfl) ?_
  repeat (quiet_step (first
   |(go_at_call 35;exact HOF4.o _)))
  refine wpQuiet_nil ?_;rintro _ ⟨q,rfl⟩;have HB5:=zh (HB.o.trans (q.h.mono HB.o.size));clear k4 hlk c0 c4;go_wp2;go_returns;exact ⟨rfl,HB5.o⟩
theorem UV (h:Ar w A F L T c)(hp:HpW w A H lk){k:Chk}{line:Nat}(hl:line+32<=L)(hR:CRep T c (8 * line) k)(hk:0<=k.cl)(hf:k.free 0=-1)(kind:Nat):
 Calls prog 108 #[.pointer (some ⟨H.hb,0,none⟩),.int .i64 line,.int .u8 kind] w fun e w'=>e=.returned (.tuple #[.int .u64 0,.int .i64 5])/\Bl w w':=by
 have HOP:=zh (fun w1 (hb:Bl w w1)=>Yu (h.below hb) hp.t hl hR hk);have HFR:=zh (fun w1 (hb:Bl w w1)=>hf▸Vg (h.below hb) hp.t hl hR hk 0 (by omega));have HER:=zh (fun w1 hb=>Zq h hp.t w1 hb);have HH:=zh hp;have HB:=zh (Below.refl w.heap.size w);obtain ⟨ti,hti⟩:=xE H.t;rw [<-hti] at HER HOP HFR;have HTI:=zh hti;obtain ⟨c0,_⟩:=Zz hp.hp;rw [<-HTI.o] at c0;unfold chV Xg ptr at *;clear h hp hl hR hk hf hti;go_in;go_wp2_with fail;refine (HOP.o _ HB.o).mono ?_;rintro e x1 ⟨rfl,hb⟩;replace HB:=zh (ZA (o:=.cells #[.iface 97 (.pointer (some ⟨A.t ti,0,none⟩)),.int .i64 line,.int .i64 k.cl,.int .i64 k.ow,.int .u16 k.gen] 195) (HB.o.trans (hb.mono HB.o.size)));have HC:=zh (CBox.new (w:=x1) (A:=A) (i:=ti) (line:=line) (k:=k));clear hb c0;obtain ⟨b0,b1,b2,b3,b4⟩:=id HC.o;go_wp2_with fail;refine (HFR.o _ HB.o).mono ?_;rintro e x2 ⟨rfl,hb⟩;replace HB:=zh (HB.o.trans (hb.mono HB.o.size));clear hb b0 b1 b2 b3 b4;obtain ⟨c0,_⟩:=Zz (HH.o.below HB.o).hp;rw [<-HTI.o] at c0;go_wp2_with fail
 go_loopw [10] (fun v wr=>v=.int .i64 (-1)/\wr=x2) (fun _ _=>0)
 case atStart=>exact ⟨rfl,rfl⟩
 case round=>
  obtain ⟨rfl,hwr⟩:=hrel;subst hwr;go_wp2_with fail;refine (HER.o _ HB.o).mono ?_;rintro e w' ⟨rfl,rfl⟩;go_wp2;go_returns;exact ⟨rfl,HB.o⟩
def YG (now:Nat)(ann:Nat->Nat)(e:Nat):Bool:=decide (e < now) && (List.range 8).all fun t=>decide (ann t=0\/e < ann t)
theorem ZIW {now e:Nat}{ann:Nat->Nat}{t:Nat}(ht:t < 8)(h0:ann t≠0)(h1:ann t<=e):YG now ann e=false:=by
 unfold YG;rw [Bool.and_eq_false_iff];right;rw [List.all_eq_false];exact ⟨t,ZLJ.2 ht,by simp;omega⟩
theorem ZHP {now e:Nat}{ann:Nat->Nat}(h:∀ t,t < 8->ann t=0\/e < ann t):YG now ann e=decide (e < now):=by
 unfold YG;have:((List.range 8).all fun t=>decide (ann t=0\/e < ann t))=true:=List.all_eq_true.2 fun t ht=>ZLG (h t (ZLJ.1 ht))
 rw [this,Bool.and_true]
theorem U1 (a0 a1 a2 a3 a4 a5 a6 a7:Value)(w:World):(Instr.index 34 (.agg #[a0,a1,a2,a3,a4,a5,a6,a7]) (.int .i64 0)).run prog w=.ok a0 w:=by kernel_rfl
theorem U2 (a0 a1 a2 a3 a4 a5 a6 a7:Value)(w:World):(Instr.index 34 (.agg #[a0,a1,a2,a3,a4,a5,a6,a7]) (.int .i64 1)).run prog w=.ok a1 w:=by kernel_rfl
theorem U3 (a0 a1 a2 a3 a4 a5 a6 a7:Value)(w:World):(Instr.index 34 (.agg #[a0,a1,a2,a3,a4,a5,a6,a7]) (.int .i64 2)).run prog w=.ok a2 w:=by kernel_rfl
theorem U4 (a0 a1 a2 a3 a4 a5 a6 a7:Value)(w:World):(Instr.index 34 (.agg #[a0,a1,a2,a3,a4,a5,a6,a7]) (.int .i64 3)).run prog w=.ok a3 w:=by kernel_rfl
theorem U5 (a0 a1 a2 a3 a4 a5 a6 a7:Value)(w:World):(Instr.index 34 (.agg #[a0,a1,a2,a3,a4,a5,a6,a7]) (.int .i64 4)).run prog w=.ok a4 w:=by kernel_rfl
theorem U6 (a0 a1 a2 a3 a4 a5 a6 a7:Value)(w:World):(Instr.index 34 (.agg #[a0,a1,a2,a3,a4,a5,a6,a7]) (.int .i64 5)).run prog w=.ok a5 w:=by kernel_rfl
theorem U7 (a0 a1 a2 a3 a4 a5 a6 a7:Value)(w:World):(Instr.index 34 (.agg #[a0,a1,a2,a3,a4,a5,a6,a7]) (.int .i64 6)).run prog w=.ok a6 w:=by kernel_rfl
theorem U8 (a0 a1 a2 a3 a4 a5 a6 a7:Value)(w:World):(Instr.index 34 (.agg #[a0,a1,a2,a3,a4,a5,a6,a7]) (.int .i64 7)).run prog w=.ok a7 w:=by kernel_rfl
def k0:Chk:=⟨4,0,1,fun j=>if j=0 then ⟨1,12,177⟩ else if j=1 then ⟨1,64,177⟩ else ⟨1,0,176⟩⟩
def chs (k:Chk):Nat->Chk:=ZDK (fun _=>k0) 1 k
theorem XH (k:Chk):chs k 0=k0:=rfl
theorem Y4 (k:Chk):chs k 1=k:=rfl
theorem ZEC (k k':Chk):ZDK (chs k) 1 k'=chs k':=by
 funext m
 unfold chs ZDK;split <;> rfl
theorem Vk:perN k0=4:=by decide
theorem Xn:Zu k0=61:=by decide
theorem Jz {T c:Nat->Nat}{k:Chk}(hR:HRep T c 71 2 (chs k)){x:Nat}(h:577<=x/\x < 637\/638<=x/\x < 698\/x < 568):Pay 71 2 (chs k) x:=by
 rcases h with h|h|h
 ·have:=Pay.word hR (k:=0) (j:=0) (a:=x - 576) (by omega) (by rw [XH,Vk];omega) (by omega) (by rw [XH,Xn];omega)
  have e:8 * (71+32 * 0)+hdN (chs k 0) 0+(x - 576)=x:=by rw [XH];unfold hdN;rw [Xn];omega
  rw [e] at this;exact this
 ·have:=Pay.word hR (k:=0) (j:=1) (a:=x - 637) (by omega) (by rw [XH,Vk];omega) (by omega) (by rw [XH,Xn];omega)
  have e:8 * (71+32 * 0)+hdN (chs k 0) 1+(x - 637)=x:=by rw [XH];unfold hdN;rw [Xn];omega
  rw [e] at this;exact this
 ·exact Pay.low (by omega)
theorem lcm {c:Nat->Nat}{v:Nat}{l:List (Nat×Nat)}(hs:l.length<=96)(hl:∀ p∈l,p.1 % 8=0){y:Nat}(hy:y < 80\/288<=y):wrs c (cmL 640 v l).flatten y=wrs c l y:=
 ZI6 (off:=640) (size:=1664) (by omega) (by omega) hl (by omega)
theorem ZEI {T c:Nat->Nat}{k:Chk}(h:HRep T c 71 2 (chs k))(h0:0<=k.cl){tk:List (Nat×Nat)}{dr:List Nat}(hc:k.Can tk dr){lw:List (Nat×Nat)}(hlw:∀ q∈lw,Pay 71 2 (chs k) (q.1 / 8)){v:Nat}(hs:(lw++ZO T 103 k tk dr).length<=96)(hl:∀ p∈lw++ZO T 103 k tk dr,p.1 % 8=0):
 HRep T (wrs c (cmL 640 v (lw++ZO T 103 k tk dr)).flatten) 71 2 (chs (k.after tk dr)):=by
 have h1:=(h.wrs hlw).after (k:=1) (by omega) (by rw [Y4];exact h0) (by rw [Y4];exact hc);rw [Y4,ZEC,<-YA] at h1;refine h1.congr fun x hx=>lcm hs hl (.inr ?_)
 rcases Nat.lt_or_ge x 288 with h|h
 ·exact absurd (Pay.low (by omega)) hx
 ·exact h
theorem ZGX {T c:Nat->Nat}{k:Chk}(h:HRep T c 71 2 (chs k)){lw:List (Nat×Nat)}(hlw:∀ q∈lw,Pay 71 2 (chs k) (q.1 / 8)){v:Nat}(hs:lw.length<=96)(hl:∀ p∈lw,p.1 % 8=0):
 HRep T (wrs c (cmL 640 v lw).flatten) 71 2 (chs k):=by
 refine (h.wrs hlw).congr fun x hx=>lcm hs hl (.inr ?_)
 rcases Nat.lt_or_ge x 288 with h|h
 ·exact absurd (Pay.low (by omega)) hx
 ·exact h
theorem UM {T:Nat->Nat}{line:Nat}{k:Chk}{tk:List (Nat×Nat)}{dr:List Nat}:∀ p∈ZO T line k tk dr,p.1 % 8=0:=by
 intro p hp;unfold ZO YN Yc Qp hdW at hp;simp only [ZK1,ZKz,ZLL] at hp;rcases hp with (⟨q,_,rfl⟩|⟨q,_,rfl⟩)|rfl <;> omega
theorem Q7 {T:Nat->Nat}{line:Nat}{k:Chk}{tk:List (Nat×Nat)}{dr:List Nat}:∀ p∈ZO T line k tk dr,8 * line<=p.1 / 8:=by
 intro p hp;unfold ZO YN Yc Qp hdW at hp;simp only [ZK1,ZKz,ZLL] at hp;rcases hp with (⟨q,_,rfl⟩|⟨q,_,rfl⟩)|rfl <;> simp only <;> omega
theorem Yb (T:Nat->Nat)(line:Nat)(k:Chk)(tk:List (Nat×Nat))(dr:List Nat):(ZO T line k tk dr).length=tk.length+dr.length+1:=by
 unfold ZO YN Yc;simp;omega
theorem ZBK {T c:Nat->Nat}{k:Chk}{tk:List (Nat×Nat)}{dr:List Nat}{lw:List (Nat×Nat)}{v:Nat}(hs:(lw++ZO T 103 k tk dr).length<=96)(hl:∀ p∈lw,p.1 % 8=0){y:Nat}(hy:y < 80\/288<=y/\y < 824):
 wrs c (cmL 640 v (lw++ZO T 103 k tk dr)).flatten y=wrs c lw y:=by
 rw [lcm hs (fun p hp=>(ZK1.1 hp).elim (hl p) (UM p)) (by omega),YA];exact Z2 fun p hp=>by have:=Q7 p hp;omega
def Jm (a b:Nat×Nat):Bool:=decide (a.2 < b.2\/a.2=b.2/\a.1 % 4294967296 < b.1 % 4294967296)
def JZ (x:Nat×Nat):List (Nat×Nat)->List (Nat×Nat)
 |[]=>[x]
 |y:: l=>if Jm x y then x:: y:: l else y:: JZ x l
theorem V9 (x:Nat×Nat):∀ l,(JZ x l).Perm (x:: l)
 |[]=>.refl _
 |y:: l=>by
  unfold JZ;split
  ·exact .refl _
  ·exact ((V9 x l).cons y).trans (.swap x y l)
def Its (l:List (Nat×Nat)):Prop:=l.Pairwise fun a b=>Jm a b=true
theorem ZDZ {a b d:Nat×Nat}(h1:Jm a b=true)(h2:Jm b d=true):Jm a d=true:=by
 unfold Jm at *;simp only [decide_eq_true_eq] at *;omega
theorem ZFB {a b:Nat×Nat}(h1:Jm a b=true)(h2:Jm b a=true):a=b:=by
 unfold Jm at *;simp only [decide_eq_true_eq] at *;omega
theorem ZDY {a b:Nat×Nat}(h:a.1 % 4294967296≠b.1 % 4294967296)(h1:Jm a b=false):Jm b a=true:=by
 unfold Jm at *;simp only [decide_eq_true_eq,decide_eq_false_iff_not] at *;omega
theorem ZAQ {x:Nat×Nat}:∀ {l:List (Nat×Nat)},Its l->(∀ y∈l,x.1 % 4294967296≠y.1 % 4294967296)->Its (JZ x l)
 |[],_,_=>by unfold JZ Its;simp
 |y:: l,h,hx=>by
  have h':=List.pairwise_cons.1 h;unfold JZ;split
  ·rename_i e
   exact List.pairwise_cons.2 ⟨fun z hz=>(List.mem_cons.1 hz).elim (fun q=>q▸e) (fun q=>ZDZ e (h'.1 z q)),h⟩
  ·rename_i e
   have e2:=ZDY (hx y (.head _)) (by simpa using e);refine List.pairwise_cons.2 ⟨fun z hz=>?_,ZAQ h'.2 (fun z hz=>hx z (.tail _ hz))⟩;rcases List.mem_cons.1 ((V9 x l).mem_iff.1 hz) with q|q
   ·exact q▸e2
   ·exact h'.1 z q
theorem Its.unique {l l':List (Nat×Nat)}(h:Its l)(h':Its l')(hp:l.Perm l'):l=l':=
 hp.eq_of_pairwise (fun a b _ _ h1 h2=>ZFB h1 h2) h h'
structure LS where
 k:Chk
 lp:Nat->Nat
 en:List (Nat×Nat)
 its:List (Nat×Nat)
 fr:List Nat
 now:Nat
 ann:Nat->Nat
 na:Nat
 nr:Nat
def LivP (k:Chk)(P j:Nat):Prop:=j < 62/\(k.blk j).st=177/\(k.blk j).kind=65/\P=k.ptr 103 j 65
def full (en:List (Nat×Nat)):List (Nat×Nat):=en.filter fun x=>x.1 != 0
def LS.live (s:LS):List Nat:=((List.range 40).map s.lp++s.en.map (·.1)).filter (· != 0)
structure LS.Ok (s:LS):Prop where
 cl:(s.k.cl=-1/\s.na=0)\/(s.k.cl=0/\s.k.ow=0)
 blk:∀ j,j < 62->(s.k.blk j).st=176\/(s.k.blk j).st=177
 gen:∀ j,(s.k.blk j).gen<=s.fr.length+1/\1<=(s.k.blk j).gen
 liv:∀ P,P∈s.live->∃ j,LivP s.k P j
 nd:s.live.Nodup
 use:∀ j,j < 62->(s.k.blk j).st=177->∃ P∈s.live,LivP s.k P j
 its:Its s.its
 per:s.its.Perm (full s.en)
 ep:∀ x∈s.en,1<=x.2/\x.2<=s.now
 fm:s.en=[]\/full s.en≠[]
 fr:∀ P∈s.fr,∃ j g,j < 62/\1<=g/\g < (s.k.blk j).gen/\P=Yl (s.k.pay 103 j) g 65
 now:2<=s.now
 ann:∀ t,s.ann t<=s.now
 cnt:(((List.range 40).map s.lp).filter (· != 0)).length+s.nr=s.na
 len:s.en.length<=s.nr
 fl:s.fr.length+(full s.en).length<=s.nr
structure LS.Rep (T c c0:Nat->Nat)(s:LS):Prop where
 rep:HRep T c 71 2 (chs s.k)
 log:c 80=0
 nxt:c 577=0
 num:c 578=s.en.length
 ptr:∀ i,i < 29->c (579+2 * i)=(s.en.getD i (0,0)).1
 epo:∀ i,i < s.en.length->c (580+2 * i)=(s.en.getD i (0,0)).2
 lnk:∀ i,i < 40->c (638+i)=s.lp i
 clk:c 560=7309464666214760448+s.now
 rts:∀ y,16<=y->y < 80->c y=c0 y
 n29:s.en.length<=29
end
end Go.Proofs.YteomliechfdhhaaGreatDoor.Dv
