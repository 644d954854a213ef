/- Part 21. -/
import Derived.Test.YteomliechfdhhaaGreatDoorY19
set_option maxHeartbeats 8000000
set_option maxRecDepth 20000
set_option linter.all false
namespace Go.Proofs.YteomliechfdhhaaGreatDoor.Dv
open Tryz
section
open Go.RowKit Go.Proofs.YteomliechfdhhaaGreatDoor.Size
variable {w w':World}{A:DAd}{F:Nat->Option ZK}{L:Nat}{T c:Nat->Nat}
def V6 (E:Int)(kd p:Nat):Int:=if E=0 then (if kd=0 then 0 else if kd=Z0 p then 0 else 13) else E
theorem Xy (h:Ar w A F L T c){H:HAd}{lk:Bool}(hH:HpW w A H lk){k:Chk}{m:Nat}(hm:m < H.n)(hl:H.l0+32 * m+32<=L)(hR:CRep T c (8 * (H.l0+32 * m)) k)(hk:0<=k.cl){p:Nat}(hp0:p≠0)(hp:p < 72057594037927936)(h1:64 * (H.l0+32 * m)<=ZM p)(h2:ZM p < 64 * (H.l0+32 * m)+2048)(kd:Nat)(hkd:kd < 256):
 Calls prog 42 #[.pointer (some ⟨H.hb,0,none⟩),.int .u64 p,.int .u8 kd] w fun e w'=>e=.returned (.int .i64 (V6 (k.block (H.l0+32 * m) p).2 kd p))/\Bl w w':=by
 have HNI:=zh (fun w1=>Z6 (w:=w1) (p:=p));rw [ZLB hp0] at HNI;have HER:=zh (fun w1 hb=>Zq h hH.t w1 hb);have HOF:=zh (fun w1=>YU (w:=w1) (p:=p) (by omega));have HKI:=zh (fun w1=>Vl (w:=w1) (p:=p) (by omega));have HHO:=zh (fun w1 (hb:Bl w w1)=>QN (hH.below hb) hm h1 h2);obtain ⟨line,hline⟩:=xE (H.l0+32 * m);rw [<-hline] at hl hR HHO ⊢;have HOP:=zh (fun w1 (hb:Bl w w1)=>Yu (h.below hb) hH.t hl hR hk);have HBL:=zh (fun w1 (hb:Bl w w1)=>ZDB (h.below hb) hH.t hl hR hk (p:=p) (by omega));obtain ⟨B,E,hBE⟩:∃ B E,k.block line p=(B,E):=⟨_,_,rfl⟩
 rw [hBE] at HBL ⊢;simp only at HBL ⊢;obtain ⟨c0,c1,c2,c3,c4,c5,c6,c7,_⟩:=Zz hH.hp;have d1:((p:Int) / 72057594037927936 != 0)=false:=by simp;omega
 have hHH:=zh hH;have HB:=zh (Below.refl w.heap.size w);have b0:(p:Int) < 18446744073709551616:=by omega
 obtain ⟨ti,hti⟩:=xE H.t;rw [<-hti] at HER HOP HBL c0;have HTI:=zh hti;unfold chV Xg ptr at *;clear h hH hR hl hk hp0 hp h1 h2 hline hm hBE hti;go_in;go_wp2_with fail;refine (HNI.o _).mono ?_;rintro e w' ⟨rfl,rfl⟩;go_wp2_with fail;refine (HER.o _ HB.o).mono ?_;rintro e w' ⟨rfl,rfl⟩;go_wp2_with fail;refine (HOF.o _).mono ?_;rintro e w' ⟨rfl,rfl⟩;go_wp2_with fail;refine (HHO.o _ HB.o).mono ?_;rintro e w' ⟨rfl,rfl⟩;go_wp2_with fail;refine (HOP.o _ HB.o).mono ?_;rintro e x1 ⟨rfl,hb⟩;replace HB:=zh (HB.o.trans (hb.mono HB.o.size));clear hb c0 c1 c2 c3 c4 c5 c6 c7 b0 d1;replace HB:=zh (ZA (o:=.cells #[.iface 97 (.pointer (some ⟨A.t ti,0,none⟩)),.int .i64 line,.int .i64 k.cl,.int .i64 k.ow,.int .u16 k.gen] 195) HB.o);have HN:=zh (ZB x1 (.cells #[.iface 97 (.pointer (some ⟨A.t ti,0,none⟩)),.int .i64 line,.int .i64 k.cl,.int .i64 k.ow,.int .u16 k.gen] 195));obtain ⟨c0,_⟩:=Zz (hHH.o.below HB.o).hp;rw [<-HTI.o] at c0;go_wp2_with fail;obtain ⟨b0',b1,b2,b3,b4,_⟩:=VH HN.o;refine (HER.o _ HB.o).mono ?_;rintro e w' ⟨rfl,rfl⟩;go_wp2_with fail;refine (HBL.o _ HB.o).mono ?_;rintro e x2 ⟨rfl,hb⟩;replace HB:=zh (HB.o.trans (hb.mono HB.o.size));clear hb HBL
 by_cases hE:E=0
 ·subst hE
  by_cases hz:kd=0
  ·subst hz
   have G:=zh (show V6 0 0 p=0 from rfl);go_wp2;go_returns;exact ⟨congrArg (fun z=>Ending.returned (.int .i64 z)) G.o.symm,HB.o⟩
  ·have d2:((kd:Int) != 0)=true:=by simp;omega
   by_cases hq:kd=Z0 p
   ·have G:=zh (show V6 0 kd p=0 by unfold V6;rw [ZKv rfl,ZKu hz,ZKv hq])
    have d3:((kd:Int) != (Z0 p:Int))=false:=by simp;omega
    clear hz hq;go_wp2_with fail;refine (HKI.o _).mono ?_;rintro e w' ⟨rfl,rfl⟩;go_wp2;go_returns;exact ⟨congrArg (fun z=>Ending.returned (.int .i64 z)) G.o.symm,HB.o⟩
   ·have G:=zh (show V6 0 kd p=13 by unfold V6;rw [ZKv rfl,ZKu hz,ZKu hq])
    have d3:((kd:Int) != (Z0 p:Int))=true:=by simp;omega
    clear hz hq;go_wp2_with fail;refine (HKI.o _).mono ?_;rintro e w' ⟨rfl,rfl⟩;go_wp2;go_returns;exact ⟨congrArg (fun z=>Ending.returned (.int .i64 z)) G.o.symm,HB.o⟩
 ·have G:=zh (show V6 E kd p=E by unfold V6;rw [ZKu hE])
  have d2:(E != 0)=true:=by simpa using hE
  clear hE;go_wp2;go_returns;exact ⟨congrArg (fun z=>Ending.returned (.int .i64 z)) G.o.symm,HB.o⟩
theorem Uk {k:Chk}(hk:k.Head){j:Nat}(hj:j < perN k):4<=Zu k:=by
 have h2:=hk.cl;have hc:k.cl=-1\/k.cl=0\/k.cl=1\/k.cl=2\/k.cl=3\/k.cl=4:=by omega
 unfold perN at hj;unfold Zu;rcases hc with e|e|e|e|e|e <;> rw [e] at hj ⊢ <;> revert hj
 ·intro hj;exact absurd hj (by simp [per])
 all_goals (intro _;decide)
theorem ZGR {k:Chk}(hk:k.Head){j:Nat}(hj:j < perN k):fnd k.cl ((hdN k j+1:Nat):Int)=((j:Int),true):=by
 obtain ⟨z1,z2,z3,z4,z5,z6⟩:=hk.sizes;have hle:=YF hk hj;have hs4:=Uk hk hj;unfold fnd;rw [z1,z2];have e1:(((hdN k j+1:Nat):Int) - 8 - 1)=((j * Zu k:Nat):Int):=by unfold hdN;omega
 rw [e1];have e2:((j * Zu k:Nat):Int) % ((Zu k:Nat):Int)=0:=by rw [<-Int.natCast_emod,Nat.mul_mod_left];rfl
 have e3:((j * Zu k:Nat):Int) / ((Zu k:Nat):Int)=(j:Int):=by rw [<-Int.natCast_ediv,Nat.mul_div_cancel _ (by omega)]
 rw [e2,e3,ZKu (by unfold hdN at *;omega),ZKu (by omega)]
theorem QO (h:Ar w A F L T c){H:HAd}{lk:Bool}(hH:HpW w A H lk){k:Chk}{m:Nat}(hm:m < H.n)(hl:H.l0+32 * m+32<=L)(hR:CRep T c (8 * (H.l0+32 * m)) k)(hk:0<=k.cl){p:Nat}(hp:p < 18446744073709551616){j:Nat}(hj:j < perN k)(ho:ZM p=k.pay (H.l0+32 * m) j):
 Calls prog 124 #[.pointer (some ⟨H.hb,0,none⟩),.int .u64 p] w fun e w'=>e=.returned (.tuple #[.int .i64 ((H.l0+32 * m:Nat):Int),.int .i64 j,.int .i64 k.cl])/\Bl w w':=by
 have hle:=YF hR.head hj;have hst:=Uk hR.head hj;have hL:=h.lines;have HOF:=zh (fun w1=>YU (w:=w1) (p:=p) hp);unfold Chk.pay at ho;have HHO:=zh (fun w1 (hb:Bl w w1)=>QN (hH.below hb) hm (off:=ZM p) (by omega) (by omega));obtain ⟨line,hline⟩:=xE (H.l0+32 * m);rw [<-hline] at hl hR HHO ho ⊢;have HOP:=zh (fun w1 (hb:Bl w w1)=>Yu (h.below hb) hH.t hl hR hk);have HCL:=zh (fun w1=>J8 (w:=w1) (A:=A) (i:=H.t) (line:=line) (k:=k));have HFN:=zh (fun w1 (hb:Bl w w1)=>ZGR hR.head hj▸find_any k.cl ((hdN k j+1:Nat):Int) w1 (h.below hb).tab);obtain ⟨N,hN⟩:=xE (hdN k j+1);rw [<-hN] at HFN;obtain ⟨O,hO⟩:=xE (ZM p);rw [<-hO] at HOF HHO ho;have e1:((O:Int) - (line:Int) * 64) / 8=(N:Int):=by omega
 have b1:(O:Int)<=1000000:=by omega
 have b2:(line:Int) * 64<=(O:Int):=by omega
 have b3:(line:Int)<=4096:=by omega
 have b4:(N:Int)<=256:=by omega
 obtain ⟨c0,c1,c2,c3,c4,c5,c6,c7,_⟩:=Zz hH.hp;have hHH:=zh hH;have HB:=zh (Below.refl w.heap.size w);obtain ⟨ti,hti⟩:=xE H.t;rw [<-hti] at HOP HCL c0;unfold chV Xg ptr at *;clear h hH hR hl hk hp hline hm hti hle hst hL ho hN hO hj;go_in;go_wp2_with fail;refine (HOF.o _).mono ?_;rintro e w' ⟨rfl,rfl⟩;go_wp2_with fail;refine (HHO.o _ HB.o).mono ?_;rintro e w' ⟨rfl,rfl⟩;go_wp2_with fail;refine (HOP.o _ HB.o).mono ?_;rintro e x1 ⟨rfl,hb⟩;replace HB:=zh (HB.o.trans (hb.mono HB.o.size));clear hb c0 c1 c2 c3 c4 c5 c6 c7;go_wp2_with fail;obtain ⟨v1,hv1⟩:∃ v:World,v=x1.alloc (.cells #[.iface 97 (.pointer (some ⟨A.t ti,0,none⟩)),.int .i64 line,.int .i64 k.cl,.int .i64 k.ow,.int .u16 k.gen] 195):=⟨_,rfl⟩
 have HN:=zh (show v1.heap[x1.heap.size]?=some (.cells #[.iface 97 (.pointer (some ⟨A.t ti,0,none⟩)),.int .i64 line,.int .i64 k.cl,.int .i64 k.ow,.int .u16 k.gen] 195) by rw [hv1];exact ZB x1 _);have hb:Bl x1 v1:=by rw [hv1];exact ZA bR
 replace HB:=zh (HB.o.trans (hb.mono HB.o.size));rw [<-hv1];clear hb hv1;obtain ⟨b0',b1',b2',b3',b4',_⟩:=VH HN.o;refine (HOF.o _).mono ?_;rintro e w' ⟨rfl,rfl⟩;go_wp2_with fail;refine (HCL.o _).mono ?_;rintro e v2 ⟨rfl,hb⟩;replace HN:=zh ((hb.block _ (heap_lt HN.o)).trans HN.o);replace HB:=zh (HB.o.trans (hb.mono HB.o.size));clear hb;go_wp2_with fail;clear b0' b1' b2' b3' b4';obtain ⟨b0',b1',b2',b3',b4',_⟩:=VH HN.o;refine (HFN.o _ HB.o).mono ?_;rintro e w' ⟨rfl,rfl⟩;go_wp2_with fail;refine (HCL.o _).mono ?_;rintro e v9 ⟨rfl,hb⟩;replace HB:=zh (HB.o.trans (hb.mono HB.o.size));clear hb b0' b1' b2' b3' b4';go_wp2;go_returns;exact ⟨rfl,HB.o⟩
theorem QU {w:World}{B:Nat}{v:Value}{l:List Nat}(h:w.ownsRow B 3 1 v l.length (l.map fun (n:Nat)=>Value.int .i64 (n:Int))):Nats w v l:=by
 rcases h.2 with ⟨e,e0⟩|⟨g,cap,cur,e,_⟩
 ·exact .inl ⟨e,List.length_eq_zero_iff.1 e0⟩
 ·refine .inr ⟨g,0,cap,e,fun j u hj=>?_⟩
  have:=h.cells (g:=g) (by rw [e];rfl) j u hj;rw [Addr.add_lit] at this;exact this
def Zt (p:Nat->Plc)(th cl:Int)(m:Nat):List Nat:=(List.range m).filter fun j=>decide ((p j).ow=th/\(p j).cl=cl)
theorem ZCh {p:Nat->Plc}{th cl:Int}{m:Nat}(h:(p m).ow=th/\(p m).cl=cl):Zt p th cl (m+1)=Zt p th cl m++[m]:=by
 unfold Zt;rw [ZLN,ZLU];simp [h]
theorem ZBX {p:Nat->Plc}{th cl:Int}{m:Nat}(h:¬ ((p m).ow=th/\(p m).cl=cl)):Zt p th cl (m+1)=Zt p th cl m:=by
 unfold Zt;rw [ZLN,ZLU,List.filter_cons_of_neg (by simpa using h)];simp
theorem ZBW (p:Nat->Plc)(th cl:Int)(m:Nat):(Zt p th cl m).length<=m:=by
 have:=ZLX (fun j=>decide ((p j).ow=th/\(p j).cl=cl)) (List.range m);simpa [Zt] using this
theorem ZHR {p:Nat->Plc}{th cl:Int}{m j:Nat}:j∈Zt p th cl m↔j < m/\(p j).ow=th/\(p j).cl=cl:=by
 unfold Zt;simp
def Z9 (p:Nat->Plc)(l:List Nat):List Nat:=l.map fun j=>(p j).line
def CkR (W:World)(p:Nat->Plc)(th cl:Int)(n:Nat)(v i:Value)(wr:World):Prop:=
 ∃ m:Nat,m<=n/\i=.int .i64 (m:Nat)/\wr.ownsRow W.heap.size 3 1 v (Zt p th cl m).length ((Z9 p (Zt p th cl m)).map fun (n:Nat)=>Value.int .i64 (n:Int))/\Bl W wr
theorem Jh {sb pb t n cap:Nat}{p:Nat->Plc}(h:SetW w sb pb t A n cap p){th cl:Int}(h1:0<=th)(h2:0<=cl):
 Calls prog 164 #[.pointer (some ⟨sb,0,none⟩),.int .i64 th,.int .i64 cl] w fun e w'=>∃ v,e=.returned v/\Nats w' v (Z9 p (Zt p th cl n))/\Bl w w':=by
 obtain ⟨c0,c1⟩:=h.cells;have hs:=h.size;have HS:=zh h;have d1:¬ th < 0:=by omega
 have d2:¬ cl < 0:=by omega
 clear h;go_in;go_wp2_with fail
 go_loopw [7,25] (fun v i wr=>CkR w p th cl n v i wr) (fun _ i _=>n - (intOf i).toNat)
 case atStart=>exact ⟨0,by omega,rfl,ZLD _ _ _ _,bR⟩
 case round=>
  obtain ⟨m,hm,rfl,hown,hbel⟩:=hrel;have HB:=zh hbel;have HO:=zh hown;clear c0 c1;obtain ⟨c0,c1⟩:=(HS.o.below hbel).cells;obtain ⟨ra,rc,hv⟩:=ZR hown;subst hv;clear hbel hown
  by_cases hlt:m < n
  ·have d0:(m:Int) < n:=by omega
   obtain ⟨a0,a1,a2,a3⟩:=(HS.o.below HB.o).at hlt;have hle:=ZBW p th cl m
   by_cases e1:(p m).ow=th
   ·have f1:((p m).ow == th)=true:=by simp [e1]
    by_cases e2:(p m).cl=cl
    ·have f2:((p m).cl == cl)=true:=by simp [e2]
     have HSE:=zh (ZCh (p:=p) (th:=th) (cl:=cl) (m:=m) ⟨e1,e2⟩);obtain ⟨K,hK⟩:=xE ((Zt p th cl m).length);rw [<-hK] at HO hle ⊢;have HK:=zh hK;clear hK e1 e2;go_wp2_with (at_builtin;refine ZT ZA9 rfl _ _ rfl (HO.o.alloc _) rfl rfl ?c1 rfl ?c2 ?c3 ?c4 ?c5 ?_)
     case c1=>simp
     case c2=>first|rfl|simp [Value.oneCell']
     case c3=>unfold maxLen;omega
     case c4=>omega
     case c5=>have:=HB.o.size;simp;omega
     intro g4 cap4 w5 hop5 hgr5 hg5
     have G:=zh (show CkR w p th cl n (.slice (some ⟨g4,0,none⟩) (K+1) cap4) (.int .i64 ((m+1:Nat):Int)) w5 from ⟨m+1,by omega,rfl,by
      rw [HSE.o];unfold Z9;rw [ZK4,ZLH,ZLH,<-HK.o];exact hop5,ZN (Zo HB.o HB.o.size) hgr5 (by have:=HB.o.size;simp;omega) (fun b hb=>(HO.o.lt b hb).1)⟩)
     clear hop5 hgr5 hg5;go_wp2_with fail;go_roundw
     case rel=>simpa using G.o
     case measure=>simp [intOf];omega
    ·have f2:((p m).cl == cl)=false:=by simpa using e2
     have HSE:=zh (ZBX (p:=p) (th:=th) (cl:=cl) (m:=m) (fun q=>e2 q.2));clear e1 e2;go_wp2_with fail;go_roundw
     case rel=>exact ⟨m+1,by omega,by go_num,by rw [HSE.o];exact HO.o.alloc _,Zo HB.o HB.o.size⟩
     case measure=>simp [intOf];omega
   ·have f1:((p m).ow == th)=false:=by simpa using e1
    have HSE:=zh (ZBX (p:=p) (th:=th) (cl:=cl) (m:=m) (fun q=>e1 q.1));clear e1;go_wp2_with fail;go_roundw
    case rel=>exact ⟨m+1,by omega,by go_num,by rw [HSE.o];exact HO.o.alloc _,Zo HB.o HB.o.size⟩
    case measure=>simp [intOf];omega
  ·obtain rfl:m=n:=by omega
   have d0:¬ ((m:Int) < m):=by omega
   go_wp2;go_returns;exact ⟨_,rfl,QU (by unfold Z9;rw [ZK7];exact HO.o),HB.o⟩
variable {c':Nat->Nat}{x x' ex:Nat}{H:HAd}{lk:Bool}{p p':Nat->Plc}{res held:Nat->Option Nat}{ch:Nat->Chk}
theorem HOK.sel (ho:HOK T c L H p ch){th cl:Nat}{m:Nat}(hm:m < (Zt p th cl H.n).length):∃ j,j=(Zt p th cl H.n)[m]/\j < H.n/\(Z9 p (Zt p th cl H.n))[m]'(by unfold Z9;simpa using hm)=H.l0+32 * j/\(ch j).cl=cl/\(ch j).ow=th:=by
 refine ⟨_,rfl,?_⟩;have hj:=ZHR.1 (ZLF hm);refine ⟨hj.1,?_,by rw [<-(ho.cl _ hj.1).1];exact hj.2.2,by rw [<-(ho.cl _ hj.1).2];exact hj.2.1⟩;unfold Z9;rw [List.getElem_map];exact ho.line _ hj.1
theorem ZCG (l:Int)(w:World):(Instr.lookup 142 (.map none) (.int .i64 l) false).run prog w=.ok (.bool false) w:=by kernel_rfl
def ZFx (p:Nat->Plc)(ch:Nat->Chk)(n th cl m:Nat):Prop:=∀ i (hi:i < (Zt p th cl n).length),i < m->(ch (Zt p th cl n)[i]).free 0=-1
theorem QP (h:HW w A F L T c x H lk p ex res held)(ho:HOK T c L H p ch){th cl:Nat}{m:Nat}(hm:m < (Zt p th cl H.n).length)(hf:ZFx p ch H.n th cl m){kind P:Nat}(hwi:∀ w1,Bl w w1->Calls prog 108 #[.pointer (some ⟨H.hb,0,none⟩),.int .i64 ((H.l0+32 * (Zt p th cl H.n)[m]:Nat):Int),.int .u8 kind] w1 fun e w'=>e=.returned (.tuple #[.int .u64 P,.int .i64 0])/\Bl w1 w'):
 Calls prog 106 #[.pointer (some ⟨H.hb,0,none⟩),.int .i64 th,.int .i64 cl,.int .u8 kind] w fun e w'=>e=.returned (.tuple #[.int .u64 P,.int .i64 ((H.l0+32 * (Zt p th cl H.n)[m]:Nat):Int),.int .i64 0])/\Bl w w':=by
 have HCK:=zh (Jh h.set (th:=th) (cl:=cl) (by omega) (by omega));have hfit:∀ j,j < H.n->H.l0+32 * j+32<=L:=fun j hj=>by have:=ho.fit;omega
 have HWF:=zh (fun (i:Nat) (hi:i < (Zt p th cl H.n).length) (hi2:i < m) (w1:World) (hb:Bl w w1)=>show Calls prog 108 #[.pointer (some ⟨H.hb,0,none⟩),.int .i64 ((Z9 p (Zt p th cl H.n))[i]'(by unfold Z9;simpa using hi):Nat),.int .u8 kind] w1 (fun e w'=>e=.returned (.tuple #[.int .u64 0,.int .i64 5])/\Bl w1 w') from by
  obtain ⟨j,hj,h1,h2,h3,h4⟩:=ho.sel hi;rw [h2];exact UV (h.below hb).ar (h.hp.below hb) (hfit j h1) (ho.rep j h1) (by rw [h3];omega) (by rw [hj];exact hf i hi hi2) kind)
 obtain ⟨LM,hLM⟩:=xE (H.l0+32 * (Zt p th cl H.n)[m]);have HWY2:=zh (fun (w1:World) (hb2:Bl w w1)=>show Calls prog 108 #[.pointer (some ⟨H.hb,0,none⟩),.int .i64 LM,.int .u8 kind] w1 (fun e w'=>e=.returned (.tuple #[.int .u64 P,.int .i64 0])/\Bl w1 w') from by
  rw [hLM];exact hwi w1 hb2)
 obtain ⟨jm,hjm,h1,h2,h3,h4⟩:=ho.sel hm;have hlm:(Z9 p (Zt p th cl H.n)).length=(Zt p th cl H.n).length:=by unfold Z9;simp
 have hle:=ZBW p th cl H.n;have hsz:=h.set.size;have hmlt:m < (Z9 p (Zt p th cl H.n)).length:=by rw [hlm];exact hm
 have HLM:=zh hlm;have HL2:=zh (show (Z9 p (Zt p th cl H.n))[m]'hmlt=H.l0+32 * (Zt p th cl H.n)[m] by rw [h2,hjm]);have HMLT:=zh hmlt;have HM:=zh hm;rw [<-hLM] at HL2 ⊢;have HSL:=zh h.set;have HH:=zh h.hp;obtain ⟨N,hN⟩:=xE ((Z9 p (Zt p th cl H.n)).length);have hN200:N<=200:=by omega
 have HN:=zh hN;have hmN:m < N:=by omega
 obtain ⟨c0,c1,c2,c3,c4,c5,c6,c7,_⟩:=Zz h.hp.hp;clear h ho hf hwi hfit hjm h1 h2 h3 h4 hlm hle hsz hLM hN;go_in;go_wp2_with fail;refine HCK.o.mono ?_;rintro e x1 ⟨v,rfl,hnats,hb⟩;obtain ⟨va,vc,rfl⟩:=hnats.len;rw [<-HN.o];have HB:=zh hb;have HNT:=zh hnats;clear hnats hb c0 c1 c2 c3 c4 c5 c6 c7;go_wp2_with fail
 go_loopw [23] (fun i wr=>∃ n:Nat,n<=m/\i=.int .i64 (n:Nat)/\Bl x1 wr) (fun i _=>N - (intOf i).toNat)
 case atStart=>exact ⟨0,by omega,rfl,bR⟩
 case round=>
  obtain ⟨n,hn,rfl,hb⟩:=hrel;have HB2:=zh (HB.o.trans (hb.mono HB.o.size));have HX:=zh hb;have hnN:n < N:=by omega
  have d0:(n:Int) < N:=by omega
  obtain ⟨b2,o2,r2,g2,k2⟩:=(HNT.o.below hb).at (n:=n) (by rw [<-HN.o];exact hnN)
  rw [<-HN.o] at g2;cases g2;obtain ⟨c0,c1,c2,c3,c4,c5,c6,c7,_⟩:=Zz (HH.o.below HB2.o).hp;have hnl:=ZCG;clear hb
  by_cases e:n=m
  ·subst e
   rw [HL2.o] at k2;go_wp2_with fail;refine (HWY2.o _ HB2.o).mono ?_;rintro e x3 ⟨rfl,hb⟩;have HB3:=zh (HB2.o.trans (hb.mono HB2.o.size));clear hb;go_wp2;go_returns;exact ⟨rfl,HB3.o⟩
  ·have HW1:=zh (HWF.o n (by have:=HLM.o;have:=HN.o;omega) (by omega))
   obtain ⟨l,hl⟩:=xE ((Z9 p (Zt p th cl H.n))[n]'(by rw [<-HN.o];exact hnN));rw [<-hl] at k2 HW1;clear hl;go_wp2_with fail;refine (HW1.o _ HB2.o).mono ?_;rintro e x3 ⟨rfl,hb⟩;have HX3:=zh (HX.o.trans (hb.mono HX.o.size));clear hb c0 c1 c2 c3 c4 c5 c6 c7 k2;go_wp2_with fail;go_roundw
   case rel=>exact ⟨n+1,by omega,by go_num,HX3.o⟩
   case measure=>simp [intOf];omega
theorem JY (h:HW w A F L T c x H lk p ex res held)(ho:HOK T c L H p ch){th cl:Nat}{m:Nat}(hm:m < (Zt p th cl H.n).length)(hf:ZFx p ch H.n th cl m){b:Nat}(hb:b < perN (ch (Zt p th cl H.n)[m]))(hfb:(ch (Zt p th cl H.n)[m]).free 0=(b:Int))(hu:(ch (Zt p th cl H.n)[m]).used b=false){kind:Nat}(hkd:1<=kind/\kind<=127)(hn:res ((ch (Zt p th cl H.n)[m]).pay (H.l0+32 * (Zt p th cl H.n)[m]) b)=none):
 Calls prog 106 #[.pointer (some ⟨H.hb,0,none⟩),.int .i64 th,.int .i64 cl,.int .u8 kind] w fun e w'=>e=.returned (.tuple #[.int .u64 ((ch (Zt p th cl H.n)[m]).ptr (H.l0+32 * (Zt p th cl H.n)[m]) b kind),.int .i64 ((H.l0+32 * (Zt p th cl H.n)[m]:Nat):Int),.int .i64 0])/\Bl w w':=by
 refine QP h ho hm hf (fun w1 hb2=>?_);obtain ⟨j,hj,h1,h2,h3,h4⟩:=ho.sel hm;subst hj;exact VT (h.below hb2).ar (h.hp.below hb2) (h.below hb2).rm (by have:=ho.fit;omega) (ho.rep _ h1) (by rw [h3];omega) hb hfb hu hkd hn
theorem UU (h:HW w A F L T c x H lk p ex res held)(ho:HOK T c L H p ch){th cl:Nat}(hf:ZFx p ch H.n th cl (Zt p th cl H.n).length)(kind:Nat):
 Calls prog 106 #[.pointer (some ⟨H.hb,0,none⟩),.int .i64 th,.int .i64 cl,.int .u8 kind] w fun e w'=>e=.returned (.tuple #[.int .u64 0,.int .i64 0,.int .i64 5])/\Bl w w':=by
 have HCK:=zh (Jh h.set (th:=th) (cl:=cl) (by omega) (by omega));have hfit:∀ j,j < H.n->H.l0+32 * j+32<=L:=fun j hj=>by have:=ho.fit;omega
 have HWF:=zh (fun (i:Nat) (hi:i < (Zt p th cl H.n).length) (w1:World) (hb:Bl w w1)=>show Calls prog 108 #[.pointer (some ⟨H.hb,0,none⟩),.int .i64 ((Z9 p (Zt p th cl H.n))[i]'(by unfold Z9;simpa using hi):Nat),.int .u8 kind] w1 (fun e w'=>e=.returned (.tuple #[.int .u64 0,.int .i64 5])/\Bl w1 w') from by
  obtain ⟨j,hj,h1,h2,h3,h4⟩:=ho.sel hi;rw [h2];exact UV (h.below hb).ar (h.hp.below hb) (hfit j h1) (ho.rep j h1) (by rw [h3];omega) (by rw [hj];exact hf i hi hi) kind)
 have hlm:(Z9 p (Zt p th cl H.n)).length=(Zt p th cl H.n).length:=by unfold Z9;simp
 have hle:=ZBW p th cl H.n;have hsz:=h.set.size;have HLM:=zh hlm;have HH:=zh h.hp;obtain ⟨N,hN⟩:=xE ((Z9 p (Zt p th cl H.n)).length);have hN200:N<=200:=by omega
 have HN:=zh hN;obtain ⟨c0,c1,c2,c3,c4,c5,c6,c7,_⟩:=Zz h.hp.hp;clear h ho hf hfit hlm hle hsz hN;go_in;go_wp2_with fail;refine HCK.o.mono ?_;rintro e x1 ⟨v,rfl,hnats,hb⟩;obtain ⟨va,vc,rfl⟩:=hnats.len;rw [<-HN.o];have HB:=zh hb;have HNT:=zh hnats;clear hnats hb c0 c1 c2 c3 c4 c5 c6 c7;go_wp2_with fail
 go_loopw [23] (fun i wr=>∃ n:Nat,n<=N/\i=.int .i64 (n:Nat)/\Bl x1 wr) (fun i _=>N - (intOf i).toNat)
 case atStart=>exact ⟨0,by omega,rfl,bR⟩
 case round=>
  obtain ⟨n,hn,rfl,hb⟩:=hrel;have HB2:=zh (HB.o.trans (hb.mono HB.o.size));have HX:=zh hb
  by_cases hnN:n < N
  ·have d0:(n:Int) < N:=by omega
   obtain ⟨b2,o2,r2,g2,k2⟩:=(HNT.o.below hb).at (n:=n) (by rw [<-HN.o];exact hnN)
   rw [<-HN.o] at g2;cases g2;obtain ⟨c0,c1,c2,c3,c4,c5,c6,c7,_⟩:=Zz (HH.o.below HB2.o).hp;have hnl:=ZCG;clear hb;have HW1:=zh (HWF.o n (by have:=HLM.o;have:=HN.o;omega));obtain ⟨l,hl⟩:=xE ((Z9 p (Zt p th cl H.n))[n]'(by rw [<-HN.o];exact hnN));rw [<-hl] at k2 HW1;clear hl;go_wp2_with fail;refine (HW1.o _ HB2.o).mono ?_;rintro e x3 ⟨rfl,hb⟩;have HX3:=zh (HX.o.trans (hb.mono HX.o.size));clear hb c0 c1 c2 c3 c4 c5 c6 c7 k2;go_wp2_with fail;go_roundw
   case rel=>exact ⟨n+1,by omega,by go_num,HX3.o⟩
   case measure=>simp [intOf];omega
  ·obtain rfl:n=N:=by omega
   have d0:¬ ((n:Int) < n):=by omega
   clear hb;go_wp2;go_returns;exact ⟨rfl,HB2.o⟩
variable {c1:Nat->Nat}{x1:Nat}{p1:Nat->Plc}
theorem Only.grown {G:Nat->Prop}{a w w':World}(h:Only G a w){b:Nat}(hg:w.grownBy w' (some b))(hb:G b):Only G a w':=
 ⟨hg.os.trans h.os,hg.tape.trans h.tape,hg.output.trans h.output,ZK6 h.size hg.size,fun k hk hn=>(hg.block k (ZLC hk h.size) (fun e=>hn (by rw [ZK5 e];exact hb))).trans (h.block k hk hn)⟩
theorem wfI {n:Nat}(h:n<=1000000):(Lit.int .i64 (n:Int)).wf=true:=by
 simp [Lit.wf,IntKind.min,IntKind.max,IntKind.bits,IntKind.signed];omega
theorem HW.ne (h:HW w A F L T c x H lk p ex res held):(H.rb≠H.sb/\H.rb≠H.pb/\H.rb≠H.hb)/\(H.vb≠H.sb/\H.vb≠H.pb/\H.vb≠H.hb):=by
 obtain ⟨D,⟨es,cl,h1,_⟩,_⟩:=h.rm;obtain ⟨D',⟨es',cl',h1',_⟩,_⟩:=h.vm;have h2:=h.hp.hp;have h3:=h.set.set;obtain ⟨cc,h4,_⟩:=h.set.row;refine ⟨⟨fun e=>?_,fun e=>?_,fun e=>?_⟩,⟨fun e=>?_,fun e=>?_,fun e=>?_⟩⟩
 ·rw [<-e,h1] at h3;simp at h3
 ·rw [<-e,h1] at h4;simp at h4
 ·rw [<-e,h1] at h2;simp at h2
 ·rw [<-e,h1'] at h3;simp at h3
 ·rw [<-e,h1'] at h4;simp at h4
 ·rw [<-e,h1'] at h2;simp at h2
theorem HW.keep8 (h:HW w A F L T c x H lk p ex res held){b:Nat}{w8:World}(ho:Only (fun k=>k=b) w w8)(hb:b=H.rb\/b=H.vb):HpW w8 A H lk/\SetW w8 H.sb H.pb H.t A H.n H.cap p:=by
 obtain ⟨⟨n1,n2,n3⟩,n4,n5,n6⟩:=h.ne;refine ⟨h.hp.agree (ho.block _ (heap_lt h.hp.hp) fun e=>?_),h.set.agree (ho.block _ (heap_lt h.set.set) fun e=>?_) (ho.block _ h.set.row.lt fun e=>?_)⟩ <;> (rcases hb with rfl|rfl <;> simp_all)
theorem ZHL (h:HW w A F L T c x H lk p ex res held){w8 w9:World}{res' held':Nat->Option Nat}(ho8:Only (fun k=>k=H.rb) w w8)(hr8:J1 w8 H.rb (ex+1) res')(hg9:w8.grownBy w9 (some H.vb))(hv9:ZBf w9 H.vb (ex+1) held'){j:Nat}(hj:j < H.n)(b:Bool):
 HW (w9.setCell ⟨H.pb,j * 4+3,none⟩ (.bool b)) A F L T c x H lk (XQ p j ⟨(p j).line,(p j).cl,(p j).ow,b⟩) (ex+1) res' held'/\HMv F F H w (w9.setCell ⟨H.pb,j * 4+3,none⟩ (.bool b)):=by
 obtain ⟨⟨n1,n2,n3⟩,n4,n5,n6⟩:=h.ne;obtain ⟨hp8,hs8⟩:=h.keep8 ho8 (.inl rfl);have hs9:SetW w9 H.sb H.pb H.t A H.n H.cap p:=hs8.agree (hg9.block _ (heap_lt hs8.set) (fun e=>n4 (ZK5 e).symm)) (hg9.block _ hs8.row.lt (fun e=>n5 (ZK5 e).symm));have hr9:=hr8.kept (hg9.block _ hr8.lt (fun e=>h.rv (ZK5 e)));have ho9:Only H.own w w9:=Only.grown (ho8.mono fun k e=>.inr (.inl e)) hg9 (.inr (.inr rfl));refine h.owns (ho9.set (.inl rfl) _) (hs9.hold hj b) (hr9.kept (ZF n2)) (hv9.kept (ZF n5))
theorem QM (h:HW w A F L T c x H lk p ex res held){j:Nat}(hj:j < H.n)(hd:∀ m,m < j->0<=(p m).cl)(hc:(p j).cl < 0){k:Chk}(hl:(p j).line+32<=L)(hR:CRep T c (8 * (p j).line) k){cl th:Nat}(hcl:cl<=4)(hth:th < 8)(hx:x+200<=1000000):
 Calls prog 107 #[.pointer (some ⟨H.hb,0,none⟩),.int .i64 th,.int .i64 cl] w fun e w'=>e=.returned (.tuple #[.int .i64 (p j).line,.int .i64 0])/\ClP w A F L T (wrs c (YM T (p j).line (Chk.made cl th k.gen))) (x+200) H lk (XQ p j ⟨(p j).line,cl,th,(p j).held⟩) ex res held w':=by
 have HCL:=zh (ZDr h hj hd hc hl hR hcl hth hx);obtain ⟨c0,c1,c2,c3,c4,c5,c6,c7,_⟩:=Zz h.hp.hp;clear h hd hl hR;go_in;go_wp2_with fail;refine HCL.o.mono ?_;rintro e w1 ⟨rfl,hcl⟩;have HC:=zh hcl;clear hcl c0 c1 c2 c3 c4 c5 c6 c7;go_wp2;go_returns;exact ⟨rfl,HC.o⟩
def ZBe (w:World)(A:DAd)(F:Nat->Option ZK)(L:Nat)(T c:Nat->Nat)(x:Nat)(H:HAd)(lk:Bool)(p:Nat->Plc)(ex:Nat)(res held:Nat->Option Nat)(th cl kind:Nat)(c1:Nat->Nat)(x1:Nat)(p1:Nat->Plc)(P line:Nat):Prop:=
 (c1=c/\x1=x/\p1=p/\∀ w1,Bl w w1->Calls prog 106 #[.pointer (some ⟨H.hb,0,none⟩),.int .i64 th,.int .i64 cl,.int .u8 kind] w1 fun e w'=>e=.returned (.tuple #[.int .u64 P,.int .i64 line,.int .i64 0])/\Bl w1 w')\/
 ((∀ w1,Bl w w1->Calls prog 106 #[.pointer (some ⟨H.hb,0,none⟩),.int .i64 th,.int .i64 cl,.int .u8 kind] w1 fun e w'=>e=.returned (.tuple #[.int .u64 0,.int .i64 0,.int .i64 5])/\Bl w1 w')/\
  (∀ w1,Bl w w1->Calls prog 107 #[.pointer (some ⟨H.hb,0,none⟩),.int .i64 th,.int .i64 cl] w1 fun e w'=>e=.returned (.tuple #[.int .i64 line,.int .i64 0])/\ClP w1 A F L T c1 x1 H lk p1 ex res held w')/\
  (∀ F1 w1,HW w1 A F1 L T c1 x1 H lk p1 ex res held->Calls prog 108 #[.pointer (some ⟨H.hb,0,none⟩),.int .i64 line,.int .u8 kind] w1 fun e w'=>e=.returned (.tuple #[.int .u64 P,.int .i64 0])/\Bl w1 w'))
theorem XC (h:HW w A F L T c x H lk p ex res held) {th cl kind n words:Nat} (hth:th < 8) (hwd:1<=words/\words<=60) (hkd:1<=kind/\kind<=127) (hcs:cls words=((cl:Int),0)) (hcl:cl<=4) (hn:wds cl=(n:Int)) {P line:Nat} (hf:ZBe w A F L T c x H lk p ex res held th cl kind c1 x1 p1 P line)
 (hP:P < 72057594037927936)(hP0:P≠0)(h8:ZM P+8 * n<=64 * L)(hx1:x1+200<=1000000){j:Nat}(hj:j < H.n)(hd:∀ m,m < j->(p1 m).line≠(p1 j).line)(hc:0<=(p1 j).cl)(hline:(p1 j).line=line)(hex:ex+1<=1000000)(hh:(held line).getD 0<=1000000)(hl4:line<=4096):
 Calls prog 56 #[.pointer (some ⟨H.hb,0,none⟩),.int .i64 th,.int .i64 words,.int .u8 kind] w fun e w'=>e=.returned (.tuple #[.int .u64 P,.int .i64 0])/\ClP w A F L T (wrs c1 (YD (ZM P) n)) (x1+200) H lk (XQ p1 j ⟨(p1 j).line,(p1 j).cl,(p1 j).ow,true⟩) (ex+1) (YE res (ZM P) P) (YE held line ((held line).getD 0+1)) w':=by
 have HAR:=zh (fun w1=>VS (w:=w1) hth hwd hkd);have HER:=zh (fun w1 hb=>Zq h.ar h.hp.t w1 hb);have HCS:=zh (fun (w1:World) (hb:Bl w w1)=>hcs▸class_any (words:Int) w1 (h.aq.tab.below hb));obtain ⟨c0,k1,k2,k3,k4,k5,k6,k7,_⟩:=Zz h.hp.hp;have HH:=zh h;have HB:=zh (Below.refl w.heap.size w);obtain ⟨ti,hti⟩:=xE H.t;rw [<-hti] at HER c0;have HTI:=zh hti;have HF:=zh hf;have HZ:=zh (fun (F1:Nat->Option ZK) (w1:World) (h1:HW w1 A F1 L T c1 x1 H lk p1 ex res held)=>ZE6 h1 (q:=P) (by omega) hP0 hcl hn h8 hx1);have HOF:=zh (fun w1=>YU (w:=w1) (p:=P) (by omega));have hpo:=XT P;obtain ⟨O,hO⟩:=xE (ZM P);rw [<-hO] at HZ HOF hpo ⊢;obtain ⟨g,hg⟩:=xE ((held line).getD 0);rw [<-hg] at hh ⊢;have HOU:=zh hpo;have HG:=zh hg;have HJ:=zh hj;have HD:=zh hd;have HC:=zh hc;have HLN:=zh hline;have HEX:=zh hex;clear h hth hwd hkd hcs hcl hn hf hP0 h8 hx1 hti hpo hO hg hj hd hc hline hex;go_in;go_wp2_with fail;refine (HAR.o _).mono ?_;rintro e w' ⟨rfl,rfl⟩;go_wp2_with fail;refine (HER.o _ HB.o).mono ?_;rintro e w' ⟨rfl,rfl⟩;go_wp2_with fail;refine (HCS.o _ HB.o).mono ?_;rintro e w' ⟨rfl,rfl⟩;go_wp2_with fail;rcases HF.o with ⟨rfl,rfl,rfl,hs⟩|⟨hs,hclm,hwi⟩
 ·refine (hs _ HB.o).mono ?_
  rintro e wa ⟨rfl,hb⟩;have HWc:=zh (HH.o.below hb);have HMc:=zh (HMv.of_below (F:=F) (H:=H) hb);obtain ⟨Fc,hFc⟩:=xE F;rw [<-hFc] at HWc;have HMc2:=zh (show HMv F Fc H w wa by rw [hFc];exact HMc.o);clear hb hs hFc HMc c0 k1 k2 k3 k4 k5 k6 k7;go_wp2_with fail;refine (HZ.o _ _ HWc.o).mono ?_;rintro e we ⟨rfl,Fe,hwe,hme⟩;have HWe:=zh hwe;have HMe:=zh (HMc2.o.trans hme);obtain ⟨q0,q1,q2,q3,q4,q5,q6,q7,_⟩:=Zz hwe.hp.hp
  have HOFM:=zh (fun (W:World) (hb:Bl we W)=>show Calls prog 35 #[.int .u64 P] W (fun e w'=>e=.returned (.int .u64 O)/\W=w'/\∃ w8,(Instr.mapUpdate 140 (.map (some H.rb)) (.int .u64 O) (.int .u64 P)).run prog w'=.ok () w8/\Hd (J1 w8 H.rb (ex+1) (YE res O P)/\Only (fun k=>k=H.rb) we w8)) from (HOF.o W).mono (fun e w' ⟨h1,h2⟩=>⟨h1,h2,by
   subst h2;obtain ⟨w8,a1,a2,a3⟩:=(HWe.o.rm.kept (hb.block _ HWe.o.rm.lt)).put underlying29 underlying140 (by have:=HEX.o;unfold maxLen;omega) (n:=O) (wfU (by have:=HOU.o;omega)) P;exact ⟨w8,a1,zh ⟨a2,Only.grown (Only.of_below hb) a3 rfl⟩⟩⟩))
  have HKP:=zh (fun (w1:World) (hb:Bl we w1)=>(show w1.cell? ⟨H.hb,4,none⟩=some (.map (some H.rb)) from (hb.cell (ZK2 _ _ q4)).trans q4));have HK8:=zh (fun (w1:World) (ho:Only (fun k=>k=H.rb) we w1)=>(show w1.cell? ⟨H.hb,4,none⟩=some (.map (some H.rb)) from (ZK8 (ho.block _ (heap_lt HWe.o.hp.hp) (fun e=>HWe.o.ne.1.2.2 e.symm))).trans q4));have HR1:=zh (Below.refl we.heap.size we);clear hwe hme HZ HWc HMc2;go_upto_region 24 with fail
  go_region_held3 (fun w'=>w'.cell? ⟨H.hb,4,none⟩=some (.map (some H.rb)))
   (first|exact HK8.o _ hinf.o.2|exact HKP.o _ (by repeat (with_reducible first|assumption|exact HR1.o|apply ZA|apply ZD)))
   (first
     |(go_at_call 35;refine (HOFM.o _ (by repeat (with_reducible first|assumption|exact HR1.o|apply ZA|apply ZD))).mono ?_;rintro e V1 ⟨rfl,hww,w8,hput,hinf⟩;subst hww))
  obtain ⟨hrm,ho8⟩:=hinf.o;obtain ⟨hp8,hs8⟩:=HWe.o.keep8 ho8 (.inl rfl);have hv8:ZBf w8 H.vb ex held:=HWe.o.vm.kept (ho8.block _ HWe.o.vm.lt (fun e=>HWe.o.rv e.symm));have hwfl:(Lit.int .i64 (line:Int)).wf=true:=wfI (by omega);have hlk:=hv8.look underlying3 underlying141 (ZHh _) hwfl;rw [<-HG.o] at hlk;obtain ⟨w9,hput2,hv9,hg9⟩:=hv8.put underlying3 underlying141 (by have:=HEX.o;unfold maxLen;omega) hwfl (g+1);unfold cInt at hlk hput2;simp only [Int.natCast_add,Int.natCast_one] at hlk hput2;have HRM:=zh hrm;have HO8:=zh ho8;have HV9:=zh hv9;have HG9:=zh hg9;have HS8:=zh hs8;have HP8:=zh hp8;clear hput hrm ho8 hp8 hs8 hv8 hwfl hv9 hg9 q0 q1 q2 q3 q4 q5 q6 q7;obtain ⟨q0,q1,q2,q3,q4,q5,q6,q7,_⟩:=Zz HP8.o.hp;obtain ⟨_,_,_,r3,_,r5,_⟩:=Zz (show w9.heap[H.hb]?=_ from (HG9.o.block _ (heap_lt HP8.o.hp) (fun e=>HWe.o.ne.2.2.2 (ZK5 e).symm)).trans HP8.o.hp);have HHD:=zh (JR (show SetW w9 H.sb H.pb H.t A H.n H.cap p1 from HS8.o.agree (HG9.o.block _ (heap_lt HS8.o.set) (fun e=>HWe.o.ne.2.1 (ZK5 e).symm)) (HG9.o.block _ HS8.o.row.lt (fun e=>HWe.o.ne.2.2.1 (ZK5 e).symm))) HJ.o HD.o HC.o true);rw [HLN.o] at HHD;go_wp2_with fail;refine HHD.o.mono ?_;rintro e w' ⟨rfl,hww⟩;have G:=zh (ZHL HWe.o HO8.o HRM.o HG9.o HV9.o HJ.o true);rw [<-hww] at G;clear hww;go_wp2;go_returns;exact ⟨rfl,Fe,G.o.1,HMe.o.trans G.o.2⟩
 ·refine (hs _ HB.o).mono ?_
  rintro e wb ⟨rfl,hb⟩;have HB2:=zh hb;clear hb hs c0 k1 k2 k3 k4 k5 k6 k7;go_wp2_with fail;refine (hclm _ HB2.o).mono ?_;rintro e wd ⟨rfl,Fc,hwd,hmv⟩;have HWd:=zh hwd;have HMd:=zh ((HMv.of_below (F:=F) (H:=H) HB2.o).trans hmv);clear hwd hmv hclm;go_wp2_with fail;refine (hwi _ _ HWd.o).mono ?_;rintro e wa ⟨rfl,hb⟩;have HWc:=zh (HWd.o.below hb);have HMc2:=zh (HMd.o.trans (HMv.of_below hb));clear hb hwi HWd HMd;go_wp2_with fail;refine (HZ.o _ _ HWc.o).mono ?_;rintro e we ⟨rfl,Fe,hwe,hme⟩;have HWe:=zh hwe;have HMe:=zh (HMc2.o.trans hme);obtain ⟨q0,q1,q2,q3,q4,q5,q6,q7,_⟩:=Zz hwe.hp.hp
  have HOFM:=zh (fun (W:World) (hb:Bl we W)=>show Calls prog 35 #[.int .u64 P] W (fun e w'=>e=.returned (.int .u64 O)/\W=w'/\∃ w8,(Instr.mapUpdate 140 (.map (some H.rb)) (.int .u64 O) (.int .u64 P)).run prog w'=.ok () w8/\Hd (J1 w8 H.rb (ex+1) (YE res O P)/\Only (fun k=>k=H.rb) we w8)) from (HOF.o W).mono (fun e w' ⟨h1,h2⟩=>⟨h1,h2,by
   subst h2;obtain ⟨w8,a1,a2,a3⟩:=(HWe.o.rm.kept (hb.block _ HWe.o.rm.lt)).put underlying29 underlying140 (by have:=HEX.o;unfold maxLen;omega) (n:=O) (wfU (by have:=HOU.o;omega)) P;exact ⟨w8,a1,zh ⟨a2,Only.grown (Only.of_below hb) a3 rfl⟩⟩⟩))
  have HKP:=zh (fun (w1:World) (hb:Bl we w1)=>(show w1.cell? ⟨H.hb,4,none⟩=some (.map (some H.rb)) from (hb.cell (ZK2 _ _ q4)).trans q4));have HK8:=zh (fun (w1:World) (ho:Only (fun k=>k=H.rb) we w1)=>(show w1.cell? ⟨H.hb,4,none⟩=some (.map (some H.rb)) from (ZK8 (ho.block _ (heap_lt HWe.o.hp.hp) (fun e=>HWe.o.ne.1.2.2 e.symm))).trans q4));have HR1:=zh (Below.refl we.heap.size we);clear hwe hme HZ HWc HMc2;go_upto_region 24 with fail
  go_region_held3 (fun w'=>w'.cell? ⟨H.hb,4,none⟩=some (.map (some H.rb)))
   (first|exact HK8.o _ hinf.o.2|exact HKP.o _ (by repeat (with_reducible first|assumption|exact HR1.o|apply ZA|apply ZD)))
   (first
     |(go_at_call 35;refine (HOFM.o _ (by repeat (with_reducible first|assumption|exact HR1.o|apply ZA|apply ZD))).mono ?_;rintro e V1 ⟨rfl,hww,w8,hput,hinf⟩;subst hww))
  obtain ⟨hrm,ho8⟩:=hinf.o;obtain ⟨hp8,hs8⟩:=HWe.o.keep8 ho8 (.inl rfl);have hv8:ZBf w8 H.vb ex held:=HWe.o.vm.kept (ho8.block _ HWe.o.vm.lt (fun e=>HWe.o.rv e.symm));have hwfl:(Lit.int .i64 (line:Int)).wf=true:=wfI (by omega);have hlk:=hv8.look underlying3 underlying141 (ZHh _) hwfl;rw [<-HG.o] at hlk;obtain ⟨w9,hput2,hv9,hg9⟩:=hv8.put underlying3 underlying141 (by have:=HEX.o;unfold maxLen;omega) hwfl (g+1);unfold cInt at hlk hput2;simp only [Int.natCast_add,Int.natCast_one] at hlk hput2;have HRM:=zh hrm;have HO8:=zh ho8;have HV9:=zh hv9;have HG9:=zh hg9;have HS8:=zh hs8;have HP8:=zh hp8;clear hput hrm ho8 hp8 hs8 hv8 hwfl hv9 hg9 q0 q1 q2 q3 q4 q5 q6 q7;obtain ⟨q0,q1,q2,q3,q4,q5,q6,q7,_⟩:=Zz HP8.o.hp;obtain ⟨_,_,_,r3,_,r5,_⟩:=Zz (show w9.heap[H.hb]?=_ from (HG9.o.block _ (heap_lt HP8.o.hp) (fun e=>HWe.o.ne.2.2.2 (ZK5 e).symm)).trans HP8.o.hp);have HHD:=zh (JR (show SetW w9 H.sb H.pb H.t A H.n H.cap p1 from HS8.o.agree (HG9.o.block _ (heap_lt HS8.o.set) (fun e=>HWe.o.ne.2.1 (ZK5 e).symm)) (HG9.o.block _ HS8.o.row.lt (fun e=>HWe.o.ne.2.2.1 (ZK5 e).symm))) HJ.o HD.o HC.o true);rw [HLN.o] at HHD;go_wp2_with fail;refine HHD.o.mono ?_;rintro e w' ⟨rfl,hww⟩;have G:=zh (ZHL HWe.o HO8.o HRM.o HG9.o HV9.o HJ.o true);rw [<-hww] at G;clear hww;go_wp2;go_returns;exact ⟨rfl,Fe,G.o.1,HMe.o.trans G.o.2⟩
def Lg (w:World)(b:Nat)(A:DAd)(t off size:Nat):Prop:=
 w.heap[b]?=some (.cells #[.iface 97 (.pointer (some ⟨A.t t,0,none⟩)),.int .u64 off,.int .u64 size] 234 (0,0))
theorem Lg.below {b t off size:Nat}(h:Lg w b A t off size)(hb:Bl w w'):Lg w' b A t off size:=(hb.block _ (heap_lt h)).trans h
theorem ZAV (w:World)(v:Value)(k:Nat):(method (k+1) 97 v "Size").run prog w=.ok (312,v) w:=by kernel_rfl
theorem ZBJ (h:Ar w A F L T c){b t off size:Nat}(ht:t < 8)(hg:Lg w b A t off size)(hoff:off < 1000000)(hsz:size < 1000000){o:Nat}(h8:o % 8=0)(hL:o < 64 * L)(ho:o < off\/off+size<=o):
 Calls prog 116 #[.pointer (some ⟨b,0,none⟩),.int .u64 o] w fun e w'=>e=.returned (.bool true)/\Bl w w':=by
 have hLL:=h.lines;obtain ⟨c0,c1,c2,_⟩:=Zb hg;have HSZ:=zh (fun w1 hb=>XZ h ht w1 hb);obtain ⟨M,hM⟩:∃ M:Nat,M=L * 64:=⟨_,rfl⟩
 rw [<-hM] at HSZ;have b0:(o:Int)<=1000000:=by omega
 have d1:((o:Int) % 8 == 0)=true:=by simp;omega
 have d2:(o:Int) < (M:Int):=by omega
 have d2':decide ((o:Int) < (M:Int))=true:=by simp;omega
 have k0:=fun p:BW w=>ZV c0 p
 have k1:=fun p:BW w=>ZV c1 p
 have k2:=fun p:BW w=>ZV c2 p
 have HS4:=zh (fun p:BW w=>Yt (HSZ.o p.v p.h))
 by_cases hlt:o < off
 ·have d3:(o:Int) < (off:Int):=by omega
  have d3':decide ((o:Int) < (off:Int))=true:=by simp;omega
  clear h hg h8 hL ho hLL hM c0 c1 c2 hlt ht;go_in;go_wp2_with fail;have hme:=fun p:BW w=>ZAV p.v
  refine Zv (by kernel_rfl) (by kernel_rfl) ?_
  repeat (first|go_big_quiet_step ((go_at_call 312;exact HS4.o _))|quiet_step ((go_at_call 312;exact HS4.o _)))
  refine wpQuiet_nil ?_;rintro _ ⟨q,rfl⟩;have HB:=zh q.h;clear k0 k1 k2 hme;go_wp2;go_returns;exact ⟨rfl,HB.o⟩
 ·have d3:¬ (o:Int) < (off:Int):=by omega
  have d3':decide (o < off)=false:=by simp;omega
  have d4:((o:Int) - (off:Int))>=(size:Int):=by omega
  have d4':decide ((size:Int)<=(o:Int) - (off:Int))=true:=by simp;omega
  have b1:(off:Int)<=(o:Int):=by omega
  clear h hg h8 hL ho hLL hM c0 c1 c2 hlt ht;go_in;go_wp2_with fail;have hme:=fun p:BW w=>ZAV p.v
  refine Zv (by kernel_rfl) (by kernel_rfl) ?_
  repeat (first|go_big_quiet_step ((go_at_call 312;exact HS4.o _))|quiet_step ((go_at_call 312;exact HS4.o _)))
  refine wpQuiet_nil ?_;rintro _ ⟨q,rfl⟩;have HB:=zh q.h;clear k0 k1 k2 hme;go_wp2;go_returns;exact ⟨rfl,HB.o⟩
end
end Go.Proofs.YteomliechfdhhaaGreatDoor.Dv
