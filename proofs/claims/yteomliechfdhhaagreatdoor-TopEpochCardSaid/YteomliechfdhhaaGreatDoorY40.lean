/- Part 40. -/
import Derived.Test.YteomliechfdhhaaGreatDoorY39
set_option maxHeartbeats 8000000
set_option maxRecDepth 20000
set_option linter.all false
namespace Go.Proofs.YteomliechfdhhaaGreatDoor.Dv
open Tryz
section
open Go.RowKit Go.Proofs.YteomliechfdhhaaGreatDoor.Size
variable {w w':World}{A:DAd}{F:Nat->Option ZK}{L:Nat}{T c c':Nat->Nat}{x x':Nat}{H:HAd}
theorem ZJG:(prog.info? 30).map (fun i=>(i.zero,i.size,i.bytes))=some (some (.int .u64 0),1,8):=by kernel_rfl
theorem ZJ1:El prog 32 30 1 8:=El.of underlying32 ZJG rfl (by omega)
def ptl (l:List Nat):List Value:=l.map fun (n:Nat)=>Value.int .u64 (n:Int)
theorem ZHA (l:List Nat)(n:Nat):ptl (l++[n])=ptl l++[.int .u64 (n:Int)]:=by simp [ptl]
theorem ZGY (l:List (Nat×Nat×Nat))(y:Nat×Nat×Nat):icl (l++[y])=icl l++[.int .i64 y.1,.int .u64 y.2.1,.int .u64 y.2.2]:=by simp [icl]
theorem ZI2 (h:Ar w A F L T c){kb now lib P B:Nat}{an:Nat->Nat}(hk:CkB w A kb now an)(hl:LiB w lib P kb)(hB:w.cell? ⟨B,0,none⟩=some (.pointer (some ⟨lib,0,none⟩))){i q e:Nat}:
 Calls prog 38 #[.agg #[.int .i64 i,.int .u64 q,.int .u64 e],.pointer (some ⟨B,0,none⟩)] w fun r w'=>r=.returned (.bool (YG now an e))/\Bl w w':=by
 obtain ⟨w1,hw1⟩:=xE (w.alloc (.cells #[.int .i64 i,.int .u64 q,.int .u64 e] 115));have hb:Bl w w1:=by rw [hw1];exact ZA bR
 have HB:=zh hb;have HS:=zh (fun (wx:World) (hx:Bl w1 wx)=>ZHm ((h.below hb).below hx) ((hk.below hb).below hx) (e:=e));have c0:=Zp hb hB;have c1:w1.cell? ⟨w.heap.size,2,none⟩=some (.int .u64 e):=by rw [hw1];exact (ZC (ZB w _)).trans rfl
 obtain ⟨_,l1,_⟩:=XX (hl.below hb);have HW:=zh hw1;clear h hk hl hB hb hw1;go_in;go_upto_region 1 with fail;rw [<-HW.o]
 go_quiet (first|(go_at_call 39;exact Zj (HS.o _ (ZY bR))))
 have HB2:=zh (ZY (n:=nq) HB.o);go_wp2;go_returns;exact ⟨rfl,HB2.o⟩
theorem ZGn (V:World):(Instr.makeSlice 181 (.int .i64 1) (.int .i64 1)).run prog V=.ok (.slice (some ⟨V.heap.size,0,none⟩) 1 1) (V.alloc (.cells #[.slice none 0 0] 182)):=by kernel_rfl
def FrS (w3:World)(FB:Nat)(wr:World)(l:List (Nat×Nat×Nat)):Prop:=Bl w3 wr/\∃ v,wr.heap[FB]?=some (.cells #[v] 182 (0,0))/\ItW wr (FB+1) v l
theorem ZIs {w:World}{b:Nat}{e:TypeId}{a0:Value}(h:w.heap[b]?=some (.cells #[a0] e (0,0))):(∀ o,(w.alloc o).cell? ⟨b,0,none⟩=some a0)/\(∀ o,(w.alloc o).frozen? ⟨b,0,none⟩=false):=
 ⟨fun o=>(Ua ((ZI (heap_lt h)).trans h)).1,fun o=>(Ua ((ZI (heap_lt h)).trans h)).2⟩
theorem FrS.below {w3 wr wr':World}{FB:Nat}{l:List (Nat×Nat×Nat)}(h:FrS w3 FB wr l)(hb:Bl wr wr'):FrS w3 FB wr' l:=by
 obtain ⟨h1,v,h2,h3⟩:=h;exact ⟨h1.trans (hb.mono h1.size),v,(hb.block _ (heap_lt h2)).trans h2,ZQ h3 hb⟩
theorem ZCr {α:Type}(p:α->Bool)(l:List α){n:Nat}(hn:n < l.length):(l.take (n+1)).filter p=(l.take n).filter p++if p l[n] then [l[n]] else []:=by
 rw [ZLE hn,ZLU]
 congr 1
 by_cases h:p l[n]=true
 ·simp [h]
 ·simp [h]
def QG (P:Nat)(l:List (Nat×Nat×Nat))(all:Bool):List (Nat×Nat):=l.map (fun y=>(ZM P+8 * (2+2 * y.1),0))++if all then [(ZM P+8 * 1,0)] else []
theorem ZDI (P:Nat)(l:List (Nat×Nat×Nat)):QG P l false=l.map (fun y=>(ZM P+8 * (2+2 * y.1),0)):=by simp [QG]
theorem ZAD (P:Nat)(l:List (Nat×Nat×Nat)):QG P l true=l.map (fun y=>(ZM P+8 * (2+2 * y.1),0))++[(ZM P+8 * 1,0)]:=by simp [QG]
def ColP (w:World)(db P:Nat)(FL:List (Nat×Nat×Nat))(all:Bool)(Q:World->Prop):Prop:=
 FL≠[]->∀ wx,Bl w wx->∀ v tb tc,Wrs wx v (QG P FL all)->Seen wx tb 0 (ptl (FL.map (·.2.1)))->
  Calls prog 26 #[.pointer (some ⟨db,0,none⟩),v,.slice none 0 0,.slice (some ⟨tb,0,none⟩) FL.length tc] wx fun e w'=>e=.returned (.int .i64 0)/\Q w'/\∀ k o,w.heap.size<=k->wx.heap[k]?=some o->w'.heap[k]?=some o
theorem Vo {w:World}{g o b i:Nat}{l:List Value}(h:Seen w g o l)(hb:g≠b)(u:Value):Seen (w.setCell ⟨b,i,none⟩ u) g o l:=fun j v hj=>(ZK8 (ZF hb)).trans (h j v hj)
def ZDu (w:World)(b P nx cnt:Nat)(v:Value):World:=(((w.setCell ⟨b,0,none⟩ (.int .u64 P)).setCell ⟨b,1,none⟩ (.int .u64 nx)).setCell ⟨b,2,none⟩ (.int .i64 cnt)).setCell ⟨b,3,none⟩ v
theorem ZEW {w:World}{b P nx cnt k:Nat}{v:Value}(h:k≠b):(ZDu w b P nx cnt v).heap[k]?=w.heap[k]?:=by
 unfold ZDu;rw [ZF h,ZF h,ZF h,ZF h]
theorem Qf {w0 w:World}{b P nx cnt:Nat}{v:Value}(h:Bl w0 w)(hb:w0.heap.size<=b):Bl w0 (ZDu w b P nx cnt v):=ZE (ZE (ZE (ZE h hb) hb) hb) hb
theorem ZAf {w:World}{g o b P nx cnt:Nat}{v:Value}{l:List Value}(h:Seen w g o l)(hb:g≠b):Seen (ZDu w b P nx cnt v) g o l:=Vo (Vo (Vo (Vo h hb _) hb _) hb _) hb _
theorem ZCi {w:World}{b P nx cnt B:Nat}{v:Value}{e:TypeId}{z n:Nat}{x:Value}{xs:List Value}(h:w.ownsRow B e z x n xs)(hb:b < B):(ZDu w b P nx cnt v).ownsRow B e z x n xs:=Z5 (Z5 (Z5 (Z5 h hb _) hb _) hb _) hb _
theorem ZGd (q e:Nat->Nat):∀ n,∀ y∈itm q e n,y.1 < n
 |0,y,h=>by cases h
 |n+1,y,h=>by
  unfold itm at h;rcases ZK1.1 h with h|h
  ·exact Nat.lt_succ_of_lt (ZGd q e n y h)
  ·split at h
   ·cases h
   ·have:y=(n,q n,e n):=by simpa using h
    subst this;exact Nat.lt_succ_self n
theorem Un (l:List (Nat×Nat))(a b:Nat):ZP (l++[(a,b)])=ZP l++[.int .u64 (a:Nat),.int .u64 (b:Nat)]:=by simp [ZP,u64]
theorem ZBL (h:Ar w A F L T c) {t db lb off size:Nat} (hd:DrW w A F H t db lb off size) {lib P kb cnt now B:Nat} {q e an:Nat->Nat} (hl:LiB w lib P kb) (hk:CkB w A kb now an) (hn:NdC c L P 0 cnt q e)
 (hck:∀ w1,Bl w w1->Calls prog 18 #[.pointer (some ⟨db,0,none⟩),.int .u64 P,.int .u8 12] w1 fun e' w'=>e'=.returned (.int .i64 0)/\Bl w1 w')
 (hB:w.cell? ⟨B,0,none⟩=some (.pointer (some ⟨lib,0,none⟩))){FL:List (Nat×Nat×Nat)}(hFL:FL=(itm q e 29).filter fun y=>YG now an y.2.2){Q:World->Prop}(hpub:ColP w db P FL (FL.length == (itm q e 29).length) Q):
 Calls prog 37 #[.pointer (some ⟨lib,0,none⟩),.iface 27 (.pointer (some ⟨db,0,none⟩)),.func (.func 38) #[] #[.pointer (some ⟨B,0,none⟩)]] w fun e' w'=>e'=.returned (.tuple #[.int .i64 (FL.length:Nat),.int .i64 0])/\(FL=[]/\Bl w w'\/FL≠[]/\Q w'):=by
 have HCH:=zh (UA h hd hl hn hck);have HC1:=zh (fun (w1:World) (hb:Bl w w1) (i q e:Nat)=>ZI2 (h.below hb) (hk.below hb) (hl.below hb) (Zp hb hB) (i:=i) (q:=q) (e:=e));have HPT:=zh (show P < 18446744073709551616/\P≠0 by have:=hn.ok.lt;exact ⟨by omega,hn.ok.ne⟩);have HN29:=zh (Jw q e 29);have HI29:=zh (ZGd q e 29);have HFL:=zh hFL;have HPUB:=zh hpub;clear h hd hl hk hn hck hB hFL hpub;go_in;go_wp2_with fail;refine HCH.o.mono ?_;rintro e' w3 ⟨nv,rfl,g,cap,iv,rfl,hs,hiv,hb3,hg⟩;have HB3:=zh hb3;have HND:=zh (fun (wx:World) (hb:Bl w3 wx)=>hs.below hb nR);have HIT:=zh (fun (wx:World) (hb:Bl w3 wx)=>hiv.itm.below hb);have hisl:∃ a cap,iv=.slice a (itm q e 29).length cap:=ZR hiv;obtain ⟨ia,ic,rfl⟩:=hisl;obtain ⟨IL,hIL⟩:=xE (itm q e 29);rw [<-hIL] at HIT HN29 HI29 HFL HND HPUB;have HC3:=zh (fun (wx:World) (hb:Bl w3 wx)=>HC1.o wx (HB3.o.trans (hb.mono HB3.o.size)));clear hb3 hg hs hiv hIL HCH HC1;obtain ⟨K,hK⟩:=xE IL.length;have HK:=zh hK;rw [<-hK] at HND HIT;clear hK;have hmk:=ZGn;go_wp2_with fail;obtain ⟨FB,hFB⟩:=xE w3.heap.size;obtain ⟨w4,hw4⟩:=xE (w3.alloc (.cells #[.slice none 0 0] 182));have HF0:=zh (show FrS w3 FB w4 [] from by
  rw [hw4,hFB];exact ⟨ZA bR,_,ZB _ _,ZLD _ _ _ _⟩)
 have HFB:=zh (show w3.heap.size<=FB by omega);rw [<-hw4,<-hFB];clear hw4 hFB hmk
 go_loopw [47] (fun i wr=>(i=.int .i64 0/\FrS w3 FB wr [])\/(i=.int .i64 1/\FrS w3 FB wr FL)) (fun i _=>1 - (intOf i).toNat)
 case atStart=>exact .inl ⟨rfl,HF0.o⟩
 case round=>
 rcases hrel with ⟨rfl,hf⟩|⟨rfl,hf⟩
 ·have hs4:=HND.o _ hf.1
  have n0:=hs4 0 _ rfl;have n1:=hs4 1 _ rfl;have n2:=hs4 2 _ rfl;have n3:=hs4 3 _ rfl;have HF:=zh hf;clear hs4 hf HF0;go_wp2_with fail;obtain ⟨w5,hw5⟩:=xE (wr.alloc (.cells #[.int .u64 P,.int .u64 0,.int .i64 cnt,.slice ia K ic] 184));have HF5:=zh (show FrS w3 FB w5 [] by rw [hw5];exact HF.o.below (ZA bR));rw [<-hw5];clear hw5 n0 n1 n2 n3 HF
  go_loopw [55] (fun j wr=>∃ n:Nat,n<=K/\j=.int .i64 n/\FrS w3 FB wr ((IL.take n).filter fun y=>YG now an y.2.2)) (fun j _=>K - (intOf j).toNat)
  case atStart=>exact ⟨0,by omega,rfl,by simpa using HF5.o⟩
  case round=>
  obtain ⟨n,hn,rfl,hf⟩:=hrel
  by_cases hlt:n < K
  ·have b1:(n:Int) < K:=by omega
   have hnl:n < IL.length:=by have:=HK.o;omega
   have b2:(n:Int) < 29:=by have:=HN29.o;omega
   obtain ⟨a0,c0,ea,hgi⟩:=HIT.o _ hf.1;simp only [Value.slice.injEq] at ea;obtain ⟨rfl,-,-⟩:=ea;obtain ⟨gI,rfl,hsI⟩:=hgi (by omega);obtain ⟨y,hy⟩:=xE (IL[n]);have hget:IL[n]?=some y:=by rw [hy];exact ZK9 hnl
   obtain ⟨e0,e1,e2⟩:=UW hget;have t0:=hsI _ _ e0;have t1:=hsI _ _ e1;have t2:=hsI _ _ e2;have HTF:=zh (show (IL.take (n+1)).filter (fun y=>YG now an y.2.2)=(IL.take n).filter (fun y=>YG now an y.2.2)++if YG now an y.2.2 then [y] else [] by rw [ZCr _ _ hnl,hy]);obtain ⟨yi,yq,ye⟩:=y;simp only at t0 t1 t2 HTF;rw [show 0+3 * n=n * 3 by omega] at t0;rw [show 0+(3 * n+1)=n * 3+1 by omega] at t1;rw [show 0+(3 * n+2)=n * 3+2 by omega] at t2;have HF:=zh hf;obtain ⟨_,v0,hv0,ho0⟩:=hf;have HV0:=zh hv0;have HO0:=zh ho0;have HKL:=zh (show ∀ k,v0.ownBlock=some k->k < wr.heap.size from fun k hk=>(ho0.lt k hk).2);have HC:=zh (fun w1 hb=>HC3.o w1 hb yi yq ye);have HNK:=zh (show n < K/\n < 29 from ⟨hlt,by omega⟩);clear hsI hgi e0 e1 e2 hget hy hnl hv0 ho0 hn hlt;go_wp2_with fail;obtain ⟨w6,hw6⟩:=xE (wr.alloc (.cells #[.int .i64 yi,.int .u64 yq,.int .u64 ye] 115));have HF6:=zh (show FrS w3 FB w6 _ by rw [hw6];exact HF.o.below (ZA bR));obtain ⟨IB,hIB⟩:=xE wr.heap.size;have hx6:w6.heap[IB]?=some (.cells #[.int .i64 yi,.int .u64 yq,.int .u64 ye] 115 (0,0)):=by rw [hw6,hIB];exact ZB _ _
   have hbw6:Bl wr w6:=by rw [hw6];exact ZA bR
   rw [<-hIB] at HKL;rw [<-hw6,<-hIB];clear hw6 hIB t0 t1 t2;refine (HC.o _ HF6.o.1).mono ?_;rintro r w7 ⟨rfl,hb7⟩;have HF7:=zh (HF6.o.below hb7);have hx7:=(hb7.block _ (heap_lt hx6)).trans hx6;have hbw7:Bl wr w7:=hbw6.trans (hb7.mono hbw6.size);have HV70:=zh ((hbw7.block _ (heap_lt HV0.o)).trans HV0.o);have HO70:=zh (ZQ HO0.o hbw7);have HX7:=zh hx7;clear hx6 hx7 hb7 HF6 HF HC hbw6 hbw7 HV0 HO0
   by_cases hsf:YG now an ye=true
   ·rw [ZKv hsf] at HTF
    rw [hsf];clear hsf;have hb7:=HF7.o.1;have hv7:=HV70.o;have ho7:=HO70.o;clear HV70 HO70;obtain ⟨va,vc,rfl⟩:=ZR ho7;obtain ⟨M,hM⟩:=xE (((IL.take n).filter fun y=>YG now an y.2.2).length);have HM:=zh (show M<=29 by have h1:=ZLX (fun y:Nat×Nat×Nat=>YG now an y.2.2) (IL.take n);have h2:=List.length_take_le n IL;have:=HNK.o;omega);have HMM:=zh hM;rw [<-hM] at hv7 ho7 HKL;have HV7:=zh hv7;have HO7:=zh (show w7.ownsRow (FB+1) 115 3 (.slice va M vc) M (icl ((IL.take n).filter fun y=>YG now an y.2.2)) from ho7);have HB7:=zh hb7;have HR7:=zh (Below.refl w7.heap.size w7);obtain ⟨x0,x1,x2,_⟩:=Zb HX7.o;obtain ⟨f0,f1⟩:=Ua hv7;obtain ⟨na0,nf0⟩:=ZIs hv7;clear hb7 hv7 ho7 hM;go_upto_region 14 with fail;have HSa:=zh (show (w7.drew).heap[FB]?=some (.cells #[.slice va M vc] 182 (0,0))/\(w7.drew).heap[IB]?=some (.cells #[.int .i64 yi,.int .u64 yq,.int .u64 ye] 115 (0,0))/\Bl w3 (w7.drew) from ⟨HV7.o,HX7.o,ZD HB7.o⟩);have HSb:=zh (fun ob=>show (w7.drew.alloc ob).heap[FB]?=some (.cells #[.slice va M vc] 182 (0,0))/\(w7.drew.alloc ob).heap[IB]?=some (.cells #[.int .i64 yi,.int .u64 yq,.int .u64 ye] 115 (0,0))/\Bl w3 (w7.drew.alloc ob) from ⟨(ZI (heap_lt HSa.o.1)).trans HSa.o.1,(ZI (heap_lt HSa.o.2.1)).trans HSa.o.2.1,ZA HSa.o.2.2⟩);refine Z8 10 (fun wx=>wx.heap[FB]?=some (.cells #[.slice va M vc] 182 (0,0))/\wx.heap[IB]?=some (.cells #[.int .i64 yi,.int .u64 yq,.int .u64 ye] 115 (0,0))/\Bl w3 wx) (by kernel_rfl) ?_;refine YC (i:=0) (z:=10) (v:=.slice (some ⟨FB,0,none⟩) 1 1) (by decide) rfl (by kernel_rfl) (by kernel_rfl) (by kernel_rfl) (by kernel_rfl) (by kernel_rfl) (fun _ _ _ h=>h) (by first|exact HSa.o|exact HSb.o _) (Or.inl ⟨by rfl,fun w' hc=>?_⟩) ?_
    ·go_simp
    (try simp only [Act.put,ZKt,ZKw,ZKx])
    refine YC (i:=1) (z:=10) (v:=.int .i64 0) (by decide) rfl (by kernel_rfl) (by kernel_rfl) (by kernel_rfl) (by kernel_rfl) (by kernel_rfl) (fun _ _ _ h=>h) (by first|exact HSa.o|exact HSb.o _) (Or.inl ⟨by rfl,fun w' hc=>?_⟩) ?_
    ·go_simp
    (try simp only [Act.put,ZKt,ZKw,ZKx])
    refine YC (i:=2) (z:=10) (v:=.slice (some ⟨FB,0,none⟩) 1 1) (by decide) rfl (by kernel_rfl) (by kernel_rfl) (by kernel_rfl) (by kernel_rfl) (by kernel_rfl) (fun _ _ _ h=>h) (by first|exact HSa.o|exact HSb.o _) (Or.inl ⟨by rfl,fun w' hc=>?_⟩) ?_
    ·go_simp
    (try simp only [Act.put,ZKt,ZKw,ZKx])
    refine YC (i:=3) (z:=10) (v:=.int .i64 0) (by decide) rfl (by kernel_rfl) (by kernel_rfl) (by kernel_rfl) (by kernel_rfl) (by kernel_rfl) (fun _ _ _ h=>h) (by first|exact HSa.o|exact HSb.o _) (Or.inl ⟨by rfl,fun w' hc=>?_⟩) ?_
    ·go_simp
    (try simp only [Act.put,ZKt,ZKw,ZKx])
    refine YC (i:=4) (z:=10) (v:=.pointer (some ⟨FB,0,none⟩)) (by decide) rfl (by kernel_rfl) (by kernel_rfl) (by kernel_rfl) (by kernel_rfl) (by kernel_rfl) (fun _ _ _ h=>h) (by first|exact HSa.o|exact HSb.o _) (Or.inl ⟨by rfl,fun w' hc=>?_⟩) ?_
    ·go_simp
    (try simp only [Act.put,ZKt,ZKw,ZKx])
    refine YC (i:=5) (z:=10) (v:=.slice va M vc) (by decide) rfl (by kernel_rfl) (by kernel_rfl) (by kernel_rfl) (by kernel_rfl) (by kernel_rfl) (fun _ _ _ h=>h) (by first|exact HSa.o|exact HSb.o _) (Or.inl ⟨by rfl,fun w' hc=>?_⟩) ?_
    ·have f0':=(Ua hc.1).1;go_simp
    (try simp only [Act.put,ZKt,ZKw,ZKx])
    refine YC (i:=6) (z:=10) (v:=.agg #[.int .i64 yi,.int .u64 yq,.int .u64 ye]) (by decide) rfl (by kernel_rfl) (by kernel_rfl) (by kernel_rfl) (by kernel_rfl) (by kernel_rfl) (fun _ _ _ h=>h) (by first|exact HSa.o|exact HSb.o _) (Or.inl ⟨by rfl,fun w' hc=>?_⟩) ?_
    ·obtain ⟨x0',x1',x2',_⟩:=Zb hc.2.1;go_simp
    (try simp only [Act.put,ZKt,ZKw,ZKx])
    refine YZ (j:=7) (z:=10) (by kernel_rfl) rfl (fun K hK=>?_);go_simp;refine hK _ _ (by first|exact HSa.o|exact HSb.o _) ?_;clear hK K
    (try simp only [Act.put,ZKt,ZKw,ZKx])
    refine YZ (j:=8) (z:=10) (by kernel_rfl) rfl (fun K hK=>?_);refine XM ZIq rfl _ _ rfl #[.int .i64 yi,.int .u64 yq,.int .u64 ye] (ZQ HO7.o (by repeat (with_reducible first|assumption|exact HR7.o|apply ZA|apply ZD))) rfl rfl rfl (fun j u hj=>Yh hj) (by intro u hu;simp at hu;rcases hu with rfl|rfl|rfl <;> rfl) (by have:=HM.o;unfold maxLen;omega) (by have:=HM.o;omega) (by have:=heap_lt HV7.o;simp;omega) ?_;intro g8 cap8 w8 how hgr;have hbx:Bl w3 w8:=ZN (HSb.o _).2.2 hgr (by have:=HB7.o.size;simp;omega) (fun k hk=>by have:=(HO7.o.lt k hk).1;have:=HFB.o;omega);have hf8:w8.heap[FB]?=some (.cells #[.slice va M vc] 182 (0,0)):=(hgr.block FB (heap_lt (HSb.o _).1) (fun q1=>by have:=(HO7.o.lt FB q1.symm).1;omega)).trans (HSb.o _).1;have hi8:w8.heap[IB]?=some (.cells #[.int .i64 yi,.int .u64 yq,.int .u64 ye] 115 (0,0)):=(hgr.block IB (heap_lt (HSb.o _).2.1) (fun q1=>by have:=HKL.o IB q1.symm;omega)).trans (HSb.o _).2.1;refine hK _ _ ⟨hf8,hi8,hbx⟩ ?_;clear hK K
    (try simp only [Act.put,ZKt,ZKw,ZKx])
    refine YC (i:=9) (z:=10) (v:=.pointer (some ⟨FB,0,none⟩)) (by decide) rfl (by kernel_rfl) (by kernel_rfl) (by kernel_rfl) (by kernel_rfl) (by kernel_rfl) (fun _ _ _ h=>h) ⟨hf8,hi8,hbx⟩ (Or.inl ⟨by rfl,fun w' hc=>?_⟩) ?_
    ·go_simp
    (try simp only [Act.put,ZKt,ZKw,ZKx])
    obtain ⟨m8,n8⟩:=Ua hf8;refine UY (z:=10) (by kernel_rfl) rfl (by kernel_rfl) (by kernel_rfl) (fun K hK=>?_);go_simp;refine hK _ _ ?_;clear hK K;have HG:=zh (show FrS w3 FB (w8.setCell ⟨FB,0,none⟩ (.slice (some ⟨g8,0,none⟩) (M+1) cap8)) ((IL.take (n+1)).filter fun y=>YG now an y.2.2) from by
     refine ⟨ZE hbx HFB.o,_,(ZH hf8).trans rfl,?_⟩;rw [HTF.o];unfold ItW;rw [ZK4,ZGY,<-HMM.o];exact Z5 how (Nat.lt_succ_self FB) _)
    clear how hgr hbx hf8 hi8 m8 n8 na0 nf0 x0 x1 x2 f0 f1;have b1:(n:Int) < 29:=by have:=HNK.o;omega
    go_wp2_with fail;exact ⟨⟨n+1,by have:=HNK.o;omega,rfl,HG.o⟩,by have:=HNK.o;simp [intOf];omega⟩
   ·rw [ZKu hsf,List.append_nil] at HTF
    have hsf2:YG now an ye=false:=by simpa using hsf
    rw [hsf2];clear hsf hsf2;go_wp2_with fail;exact ⟨⟨n+1,by have:=HNK.o;omega,rfl,by rw [HTF.o];exact HF7.o⟩,by have:=HNK.o;simp [intOf];omega⟩
  ·obtain rfl:n=K:=by omega
   have d1:¬ (n:Int) < n:=by omega
   have HFF:=zh (show FrS w3 FB wr FL by rw [HFL.o,<-ZLV (l:=IL) (i:=n) (by rw [HK.o];exact nR)];exact hf);clear hf;go_wp2_with fail;exact ⟨.inr ⟨rfl,HFF.o⟩,by simp [intOf]⟩
 ·have hs4:=HND.o _ hf.1
  have n0:=hs4 0 _ rfl;have n1:=hs4 1 _ rfl;have n2:=hs4 2 _ rfl;have n3:=hs4 3 _ rfl;have HF:=zh hf;clear hs4 hf HF0;go_wp2_with fail;obtain ⟨w5,hw5⟩:=xE (wr.alloc (.cells #[.int .u64 P,.int .u64 0,.int .i64 cnt,.slice ia K ic] 184));obtain ⟨BB,hBB⟩:=xE wr.heap.size;have HF5:=zh (show FrS w3 FB w5 FL by rw [hw5];exact HF.o.below (ZA bR));have HB5:=zh (show w5.heap[BB]?=some (ndO P 0 cnt (.slice ia K ic)) by rw [hw5,hBB];exact ZB _ _);have HFBB:=zh (show FB < BB by obtain ⟨_,v9,hv9,_⟩:=HF.o;rw [hBB];exact heap_lt hv9);have HBS:=zh (show w.heap.size<=BB by have h1:=HF.o.1.size;have h2:=HB3.o.size;omega);rw [<-hw5,<-hBB];clear hw5 hBB n0 n1 n2 n3 HF
  go_loopw [79,15] (fun i tot wr=>(i=.int .i64 0/\tot=.int .i64 0/\wr=w5)\/(i=.int .i64 1/\tot=.int .i64 (FL.length:Nat)/\(FL=[]/\Bl w wr\/FL≠[]/\Q wr))) (fun i _ _=>1 - (intOf i).toNat)
  case atStart=>exact .inl ⟨rfl,rfl,rfl⟩
  case round=>
  rcases hrel with ⟨rfl,rfl,hww⟩|⟨rfl,rfl,hq⟩
  ·subst hww
   have hs4:=HND.o _ HF5.o.1;have n0:=hs4 0 _ rfl;have n1:=hs4 1 _ rfl;have n2:=hs4 2 _ rfl;have n3:=hs4 3 _ rfl;obtain ⟨hb5,v5,hv5,ho5⟩:=HF5.o;obtain ⟨va,vc,rfl⟩:=ZR ho5;obtain ⟨FK,hFK⟩:=xE FL.length;have HFK:=zh hFK;have HFI:=zh (show FK<=29 by
    have h1:=ZLX (fun y:Nat×Nat×Nat=>YG now an y.2.2) IL;have:=HN29.o;rw [hFK,HFL.o];omega)
   rw [<-hFK] at hv5 ho5;have HO5:=zh (show wr.ownsRow (FB+1) 115 3 (.slice va FK vc) FK (icl FL) from by
    have:=ho5;unfold ItW at this;rw [<-hFK] at this;exact this)
   have HV5:=zh hv5;obtain ⟨f0,f1⟩:=Ua hv5;obtain ⟨na0,nf0⟩:=ZIs hv5;clear hs4 hv5 ho5 hFK hb5;go_wp2_with fail;obtain ⟨w6,hw6⟩:=xE (wr.alloc (.cells #[.int .u64 P,.int .u64 0,.int .i64 cnt,.slice ia K ic] 184));obtain ⟨NB,hNB⟩:=xE wr.heap.size;have hb6:Bl wr w6:=by rw [hw6];exact ZA bR
   have HN6:=zh (show w6.heap[NB]?=some (ndO P 0 cnt (.slice ia K ic)) by rw [hw6,hNB];exact ZB _ _);have HV6:=zh ((hb6.block _ (heap_lt HV5.o)).trans HV5.o);have HO6:=zh (ZQ HO5.o hb6);have HB6:=zh ((hb6.block _ (heap_lt HB5.o)).trans HB5.o);have HF6:=zh (HF5.o.1.trans (hb6.mono HF5.o.1.size));rw [<-hw6,<-hNB];clear hw6 hNB hb6 n0 n1 n2 n3 f0 f1 na0 nf0 HV5 HO5 HB5 HF5
   go_loopw [89,20] (fun j fv wr=>∃ n:Nat,n<=FK/\j=.int .i64 n/\Bl w6 wr/\wr.ownsRow w6.heap.size 30 1 fv n (ptl ((FL.map (·.2.1)).take n))) (fun j _ _=>FK - (intOf j).toNat)
   case atStart=>exact ⟨0,by omega,rfl,bR,ZLD _ _ _ _⟩
   case round=>
   obtain ⟨n,hn,rfl,hb,ho⟩:=hrel;obtain ⟨fa,fc,rfl⟩:=ZR ho
   by_cases hlt:n < FK
   ·have b1:(n:Int) < FK:=by omega
    have hnl:n < FL.length:=by have:=HFK.o;omega
    have b2:(n:Int) < 29:=by have:=HFI.o;omega
    obtain ⟨gI,cI,eI,hsI,_⟩:=Zi (ZQ HO6.o hb) (by omega);cases eI;obtain ⟨y,hy⟩:=xE (FL[n]);have hget:FL[n]?=some y:=by rw [hy];exact ZK9 hnl
    obtain ⟨e0,e1,e2⟩:=UW hget;have t0:=hsI _ _ e0;have t1:=hsI _ _ e1;have t2:=hsI _ _ e2;have HTF:=zh (show ptl ((FL.map (·.2.1)).take (n+1))=ptl ((FL.map (·.2.1)).take n)++[.int .u64 (y.2.1:Nat)] by rw [ZLE (by simpa using hnl),List.getElem_map,<-hy];exact ZHA _ _);obtain ⟨yi,yq,ye⟩:=y;simp only at t0 t1 t2 HTF;rw [show 0+3 * n=n * 3 by omega] at t0;rw [show 0+(3 * n+1)=n * 3+1 by omega] at t1;rw [show 0+(3 * n+2)=n * 3+2 by omega] at t2;have HB:=zh hb;have HO:=zh ho;have HNK:=zh (show n < FK/\n < 29 from ⟨hlt,by omega⟩);clear hsI e0 e1 e2 hget hy hnl hb ho hn hlt;go_wp2_with (at_builtin;refine ZT ZJ1 rfl _ _ rfl (World.ownsRow.alloc HO.o _) rfl rfl ?c1 rfl ?c2 ?c3 ?c4 ?c5 ?_)
    case c1=>simp
    case c2=>rfl
    case c3=>have:=HNK.o;unfold maxLen;omega
    case c4=>have:=HNK.o;omega
    case c5=>have:=HB.o.size;simp;omega
    intro g9 cap9 w9 hop hgr hg9;have HG:=zh (show Bl w6 w9/\w9.ownsRow w6.heap.size 30 1 (.slice (some ⟨g9,0,none⟩) (n+1) cap9) (n+1) (ptl ((FL.map (·.2.1)).take (n+1))) from by
     refine ⟨ZN (ZA HB.o) hgr (by have:=HB.o.size;simp;omega) (fun k hk=>(HO.o.lt k hk).1),?_⟩;rw [HTF.o];exact hop)
    clear hop hgr hg9 t0 t1 t2 HO HB;go_wp2_with fail;exact ⟨⟨n+1,by have:=HNK.o;omega,rfl,HG.o⟩,by have:=HNK.o;simp [intOf];omega⟩
   ·obtain rfl:n=FK:=by omega
    have d1:¬ (n:Int) < n:=by omega
    have et:(FL.map (·.2.1)).take n=FL.map (·.2.1):=ZLV (by rw [ZK7,HFK.o];exact nR);rw [et] at ho;have HPR:=zh ho;obtain ⟨w8,hw8⟩:=xE wr;rw [<-hw8] at hb HPR ⊢;have HN8:=zh ((hb.block _ (heap_lt HN6.o)).trans HN6.o);have HV8:=zh ((hb.block _ (heap_lt HV6.o)).trans HV6.o);have HO8:=zh (ZQ HO6.o hb);have HB8:=zh ((hb.block _ (heap_lt HB6.o)).trans HB6.o);have HW8:=zh (show Bl w w8 from (HB3.o.trans (HF6.o.mono HB3.o.size)).trans (hb.mono (by have h1:=HB3.o.size;have h2:=HF6.o.size;omega)));have HBB6:=zh (show BB < w6.heap.size from heap_lt HB6.o);clear hw8 hb ho hn hlt et HN6 HV6 HO6 HB6;have b29:(n:Int)<=29:=by have:=HFI.o;omega
    obtain ⟨n0,n1,n2,n3,_⟩:=YS HN8.o;obtain ⟨q0,q1,q2,q3,q4,q5,q6,q7⟩:=YS HB8.o;obtain ⟨f0,f1⟩:=Ua HV8.o
    by_cases hz:n=0
    ·subst hz
     have HNIL:=zh (show FL=[] from ZLM HFK.o.symm);have HE:=zh (show ∀ wx,Bl w wx->(.int .i64 0:Value)=.int .i64 (FL.length:Nat)/\(FL=[]/\Bl w wx\/FL≠[]/\Q wx) from fun wx hx=>⟨by rw [HNIL.o];rfl,.inl ⟨HNIL.o,hx⟩⟩)
     by_cases hk0:K=0
     ·have d2:((0:Int) == (K:Int))=true:=by simp [hk0]
      clear hk0;go_wp2_with fail;exact ⟨.inr ⟨rfl,HE.o _ (by repeat (first|with_reducible exact HW8.o|refine ZE ?_ HBS.o))⟩,by simp [intOf]⟩
     ·have d2:((0:Int) == (K:Int))=false:=by simp;omega
      clear hk0;go_wp2_with fail;exact ⟨.inr ⟨rfl,HE.o _ (by repeat (first|with_reducible exact HW8.o|refine ZE ?_ HBS.o))⟩,by simp [intOf]⟩
    ·have d2:(n:Int) > 0:=by omega
     obtain ⟨EB,hEB⟩:=xE (((n:Int) == (K:Int)));have HEB:=zh (show (FL.length == IL.length)=EB by rw [hEB,<-HFK.o,<-HK.o,Bool.eq_iff_iff];simp;omega);have e1:((n:Int) == (K:Int))=EB:=hEB.symm;have HNN:=zh (show FL≠[] from fun q=>by have:=HFK.o;rw [q] at this;exact hz this);have HPO:=zh (HPUB.o HNN.o);rw [HEB.o] at HPO;clear hEB hz HPUB;obtain ⟨gp,cp,ep,hsp,hgp⟩:=Zi HPR.o (by omega);cases ep;have HSP:=zh hsp;have HGP:=zh (show gp≠BB by have:=HBB6.o;omega);have HBB8:=zh (show BB < w8.heap.size from heap_lt HB8.o);clear hsp hgp;go_wp2_with fail
     go_loopw [132,19] (fun j wv wr=>∃ m:Nat,m<=n/\j=.int .i64 m/\Bl w8 wr/\wr.ownsRow w8.heap.size 155 2 wv m (ZP ((FL.map (fun y:Nat×Nat×Nat=>(ZM P+8 * (2+2 * y.1),0))).take m))) (fun j _ _=>n - (intOf j).toNat)
     case atStart=>exact ⟨0,by omega,rfl,bR,ZLD _ _ _ _⟩
     case round=>
     obtain ⟨m,hm,rfl,hb,ho⟩:=hrel;obtain ⟨pa,pc,rfl⟩:=ZR ho;have HB:=zh hb;have HO:=zh ho;clear n0 n1 n2 n3 q0 q1 q2 q3 q4 q5 q6 q7 f0 f1
     by_cases hlt:m < n
     ·have b1:(m:Int) < n:=by omega
      have hnl:m < FL.length:=by have:=HFK.o;omega
      have b2:(m:Int) < 29:=by have:=HFI.o;omega
      obtain ⟨gI,cI,eI,hsI,_⟩:=Zi (ZQ HO8.o hb) (by omega);cases eI;obtain ⟨y,hy⟩:=xE (FL[m]);have hget:FL[m]?=some y:=by rw [hy];exact ZK9 hnl
      have hy29:y.1 < 29:=by
       have h1:y∈FL:=by rw [hy];exact ZLF _
       rw [HFL.o] at h1;exact HI29.o y (ZLK.1 h1).1
      obtain ⟨e0,e2,e3⟩:=UW hget;have t0:=hsI _ _ e0;have t1:=hsI _ _ e2;have t2:=hsI _ _ e3;have HTF:=zh (show ZP ((FL.map (fun y:Nat×Nat×Nat=>(ZM P+8 * (2+2 * y.1),0))).take (m+1))=ZP ((FL.map (fun y:Nat×Nat×Nat=>(ZM P+8 * (2+2 * y.1),0))).take m)++[.int .u64 ((ZM P+8 * (2+2 * y.1):Nat):Int),.int .u64 (0:Nat)] by rw [ZLE (by simpa using hnl),List.getElem_map,<-hy];exact Un _ _ _);obtain ⟨yi,yq,ye⟩:=y;simp only at t0 t1 t2 HTF hy29;rw [show 0+3 * m=m * 3 by omega] at t0;rw [show 0+(3 * m+1)=m * 3+1 by omega] at t1;rw [show 0+(3 * m+2)=m * 3+2 by omega] at t2;have HAT:=zh (fun (w1:World)=>YK (w:=w1) (p:=P) (k:=2+2 * yi) HPT.o.1 HPT.o.2 (by omega));have HPA:=zh (fun (w1:World)=>Vn (w:=w1) (i:=yi) (by omega));obtain ⟨X2,hX2⟩:=xE (2+2 * yi);rw [<-hX2] at HAT HPA HTF;obtain ⟨A1,hA1⟩:=xE (ZM P+8 * X2);rw [<-hA1] at HAT HTF;have HNK:=zh (show m < n/\m < 29 from ⟨hlt,by omega⟩);clear hsI e0 e2 e3 hget hy hnl hb ho hm hlt hX2 hA1 hy29;go_wp2_with fail;obtain ⟨w9,hw9⟩:=xE (wr.alloc (.cells #[.int .i64 yi,.int .u64 yq,.int .u64 ye] 115));obtain ⟨IB,hIB⟩:=xE wr.heap.size;have hb9:Bl wr w9:=by rw [hw9];exact ZA bR
      have HX9:=zh (show w9.heap[IB]?=some (.cells #[.int .i64 yi,.int .u64 yq,.int .u64 ye] 115 (0,0)) by rw [hw9,hIB];exact ZB _ _);have HO9:=zh (ZQ HO.o hb9);have HB9:=zh (HB.o.trans (hb9.mono HB.o.size));have HN9:=zh ((HB9.o.block _ (heap_lt HN8.o)).trans HN8.o);have HR9:=zh (Below.refl w9.heap.size w9);rw [<-hw9,<-hIB];clear hw9 hIB hb9 t0 t1 t2
      have HS9:=zh (fun (wx:World) (hb:Bl w9 wx)=>show wx.cell? ⟨NB,0,none⟩=some (.int .u64 P)/\wx.cell? ⟨IB,0,none⟩=some (.int .i64 yi) from
       ⟨(YS ((hb.block _ (heap_lt HN9.o)).trans HN9.o)).1,(Zb ((hb.block _ (heap_lt HX9.o)).trans HX9.o)).1⟩)
      go_region_held3 (fun wx=>wx.cell? ⟨NB,0,none⟩=some (.int .u64 P)/\wx.cell? ⟨IB,0,none⟩=some (.int .i64 yi))
       (first|exact hsx|exact HS9.o _ (by repeat (with_reducible first|assumption|exact HR9.o|apply ZA|apply ZD)))
       (first
         |(refine ZJ rfl func77 rfl rfl rfl (HPA.o _) (by first|(simp [Act.eval];done)|(simp [Act.eval];rfl)) ?_;rintro e' V2 ⟨rfl,rfl⟩;refine ⟨_,rfl,?_⟩)
         |(refine ZJ rfl func13 rfl rfl rfl (HAT.o _) (by first|(simp [Act.eval];done)|(simp [Act.eval];rfl)) ?_;rintro e' V2 ⟨rfl,rfl⟩;refine ⟨_,rfl,?_⟩)
         |(refine XM elWrites rfl _ _ rfl #[.int .u64 A1,.int .u64 0] (ZQ HO9.o (by repeat (with_reducible first|assumption|exact HR9.o|apply ZA|apply ZD))) rfl rfl rfl (fun j u hj=>Yh hj) (by intro u hu;simp at hu;rcases hu with rfl|rfl <;> rfl) (by have:=HNK.o;unfold maxLen;omega) (by have:=HNK.o;omega) (by have:=HB9.o.size;simp;omega) ?_;intro g8 cap8 w10 how hgr;have hbx:Bl w8 w10:=ZN (by repeat (with_reducible first|assumption|exact HB9.o|apply ZA|apply ZD)) hgr (by have:=HB9.o.size;simp;omega) (fun k hk=>(HO9.o.lt k hk).1);have hsx:w10.cell? ⟨NB,0,none⟩=some (.int .u64 P)/\w10.cell? ⟨IB,0,none⟩=some (.int .i64 yi):=⟨(YS ((hbx.block _ (heap_lt HN8.o)).trans HN8.o)).1,(Zb ((hgr.block IB (by have:=heap_lt HX9.o;simp;omega) (fun q1=>Zc HO9.o HX9.o (by decide) q1.symm)).trans ((ZI (heap_lt HX9.o)).trans HX9.o))).1⟩))
      all_goals
       have HG:=zh (show Bl w8 w10/\w10.ownsRow w8.heap.size 155 2 (.slice (some ⟨g8,0,none⟩) (m+1) cap8) (m+1) (ZP ((FL.map (fun y:Nat×Nat×Nat=>(ZM P+8 * (2+2 * y.1),0))).take (m+1))) from ⟨hbx,by rw [HTF.o];exact how⟩);clear how hgr hbx hsx;have b3:(m:Int) < 29:=by have:=HNK.o;omega
       go_wp2_with fail;exact ⟨⟨m+1,by have:=HNK.o;omega,rfl,HG.o⟩,by have:=HNK.o;simp [intOf];omega⟩
     ·obtain rfl:m=n:=by omega
      have d3:¬ (m:Int) < m:=by omega
      have et:(FL.map (fun y:Nat×Nat×Nat=>(ZM P+8 * (2+2 * y.1),0))).take m=FL.map (fun y:Nat×Nat×Nat=>(ZM P+8 * (2+2 * y.1),0)):=ZLV (by rw [ZK7,HFK.o];exact nR);rw [et] at ho;have HWO:=zh ho;have hW9:Bl w wr:=HW8.o.trans (hb.mono HW8.o.size);have HW9:=zh hW9;have HN9:=zh ((hb.block _ (heap_lt HN8.o)).trans HN8.o);have HB9:=zh ((hb.block _ (heap_lt HB8.o)).trans HB8.o);have HV9:=zh ((hb.block _ (heap_lt HV8.o)).trans HV8.o);have HSP9:=zh (HSP.o.below hb nR);have HAT1:=zh (fun (w1:World)=>YK (w:=w1) (p:=P) (k:=1) HPT.o.1 HPT.o.2 (by omega));obtain ⟨A1,hA1⟩:=xE (ZM P+8 * 1);have HA1:=zh hA1;rw [<-hA1] at HAT1;have HFBW:=zh (show w.heap.size<=FB by have h1:=HFB.o;have h2:=HB3.o.size;omega);have hm0:¬ (m:Int)=0:=by omega
      have hm1:((m:Int) == 0)=false:=by simp;omega
      have HBW:=zh hb;clear hb ho hm hlt et hA1 HB HO hW9 HO8 HPR;obtain ⟨n0,n1,n2,n3,_⟩:=YS HN9.o;obtain ⟨q0,q1,q2,q3,q4,q5,q6,q7⟩:=YS HB9.o;cases EB with
      |false=>
       obtain ⟨W4,hW4⟩:=xE (ZDu wr BB P 0 cnt (.slice ia K ic));have HB4:=zh (show Bl w W4 by rw [hW4];exact Qf HW9.o HBS.o);have HV4:=zh (show W4.heap[FB]?=some (.cells #[.slice va m vc] 182 (0,0)) by rw [hW4,ZEW (by have:=HFBB.o;omega)];exact HV9.o);have HWS4:=zh (show Wrs W4 (.slice pa m pc) (QG P FL false) from by
        refine VE (B:=w8.heap.size) ?_;unfold Wrt;rw [hW4,ZDI,show (FL.map fun y=>(ZM P+8 * (2+2 * y.1),0)).length=m by rw [ZK7];exact HFK.o.symm];exact ZCi HWO.o HBB8.o)
       have HPB:=zh (HPO.o W4 HB4.o _ gp fc HWS4.o (by rw [hW4];exact ZAf HSP9.o HGP.o));rw [<-HFK.o] at HPB;go_upto_region 44 with fail;rw [show (((wr.setCell ⟨BB,0,none⟩ (.int .u64 P)).setCell ⟨BB,1,none⟩ (.int .u64 0)).setCell ⟨BB,2,none⟩ (.int .i64 cnt)).setCell ⟨BB,3,none⟩ (.slice ia K ic)=W4 from hW4.symm];clear hW4;have hFBc:=(Ua HV4.o).1
       go_wp2_with (first
        |(rw [nilD_publish];exact ⟨rfl,rfl⟩)
        |(go_invoke;go_simp;go_at_call 26;refine HPB.o.mono ?_;rintro e' w9 ⟨rfl,hQ9,hk9⟩;have HK9:=zh hk9;have HQ9:=zh hQ9;clear hk9 hQ9;have hFB9:=(Ua (HK9.o FB _ HFBW.o HV4.o)).1))
       (try go_wp2_with fail)
       exact ⟨.inr ⟨rfl,by rw [<-HFK.o],.inr ⟨HNN.o,HQ9.o⟩⟩,by simp [intOf]⟩
      |true=>
       go_wp2_with fail;refine (HAT1.o _).mono ?_;rintro e' w' ⟨rfl,rfl⟩;go_wp2_with (at_builtin;refine ZT elWrites rfl _ _ rfl HWO.o rfl rfl ?c1 rfl ?c2 ?c3 ?c4 ?c5 ?_)
       case c1=>rfl
       case c2=>exact ⟨rfl,rfl⟩
       case c3=>have:=HFI.o;unfold maxLen;omega
       case c4=>have:=HFI.o;omega
       case c5=>have:=HBW.o.size;omega
       intro g10 cap10 w10 hop10 hgr10 hg10;have hb10:Bl w8 w10:=ZN HBW.o hgr10 HBW.o.size (fun k hk=>(HWO.o.lt k hk).1);have HW10:=zh (HW8.o.trans (hb10.mono HW8.o.size));have HN10:=zh ((hb10.block _ (heap_lt HN8.o)).trans HN8.o);have HB10:=zh ((hb10.block _ (heap_lt HB8.o)).trans HB8.o);have HV10:=zh ((hb10.block _ (heap_lt HV8.o)).trans HV8.o);have HSP10:=zh (HSP.o.below hb10 nR);have HO10:=zh (show w10.ownsRow w8.heap.size 155 2 (.slice (some ⟨g10,0,none⟩) (m+1) cap10) (m+1) (ZP (QG P FL true)) from by
        rw [ZAD,Un,<-HA1.o];exact hop10)
       clear hop10 hgr10 hg10 hb10 n0 n1 n2 n3 q0 q1 q2 q3 q4 q5 q6 q7;obtain ⟨n0,n1,n2,n3,_⟩:=YS HN10.o;obtain ⟨q0,q1,q2,q3,q4,q5,q6,q7⟩:=YS HB10.o;obtain ⟨W4,hW4⟩:=xE (ZDu w10 BB P 0 cnt (.slice ia K ic));have HB4:=zh (show Bl w W4 by rw [hW4];exact Qf HW10.o HBS.o);have HV4:=zh (show W4.heap[FB]?=some (.cells #[.slice va m vc] 182 (0,0)) by rw [hW4,ZEW (by have:=HFBB.o;omega)];exact HV10.o);have HWS4:=zh (show Wrs W4 (.slice (some ⟨g10,0,none⟩) (m+1) cap10) (QG P FL true) from by
        refine VE (B:=w8.heap.size) ?_;unfold Wrt;rw [hW4,show (QG P FL true).length=m+1 by rw [ZAD,ZK4,ZK7,<-HFK.o];rfl];exact ZCi HO10.o HBB8.o)
       have HPB:=zh (HPO.o W4 HB4.o _ gp fc HWS4.o (by rw [hW4];exact ZAf HSP10.o HGP.o));rw [<-HFK.o] at HPB;go_upto_region 44 with fail;rw [show (((w10.setCell ⟨BB,0,none⟩ (.int .u64 P)).setCell ⟨BB,1,none⟩ (.int .u64 0)).setCell ⟨BB,2,none⟩ (.int .i64 cnt)).setCell ⟨BB,3,none⟩ (.slice ia K ic)=W4 from hW4.symm];clear hW4;have hFBc:=(Ua HV4.o).1
       go_wp2_with (first
        |(rw [nilD_publish];exact ⟨rfl,rfl⟩)
        |(go_invoke;go_simp;go_at_call 26;refine HPB.o.mono ?_;rintro e' w9 ⟨rfl,hQ9,hk9⟩;have HK9:=zh hk9;have HQ9:=zh hQ9;clear hk9 hQ9;have hFB9:=(Ua (HK9.o FB _ HFBW.o HV4.o)).1))
       (try go_wp2_with fail)
       exact ⟨.inr ⟨rfl,by rw [<-HFK.o],.inr ⟨HNN.o,HQ9.o⟩⟩,by simp [intOf]⟩
  ·go_wp2
   go_returns;exact ⟨rfl,hq⟩
theorem ColP.below {db P:Nat}{FL:List (Nat×Nat×Nat)}{all:Bool}{Q:World->Prop}(h:ColP w db P FL all Q)(hb:Bl w w'):ColP w' db P FL all Q:=
 fun hne wx hx v tb tc hv hs=>(h hne wx (hb.trans (hx.mono hb.size)) v tb tc hv hs).mono fun e w2 ⟨h1,h2,h3⟩=>⟨h1,h2,fun k o hk=>h3 k o (ZK6 hb.size hk)⟩
theorem ZBI (h:Ar w A F L T c) {t db lb off size:Nat} (hd:DrW w A F H t db lb off size) {lib P kb cnt now:Nat} {q e an:Nat->Nat} (hl:LiB w lib P kb) (hk:CkB w A kb now an) (hn:NdC c L P 0 cnt q e)
 (hck:∀ w1,Bl w w1->Calls prog 18 #[.pointer (some ⟨db,0,none⟩),.int .u64 P,.int .u8 12] w1 fun e' w'=>e'=.returned (.int .i64 0)/\Bl w1 w')
 {FL:List (Nat×Nat×Nat)} (hFL:FL=(itm q e 29).filter fun y=>YG now an y.2.2) {Q:World->Prop} (hpub:ColP w db P FL (FL.length == (itm q e 29).length) Q):
 Calls prog 16 #[.pointer (some ⟨lib,0,none⟩),.iface 27 (.pointer (some ⟨db,0,none⟩))] w fun e' w'=>e'=.returned (.tuple #[.int .i64 (FL.length:Nat),.int .i64 0])/\(FL=[]/\Bl w w'\/FL≠[]/\Q w'):=by
 obtain ⟨w1,hw1⟩:=xE (w.alloc (.cells #[.pointer (some ⟨lib,0,none⟩)] 28));have hb:Bl w w1:=by rw [hw1];exact ZA bR
 have c0:w1.cell? ⟨w.heap.size,0,none⟩=some (.pointer (some ⟨lib,0,none⟩)):=by rw [hw1];exact (Ua (ZB w _)).1
 have HC:=zh (ZBL (h.below hb) (hd.below hb) (hl.below hb) (hk.below hb) hn (fun w2 h2=>hck w2 (hb.trans (h2.mono hb.size))) c0 hFL (hpub.below hb));have HB:=zh hb;have HW:=zh hw1;obtain ⟨N,hN⟩:∃ N:Nat,N=FL.length:=⟨_,rfl⟩
 rw [<-hN] at HC ⊢;clear h hd hl hk hn hck hFL hpub hb hw1 c0 hN;go_in;go_wp2_with fail
 (try rw [<-HW.o])
 refine HC.o.mono ?_;rintro e' w2 ⟨rfl,hq⟩;have HQ:=zh (show FL=[]/\Bl w w2\/FL≠[]/\Q w2 from hq.imp (fun q=>⟨q.1,HB.o.trans (q.2.mono HB.o.size)⟩) id);clear hq;go_wp2;go_returns;exact ⟨rfl,HQ.o⟩
variable {lk:Bool}{p p':Nat->Plc}{ex:Nat}{res held:Nat->Option Nat}{ch:Nat->Chk}
theorem ZBC (h:HW w A F L T c x H lk p ex res held):
 Calls prog 65 #[.pointer (some ⟨H.hb,0,none⟩),.slice none 0 0,.slice none 0 0] w fun e w'=>e=.returned (.tuple #[.slice none 0 0,.int .i64 0])/\Bl w w':=by
 have HDS:=zh (fun (w1:World) (b:Nat) (hb:Seen w1 b 0 [.slice none 0 0,.slice none 0 0])=>XW (w:=w1) (ls:=fun _=>[]) (vs:=fun _=>.slice none 0 0) (fun j _=>.inl ⟨rfl,rfl⟩) (by simp) (by simp) (by simp) hb);have HER:=zh (fun w1 hb=>Zq h.ar h.hp.t w1 hb);have HP:=zh h.hp;obtain ⟨q0,q1,q2,q3,q4,q5,q6,q7,_⟩:=Zz h.hp.hp;obtain ⟨ti,hti⟩:=xE H.t;rw [<-hti] at HER q0;have HTI:=zh hti;have hmm:=@run_makeMap prog;have HB0:=zh (ZA (o:=.cells #[.slice none 0 0,.slice none 0 0] 32) (Below.refl w.heap.size w));clear h hti;go_in;go_wp2_with fail;refine (HDS.o _ _ (Yi _ _ _ _)).mono ?_;rintro e w1 ⟨rfl,hb⟩;have HB:=zh (HB0.o.trans (hb.mono HB0.o.size));clear hb HB0;obtain ⟨r0,r1,r2,r3,r4,r5,r6,r7,_⟩:=Zz (HP.o.below HB.o).hp;rw [<-HTI.o] at r0;go_wp2_with fail;refine (HER.o _ HB.o).mono ?_;rintro e w' ⟨rfl,rfl⟩;go_wp2_with fail
 go_loop [52] (fun i=>i=.int .i64 0) (fun i=>0)
 case atStart=>rfl
 case round=>
 subst hrel;go_wp2_with fail
 go_loop [63] (fun i=>i=.int .i64 0) (fun i=>0)
 case atStart=>rfl
 case round=>
 subst hrel;go_wp2_with fail
 go_loop [78] (fun i=>i=.int .i64 0) (fun i=>0)
 case atStart=>rfl
 case round=>
 subst hrel;go_wp2_with fail
 go_loop [116] (fun i=>i=.int .i64 0) (fun i=>0)
 case atStart=>rfl
 case round=>
 subst hrel;go_wp2_with fail;refine mkeys_any.mono ?_;rintro e w2 ⟨rfl,hww⟩;have hb1:Bl w1 w2:=by rw [hww];exact ZA (ZA (ZA bR))
 have HM:=zh (show UL w2 w1.heap.size 0 (fun _=>none) from (UMap.made prog 3 .i64 cChg w1).kept (by
  rw [hww];exact (ZA (ZA (Below.refl (w1.alloc (.map #[] 0)).heap.size (w1.alloc (.map #[] 0))))).block _ (by simp)))
 obtain ⟨BX,hBX⟩:=xE (((w1.alloc (Obj.map #[] 0)).alloc (Obj.cells #[Value.map (some w1.heap.size)] 239)).heap.size);have HX:=zh (show w2.cell? ⟨BX,0,none⟩=some (.map (some w1.heap.size)) from by rw [hww,hBX,ZC (ZB _ _)];rfl);rw [<-hBX];replace HB:=zh (HB.o.trans (hb1.mono HB.o.size));clear hww hb1 hBX r0 r1 r2 r3 r4 r5 r6 r7 q0 q1 q2 q3 q4 q5 q6 q7;go_wp2_with fail;refine (UH HX.o HM.o (by omega)).mono ?_;rintro e w3 ⟨v,ks,rfl,hks,hrow,hnil,hb⟩;have h0:ks=[]:=by
  cases ks with
  |nil=>rfl
  |cons a l=>have:=(hks.mem a).1 (by simp);simp at this
 subst h0;replace HB:=zh (HB.o.trans (hb.mono HB.o.size));obtain rfl:v=.slice none 0 0:=hnil.2 rfl;clear hnil;clear hks hrow hb HM HX;obtain ⟨r0,r1,r2,r3,r4,r5,r6,r7,_⟩:=Zz (HP.o.below HB.o).hp;rw [<-HTI.o] at r0;go_wp2_with fail
 go_loop [145,28] (fun i o=>i=.int .i64 0/\o=.slice none 0 0) (fun i o=>0)
 case atStart=>exact ⟨rfl,rfl⟩
 case round=>
 obtain ⟨rfl,rfl⟩:=hrel;go_wp2_with fail;refine (HER.o _ HB.o).mono ?_;rintro e w' ⟨rfl,rfl⟩;go_wp2;go_returns;exact ⟨rfl,HB.o⟩
end
end Go.Proofs.YteomliechfdhhaaGreatDoor.Dv
