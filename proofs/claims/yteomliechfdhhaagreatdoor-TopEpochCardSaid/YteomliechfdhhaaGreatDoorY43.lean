/- Part 43. -/
import Derived.Test.YteomliechfdhhaaGreatDoorY41
import Derived.Test.YteomliechfdhhaaGreatDoorY33
set_option maxHeartbeats 8000000
set_option maxRecDepth 20000
set_option linter.all false
namespace Go.Proofs.YteomliechfdhhaaGreatDoor.Dv
open Tryz
section
open Go.RowKit Go.Proofs.YteomliechfdhhaaGreatDoor.Size
def Uq (n:Nat)(f:Nat->Bool):Bool:=@Nat.rec (fun _=>Bool) true (fun k ih=>match f k with
 |true=>ih
 |false=>false) n
theorem Z1 {f:Nat->Bool}:∀ {n:Nat},Uq n f=true->∀ i,i < n->f i=true
 |0,_,i,hi=>by omega
 |n+1,h,i,hi=>by
  have h:(match f n with
   |true=>Uq n f
   |false=>false)=true:=h
  split at h
  ·by_cases e:i=n
   ·rw [e];assumption
   ·exact Z1 h i (by omega)
  ·cases h
def cz (_:Nat):Nat:=0
def cF (T:Nat->Nat):Nat->Nat:=wrs (wrs (wrs cz (ZE7 2)) (ZJa T)) (ZDS T).flatten
def cO (T:Nat->Nat):Nat->Nat:=wrs (cF T) [(4480,7309464666214760450)]
def kM:Chk:=Chk.made 4 0 1
def cC (T:Nat->Nat):Nat->Nat:=wrs (wrs (cO T) (YM T 71 kM)) (YD (ZM pL) 60)
def cA (T:Nat->Nat):Nat->Nat:=wrs (cC T) (YD (ZM pA) 60)
def l1 (T:Nat->Nat):List (Nat×Nat):=Uw T 0 478392707436 pL++ZO T 71 kM [(0,12)] []
def cP (T:Nat->Nat):Nat->Nat:=wrs (cA T) (cmL 640 (cmV T (l1 T)) (l1 T)).flatten
def kN:Chk:=kM.after [(0,12)] []
def l2 (T:Nat->Nat):List (Nat×Nat):=Uw T 1 125822818283105 pA++ZO T 71 kN [(1,64)] []
def cB (T:Nat->Nat):Nat->Nat:=wrs (cP T) (cmL 640 (cmV T (l2 T)) (l2 T)).flatten
def cw0:Nat->Nat:=cB T0
theorem ZKK:[cF T0 0,cF T0 1,cF T0 2,cF T0 3,cF T0 4,cF T0 5,cF T0 6,cF T0 7]=ZCq T0:=by kernel_rfl
theorem ZKJ:[cF T0 8,cF T0 9,cF T0 10,cF T0 11,cF T0 12,cF T0 13,cF T0 14,cF T0 15]=[0,0,0,0,0,0,0,0]:=by kernel_rfl
theorem ZCW:cF T0 80=0/\cF T0 288=0/\cF T0 496=1836515329/\cF T0 528=1836515329/\cF T0 560=7309464666214760449:=⟨by kernel_rfl,by kernel_rfl,by kernel_rfl,by kernel_rfl,by kernel_rfl⟩
theorem ZKH:Uq 7 (fun k=>Nat.beq (cF T0 (561+k)) 0)=true:=by kernel_rfl
theorem ZKG:Uq 64 (fun y=>Nat.beq (cO T0 (16+y)) 0)=true:=by kernel_rfl
theorem ZHD:cO T0 80=0/\cA T0 80=0/\cP T0 80=0:=⟨by kernel_rfl,by kernel_rfl,by kernel_rfl⟩
theorem ZJX:cO T0 568=ZX T0 kF.info:=by kernel_rfl
theorem ZKI:cO T0 824=ZX T0 kF.info:=by kernel_rfl
theorem ZH4:kF.Head:=⟨by decide,.inl (by decide)⟩
theorem ZDn {c:Nat->Nat}{B:Nat}(h:c B=ZX T0 kF.info):CRep T0 c B kF where
 head:=ZH4
 w0:=h
 bits:=fun h=>absurd h (by decide)
 rest:=fun h=>absurd h (by decide)
 good:=fun h=>absurd h (by decide)
 blk:=fun h=>absurd h (by decide)
def s00:LS:=⟨kF,fun _=>0,[],[],[],2,fun _=>0,0,0⟩
theorem ZKr:cw0 568=ZX T0 k0.info:=by kernel_rfl
theorem ZKs:cw0 824=ZX T0 kF.info:=by kernel_rfl
theorem ZJf:cw0 569=Ze k0.used (perN k0):=by kernel_rfl
theorem ZJg:Uq 8 (fun a=>match Nat.ble 2 a with
 |true=>Nat.beq (cw0 (568+a)) 0
 |false=>true)=true:=by kernel_rfl
theorem ZKP:Uq 4 (fun i=>Nat.beq (cw0 (568+hdN k0 i)) (ZX T0 (k0.blk i).info))=true:=by kernel_rfl
theorem ZKR:Uq 29 (fun i=>Nat.beq (cw0 (579+2 * i)) 0)=true:=by kernel_rfl
theorem ZKQ:Uq 40 (fun i=>Nat.beq (cw0 (638+i)) 0)=true:=by kernel_rfl
theorem ZH3:k0.Head:=⟨by decide,.inr (by decide)⟩
theorem ZH2:∀ i,i < 4->(k0.blk i).Good:=fun i hi=>by
 rcases (show i=0\/i=1\/i=2\/i=3 by omega) with rfl|rfl|rfl|rfl
 ·exact ⟨by decide,.inr (.inl (by decide))⟩
 ·exact ⟨by decide,.inr (.inl (by decide))⟩
 ·exact ⟨by decide,.inl (by decide)⟩
 ·exact ⟨by decide,.inl (by decide)⟩
theorem ZHI:CRep T0 cw0 568 k0 where
 head:=ZH3
 w0:=ZKr
 bits:=fun _=>ZJf
 rest:=fun _ a h2 h8=>by
  have h:=Z1 ZJg a h8;rw [Nat.ble_eq_true_of_le h2] at h;exact ZLP h
 good:=fun _ i hi=>ZH2 i (by rw [Vk] at hi;exact hi)
 blk:=fun _ i hi=>ZLP (Z1 ZKP i (by rw [Vk] at hi;exact hi))
theorem rep_00:s00.Rep T0 cw0 cw0 where
 rep:=fun k hk=>by
  rcases (show k=0\/k=1 by omega) with rfl|rfl
  ·exact ZHI
  ·exact ZDn ZKs
 log:=by kernel_rfl
 nxt:=by kernel_rfl
 num:=by kernel_rfl
 ptr:=fun i hi=>ZLP (Z1 ZKR i hi)
 epo:=fun i hi=>absurd hi (Nat.not_lt_zero _)
 lnk:=fun i hi=>ZLP (Z1 ZKQ i hi)
 clk:=by kernel_rfl
 rts:=fun _ _ _=>rfl
 n29:=by decide
theorem ZGc:s00.Inv 0 where
 ok:={
  cl:=.inl ⟨rfl,rfl⟩
  blk:=fun j _=>.inl rfl
  gen:=fun j=>⟨nR,nR⟩
  liv:=fun P hP=>by
   have h:s00.live=[]:=by kernel_rfl
   rw [h] at hP;cases hP
  nd:=by
   have h:s00.live=[]:=by kernel_rfl
   rw [h];exact List.nodup_nil
  use:=fun j _ h=>by
   have h:(176:Nat)=177:=h;omega
  its:=List.Pairwise.nil
  per:=.refl _
  ep:=fun x hx=>by cases hx
  fm:=.inl rfl
  fr:=fun P hP=>by cases hP
  now:=nR
  ann:=fun t=>Nat.zero_le _
  cnt:=by kernel_rfl
  len:=nR
  fl:=nR}
 k1:=fun _=>rfl
 cnt:=nR
 now:=nR
variable {w w':World}{A:DAd}{F F':Nat->Option ZK}{T c c':Nat->Nat}{x x' L:Nat}
theorem ZHy:(prog.info? 307).map (fun i=>(i.zero,i.size,i.bytes))=some (some (.agg #[.int .i64 0,.int .i64 0,.int .i64 0,.bool false]),4,32):=by kernel_rfl
theorem ZJ0:El prog 356 307 4 32:=El.of underlying356 ZHy rfl (by omega)
def pF:Nat->Plc:=fun j=>if j=0 then ⟨71,-1,-1,false⟩ else plc kF j
def plL (n:Nat):List Value:=(List.range n).flatMap fun m=>[.int .i64 ((71+32 * m:Nat):Int),.int .i64 (-1),.int .i64 (-1),.bool false]
theorem ZG2 (n:Nat):plL (n+1)=plL n++[.int .i64 ((71+32 * n:Nat):Int),.int .i64 (-1),.int .i64 (-1),.bool false]:=by unfold plL;rw [ZLN,List.flatMap_append];rfl
def ZIY (A:DAd)(v:Value):Obj:=.cells #[.iface 97 (.pointer (some ⟨A.t 0,0,none⟩)),v] 358 (0,0)
def AoR (W:World)(A:DAd)(sb:Nat)(i:Value)(wr:World):Prop:=
 ∃ m v,m<=2/\i=.int .i64 (m:Nat)/\wr.heap[sb]?=some (ZIY A v)/\wr.ownsRow W.heap.size 307 4 v m (plL m)/\Bl W wr
theorem ZEc (h:Ar w A F 160 T c)(h0:CRep T c 568 kF)(h1:CRep T c 824 kF):
 Calls prog 160 #[.iface 97 (.pointer (some ⟨A.t 0,0,none⟩)),.int .i64 71,.int .i64 64] w fun e w'=>∃ sb pb cap,e=.returned (.tuple #[.pointer (some ⟨sb,0,none⟩),.int .i64 0])/\SetW w' sb pb 0 A 2 cap pF/\Bl w w'/\w.heap.size<=sb/\w.heap.size<=pb:=by
 have HV:=zh (J6 h);have HE:=zh (fun (w1:World) (hb:Bl w w1)=>Zq h (i:=0) (by omega) w1 hb);have HLK:=zh (fun (m:Nat) (hm:m < 2) (wx:World) (hb:Bl w wx)=>show Calls prog 138 #[.iface 97 (.pointer (some ⟨A.t 0,0,none⟩)),.int .i64 ((71+32 * m:Nat):Int)] wx (fun e w'=>e=.returned (.tuple #[.agg #[.int .i64 (-1),.int .i64 (-1),.int .u16 1],.int .i64 0])/\Bl wx w') from by
  have:=QS (h.below hb) (i:=0) (by omega) (line:=71+32 * m) (by omega) (k:=kF) (by
   rcases (show m=0\/m=1 by omega) with rfl|rfl
   ·exact h0
   ·exact h1)
  exact this)
 have HR:=zh (Below.refl w.heap.size w);have hne:=YP;clear h h0 h1;go_in;go_wp2_with fail;refine HV.o.mono ?_;rintro e w' ⟨rfl,rfl⟩;go_wp2_with fail;refine (HE.o w HR.o).mono ?_;rintro e w' ⟨rfl,rfl⟩;go_upto_region 7 with fail;obtain ⟨w2,hw2⟩:=xE (w.alloc (ZIY A (.slice none 0 0)));obtain ⟨sb,hsb⟩:=xE w.heap.size;have HST:=zh (show AoR w A sb (.int .i64 (0:Nat)) w2 from ⟨0,.slice none 0 0,by omega,rfl,by rw [hw2,hsb];exact ZB _ _,ZLD _ _ _ _,by rw [hw2];exact ZA HR.o⟩);have HSB:=zh (show w.heap.size<=sb by rw [hsb];exact nR);unfold ZIY at hw2;rw [<-hw2,<-hsb];clear hw2 hsb;go_wp2_with fail
 go_loopw [29] (fun i wr=>AoR w A sb i wr) (fun i _=>2 - (intOf i).toNat)
 case atStart=>exact HST.o
 case round=>
 obtain ⟨m,v,hm,rfl,hset,hown,hb⟩:=hrel
 by_cases hlt:m < 2
 ·have d0:(m:Int) < 2:=by omega
  have HL:=zh (HLK.o m hlt);have HW:=zh hb;have HSE:=zh hset;have HO:=zh hown;have HM:=zh hlt;clear hset hown hb hm hlt;rw [show (((71+32 * m:Nat):Int))=71+(m:Int) * 32 by omega] at HL;go_wp2_with fail;refine (HL.o _ HW.o).mono ?_;rintro e w3 ⟨rfl,hb3⟩;have HB3:=zh (HW.o.trans (hb3.mono HW.o.size));have HS3:=zh ((hb3.block _ (heap_lt HSE.o)).trans HSE.o);have HO3:=zh (ZQ HO.o hb3);clear hb3;go_upto_region 14 with fail;unfold ZIY at HS3;obtain ⟨w4,hw4⟩:=xE (w3.alloc (.cells #[.int .i64 (-1),.int .i64 (-1),.int .u16 1] 193));obtain ⟨hd,hhb⟩:=xE w3.heap.size;have h34:Bl w3 w4:=by rw [hw4];exact ZA bR
  have HB4:=zh (HB3.o.trans (h34.mono HB3.o.size));have HS4:=zh ((h34.block _ (heap_lt HS3.o)).trans HS3.o);have HO4:=zh (ZQ HO3.o h34);have HH4:=zh (show w4.heap[hd]?=some (.cells #[.int .i64 (-1),.int .i64 (-1),.int .u16 1] 193 (0,0)) by rw [hw4,hhb];exact ZB _ _);rw [<-hw4,<-hhb];clear hw4 hhb h34;obtain ⟨ln,hln⟩:∃ ln:Int,ln=71+(m:Int) * 32:=⟨_,rfl⟩
  have HLN:=zh (show (.int .i64 ln:Value)=.int .i64 ((71+32 * m:Nat):Int) by rw [hln];congr 1;omega);rw [<-hln];clear hln;obtain ⟨w5,hw5⟩:=xE w4.drew;have HB5:=zh (show Bl w w5 by rw [hw5];exact ZD HB4.o);have HS5:=zh (show w5.heap[sb]?=some (.cells #[.iface 97 (.pointer (some ⟨A.t 0,0,none⟩)),v] 358 (0,0)) by rw [hw5];exact HS4.o);have HH5:=zh (show w5.heap[hd]?=some (.cells #[.int .i64 (-1),.int .i64 (-1),.int .u16 1] 193 (0,0)) by rw [hw5];exact HH4.o);have HO5:=zh (show w5.ownsRow w.heap.size 307 4 v m (plL m) by rw [hw5];exact ZQ HO4.o (ZD bR));have HS0:=zh (show Bl w w5/\w5.heap[sb]?=some (.cells #[.iface 97 (.pointer (some ⟨A.t 0,0,none⟩)),v] 358 (0,0))/\w5.heap[hd]?=some (.cells #[.int .i64 (-1),.int .i64 (-1),.int .u16 1] 193 (0,0)) from ⟨HB5.o,HS5.o,HH5.o⟩);have HS1:=zh (fun o=>show Bl w (w5.alloc o)/\(w5.alloc o).heap[sb]?=some (.cells #[.iface 97 (.pointer (some ⟨A.t 0,0,none⟩)),v] 358 (0,0))/\(w5.alloc o).heap[hd]?=some (.cells #[.int .i64 (-1),.int .i64 (-1),.int .u16 1] 193 (0,0)) from ⟨ZA HB5.o,(ZI (heap_lt HS5.o)).trans HS5.o,(ZI (heap_lt HH5.o)).trans HH5.o⟩);refine Z8 15 (fun wx=>Bl w wx/\wx.heap[sb]?=some (.cells #[.iface 97 (.pointer (some ⟨A.t 0,0,none⟩)),v] 358 (0,0))/\wx.heap[hd]?=some (.cells #[.int .i64 (-1),.int .i64 (-1),.int .u16 1] 193 (0,0))) (by kernel_rfl) ?_;rw [<-hw5];clear hw5;refine Yr (i:=0) (z:=15) (v:=.pointer (some ⟨sb,0,none⟩)) rfl (by kernel_rfl) (fun _ _ _ h=>h) HS0.o rfl (fun w' hc=>by go_simp) ?_
  (try simp only [Act.put,ZK3,ZKy,ZK0,ZKt,ZKw,ZKx])
  refine Yr (i:=1) (z:=15) (v:=.pointer (some ⟨sb,0,none⟩)) rfl (by kernel_rfl) (fun _ _ _ h=>h) HS0.o rfl (fun w' hc=>by go_simp) ?_
  (try simp only [Act.put,ZK3,ZKy,ZK0,ZKt,ZKw,ZKx])
  refine Yr (i:=2) (z:=15) (v:=.pointer (some ⟨sb,0,none⟩)) rfl (by kernel_rfl) (fun _ _ _ h=>h) HS0.o rfl (fun w' hc=>by go_simp) ?_
  (try simp only [Act.put,ZK3,ZKy,ZK0,ZKt,ZKw,ZKx])
  refine Yr (i:=3) (z:=15) (v:=.pointer (some ⟨sb,1,none⟩)) rfl (by kernel_rfl) (fun _ _ _ h=>h) HS0.o rfl (fun w' hc=>by go_simp) ?_
  (try simp only [Act.put,ZK3,ZKy,ZK0,ZKt,ZKw,ZKx])
  refine Yr (i:=4) (z:=15) (v:=v) rfl (by kernel_rfl) (fun _ _ _ h=>h) HS0.o rfl (fun w' hc=>by have z:=(XX hc.2.1).2.1;go_simp) ?_
  (try simp only [Act.put,ZK3,ZKy,ZK0,ZKt,ZKw,ZKx])
  refine Yr (i:=5) (z:=15) (v:=.int .i64 ln) rfl (by kernel_rfl) (fun _ _ _ h=>h) HS0.o rfl (fun w' hc=>by go_simp) ?_
  (try simp only [Act.put,ZK3,ZKy,ZK0,ZKt,ZKw,ZKx])
  refine Yr (i:=6) (z:=15) (v:=.pointer (some ⟨hd,0,none⟩)) rfl (by kernel_rfl) (fun _ _ _ h=>h) HS0.o rfl (fun w' hc=>by go_simp) ?_
  (try simp only [Act.put,ZK3,ZKy,ZK0,ZKt,ZKw,ZKx])
  refine Yr (i:=7) (z:=15) (v:=.int .i64 (-1)) rfl (by kernel_rfl) (fun _ _ _ h=>h) HS0.o rfl (fun w' hc=>by have z:=(Zb hc.2.2).1;go_simp) ?_
  (try simp only [Act.put,ZK3,ZKy,ZK0,ZKt,ZKw,ZKx])
  refine Yr (i:=8) (z:=15) (v:=.pointer (some ⟨hd,1,none⟩)) rfl (by kernel_rfl) (fun _ _ _ h=>h) HS0.o rfl (fun w' hc=>by go_simp) ?_
  (try simp only [Act.put,ZK3,ZKy,ZK0,ZKt,ZKw,ZKx])
  refine Yr (i:=9) (z:=15) (v:=.int .i64 (-1)) rfl (by kernel_rfl) (fun _ _ _ h=>h) HS0.o rfl (fun w' hc=>by have z:=(Zb hc.2.2).2.1;go_simp) ?_
  (try simp only [Act.put,ZK3,ZKy,ZK0,ZKt,ZKw,ZKx])
  refine Yr (i:=10) (z:=15) (v:=.agg #[.int .i64 ln,.int .i64 (-1),.int .i64 (-1),.bool false]) rfl (by kernel_rfl) (fun _ _ _ h=>h) HS0.o rfl (fun w' hc=>by go_simp) ?_
  (try simp only [Act.put,ZK3,ZKy,ZK0,ZKt,ZKw,ZKx])
  refine YZ (j:=11) (z:=15) (by kernel_rfl) rfl (fun K hK=>?_);go_simp;refine hK _ _ (HS1.o _) ?_;clear hK K
  (try simp only [Act.put,ZK3,ZKy,ZK0,ZKt,ZKw,ZKx])
  refine YZ (j:=12) (z:=15) (by kernel_rfl) rfl (fun K hK=>?_);refine Y8 ZJ0 rfl _ _ rfl (cs:=#[.int .i64 ln,.int .i64 (-1),.int .i64 (-1),.bool false]) HO5.o rfl rfl rfl rfl (by intro u hu;simp at hu;rcases hu with rfl|rfl|rfl|rfl <;> rfl) (by unfold maxLen;have:=HM.o;omega) (by have:=HM.o;omega) HB5.o.size (fun g cap w7 how hgr=>?_);have hx7:Bl w w7:=ZN HB5.o hgr HB5.o.size (fun k hk=>(HO5.o.lt k hk).1);have hs7:w7.heap[sb]?=some (.cells #[.iface 97 (.pointer (some ⟨A.t 0,0,none⟩)),v] 358 (0,0)):=(hgr.block sb (heap_lt HS5.o) (fun e=>Zc HO5.o HS5.o (by decide) e.symm)).trans HS5.o;have hh7:w7.heap[hd]?=some (.cells #[.int .i64 (-1),.int .i64 (-1),.int .u16 1] 193 (0,0)):=(hgr.block hd (heap_lt HH5.o) (fun e=>Zc HO5.o HH5.o (by decide) e.symm)).trans HH5.o;have n7:=(XX hs7).2.2.2;have m7:=(XX hs7).2.1;refine hK _ _ ⟨hx7,hs7,hh7⟩ ?_;clear hK K
  (try simp only [Act.put,ZK3,ZKy,ZK0,ZKt,ZKw,ZKx])
  refine YZ (j:=13) (z:=15) (by kernel_rfl) rfl (fun K hK=>?_);go_simp;refine hK _ _ ⟨hx7,hs7,hh7⟩ ?_;clear hK K
  (try simp only [Act.put,ZK3,ZKy,ZK0,ZKt,ZKw,ZKx])
  refine YZ (j:=14) (z:=15) (by kernel_rfl) rfl (fun K hK=>?_);go_simp;refine hK _ _ ⟨hx7,hs7,hh7⟩ ?_;clear hK K
  (try simp only [Act.put,ZK3,ZKy,ZK0,ZKt,ZKw,ZKx])
  refine UY (z:=15) (by kernel_rfl) rfl (by kernel_rfl) (by kernel_rfl) (fun K hK=>?_);go_simp;refine hK _ _ ?_;clear hK K
  have HF:=zh (show AoR w A sb (.int .i64 ((m+1:Nat):Int)) (w7.setCell ⟨sb,1,none⟩ (.slice (some ⟨g,0,none⟩) (m+1) cap)) from ⟨m+1,_,by have:=HM.o;omega,rfl,(ZH hs7).trans rfl,by
   rw [ZG2];exact Z4 (HLN.o▸how) ((Only.refl (fun k=>k=sb) w7).set (F:=fun k=>k=sb) rfl _) (fun k hk q=>Zc how hs7 (by decide) (q▸hk)),ZE hx7 HSB.o⟩)
  clear how hgr hx7 hs7 hh7 n7 m7;have hM:=HM.o;go_wp2_with fail;exact ⟨by simpa using HF.o,by simp [intOf];omega⟩
 ·obtain rfl:m=2:=by omega
  have HE2:=zh (show ∃ pb cap,SetW wr sb pb 0 A 2 cap pF/\Bl w wr/\w.heap.size<=sb/\w.heap.size<=pb from by
   rcases hown.2 with ⟨_,e⟩|⟨g,cap,cur,rfl,hg,hbk,hn,hc,hz,ht⟩
   ·omega
   ·refine ⟨g,cap,⟨hset,⟨cur,hbk,by omega,fun y hy=>?_⟩,by omega⟩,hb,HSB.o,hg⟩
    have e:cur[y]?=(plL 2)[y]?:=by
     rw [<-ht,List.getElem?_take_of_lt (by omega),ZLS]
    rw [e];rcases (show y=0\/y=1\/y=2\/y=3\/y=4\/y=5\/y=6\/y=7 by omega) with rfl|rfl|rfl|rfl|rfl|rfl|rfl|rfl <;> rfl)
  clear hset hown hb hm hlt;go_wp2;go_returns;obtain ⟨pb,cap,h1⟩:=HE2.o;exact ⟨sb,pb,cap,rfl,h1⟩
theorem ZDw {sb pb cap:Nat}(h:SetW w sb pb 0 A 2 cap pF){m:Nat}(hm:m < 2):
 Calls prog 162 #[.pointer (some ⟨sb,0,none⟩),.int .i64 ((71+32 * m:Nat):Int)] w fun e w'=>e=.returned (.int .i64 (-1))/\w=w':=by
 have hl:∀ k,k < 2->(pF k).line=71+32 * k/\(pF k).ow=-1:=fun k hk=>by
  rcases (show k=0\/k=1 by omega) with rfl|rfl <;> exact ⟨rfl,rfl⟩
 have HFI:=zh (show Calls prog 171 #[.pointer (some ⟨sb,0,none⟩),.int .i64 ((71+32 * m:Nat):Int)] w (fun e w'=>e=.returned (.pointer (some ⟨pb,m * 4,none⟩))/\w=w') from by
  have:=ZAg h hm (fun k hk=>by rw [(hl k (by omega)).1,(hl m hm).1];omega);rw [(hl m hm).1] at this;exact this)
 have c2:=(h.at hm).2.2.1;rw [(hl m hm).2] at c2;clear h hl hm;go_in;go_wp2_with fail;refine HFI.o.mono ?_;rintro e w' ⟨rfl,rfl⟩;go_wp2;go_returns;exact ⟨rfl,rfl⟩
def lnL (n:Nat):List Nat:=(List.range n).map fun m=>71+32 * m
theorem ZGj (n:Nat):lnL (n+1)=lnL n++[71+32 * n]:=by unfold lnL;rw [ZLN,ZLH];rfl
theorem Jx (n:Nat):(lnL n).length=n:=by simp [lnL]
def LnR (W:World)(v i:Value)(wr:World):Prop:=
 ∃ m:Nat,m<=2/\i=.int .i64 (m:Nat)/\wr.ownsRow W.heap.size 3 1 v m ((lnL m).map fun (n:Nat)=>Value.int .i64 (n:Int))/\Bl W wr
theorem ZDv {sb pb cap:Nat}(h:SetW w sb pb 0 A 2 cap pF):
 Calls prog 161 #[.pointer (some ⟨sb,0,none⟩)] w fun e w'=>∃ v,e=.returned v/\Nats w' v (lnL 2)/\Bl w w':=by
 have hl:∀ k,k < 2->(pF k).line=71+32 * k:=fun k hk=>by
  rcases (show k=0\/k=1 by omega) with rfl|rfl <;> rfl
 have HS:=zh (fun (wx:World) (hb:Bl w wx) (m:Nat) (hm:m < 2)=>show wx.cell? ⟨pb,m * 4,none⟩=some (.int .i64 ((71+32 * m:Nat):Int))/\∃ a b z,wx.cell? ⟨pb,m * 4+1,none⟩=some (.int .i64 a)/\wx.cell? ⟨pb,m * 4+2,none⟩=some (.int .i64 b)/\wx.cell? ⟨pb,m * 4+3,none⟩=some (.bool z) from by
  have ha:=(h.below hb).at hm;rw [hl m hm] at ha;exact ⟨ha.1,_,_,_,ha.2.1,ha.2.2.1,ha.2.2.2⟩)
 obtain ⟨c0,c1⟩:=h.cells;clear h hl;go_in;go_wp2_with fail
 go_loopw [3,13] (fun v i wr=>LnR w v i wr) (fun _ i _=>2 - (intOf i).toNat)
 case atStart=>exact ⟨0,by omega,rfl,ZLD _ _ _ _,bR⟩
 case round=>
  obtain ⟨m,hm,rfl,hown,hbel⟩:=hrel;have HB:=zh hbel;have HO:=zh hown;obtain ⟨ra,rc,hv⟩:=ZR hown;subst hv;clear hbel hown c0 c1
  by_cases hlt:m < 2
  ·have d0:(m:Int) < 2:=by omega
   obtain ⟨a0,va,vb,vz,a1,a2,a3⟩:=HS.o _ HB.o m hlt;have HM:=zh hlt;obtain ⟨ln,hln⟩:∃ ln:Int,ln=((71+32 * m:Nat):Int):=⟨_,rfl⟩
   rw [<-hln] at a0;have HLN:=zh hln;clear hm hlt hln;go_wp2_with (at_builtin;refine ZT ZA9 rfl _ _ rfl (HO.o.alloc _) rfl rfl ?c1 rfl ?c2 ?c3 ?c4 ?c5 ?_)
   case c1=>simp
   case c2=>first|rfl|simp [Value.oneCell']
   case c3=>unfold maxLen;have:=HM.o;omega
   case c4=>have:=HM.o;omega
   case c5=>have:=HB.o.size;simp;omega
   intro g4 cap4 w5 hop5 hgr5 hg5
   have G:=zh (show LnR w (.slice (some ⟨g4,0,none⟩) (m+1) cap4) (.int .i64 ((m+1:Nat):Int)) w5 from ⟨m+1,by have:=HM.o;omega,rfl,by
    rw [ZGj,ZLH,List.map_cons,List.map_nil,<-HLN.o];exact hop5,ZN (Zo HB.o HB.o.size) hgr5 (by have:=HB.o.size;simp;omega) (fun b hb=>(HO.o.lt b hb).1)⟩)
   clear hop5 hgr5 hg5 a0 a1 a2 a3;have hM:=HM.o;go_wp2_with fail;go_roundw
   case rel=>simpa using G.o
   case measure=>simp [intOf];omega
  ·obtain rfl:m=2:=by omega
   clear hm hlt;go_wp2;go_returns;exact ⟨_,rfl,QU HO.o,HB.o⟩
theorem ZE5 (h:Aq w A F 160 T c x)(h0:CRep T c 568 kF)(h1:CRep T c 824 kF)(x0:Nat):
 Calls prog 101 #[.iface 97 (.pointer (some ⟨A.t 0,0,none⟩)),.int .i64 71,.int .i64 64] w fun e w'=>∃ H:HAd,e=.returned (.tuple #[.pointer (some ⟨H.hb,0,none⟩),.int .i64 0])/\(H.l0=71/\H.ls=64/\H.t=0/\H.x0=x0)/\HW w' A F 160 T c x H false pF 0 (fun _=>none) (fun _=>none)/\Bl w w'/\w.heap.size<=H.hb/\w.heap.size<=H.sb/\∀ k,H.own k->w.heap.size<=k:=by
 have HAO:=zh (ZEc h.ar h0 h1);have HLN:=zh (fun (wx:World) (sb pb cap:Nat) (hs:SetW wx sb pb 0 A 2 cap pF)=>ZDv hs);have HOW:=zh (fun (wx:World) (sb pb cap:Nat) (hs:SetW wx sb pb 0 A 2 cap pF) (m:Nat) (hm:m < 2)=>ZDw hs hm);have H0:=zh h;have hmm:=@run_makeMap prog;clear h h0 h1;go_in;go_wp2_with fail;refine HAO.o.mono ?_;rintro e w1 ⟨sb,pb,cap,rfl,hset,hb1,hsb,hpb⟩;have HS1:=zh hset;have HB1:=zh hb1;have HSZ:=zh (show w.heap.size<=sb/\w.heap.size<=pb from ⟨hsb,hpb⟩);clear hset hb1 hsb hpb HAO;go_wp2_with fail;refine (HLN.o _ _ _ _ HS1.o).mono ?_;rintro e w2 ⟨v,rfl,hnats,hb2⟩;have HB2:=zh (HB1.o.trans (hb2.mono HB1.o.size));have HS2:=zh (HS1.o.below hb2);have HNT:=zh hnats;obtain ⟨va,vc,hv⟩:=hnats.len;rw [Jx] at hv;subst hv;clear hnats hb2 HLN;go_wp2_with fail
 go_loopw [28] (fun i wr=>∃ m:Nat,m<=2/\i=.int .i64 (m:Nat)/\wr=w2) (fun i _=>2 - (intOf i).toNat)
 case atStart=>exact ⟨0,by omega,rfl,rfl⟩
 case round=>
  obtain ⟨m,hm,rfl,hwr⟩:=hrel;subst hwr
  by_cases hlt:m < 2
  ·have d0:(m:Int) < 2:=by omega
   obtain ⟨b2,o2,r2,g2,k2⟩:=HNT.o.at (n:=m) (by rw [Jx];exact hlt)
   rw [Jx] at g2;cases g2;have hg:(lnL 2)[m]'(by rw [Jx];exact hlt)=71+32 * m:=by unfold lnL;simp
   rw [hg] at k2;have HO:=zh (HOW.o _ _ _ _ HS2.o m hlt);obtain ⟨ln,hln⟩:∃ ln:Int,ln=((71+32 * m:Nat):Int):=⟨_,rfl⟩
   rw [<-hln] at k2 HO;have HM:=zh hlt;clear hm hlt hg hln;go_wp2_with fail;refine HO.o.mono ?_;rintro e w' ⟨rfl,rfl⟩;have hM:=HM.o;go_wp2_with fail;go_roundw
   case rel=>exact ⟨m+1,by omega,by first|trivial|(go_num;done)|simp,by first|trivial|rfl⟩
   case measure=>simp [intOf];omega
  ·obtain rfl:m=2:=by omega
   clear hm hlt;obtain ⟨w3,hw3⟩:=xE (wr.alloc (.map #[] 0));have hr3:J1 w3 wr.heap.size 0 (fun _=>none):=by rw [hw3];exact UMap.made _ _ _ _ _
   have h23:Bl wr w3:=by rw [hw3];exact ZA bR
   have e3:w3.heap.size=wr.heap.size+1:=by rw [hw3];simp
   obtain ⟨w4,hw4⟩:=xE (w3.alloc (.map #[] 0));have hv4:ZBf w4 w3.heap.size 0 (fun _=>none):=by rw [hw4];exact UMap.made _ _ _ _ _
   have h34:Bl w3 w4:=by rw [hw4];exact ZA bR
   have e4:w4.heap.size=wr.heap.size+2:=by rw [hw4];simp [e3]
   obtain ⟨O,hO⟩:∃ O:Obj,O=.cells #[.iface 97 (.pointer (some ⟨A.t 0,0,none⟩)),.int .i64 71,.int .i64 64,.pointer (some ⟨sb,0,none⟩),.map (some wr.heap.size),.map (some w3.heap.size),.map none,.bool false] 144:=⟨_,rfl⟩
   obtain ⟨w5,hw5⟩:=xE (w4.alloc O);have h45:Bl w4 w5:=by rw [hw5];exact ZA bR
   have h24:=h23.trans (h34.mono h23.size);have h25:=h24.trans (h45.mono h24.size);have hB:=HB2.o.trans (h25.mono HB2.o.size);have z1:=HB2.o.size;have z2:=HSZ.o;have hlt:=heap_lt HS2.o.set;have hlt2:=HS2.o.row.lt;have nw:∀ k,w.heap.size<=k->F k=none:=fun k hk=>H0.o.new hk
   have hn1:=H0.o.nib.lt;have hn2:=H0.o.tab.lt;have HE:=zh (show ∃ H:HAd,Ending.returned (.tuple #[.pointer (some ⟨w4.heap.size,0,none⟩),.int .i64 0])=.returned (.tuple #[.pointer (some ⟨H.hb,0,none⟩),.int .i64 0])/\(H.l0=71/\H.ls=64/\H.t=0/\H.x0=x0)/\HW w5 A F 160 T c x H false pF 0 (fun _=>none) (fun _=>none)/\Bl w w5/\w.heap.size<=H.hb/\w.heap.size<=H.sb/\∀ k,H.own k->w.heap.size<=k from by
    refine ⟨⟨w4.heap.size,sb,pb,wr.heap.size,w3.heap.size,0,71,64,cap,x0⟩,rfl,⟨rfl,rfl,rfl,rfl⟩,⟨H0.o.below hB,⟨by rw [hw5,hO];exact ZB _ _,by show (0:Nat) < 8;omega,by show 71+64<=4096;omega⟩,by have hs9:=HS2.o.below h25;first|(show SetW w5 sb pb 0 A (64 / 32) cap pF;exact hs9)|(simp only [HAd.n];exact hs9),(hr3.kept (h34.block _ hr3.lt)).kept (h45.block _ (by omega)),hv4.kept (h45.block _ hv4.lt),nw _ (by show w.heap.size<=w4.heap.size;omega),nw _ z2.1,?_,by show wr.heap.size≠w3.heap.size;omega,by show w4.heap.size≠pb;omega,?_⟩,hB,by show w.heap.size<=w4.heap.size;omega,z2.1,?_⟩
    ·intro k hk
     refine nw _ ?_;rcases hk with e|e|e
     ·have e:k=pb:=e;rw [e];exact z2.2
     ·have e:k=wr.heap.size:=e;rw [e];exact z1
     ·have e:k=w3.heap.size:=e;omega
    ·intro k hk
     rcases hk with e|e|e
     ·have e:k=pb:=e;exact ⟨by omega,by omega⟩
     ·have e:k=wr.heap.size:=e;exact ⟨by omega,by omega⟩
     ·have e:k=w3.heap.size:=e;exact ⟨by omega,by omega⟩
    ·intro k hk
     rcases hk with e|e|e
     ·have e:k=pb:=e;rw [e];exact z2.2
     ·have e:k=wr.heap.size:=e;rw [e];exact z1
     ·have e:k=w3.heap.size:=e;omega)
   rw [hO] at hw5;rw [hw5,e4,hw4,e3,hw3] at HE;clear hr3 h23 e3 hv4 h34 e4 hO hw5 h45 h24 h25 hB z1 z2 hlt hlt2 nw hn1 hn2 hw3 hw4;go_wp2;go_returns;exact HE.o
end
end Go.Proofs.YteomliechfdhhaaGreatDoor.Dv
