/- Part 27. -/
import Derived.Test.YteomliechfdhhaaGreatDoorY26
set_option maxHeartbeats 8000000
set_option maxRecDepth 20000
set_option linter.all false
namespace Go.Proofs.YteomliechfdhhaaGreatDoor.Dv
open Tryz
section
open Go.RowKit Go.Proofs.YteomliechfdhhaaGreatDoor.Size
variable {w w':World}{A:DAd}{F:Nat->Option ZK}{L:Nat}{T c c':Nat->Nat}{x x':Nat}{H:HAd}
theorem ZHx:(prog.info? 115).map (fun i=>(i.zero,i.size,i.bytes))=some (some (.agg #[.int .i64 0,.int .u64 0,.int .u64 0]),3,24):=by kernel_rfl
theorem ZIq:El prog 182 115 3 24:=El.of underlying182 ZHx rfl (by omega)
def itm (q e:Nat->Nat):Nat->List (Nat×Nat×Nat)
 |0=>[]
 |n+1=>itm q e n++if q n=0 then [] else [(n,q n,e n)]
theorem Jw (q e:Nat->Nat):∀ n,(itm q e n).length<=n
 |0=>nR
 |n+1=>by
  have:=Jw q e n;unfold itm;rw [ZK4];split <;> simp <;> omega
def icl (l:List (Nat×Nat×Nat)):List Value:=l.flatMap fun x=>[.int .i64 x.1,.int .u64 x.2.1,.int .u64 x.2.2]
def ItW (w:World)(B:Nat)(v:Value)(l:List (Nat×Nat×Nat)):Prop:=w.ownsRow B 115 3 v l.length (icl l)
abbrev ndO (a b d:Nat)(v:Value):Obj:=.cells #[.int .u64 a,.int .u64 b,.int .i64 d,v] 184 (0,0)
theorem Z5 {w:World}{B:Nat}{e:TypeId}{z n:Nat}{v:Value}{xs:List Value}(h:w.ownsRow B e z v n xs){b i:Nat}(hb:b < B)(u:Value):(w.setCell ⟨b,i,none⟩ u).ownsRow B e z v n xs:=by
 obtain ⟨h1,h2⟩:=h;refine ⟨h1,h2.imp id ?_⟩;rintro ⟨g,cap,cur,e1,hg,hbk,rest⟩;exact ⟨g,cap,cur,e1,hg,(ZF (by omega)).trans hbk,rest⟩
theorem Yh {w:World}{cs:Array Value}{t:TypeId}{j:Nat}{u:Value}(h:cs.toList[j]?=some u):(w.alloc (.cells cs t)).cell? ⟨w.heap.size,j,none⟩=some u:=by
 rw [ZC (ZB w _)];simpa using h
theorem XM {P:Program} {ops:Array Oper} {o:Oper} {a:Act} {K:Act->World->Prop} {Q:Exit->Act->World->Prop} {B:Prop} {W:World} {t e:TypeId} {size bytes:Nat} (E:El P t e size bytes) (hgd:o.guard=none) (s x:Operand)
 (ho:o.op=.call {callee:=.builtin .append,args:=#[s,x],argTypes:=#[t,t]}) {base:Nat} {v:Value} {n:Nat} {xs:List Value} (cs:Array Value) (hown:W.ownsRow base e size v n xs)
 {N:Nat} (hs:a.eval s=v) (hx:a.eval x=.slice (some ⟨N,0,none⟩) 1 1) (hcs:cs.size=size) (hc:∀ j u,cs.toList[j]?=some u->W.cell? ⟨N,j,none⟩=some u) (h1:∀ u∈cs.toList,u.oneCell'=true) (h63:n+1<=maxLen) (hbytes:(n+1) * bytes<=140737488355328) (hbase:base<=W.heap.size)
 (h:∀ g cap w',w'.ownsRow base e size (.slice (some ⟨g,0,none⟩) (n+1) cap) (n+1) (xs++cs.toList)->W.grownBy w' v.ownBlock->K (a.put o.dst (.slice (some ⟨g,0,none⟩) (n+1) cap)) w'):
 if Region.wanted o (yielded ops a.tmps)=true then Oper.wp P o a W K Q else B:=by
 have hw:Region.wanted o (yielded ops a.tmps)=true:=by simp [Region.wanted,hgd]
 rw [ZKv hw];obtain ⟨g,cap,w',hrun,how,hgr,hg⟩:=Zm (w:=W) E hown ⟨N,0,none⟩ 1 1 cs.toList (by simpa using hcs) (fun j u hj=>by
  rw [Addr.add_lit,ZLI];exact hc j u hj) h1 (by omega) h63 hbytes hbase
 have hK:=h g cap w' how hgr;have hr:=hrun o.type;unfold Oper.wp;simp [execOp,ho,resolve,invoke,builtin,hs,hx,hr,Result.andThen];exact hK
theorem ZKA {w:World}{b:Nat}{e:TypeId}{a0 a1 a2 a3:Value}(h:w.heap[b]?=some (.cells #[a0,a1,a2,a3] e (0,0))):(∀ o,(w.alloc o).cell? ⟨b,3,none⟩=some a3)/\(∀ o,(w.alloc o).frozen? ⟨b,3,none⟩=false):=
 ⟨fun o=>(YS ((ZI (heap_lt h)).trans h)).2.2.2.1,fun o=>(YS ((ZI (heap_lt h)).trans h)).2.2.2.2.2.2.2⟩
def RdR (w:World)(R N P nx cnt:Nat)(q e:Nat->Nat)(i:Value)(wr:World):Prop:=
 ∃ n:Nat,n<=29/\i=.int .i64 n/\Bl w wr/\wr.heap[R]?=some (ndO 0 0 0 (.slice none 0 0))/\∃ v,wr.heap[N]?=some (ndO P nx cnt v)/\ItW wr (N+1) v (itm q e n)
theorem ZFH (h:Ar w A F L T c) {t db lb off size:Nat} (hd:DrW w A F H t db lb off size) {P:Nat} (hP:PtrOk P) (hL:ZM P+480<=64 * L) {cnt nx:Nat} {q e:Nat->Nat} (hx:c (ZM P / 8)=nx) (hc:c (ZM P / 8+1)=cnt) (hcn:cnt<=29)
 (hqe:∀ i,i < 29->c (ZM P / 8+(2+2 * i))=q i/\c (ZM P / 8+(3+2 * i))=e i)(hq:∀ i,i < 29->q i≠0->i < cnt/\PtrOk (q i)/\ZM (q i) < 64 * L)(hne:cnt=0\/itm q e 29≠[]):
 Calls prog 129 #[.iface 27 (.pointer (some ⟨db,0,none⟩)),.int .u64 P] w fun e' w'=>∃ v,e'=.returned (.tuple #[.agg #[.int .u64 P,.int .u64 nx,.int .i64 cnt,v],.bool true])/\ItW w' w.heap.size v (itm q e 29)/\Bl w w':=by
 have hp:=hP.lt;have hL4:=h.lines;have h8:ZM P % 8=0:=by unfold ZM;omega
 have HSZ:=zh (fun (w1:World) (hb:Bl w w1)=>ZEz (h.below hb) (hd.below hb));have HLD:=zh (fun (w1:World) (hb:Bl w w1) (k:Nat) (hk:k < 60)=>ZAF (h.below hb) (hd.below hb) (o:=ZM P+8 * k) (by omega) (by omega));have HAT:=zh (fun (w1:World) (k:Nat) (hk:k < 60)=>YK (w:=w1) (p:=P) (k:=k) (by omega) hP.ne hk);have HNI:=zh (fun (w1:World) (p:Nat)=>Z6 (w:=w1) (p:=p));have HPA:=zh (fun (w1:World) (i:Nat) (hi:i < 29)=>Vn (w:=w1) (i:=i) (by omega));have HEA:=zh (fun (w1:World) (i:Nat) (hi:i < 29)=>VP (w:=w1) (i:=i) (by omega));have HVA:=zh (fun (w1:World) (i:Nat) (hi:i < 29) (h0:q i≠0)=>Qa (w:=w1) (size:=L * 64) (hq i hi h0).2.1 (by have:=(hq i hi h0).2.2;omega) (by omega));have HQ:=zh hq;have HQE:=zh hqe;have HNE:=zh hne;have hat0:=hx;obtain ⟨O,hO⟩:=xE (ZM P);rw [<-hO] at HLD HAT hL hx hc HQE h8;have e0:(O+8 * 59:Nat)=O+472:=by omega
 have d1:decide (((O+8 * 59:Nat):Int)>=((L * 64:Nat):Int))=false:=by simp;omega
 have e1:((L * 64:Nat):Int) - ((O+8 * 59:Nat):Int)>=8:=by omega
 obtain ⟨Z,hZ⟩:∃ Z:Int,Z=((L * 64:Nat):Int):=⟨_,rfl⟩
 rw [<-hZ] at d1 e1 HSZ;have b1:0<=Z/\Z < 18446744073709551616:=by omega
 have HR0:=zh (Below.refl w.heap.size w);have HB0:=zh (ZA (o:=.cells #[.int .u64 0,.int .u64 0,.int .i64 0,.slice none 0 0] 184) (Below.refl w.heap.size w));obtain ⟨w1,hw1⟩:=xE (w.alloc (.cells #[.int .u64 0,.int .u64 0,.int .i64 0,.slice none 0 0] 184));have HW1:=zh hw1;have hn1:w1.heap[w.heap.size]?=some (ndO 0 0 0 (.slice none 0 0)):=by rw [hw1];exact ZB _ _
 have HN1:=zh hn1;rw [<-hw1] at HB0;clear hw1 hn1 h hd hP hL hqe hq hne hp hL4 hO h8 hat0 e0;go_in;go_wp2_with fail;rw [<-HW1.o];refine (HSZ.o _ HB0.o).mono ?_;rintro e' w' ⟨rfl,rfl⟩;go_wp2_with fail;refine (HAT.o _ 59 (by omega)).mono ?_;rintro e' w' ⟨rfl,rfl⟩;go_wp2_with fail;have e5:(O+8 * 0) / 8=O / 8:=by omega
 have e6:(O+8 * 1) / 8=O / 8+1:=by omega
 have HX:=zh hx;have HC:=zh hc;clear hx hc d1 e1 b1;have hnl:=Xh;go_upto_region 5 with fail
 go_cut [8] (fun v wx=>v=.pointer (some ⟨w1.heap.size,0,none⟩)/\Bl w wx/\wx.heap[w1.heap.size]?=some (ndO P nx 0 (.slice none 0 0))/\wx.heap[w.heap.size]?=some (ndO 0 0 0 (.slice none 0 0)))
 ·go_region_held3 (fun wx=>Bl w wx)
   (repeat (with_reducible first|assumption|exact HB0.o|apply ZA|apply ZD|refine Yk _ ?_ (by simp)))
   (first
     |(rw [Xh];exact ⟨rfl,rfl⟩)
     |(go_at_call 13;refine (HAT.o _ 0 (by omega)).mono ?_;rintro e' V1 ⟨rfl,rfl⟩)
     |(go_invoke;go_simp;go_at_call 12;refine (HLD.o _ (by repeat (with_reducible first|assumption|exact HB0.o|apply ZA|apply ZD)) 0 (by omega)).mono ?_;rintro e' V1 ⟨rfl,rfl⟩;rw [e5,HX.o]))
  all_goals
   (try go_simp)
   (try go_wp2_with fail)
   go_meet;refine ⟨rfl,by repeat (with_reducible first|assumption|exact HB0.o|apply ZA|apply ZD),ZB w1 _,(ZI (heap_lt HN1.o)).trans HN1.o⟩
 ·obtain ⟨rfl,hb2,hn2,hr2⟩:=hcut
  obtain ⟨w2,hw2⟩:=xE wc;rw [<-hw2] at hb2 hn2 hr2 ⊢;have HB2:=zh hb2;have HN2:=zh hn2;have HR2:=zh hr2;obtain ⟨N,hN⟩:=xE w1.heap.size;have HNS:=zh (show w.heap.size < N by rw [hN,HW1.o];simp);rw [<-hN] at HN2 ⊢;clear hb2 hn2 hr2 hw2 HN1 HB0 HW1 hN HX;go_wp2_with fail
  go_quiet (first
   |(rw [Xh];exact ⟨rfl,rfl⟩)
   |(go_at_call 13;exact Zj (HAT.o _ 1 (by omega)))
   |(go_invoke;go_simp;go_at_call 12;exact Zj (HLD.o _ (ZY HB2.o) 1 (by omega))))
  rw [e6,HC.o];have HB3:=zh (ZY (n:=nq) HB2.o);have HN3:=zh (show (w2.drewN nq).heap[N]?=_ from HN2.o);have HR3:=zh (show (w2.drewN nq).heap[w.heap.size]?=_ from HR2.o);obtain ⟨w3,hw3⟩:=xE (w2.drewN nq);rw [<-hw3] at HB3 HN3 HR3 ⊢;clear hw3 HB2 HN2 HR2 HC e5 e6;obtain ⟨n0,n1,n2,n3,_,_,n6,_⟩:=YS HN3.o;obtain ⟨r0,r1,r2,r3,r4,r5,r6,r7⟩:=YS HR3.o;have b29:¬ (cnt:Int) > 29:=by omega
  have b30:(cnt:Int) < 9223372036854775808:=by omega
  go_wp2_with fail;obtain ⟨w4,hw4⟩:=xE (w3.setCell ⟨N,2,none⟩ (.int .i64 cnt));have HB4:=zh (show Bl w w4 by rw [hw4];exact ZE HB3.o (Nat.le_of_lt HNS.o));have HN4:=zh (show w4.heap[N]?=some (ndO P nx cnt (.slice none 0 0)) by rw [hw4];exact (ZH HN3.o).trans rfl);have HR4:=zh (show w4.heap[w.heap.size]?=some (ndO 0 0 0 (.slice none 0 0)) by rw [hw4,ZF (Nat.ne_of_lt HNS.o)];exact HR3.o);rw [<-hw4];clear hw4 HB3 HN3 HR3 n0 n1 n2 n3 n6 r0 r1 r2 r3 r4 r5 r6 r7 b29 b30
  go_loopw [48] (fun i wr=>RdR w w.heap.size N P nx cnt q e i wr) (fun i _=>29 - (intOf i).toNat)
  case atStart=>exact ⟨0,by omega,rfl,HB4.o,HR4.o,_,HN4.o,ZLD _ _ _ _⟩
  case round=>
  obtain ⟨n,hn,rfl,hb,hr,v,hnb,hv⟩:=hrel;obtain ⟨w5,hw5⟩:=xE wr;rw [<-hw5] at hb hr hnb hv ⊢;have HB5:=zh hb;have HR5:=zh hr;have HN5:=zh hnb;have HV5:=zh hv;clear hw5 hb hr hnb hv HB4 HN4 HR4;obtain ⟨n0,n1,n2,n3,_,_,_,m3⟩:=YS HN5.o;obtain ⟨r0,r1,r2,r3,r4,r5,r6,r7⟩:=YS HR5.o
  by_cases h29:n=29
  ·subst h29
   have HQN:=zh (show (cnt:Int)=0\/¬ (cnt:Int)=0/\0 < ((itm q e 29).length:Int) from by
    rcases HNE.o with h|h
    ·exact .inl (by omega)
    ·by_cases h0:cnt=0
     ·exact .inl (by omega)
     ·exact .inr ⟨by omega,by have:=List.length_pos_iff.2 h;omega⟩)
   obtain ⟨va,vc,rfl⟩:=ZR HV5.o;clear hn HLD HSZ HAT HNI HPA HEA HVA HQ HQE HNE;rcases HQN.o with h0|⟨h0,h1⟩
   ·go_wp2_with fail
    go_region
    all_goals
     obtain ⟨Z,hZ⟩:=xE (((((w5.setCell ⟨w.heap.size,0,none⟩ (.int .u64 P)).setCell ⟨w.heap.size,1,none⟩ (.int .u64 nx)).setCell ⟨w.heap.size,2,none⟩ (.int .i64 0)).setCell ⟨w.heap.size,3,none⟩ (.slice va (itm q e 29).length vc)).drew);rw [<-hZ];have hzb:Z.heap[w.heap.size]?=some (.cells #[.int .u64 P,.int .u64 nx,.int .i64 0,.slice va (itm q e 29).length vc] 184 (0,0)):=by
      rw [hZ];exact (ZH (ZH (ZH (ZH HR5.o)))).trans rfl
     have HZB:=zh (show Bl w Z from by
      rw [hZ];exact ZD (ZE (ZE (ZE (ZE HB5.o nR) nR) nR) nR))
     have HZV:=zh (show ItW Z w.heap.size (.slice va (itm q e 29).length vc) (itm q e 29) from by
      rw [hZ];exact YJ (show World.ownsRow _ (N+1) _ _ _ _ _ from Z5 (Z5 (Z5 (Z5 HV5.o (by have:=HNS.o;omega) _) (by have:=HNS.o;omega) _) (by have:=HNS.o;omega) _) (by have:=HNS.o;omega) _) (by have:=HNS.o;omega))
     obtain ⟨z0,z1,z2,z3,_⟩:=YS hzb;clear hZ hzb n0 n1 n2 n3 m3 r0 r1 r2 r3 r4 r5 r6 r7;go_wp2_with fail
     (try simp only [Exit.inBlock,Exit.then])
     refine bodyPost_ret (by simp [results,results129,go_sem,z0,z1,z2,z3];try rfl) rfl ?_;exact ⟨_,by rw [h0],HZV.o,HZB.o⟩
   ·have hpos:0 < (itm q e 29).length:=by omega
    have hne:¬ N=w.heap.size:=fun q=>by have:=HNS.o;omega
    have hne2:¬ w.heap.size=N:=fun q=>by have:=HNS.o;omega
    have d3:((cnt:Int) == 0)=false:=by simp;omega
    have d4:¬ cnt=0:=by omega
    have d5:decide ((cnt:Int)=0)=false:=by simp;omega
    go_wp2_with fail
    go_region
    all_goals
     obtain ⟨Z,hZ⟩:=xE (((((w5.setCell ⟨w.heap.size,0,none⟩ (.int .u64 P)).setCell ⟨w.heap.size,1,none⟩ (.int .u64 nx)).setCell ⟨w.heap.size,2,none⟩ (.int .i64 cnt)).setCell ⟨w.heap.size,3,none⟩ (.slice va (itm q e 29).length vc)).drew);rw [<-hZ];have hzb:Z.heap[w.heap.size]?=some (.cells #[.int .u64 P,.int .u64 nx,.int .i64 cnt,.slice va (itm q e 29).length vc] 184 (0,0)):=by
      rw [hZ];exact (ZH (ZH (ZH (ZH HR5.o)))).trans rfl
     have HZB:=zh (show Bl w Z from by
      rw [hZ];exact ZD (ZE (ZE (ZE (ZE HB5.o nR) nR) nR) nR))
     have HZV:=zh (show ItW Z w.heap.size (.slice va (itm q e 29).length vc) (itm q e 29) from by
      rw [hZ];exact YJ (show World.ownsRow _ (N+1) _ _ _ _ _ from Z5 (Z5 (Z5 (Z5 HV5.o (by have:=HNS.o;omega) _) (by have:=HNS.o;omega) _) (by have:=HNS.o;omega) _) (by have:=HNS.o;omega) _) (by have:=HNS.o;omega))
     obtain ⟨z0,z1,z2,z3,_⟩:=YS hzb;clear hZ hzb n0 n1 n2 n3 m3 r0 r1 r2 r3 r4 r5 r6 r7;go_wp2_with fail
     (try simp only [Exit.inBlock,Exit.then])
     refine bodyPost_ret (by simp [results,results129,go_sem,z0,z1,z2,z3];try rfl) rfl ?_;exact ⟨_,by simp [hpos],HZV.o,HZB.o⟩
  ·have hlt:n < 29:=by omega
   have b31:(n:Int) < 29:=by omega
   obtain ⟨hq1,he1⟩:=HQE.o n hlt;have HAn:=zh (fun (w1:World)=>HAT.o w1 (2+2 * n) (by omega));have HLn:=zh (fun (w1:World) (hb:Bl w w1)=>HLD.o w1 hb (2+2 * n) (by omega));have HPn:=zh (fun (w1:World)=>HPA.o w1 n hlt);rw [show (O+8 * (2+2 * n)) / 8=O / 8+(2+2 * n) by omega,hq1] at HLn;have HAm:=zh (fun (w1:World)=>HAT.o w1 (3+2 * n) (by omega));have HLm:=zh (fun (w1:World) (hb:Bl w w1)=>HLD.o w1 hb (3+2 * n) (by omega));have HEn:=zh (fun (w1:World)=>HEA.o w1 n hlt);rw [show (O+8 * (3+2 * n)) / 8=O / 8+(3+2 * n) by omega,he1] at HLm;obtain ⟨X2,hX2⟩:=xE (2+2 * n);obtain ⟨X3,hX3⟩:=xE (3+2 * n);rw [<-hX2] at HAn HLn HPn;rw [<-hX3] at HAm HLm HEn;obtain ⟨O2,hO2⟩:=xE (O+8 * X2);obtain ⟨O3,hO3⟩:=xE (O+8 * X3);rw [<-hO2] at HAn HLn;rw [<-hO3] at HAm HLm;clear hq1 he1 hX2 hX3 hO2 hO3 HAT HLD HPA HEA HSZ;go_wp2_with fail
   go_quiet (first
    |(rw [Xh];exact ⟨rfl,rfl⟩)
    |(go_at_call 77;exact Zj (HPn.o _))
    |(go_at_call 13;exact Zj (HAn.o _))
    |(go_invoke;go_simp;go_at_call 12;exact Zj (HLn.o _ (ZY HB5.o))))
   have HB6:=zh (ZY (n:=nq) HB5.o);have HN6:=zh (show (w5.drewN nq).heap[N]?=_ from HN5.o);have HR6:=zh (show (w5.drewN nq).heap[w.heap.size]?=_ from HR5.o);have HV6:=zh (ZQ HV5.o (ZY (n:=nq) (Below.refl w5.heap.size w5)));obtain ⟨w6,hw6⟩:=xE (w5.drewN nq);rw [<-hw6] at HB6 HN6 HR6 HV6 ⊢;clear hw6 HB5 HN5 HR5 HV5 HLn HAn HPn n0 n1 n2 n3 m3 r0 r1 r2 r3 r4 r5 r6 r7;obtain ⟨n0,n1,n2,n3,_,_,_,m3⟩:=YS HN6.o;go_wp2_with fail;refine (HNI.o _ _).mono ?_;rintro e' w' ⟨rfl,rfl⟩
   by_cases hq0:q n=0
   ·have d1:decide (q n=0)=true:=ZLG hq0
    have HIT:=zh (show itm q e (n+1)=itm q e n by show itm q e n++_=_;rw [ZKv hq0,List.append_nil]);go_wp2_with fail;exact ⟨⟨n+1,by omega,rfl,HB6.o,HR6.o,v,HN6.o,by rw [HIT.o];exact HV6.o⟩,by simp [intOf];omega⟩
   ·have d1:decide (q n=0)=false:=ZLB hq0
    have HIT:=zh (show itm q e (n+1)=itm q e n++[(n,q n,e n)] by show itm q e n++_=_;rw [ZKu hq0]);obtain ⟨hcn2,-,-⟩:=HQ.o n hlt hq0;have d9:decide ((cnt:Int)<=(n:Int))=false:=by simp;omega
    have d8:¬ ((cnt:Int)<=(n:Int)):=by omega
    have HVn:=zh (HVA.o w6 n hlt hq0);rw [show ((L * 64:Nat):Int)=(L:Int) * 64 by omega] at HVn;have HLN:=zh (show (itm q e n).length<=n/\n < 29 from ⟨Jw q e n,hlt⟩);have HR60:=zh (Below.refl w6.heap.size w6);go_wp2_with fail;refine HVn.o.mono ?_;rintro e' w' ⟨rfl,rfl⟩;go_simp;go_upto_region 17 with fail;clear hcn hZ HR0 hlt b31 hcn2 hq0 hn h29 HVA HQ HQE HNE HNI d1 d9 d8 HVn;obtain ⟨na3,nf3⟩:=ZKA HN6.o;have hnl:=Xh;have HSa:=zh (show w6.drew.heap[N]?=some (ndO P nx cnt v)/\Bl w w6.drew from ⟨HN6.o,ZD HB6.o⟩);have HSb:=zh (fun o=>show (w6.drew.alloc o).heap[N]?=some (ndO P nx cnt v)/\Bl w (w6.drew.alloc o) from ⟨(ZI (heap_lt HSa.o.1)).trans HSa.o.1,ZA HSa.o.2⟩);refine Z8 17 (fun wx=>wx.heap[N]?=some (ndO P nx cnt v)/\Bl w wx) (by kernel_rfl) ?_;refine YC (i:=0) (z:=17) (v:=.pointer (some ⟨N,3,none⟩)) (by decide) rfl (by kernel_rfl) (by kernel_rfl) (by kernel_rfl) (by kernel_rfl) (by kernel_rfl) (fun _ _ _ h=>h) (by first|exact HSa.o|exact HSb.o _) (Or.inl ⟨by rfl,fun w' hc=>?_⟩) ?_
    ·go_simp
    (try simp only [Act.put,ZKt,ZKw,ZKx])
    refine YC (i:=1) (z:=17) (v:=v) (by decide) rfl (by kernel_rfl) (by kernel_rfl) (by kernel_rfl) (by kernel_rfl) (by kernel_rfl) (fun _ _ _ h=>h) (by first|exact HSa.o|exact HSb.o _) (Or.inl ⟨by rfl,fun w' hc=>?_⟩) ?_
    ·have n3':=(YS hc.1).2.2.2.1;go_simp
    (try simp only [Act.put,ZKt,ZKw,ZKx])
    refine YC (i:=2) (z:=17) (v:=.int .i64 n) (by decide) rfl (by kernel_rfl) (by kernel_rfl) (by kernel_rfl) (by kernel_rfl) (by kernel_rfl) (fun _ _ _ h=>h) (by first|exact HSa.o|exact HSb.o _) (Or.inl ⟨by rfl,fun w' hc=>?_⟩) ?_
    ·go_simp
    (try simp only [Act.put,ZKt,ZKw,ZKx])
    refine YC (i:=3) (z:=17) (v:=.int .u64 (q n)) (by decide) rfl (by kernel_rfl) (by kernel_rfl) (by kernel_rfl) (by kernel_rfl) (by kernel_rfl) (fun _ _ _ h=>h) (by first|exact HSa.o|exact HSb.o _) (Or.inl ⟨by rfl,fun w' hc=>?_⟩) ?_
    ·go_simp
    (try simp only [Act.put,ZKt,ZKw,ZKx])
    refine YC (i:=4) (z:=17) (v:=.iface 27 (.pointer (some ⟨db,0,none⟩))) (by decide) rfl (by kernel_rfl) (by kernel_rfl) (by kernel_rfl) (by kernel_rfl) (by kernel_rfl) (fun _ _ _ h=>h) (by first|exact HSa.o|exact HSb.o _) (Or.inl ⟨by rfl,fun w' hc=>?_⟩) ?_
    ·go_simp
    (try simp only [Act.put,ZKt,ZKw,ZKx])
    refine YC (i:=5) (z:=17) (v:=.int .u64 P) (by decide) rfl (by kernel_rfl) (by kernel_rfl) (by kernel_rfl) (by kernel_rfl) (by kernel_rfl) (fun _ _ _ h=>h) (by first|exact HSa.o|exact HSb.o _) (Or.inl ⟨by rfl,fun w' hc=>?_⟩) ?_
    ·go_simp
    (try simp only [Act.put,ZKt,ZKw,ZKx])
    refine YC (i:=6) (z:=17) (v:=.int .i64 n) (by decide) rfl (by kernel_rfl) (by kernel_rfl) (by kernel_rfl) (by kernel_rfl) (by kernel_rfl) (fun _ _ _ h=>h) (by first|exact HSa.o|exact HSb.o _) (Or.inl ⟨by rfl,fun w' hc=>?_⟩) ?_
    ·go_simp
    (try simp only [Act.put,ZKt,ZKw,ZKx])
    refine YC (i:=9) (z:=17) (v:=.func (.method "Load") #[.iface 27 (.pointer (some ⟨db,0,none⟩))] #[]) (by decide) rfl (by kernel_rfl) (by kernel_rfl) (by kernel_rfl) (by kernel_rfl) (by kernel_rfl) (fun _ _ _ h=>h) (by first|exact HSa.o|exact HSb.o _) (Or.inl ⟨by rfl,fun w' hc=>?_⟩) ?_
    ·go_simp
    (try simp only [Act.put,ZKt,ZKw,ZKx])
    refine YC (i:=10) (z:=17) (v:=.func (.method "Load") #[.iface 27 (.pointer (some ⟨db,0,none⟩))] #[]) (by decide) rfl (by kernel_rfl) (by kernel_rfl) (by kernel_rfl) (by kernel_rfl) (by kernel_rfl) (fun _ _ _ h=>h) (by first|exact HSa.o|exact HSb.o _) (Or.inl ⟨by rfl,fun w' hc=>?_⟩) ?_
    ·go_simp
    (try simp only [Act.put,ZKt,ZKw,ZKx])
    refine YC (i:=11) (z:=17) (v:=.iface 27 (.pointer (some ⟨db,0,none⟩))) (by decide) rfl (by kernel_rfl) (by kernel_rfl) (by kernel_rfl) (by kernel_rfl) (by kernel_rfl) (fun _ _ _ h=>h) (by first|exact HSa.o|exact HSb.o _) (Or.inl ⟨by rfl,fun w' hc=>?_⟩) ?_
    ·go_simp
    (try simp only [Act.put,ZKt,ZKw,ZKx])
    refine YZ (j:=7) (z:=17) (by kernel_rfl) rfl (fun K hK=>?_);refine ZJ rfl func80 rfl rfl rfl (HEn.o _) (by first|(simp [Act.eval];done)|(simp [Act.eval];rfl)) ?_;rintro e' V1 ⟨rfl,rfl⟩;refine ⟨_,rfl,hK _ _ (by first|exact HSa.o|exact HSb.o _) ?_⟩;clear hK K
    (try simp only [Act.put,ZKt,ZKw,ZKx])
    refine YZ (j:=8) (z:=17) (by kernel_rfl) rfl (fun K hK=>?_);refine ZJ rfl func13 rfl rfl rfl (HAm.o _) (by first|(simp [Act.eval];done)|(simp [Act.eval];rfl)) ?_;rintro e' V1 ⟨rfl,rfl⟩;refine ⟨_,rfl,hK _ _ (by first|exact HSa.o|exact HSb.o _) ?_⟩;clear hK K
    (try simp only [Act.put,ZKt,ZKw,ZKx])
    refine YZ (j:=12) (z:=17) (by kernel_rfl) rfl (fun K hK=>?_);have hb12:Bl w w6.drew:=ZD HB6.o;refine XN rfl (HLm.o _ hb12) (by kernel_rfl) ?_;rintro e' V1 ⟨rfl,rfl⟩;refine ⟨_,rfl,hK _ _ (by first|exact HSa.o|exact HSb.o _) ?_⟩;clear hK K
    (try simp only [Act.put,ZKt,ZKw,ZKx])
    refine YC (i:=13) (z:=17) (v:=.agg #[.int .i64 n,.int .u64 (q n),.int .u64 (e n)]) (by decide) rfl (by kernel_rfl) (by kernel_rfl) (by kernel_rfl) (by kernel_rfl) (by kernel_rfl) (fun _ _ _ h=>h) (by first|exact HSa.o|exact HSb.o _) (Or.inl ⟨by rfl,fun w' hc=>?_⟩) ?_
    ·go_simp
    (try simp only [Act.put,ZKt,ZKw,ZKx])
    refine YZ (j:=14) (z:=17) (by kernel_rfl) rfl (fun K hK=>?_);go_simp;refine hK _ _ (by first|exact HSa.o|exact HSb.o _) ?_;clear hK K
    (try simp only [Act.put,ZKt,ZKw,ZKx])
    refine YZ (j:=15) (z:=17) (by kernel_rfl) rfl (fun K hK=>?_);refine XM ZIq rfl _ _ rfl #[.int .i64 n,.int .u64 (q n),.int .u64 (e n)] (ZQ HV6.o (by repeat (with_reducible first|assumption|exact HR60.o|apply ZA|apply ZD))) rfl rfl rfl (fun j u hj=>Yh hj) (by intro u hu;simp at hu;rcases hu with rfl|rfl|rfl <;> rfl) (by have:=HLN.o;unfold maxLen;omega) (by have:=HLN.o;omega) (by have:=heap_lt HN6.o;simp;omega) ?_;intro g cap w7 how hgr;have hbx:Bl w w7:=ZN (by repeat (with_reducible first|assumption|exact HB6.o|apply ZA|apply ZD)) hgr (by have:=HB6.o.size;simp;omega) (fun k hk=>by have:=(HV6.o.lt k hk).1;have:=HNS.o;omega);have hn7:w7.heap[N]?=some (ndO P nx cnt v):=(hgr.block N (by have:=heap_lt HN6.o;simp;omega) (fun q1=>by have:=(HV6.o.lt N q1.symm).1;omega)).trans ((ZI (heap_lt HN6.o)).trans HN6.o);have hr7:w7.heap[w.heap.size]?=some (ndO 0 0 0 (.slice none 0 0)):=(hgr.block w.heap.size (by have:=heap_lt HR6.o;simp;omega) (fun q1=>by have:=(HV6.o.lt _ q1.symm).1;have:=HNS.o;omega)).trans ((ZI (heap_lt HR6.o)).trans HR6.o);have m7:=(YS hn7).2.2.2.2.2.2.2;have n7:=(YS hn7).2.2.2.1;refine hK _ _ ⟨hn7,hbx⟩ ?_;clear hK K
    (try simp only [Act.put,ZKt,ZKw,ZKx])
    refine YC (i:=16) (z:=17) (v:=.pointer (some ⟨N,3,none⟩)) (by decide) rfl (by kernel_rfl) (by kernel_rfl) (by kernel_rfl) (by kernel_rfl) (by kernel_rfl) (fun _ _ _ h=>h) ⟨hn7,hbx⟩ (Or.inl ⟨by rfl,fun w' hc=>?_⟩) ?_
    ·go_simp
    (try simp only [Act.put,ZKt,ZKw,ZKx])
    refine UY (z:=17) (by kernel_rfl) rfl (by kernel_rfl) (by kernel_rfl) (fun K hK=>?_);go_simp;refine hK _ _ ?_;clear hK K;have HF:=zh (show Bl w (w7.setCell ⟨N,3,none⟩ (.slice (some ⟨g,0,none⟩) ((itm q e n).length+1) cap))/\(w7.setCell ⟨N,3,none⟩ (.slice (some ⟨g,0,none⟩) ((itm q e n).length+1) cap)).heap[w.heap.size]?=some (ndO 0 0 0 (.slice none 0 0))/\∃ v',(w7.setCell ⟨N,3,none⟩ (.slice (some ⟨g,0,none⟩) ((itm q e n).length+1) cap)).heap[N]?=some (ndO P nx cnt v')/\ItW (w7.setCell ⟨N,3,none⟩ (.slice (some ⟨g,0,none⟩) ((itm q e n).length+1) cap)) (N+1) v' (itm q e (n+1)) from by
     refine ⟨ZE hbx (Nat.le_of_lt HNS.o),(ZF (Nat.ne_of_lt HNS.o)).trans hr7,_,(ZH hn7).trans rfl,?_⟩;rw [HIT.o];unfold ItW;rw [ZK4];have e4:icl (itm q e n++[(n,q n,e n)])=icl (itm q e n)++[.int .i64 n,.int .u64 (q n),.int .u64 (e n)]:=by simp [icl]
     rw [e4];exact Z5 how (Nat.lt_succ_self N) _)
    clear how hgr hbx hn7 hr7 m7 n7 na3 nf3 n0 n1 n2 n3 m3;have b31:(n:Int) < 29:=by have:=HLN.o;omega
    go_wp2_with fail;exact ⟨⟨n+1,by have:=HLN.o;omega,rfl,HF.o⟩,by have:=HLN.o;simp [intOf];omega⟩
variable {lk:Bool}{p p':Nat->Plc}{ex:Nat}{res held:Nat->Option Nat}
def cBool:Codec Bool where
 val:=fun b=>.bool b
 num:=fun b=>[if b then 1 else 0]
 dec:=fun v=>match v with
  |.bool b=>some b
  |_=>none
 dv:=fun a=>rfl
 vd:=fun v a h=>by
  split at h
  ·cases h;rfl
  ·cases h
 inj:=fun a b h=>by cases a <;> cases b <;> simp at h <;> rfl
theorem ZIv (w:World):(zeroValue 4).run prog w=.ok (cBool.val false) w:=by kernel_rfl
abbrev BMp (w:World)(b ex:Nat)(f:Nat->Option Bool):Prop:=UMap prog 30 .u64 cBool w b ex f
def Ptrs (w:World)(v:Value)(l:List Nat):Prop:=v=.slice none 0 0/\l=[]\/∃ b o cap,v=.slice (some ⟨b,o,none⟩) l.length cap/\Seen w b o (l.map fun (n:Nat)=>Value.int .u64 (n:Int))
theorem Ptrs.below {w w':World}{v:Value}{l:List Nat}(h:Ptrs w v l)(hb:Bl w w'):Ptrs w' v l:=by
 rcases h with h|⟨b,o,cap,h1,h2⟩
 ·exact .inl h
 ·exact .inr ⟨b,o,cap,h1,h2.below hb nR⟩
theorem Ptrs.len {w:World}{v:Value}{l:List Nat}(h:Ptrs w v l):∃ a cap,v=.slice a l.length cap:=by
 rcases h with ⟨h,rfl⟩|⟨b,o,cap,h1,h2⟩
 ·exact ⟨none,0,h⟩
 ·exact ⟨_,cap,h1⟩
theorem Ptrs.at {w:World}{v:Value}{l:List Nat}(h:Ptrs w v l){n:Nat}(hn:n < l.length):∃ b o cap,v=.slice (some ⟨b,o,none⟩) l.length cap/\w.cell? ⟨b,o+n,none⟩=some (.int .u64 (l[n]:Nat)):=by
 rcases h with ⟨h,rfl⟩|⟨b,o,cap,h1,h2⟩
 ·simp at hn
 ·exact ⟨b,o,cap,h1,h2 n _ (by simp [hn])⟩
def DsO (W:World)(mb:Nat)(ls:Nat->List Nat)(i:Value)(wr:World):Prop:=
 ∃ n:Nat,n<=2/\i=.int .i64 (n:Nat)/\Bl W wr/\∃ ex f,ex<=1000 * n/\BMp wr mb ex f/\∀ q,f q=if q∈(List.range n).flatMap ls then some true else none
def DsI (W:World)(mb e0:Nat)(l0 l:List Nat)(i:Value)(wr:World):Prop:=
 ∃ n:Nat,n<=l.length/\i=.int .i64 (n:Nat)/\Bl W wr/\∃ f,BMp wr mb (e0+n) f/\∀ q,f q=if q∈l0++l.take n then some true else none
theorem XW {ls:Nat->List Nat}{vs:Nat->Value}(hl:∀ j,j < 2->Ptrs w (vs j) (ls j))(hn:(ls 0++ls 1).Nodup)(h0:∀ q∈ls 0++ls 1,q≠0/\q < 18446744073709551616)(hlen:∀ j,(ls j).length<=1000){b:Nat}(hb:Seen w b 0 [vs 0,vs 1]):
 Calls prog 121 #[.slice (some ⟨b,0,none⟩) 2 2] w fun e w'=>e=.returned (.bool true)/\Bl w w':=by
 have HL:=zh hl;have HLEN:=zh hlen;have HSN:=zh hb;have HIN:=zh (show ∀ j,j < 2->∀ q∈ls j,q≠0/\q < 18446744073709551616 by
  intro j hj q hq;refine h0 q ?_;rcases (show j=0\/j=1 by omega) with rfl|rfl
  ·exact ZK1.2 (.inl hq)
  ·exact ZK1.2 (.inr hq))
 have HND:=zh (show ∀ j,j < 2->∀ n (hn:n < (ls j).length),(ls j)[n]∉(List.range j).flatMap ls++(ls j).take n by
  intro j hj n hlen;rw [ZLO] at hn;obtain ⟨n1,n2,n3⟩:=hn;have hself:∀ (l:List Nat),l.Nodup->∀ n (hn:n < l.length),l[n]∉l.take n:=by
   intro l hl n hn hm;obtain ⟨m,hm1,hm2⟩:=List.getElem_of_mem hm;rw [List.length_take] at hm1;rw [List.getElem_take] at hm2;have:=(List.nodup_iff_pairwise_ne.1 hl)
   have:=ZLY.1 this m n (by omega) hn (by omega);exact this hm2
  rcases (show j=0\/j=1 by omega) with rfl|rfl
  ·simpa using hself _ n1 n hlen
  ·intro hm
   rcases ZK1.1 hm with hm|hm
   ·have hm:(ls 1)[n]∈ls 0:=by simpa using hm
    exact n3 _ hm _ (ZLF _) rfl
   ·exact hself _ n2 n hlen hm)
 have HNI:=zh (fun (q:Nat) (w1:World)=>Z6 (w:=w1) (p:=q));have HB0:=zh (ZA (o:=.map #[] 0) (Below.refl w.heap.size w));have HM0:=zh (UMap.made prog 30 .u64 cBool w);have hmm:=@run_makeMap prog;clear hl hn h0 hlen hb;go_in;go_wp2_with fail;clear hmm
 go_loopw [11] (fun i wr=>DsO w w.heap.size ls i wr) (fun i _=>2 - (intOf i).toNat)
 case atStart=>exact ⟨0,by omega,rfl,HB0.o,0,_,by omega,HM0.o,fun q=>by simp⟩
 case round=>
  obtain ⟨j,hj,rfl,hb1,e0,f0,he0,hu0,hf0⟩:=hrel;have HB:=zh hb1;have HU:=zh hu0;have HF:=zh hf0;clear hb1 hu0 hf0
  by_cases hlt:j < 2
  ·have hlt2:(j:Int) < 2:=by omega
   have hcell:wr.cell? ⟨b,j,none⟩=some (vs j):=by
    have hs:=HSN.o.below HB.o nR;have:=hs j (vs j) (by rcases (show j=0\/j=1 by omega) with rfl|rfl <;> rfl)
    rwa [ZLI] at this
   obtain ⟨a,cap,hv⟩:=(HL.o j hlt).len;rw [hv] at hcell;obtain ⟨n,hn⟩:=xE ((ls j).length);have HN:=zh hn;rw [<-hn] at hcell hv;have HV:=zh hv;have hn1000:n<=1000:=by rw [hn];exact HLEN.o j
   clear hn hv;go_wp2_with fail
   go_loopw [17] (fun i wr2=>DsI w w.heap.size e0 ((List.range j).flatMap ls) (ls j) i wr2) (fun i _=>n - (intOf i).toNat)
   case atStart=>exact ⟨0,by omega,rfl,HB.o,f0,HU.o,fun q=>by rw [HF.o q];simp⟩
   case round=>
    obtain ⟨m,hm,rfl,hb2,f,hu,hf⟩:=hrel;rw [<-HN.o] at hm;have HB2:=zh hb2
    by_cases hm2:m < n
    ·have hm3:(m:Int) < n:=by omega
     have hml:m < (ls j).length:=by rw [<-HN.o];exact hm2
     obtain ⟨b2,o2,cap2,hv2,hcl⟩:=((HL.o j hlt).below hb2).at hml;rw [HV.o,<-HN.o] at hv2;cases hv2;obtain ⟨y,hy⟩:=xE ((ls j)[m]);rw [<-hy] at hcl;obtain ⟨hy0,hy64⟩:=HIN.o j hlt y (by rw [hy];exact ZLF _);have hnd:=HND.o j hlt m hml;rw [<-hy] at hnd;have hfy:=hf y;rw [ZKu hnd] at hfy;have hlk:=hu.look underlying30 underlying254 (ZIv _) (n:=y) (wfU (by omega));rw [hfy] at hlk;obtain ⟨w8,hput,hu8,hg8⟩:=hu.put underlying30 underlying254 (by unfold maxLen;omega) (n:=y) (wfU (by omega)) true;unfold cBool at hlk hput;simp only [Option.getD_none] at hlk hput;have HNI2:=zh (HNI.o y);rw [ZLB hy0] at HNI2;have G:=zh (show DsI w w.heap.size e0 ((List.range j).flatMap ls) (ls j) (.int .i64 ((m+1:Nat):Int)) w8 from ⟨m+1,by have:=HN.o;omega,rfl,hb2.grown hg8 hb2.size (fun k hk=>by rw [ZK5 hk];exact nR),_,hu8,fun q=>by
      by_cases e:q=y
      ·rw [e,Yv,ZKv]
       rw [ZLE hml,<-hy];simp
      ·rw [UQ _ _ e,hf q,ZLE hml,<-hy]
       simp [e]⟩)
     clear hb2 hu hf hnd hfy hu8 hg8 hy hy0 hy64 hml;go_wp2_with fail;refine (HNI2.o _).mono ?_;rintro e w' ⟨rfl,rfl⟩;go_wp2_with fail;go_roundw
     case rel=>simpa using G.o
     case measure=>simp [intOf];omega
    ·obtain rfl:m=n:=by omega
     have d1:¬ ((m:Int) < m):=by omega
     have G:=zh (show DsO w w.heap.size ls (.int .i64 ((j+1:Nat):Int)) wr from ⟨j+1,by omega,rfl,hb2,e0+m,f,by omega,hu,fun q=>by
      rw [hf q,HN.o,List.take_length];have e:(List.range (j+1)).flatMap ls=(List.range j).flatMap ls++ls j:=by
       rw [ZLN,List.flatMap_append];simp
      rw [e]⟩)
     clear hb2 hu hf;go_wp2_with fail;go_roundw
     case rel=>simpa using G.o
     case measure=>simp [intOf];omega
  ·obtain rfl:j=2:=by omega
   have d1:¬ (((2:Nat):Int) < 2):=by omega
   go_wp2;go_returns;exact ⟨rfl,HB.o⟩
theorem ZJF:(prog.info? 184).map (fun i=>(i.zero,i.size,i.bytes))=some (some (.agg #[.int .u64 0,.int .u64 0,.int .i64 0,.slice none 0 0]),4,48):=by kernel_rfl
theorem ZKZ:El prog 165 184 4 48:=El.of underlying165 ZJF rfl (by omega)
def LiB (w:World)(lib P kb:Nat):Prop:=w.heap[lib]?=some (.cells #[.int .u64 P,.pointer (some ⟨kb,0,none⟩)] 117 (0,0))
theorem LiB.below {lib P kb:Nat}(h:LiB w lib P kb)(hb:Bl w w'):LiB w' lib P kb:=(hb.block _ (heap_lt h)).trans h
structure NdC (c:Nat->Nat)(L P nx cnt:Nat)(q e:Nat->Nat):Prop where
 ok:PtrOk P
 fit:ZM P+480<=64 * L
 nxt:c (ZM P / 8)=nx
 num:c (ZM P / 8+1)=cnt
 c29:cnt<=29
 ents:∀ i,i < 29->c (ZM P / 8+(2+2 * i))=q i/\c (ZM P / 8+(3+2 * i))=e i
 good:∀ i,i < 29->q i≠0->i < cnt/\PtrOk (q i)/\ZM (q i) < 64 * L
 some:cnt=0\/itm q e 29≠[]
def ChP (w:World)(P cnt:Nat)(q e:Nat->Nat)(v:Value)(w':World):Prop:=∃ g cap iv,v=.slice (some ⟨g,0,none⟩) 1 cap/\Seen w' g 0 [.int .u64 P,.int .u64 (0:Nat),.int .i64 cnt,iv]/\ItW w' w.heap.size iv (itm q e 29)/\Bl w w'/\w.heap.size<=g
theorem UA (h:Ar w A F L T c) {t db lb off size:Nat} (hd:DrW w A F H t db lb off size) {lib P kb cnt:Nat} {q e:Nat->Nat} (hl:LiB w lib P kb) (hn:NdC c L P 0 cnt q e)
 (hck:∀ w1,Bl w w1->Calls prog 18 #[.pointer (some ⟨db,0,none⟩),.int .u64 P,.int .u8 12] w1 fun e' w'=>e'=.returned (.int .i64 0)/\Bl w1 w'):
 Calls prog 70 #[.pointer (some ⟨lib,0,none⟩),.iface 27 (.pointer (some ⟨db,0,none⟩))] w fun e' w'=>∃ v,e'=.returned (.tuple #[v,.int .i64 0])/\ChP w P cnt q e v w':=by
 have HER:=zh (fun (w1:World) (hb:Bl w w1)=>ZBx (h.below hb) (hd.below hb));have HRD:=zh (fun (w1:World) (hb:Bl w w1)=>ZFH (h.below hb) (hd.below hb) hn.ok hn.fit hn.nxt hn.num hn.c29 hn.ents hn.good hn.some);have HCK:=zh hck;have HNI:=zh (fun (w1:World)=>show Calls prog 14 #[.int .u64 (0:Nat)] w1 (fun e' w'=>e'=.returned (.bool true)/\w1=w') from by
  have:=Z6 (w:=w1) (p:=0);simpa using this)
 have HL:=zh hl;have HR0:=zh (Below.refl w.heap.size w);have hp64:P < 18446744073709551616:=by have:=hn.ok.lt;omega
 have HP64:=zh hp64;have hmm:=@run_makeMap prog;obtain ⟨l0,l1,_⟩:=XX hl;clear h hd hl hn hck hp64;go_in;go_wp2_with fail;refine (HER.o _ HR0.o).mono ?_;rintro e' w' ⟨rfl,rfl⟩;have hnl:=UD;go_upto_region 4 with fail
 go_cut [7] (fun v wx=>v=.int .i64 0/\Bl w wx)
 ·go_region_held3 (fun wx=>wx.cell? ⟨lib,0,none⟩=some (.int .u64 P))
   (first|exact (XX (HL.o.below (by repeat (with_reducible first|assumption|exact HR0.o|apply ZA|apply ZD)))).1)
   (first
     |(rw [UD];exact ⟨rfl,rfl⟩)
     |(go_invoke;go_simp;go_at_call 18;refine (HCK.o _ (by repeat (with_reducible first|assumption|exact HR0.o|apply ZA|apply ZD))).mono ?_;rintro e' V1 ⟨rfl,hbv⟩;have hbz:Bl w V1:=(show Bl w _ from by repeat (with_reducible first|exact HR0.o|apply ZA|apply ZD)).trans (hbv.mono nR);clear hbv))
  all_goals
   (try go_simp)
   (try go_wp2_with fail)
   go_meet;exact ⟨rfl,by repeat (with_reducible first|assumption|apply ZA|apply ZD)⟩
 ·obtain ⟨rfl,hb2⟩:=hcut
  obtain ⟨w2,hw2⟩:=xE wc;rw [<-hw2] at hb2 ⊢;have HB2:=zh hb2;have HM0:=zh (UMap.made prog 30 .u64 cBool w2);clear hb2 hw2 l0 l1 HCK;have la0:∀ o,(w2.alloc o).cell? ⟨lib,0,none⟩=some (.int .u64 P):=fun o=>(XX ((HL.o.below HB2.o).below (ZA bR))).1
  go_wp2_with fail;obtain ⟨w3,hw3⟩:=xE (w2.alloc (.map #[] 0));have HB3:=zh (show Bl w w3 by rw [hw3];exact ZA HB2.o);rw [<-hw3] at HM0 ⊢;obtain ⟨M,hM⟩:=xE w2.heap.size;have HMw:=zh (show w.heap.size<=M by rw [hM];exact HB2.o.size);rw [<-hM] at HM0 ⊢;clear hw3 hM hmm la0 HB2 hnl
  go_loopw [8,10] (fun ns pv wr=>ns=.slice none 0 0/\pv=.int .u64 P/\wr=w3) (fun _ _ _=>0)
  case atStart=>exact ⟨rfl,rfl,rfl⟩
  case round=>
  obtain ⟨rfl,rfl,hww⟩:=hrel;subst hww;have hlk:=HM0.o.look underlying30 underlying254 (ZIv _) (n:=P) (wfU HP64.o);obtain ⟨w8,hput,hu8,hg8⟩:=HM0.o.put underlying30 underlying254 (by unfold maxLen;omega) (n:=P) (wfU HP64.o) true;unfold cBool at hlk hput;simp only [Option.getD_none] at hlk hput;have HB8:=zh (HB3.o.grown hg8 HB3.o.size (fun k hk=>by rw [<-ZK5 hk];exact HMw.o));clear hu8 hg8;go_wp2_with fail;refine (HRD.o _ HB8.o).mono ?_;rintro e' w9 ⟨iv,rfl,hiv,hb9⟩;have HB9:=zh (HB8.o.trans (hb9.mono HB8.o.size));have HIV:=zh (show ItW w9 w.heap.size iv (itm q e 29) from YJ hiv HB8.o.size);obtain ⟨ia,ic,rfl⟩:=ZR hiv;obtain ⟨K,hK⟩:=xE ((itm q e 29).length);have HKK:=zh hK;rw [<-hK] at HIV;clear hiv hb9 hlk hput;rw [<-hK];clear hK;go_wp2_with fail;obtain ⟨w10,hw10⟩:=xE (w9.alloc (.cells #[.int .u64 P,.int .u64 0,.int .i64 cnt,.slice ia K ic] 184));have hb10:Bl w9 w10:=by rw [hw10];exact ZA bR
  have HB10:=zh (HB9.o.trans (hb10.mono HB9.o.size));have HIV10:=zh (show ItW w10 w.heap.size (.slice ia K ic) (itm q e 29) from ZQ HIV.o hb10);have HN10:=zh (show w10.heap[w9.heap.size]?=some (ndO P 0 cnt (.slice ia K ic)) from by rw [hw10];exact ZB _ _);rw [<-hw10];clear hw10 hb10 HB9 HIV;refine (HER.o _ HB10.o).mono ?_;rintro e' w' ⟨rfl,rfl⟩;obtain ⟨n0,n1,n2,n3,_⟩:=YS HN10.o;go_wp2_with (at_builtin;refine ZT ZKZ rfl _ _ rfl (ZLD w10 w.heap.size 184 4) rfl rfl ?c1 rfl ?c2 ?c3 ?c4 ?c5 ?_)
  case c1=>rfl
  case c2=>exact ⟨rfl,rfl,rfl,rfl⟩
  case c3=>unfold maxLen;omega
  case c4=>omega
  case c5=>exact HB10.o.size
  intro g cap w11 hop hgr hgg;have HG:=zh (show ChP w P cnt q e (.slice (some ⟨g,0,none⟩) 1 cap) w11 from by
   have hlow:w.heap.size<=g:=hgg.elim (fun q=>by cases q) (fun q=>ZK6 HB10.o.size q);obtain ⟨g',cap',e1,hs,_⟩:=Zi hop (by omega);cases e1;refine ⟨g,cap,.slice ia K ic,rfl,hs,?_,ZN HB10.o hgr HB10.o.size (fun k hk=>by cases hk),hlow⟩;exact World.ownsRow.kept HIV10.o hgr (by cases ia <;> simp [Value.ownBlock]))
  have n11:=(YS ((hgr.block w9.heap.size (heap_lt HN10.o) (fun q=>by cases q)).trans HN10.o)).2.1;clear hop hgr hgg n0 n1 n2 n3;go_wp2_with fail;refine (HNI.o _).mono ?_;rintro e' w' ⟨rfl,rfl⟩;go_wp2;go_returns;exact ⟨_,rfl,HG.o⟩
end
end Go.Proofs.YteomliechfdhhaaGreatDoor.Dv
