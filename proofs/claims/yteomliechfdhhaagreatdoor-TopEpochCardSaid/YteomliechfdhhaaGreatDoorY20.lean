/- Part 20. -/
import Derived.Test.YteomliechfdhhaaGreatDoorY19
set_option maxHeartbeats 8000000
set_option maxRecDepth 20000
set_option linter.all false
namespace Go.Proofs.YteomliechfdhhaaGreatDoor.Dv
open Tryz
section
open Go.RowKit Go.Proofs.YteomliechfdhhaaGreatDoor.Size
theorem XJ {k:Chk}(h:k.cl=0):perN k=62:=by unfold perN;rw [h];decide
theorem ZBZ {k:Chk}(h:k.cl=0):Zu k=4:=by unfold Zu;rw [h];decide
theorem ZEQ {k:Chk}(h:k.cl=0)(j:Nat):k.pay 103 j=(833+4 * j) * 8:=by unfold Chk.pay hdN;rw [ZBZ h];omega
theorem ZIu {k:Chk}(h:k.cl=0)(j kd:Nat):k.ptr 103 j kd=833+4 * j+(k.blk j).gen * 4294967296+kd * 281474976710656:=by
 unfold Chk.ptr Yl;rw [ZEQ h,Nat.mul_div_cancel _ (by omega)]
theorem LivP.eq {k:Chk}(h:k.cl=0){P j:Nat}(hl:LivP k P j):j < 62/\P=833+4 * j+(k.blk j).gen * 4294967296+65 * 281474976710656:=⟨hl.1,hl.2.2.2.trans (ZIu h j 65)⟩
theorem LivP.inj {k:Chk}(h:k.cl=0){P j j':Nat}(h1:LivP k P j)(h2:LivP k P j'):j=j':=by
 obtain ⟨a1,a2⟩:=h1.eq h;obtain ⟨b1,b2⟩:=h2.eq h;omega
def jOf (P:Nat):Nat:=(P % 4294967296 - 833) / 4
theorem LivP.jOf {k:Chk}(h:k.cl=0){P j:Nat}(h1:LivP k P j):jOf P=j:=by
 obtain ⟨a1,a2⟩:=h1.eq h;unfold Dv.jOf;omega
theorem LivP.ne {k:Chk}(h:k.cl=0){P j:Nat}(h1:LivP k P j):P≠0:=by
 obtain ⟨a1,a2⟩:=h1.eq h;omega
theorem LivP.low {k:Chk}(h:k.cl=0){P j:Nat}(h1:LivP k P j):P % 4294967296=833+4 * j:=by
 obtain ⟨a1,a2⟩:=h1.eq h;omega
theorem Qk {f:Nat->Nat}{v i:Nat}(hv:v≠0)(h0:f i=0):∀ n,i < n->(((List.range n).map (upd f i v)).filter (· != 0)).Perm (v:: ((List.range n).map f).filter (· != 0))
 |0,h=>by omega
 |n+1,h=>by
  rw [ZLN,ZLH,ZLH,ZLU,ZLU]
  by_cases e:i=n
  ·subst e
   have e1:(List.range i).map (upd f i v)=(List.range i).map f:=List.map_congr_left fun x hx=>ZZ f v (by have:=ZLJ.1 hx;omega)
   rw [e1];simp only [List.map_cons,List.map_nil,ZS,h0];have e2:List.filter (· != 0) [v]=[v]:=by simp [hv]
   have e3:List.filter (· != 0) [0]=([]:List Nat):=by simp
   rw [e2,e3,List.append_nil];exact List.perm_append_comm
  ·have:=(Qk hv h0 n (by omega)).append_right (List.filter (· != 0) ([n].map (upd f i v)))
   simp only [List.map_cons,List.map_nil] at this ⊢;rw [ZZ f v (show n≠i by omega)] at this ⊢;exact this
theorem LS.live_eq (s:LS):s.live=((List.range 40).map s.lp).filter (· != 0)++(full s.en).map (·.1):=by
 unfold LS.live full;rw [ZLU]
 congr 1
 rw [List.filter_map];rfl
theorem ZG1:∀ (n:Nat) (l:List Nat),l.length < n->∃ j,j < n/\j∉l
 |0,l,h=>by omega
 |n+1,l,h=>by
  by_cases e:n∈l
  ·have h2:(l.erase n).length < n:=by
    have:=List.length_erase_of_mem e;have:=List.length_pos_of_mem e;omega
   obtain ⟨j,hj,hm⟩:=ZG1 n (l.erase n) h2;exact ⟨j,by omega,fun q=>hm ((List.mem_erase_of_ne (by omega)).2 q)⟩
  ·exact ⟨n,by omega,e⟩
theorem LS.Ok.free {s:LS}(h:s.Ok)(hc:s.k.cl=0)(hl:s.live.length < 62):∃ j:Nat,j < 62/\s.k.free 0=(j:Int)/\s.k.used j=false/\(s.k.blk j).st=176:=by
 obtain ⟨m,hm,hn⟩:=ZG1 62 (s.live.map jOf) (by rw [ZK7];exact hl);have hu:s.k.used m=false:=by
  unfold Chk.used;rcases h.blk m hm with e|e
  ·simp [e]
  ·obtain ⟨P,hP,hL⟩:=h.use m hm e
   exact absurd (ZKz.2 ⟨P,hP,hL.jOf hc⟩) hn
 have hp:=XJ hc;rcases ZAL s.k.used (perN s.k - 0) 0 with ⟨_,h2⟩|⟨j,h1,_,h3,h4,_⟩
 ·exact absurd (h2 m (by omega) (by omega)) (by rw [hu];simp)
 ·refine ⟨j,by omega,h1,h4,?_⟩
  unfold Chk.used at h4;simpa using h4
theorem ZB7 (a b:List (Nat×Nat)):full (a++b)=full a++full b:=by unfold full;exact ZLU _ _
def LS.make (s:LS)(i j P:Nat):LS:={s with k:=s.k.took j 65,lp:=upd s.lp i P,na:=s.na+1}
theorem ZCs {k:Chk}{j:Nat}(hj:j < perN k)(hs:(k.blk j).st=176):k.Can [(j,65)] []:=
 ⟨by simp,by simpa using hj,by simp,by simpa using hs,by simp⟩
theorem LivP.took {k:Chk}{P j m:Nat}(h:LivP k P m)(hne:m≠j):LivP (k.took j 65) P m:=by
 obtain ⟨h1,h2,h3,h4⟩:=h;have e:(k.took j 65).blk m=k.blk m:=k.put_other _ hne;exact ⟨h1,by rw [e];exact h2,by rw [e];exact h3,by rw [h4];unfold Chk.ptr;rw [e];rfl⟩
theorem Qi (k:Chk)(j m:Nat):((k.took j 65).blk m).gen=(k.blk m).gen:=by
 by_cases e:m=j
 ·subst e;unfold Chk.took;rw [k.put_same]
 ·unfold Chk.took;rw [k.put_other _ e]
theorem LS.Ok.make {s:LS}(h:s.Ok)(hc:s.k.cl=0/\s.k.ow=0){i j P:Nat}(hi:i < 40)(h0:s.lp i=0)(hj:j < 62)(hs:(s.k.blk j).st=176)(hP:P=s.k.ptr 103 j 65):(s.make i j P).Ok:=by
 have hLP:LivP (s.k.took j 65) P j:=by
  refine ⟨hj,?_,?_,?_⟩
  ·unfold Chk.took;rw [s.k.put_same]
  ·unfold Chk.took;rw [s.k.put_same]
  ·rw [hP];unfold Chk.ptr;rw [Qi];rfl
 have hP0:P≠0:=hLP.ne (k:=s.k.took j 65) hc.1;have hp1:=Qk hP0 h0 40 hi;have hpl:(s.make i j P).live.Perm (P:: s.live):=by
  rw [LS.live_eq,LS.live_eq];exact hp1.append_right _
 have hnj:∀ Q∈s.live,∀ m,LivP s.k Q m->m≠j:=fun Q hQ m hL e=>by
  subst e;have:=hL.2.1;omega
 have hPn:P∉s.live:=fun hm=>by
  obtain ⟨m,hL⟩:=h.liv P hm;have hne:=hnj P hm m hL;obtain ⟨a1,a2⟩:=hL.eq hc.1;rw [hP,ZIu hc.1] at a2;omega
 refine ⟨.inr hc,fun m hm=>?_,fun m=>?_,fun Q hQ=>?_,hpl.nodup_iff.2 (List.nodup_cons.2 ⟨hPn,h.nd⟩),fun m hm he=>?_,h.its,h.per,h.ep,h.fm,fun Q hQ=>?_,h.now,h.ann,?_,h.len,h.fl⟩
 ·show ((s.k.took j 65).blk m).st=176\/_
  by_cases e:m=j
  ·subst e;exact .inr hLP.2.1
  ·unfold LS.make Chk.took;rw [s.k.put_other _ e];exact h.blk m hm
 ·show ((s.k.took j 65).blk m).gen<=s.fr.length+1/\1<=((s.k.took j 65).blk m).gen
  rw [Qi];exact h.gen m
 ·rcases List.mem_cons.1 (hpl.mem_iff.1 hQ) with rfl|hQ
  ·exact ⟨j,hLP⟩
  ·obtain ⟨m,hL⟩:=h.liv Q hQ
   exact ⟨m,hL.took (hnj Q hQ m hL)⟩
 ·by_cases e:m=j
  ·subst e;exact ⟨P,hpl.mem_iff.2 (.head _),hLP⟩
  ·have he':(s.k.blk m).st=177:=by
    have e2:(s.k.took j 65).blk m=s.k.blk m:=s.k.put_other _ e;rw [<-e2];exact he
   obtain ⟨Q,hQ,hL⟩:=h.use m hm he';exact ⟨Q,hpl.mem_iff.2 (.tail _ hQ),hL.took e⟩
 ·obtain ⟨m,g,h1,h2,h3,h4⟩:=h.fr Q hQ
  exact ⟨m,g,h1,h2,by show g < ((s.k.took j 65).blk m).gen;rw [Qi];exact h3,h4⟩
 ·show (((List.range 40).map (upd s.lp i P)).filter (· != 0)).length+s.nr=s.na+1
  rw [hp1.length_eq,List.length_cons];have:=h.cnt;omega
def LS.retire (s:LS)(i:Nat):LS:={s with lp:=upd s.lp i 0,en:=s.en++[(s.lp i,s.now)],its:=JZ (s.lp i,s.now) s.its,nr:=s.nr+1}
theorem ZIg {f:Nat->Nat}{i:Nat}(v:Nat):upd (upd f i v) i (f i)=f:=by
 funext x;unfold upd;by_cases e:x=i
 ·simp [e]
 ·simp [e]
theorem LS.mem_lp {s:LS}{i:Nat}(hi:i < 40)(h0:s.lp i≠0):s.lp i∈s.live:=by
 rw [LS.live_eq];refine ZK1.2 (.inl (ZLK.2 ⟨ZKz.2 ⟨i,ZLJ.2 hi,rfl⟩,by simpa using h0⟩))
theorem LS.mem_en {s:LS}{x:Nat×Nat}(hx:x∈full s.en):x.1∈s.live:=by
 rw [LS.live_eq];exact ZK1.2 (.inr (ZKz.2 ⟨x,hx,rfl⟩))
theorem LS.Ok.retire {s:LS}(h:s.Ok)(hc:s.k.cl=0/\s.k.ow=0){i:Nat}(hi:i < 40)(h0:s.lp i≠0):(s.retire i).Ok:=by
 have hp1:=Qk (f:=upd s.lp i 0) (v:=s.lp i) (i:=i) h0 (ZS _ _ _) 40 hi;rw [ZIg] at hp1;have hf:full (s.en++[(s.lp i,s.now)])=full s.en++[(s.lp i,s.now)]:=by
  rw [ZB7];congr 1;unfold full;simp [h0]
 have hpl:(s.retire i).live.Perm s.live:=by
  rw [LS.live_eq,LS.live_eq];show (((List.range 40).map (upd s.lp i 0)).filter (· != 0)++(full (s.en++[(s.lp i,s.now)])).map (·.1)).Perm _;rw [hf,ZLH];refine .trans ?_ (hp1.append_right _).symm;show (_++(_++[s.lp i])).Perm _;rw [<-List.append_assoc];exact List.perm_append_comm
 have hdis:∀ y∈full s.en,s.lp i % 4294967296≠y.1 % 4294967296:=by
  intro y hy e;obtain ⟨m,hL⟩:=h.liv _ (LS.mem_lp hi h0);obtain ⟨m',hL'⟩:=h.liv _ (LS.mem_en hy);have hmm:m=m':=by rw [hL.low hc.1,hL'.low hc.1] at e;omega
  subst hmm;have he:s.lp i=y.1:=hL.2.2.2.trans hL'.2.2.2.symm;have hnd:=h.nd;rw [LS.live_eq] at hnd;refine (ZLO.1 hnd).2.2 (s.lp i) (ZLK.2 ⟨ZKz.2 ⟨i,ZLJ.2 hi,rfl⟩,by simpa using h0⟩) y.1 (ZKz.2 ⟨y,hy,rfl⟩) he
 refine ⟨.inr hc,h.blk,fun m=>⟨ZK6 (h.gen m).1 nR,(h.gen m).2⟩,fun Q hQ=>h.liv Q (hpl.mem_iff.1 hQ),hpl.nodup_iff.2 h.nd,fun m hm he=>?_,ZAQ h.its (fun y hy=>hdis y (h.per.mem_iff.1 hy)),?_,fun x hx=>?_,.inr ?_,h.fr,h.now,h.ann,?_,?_,?_⟩
 ·obtain ⟨Q,hQ,hL⟩:=h.use m hm he
  exact ⟨Q,hpl.mem_iff.2 hQ,hL⟩
 ·show (JZ _ _).Perm (full (s.en++[_]))
  rw [hf];exact (V9 _ _).trans ((h.per.cons _).trans (List.perm_append_comm (l₁:=[_])))
 ·rcases ZK1.1 hx with hx|hx
  ·exact h.ep x hx
  ·have:x=(s.lp i,s.now):=by simpa using hx
   subst this;have:=h.now;exact ⟨by show 1<=s.now;omega,nR⟩
 ·show full (s.en++[_])≠[]
  rw [hf];simp
 ·show (((List.range 40).map (upd s.lp i 0)).filter (· != 0)).length+(s.nr+1)=s.na
  have h1:=hp1.length_eq;rw [List.length_cons] at h1;have:=h.cnt;omega
 ·show (s.en++[_]).length<=s.nr+1
  have:=h.len;simp;omega
 ·show s.fr.length+(full (s.en++[_])).length<=s.nr+1
  have:=h.fl;rw [hf];simp;omega
theorem ZGq:∀ {l:List (Nat×Nat)},(l.map (·.1)).Nodup->∀ {x y:Nat×Nat},x∈l->y∈l->x.1=y.1->x=y
 |[],_,x,y,hx,_,_=>by cases hx
 |z:: l,h,x,y,hx,hy,e=>by
  rw [List.map_cons,List.nodup_cons] at h;rcases List.mem_cons.1 hx with rfl|hx' <;> rcases List.mem_cons.1 hy with rfl|hy'
  ·rfl
  ·exact absurd (ZKz.2 ⟨y,hy',e.symm⟩:x.1∈l.map (·.1)) h.1
  ·exact absurd (ZKz.2 ⟨x,hx',e⟩:y.1∈l.map (·.1)) h.1
  ·exact ZGq h.2 hx' hy' e
theorem VQ (p:Nat×Nat->Bool):∀ l:List (Nat×Nat),(l.filter p).length+(l.filter fun x=>!p x).length=l.length
 |[]=>rfl
 |x:: l=>by
  have:=VQ p l;rw [List.filter_cons,List.filter_cons]
  by_cases e:p x=true
  ·simp [e];omega
  ·have e':p x=false:=by simpa using e
   simp [e'];omega
def LS.sf (s:LS)(x:Nat×Nat):Bool:=YG s.now s.ann x.2
def LS.clr (s:LS)(x:Nat×Nat):Nat×Nat:=if s.sf x then (0,x.2) else x
def LS.frees (s:LS):List (Nat×Nat):=(full s.en).filter s.sf
def LS.drs (s:LS):List Nat:=s.frees.map fun x=>jOf x.1
def LS.en' (s:LS):List (Nat×Nat):=if full (s.en.map s.clr)=[] then [] else s.en.map s.clr
def LS.collect (s:LS):LS:={s with k:=s.k.after [] s.drs,en:=s.en',its:=s.its.filter (fun x=>!s.sf x),fr:=s.fr++(s.its.filter s.sf).map (·.1)}
theorem UR (s:LS):∀ l:List (Nat×Nat),full (l.map s.clr)=(full l).filter fun x=>!s.sf x
 |[]=>rfl
 |x:: l=>by
  have ih:=UR s l;unfold full at *;rw [List.map_cons,List.filter_cons,ih,List.filter_cons];unfold LS.clr
  by_cases e:s.sf x=true
  ·simp only [e,if_true]
   by_cases e2:x.1=0 <;> simp [e2,e]
  ·have e':s.sf x=false:=by simpa using e
   by_cases e2:x.1=0 <;> simp [e2,e']
theorem LS.full_en' (s:LS):full s.en'=(full s.en).filter fun x=>!s.sf x:=by
 unfold LS.en';split
 ·rename_i e;rw [<-UR,e];rfl
 ·exact UR s _
theorem LS.Ok.drs_mem {s:LS}(h:s.Ok)(hc:s.k.cl=0){j:Nat}(hj:j∈s.drs):∃ x,x∈full s.en/\s.sf x=true/\LivP s.k x.1 j:=by
 obtain ⟨x,hx,rfl⟩:=ZKz.1 hj;obtain ⟨h1,h2⟩:=ZLK.1 hx;obtain ⟨m,hL⟩:=h.liv _ (LS.mem_en h1);exact ⟨x,h1,h2,by rw [hL.jOf hc];exact hL⟩
theorem LS.Ok.drs_nd {s:LS}(h:s.Ok)(hc:s.k.cl=0):s.drs.Nodup:=by
 have hnd:=h.nd;rw [LS.live_eq] at hnd;have h2:=(ZLO.1 hnd).2.1;have h3:(s.frees.map (·.1)).Nodup:=(List.filter_sublist.map _).nodup h2;have e:s.drs=(s.frees.map (·.1)).map jOf:=by unfold LS.drs;rw [List.map_map];rfl
 rw [e];refine List.pairwise_map.2 (List.Pairwise.imp_of_mem (R:=(·≠·)) ?_ h3);intro a b ha hb hab e;obtain ⟨x,hx,rfl⟩:=ZKz.1 ha;obtain ⟨y,hy,rfl⟩:=ZKz.1 hb;obtain ⟨m,hL⟩:=h.liv _ (LS.mem_en (ZLK.1 hx).1);obtain ⟨m',hL'⟩:=h.liv _ (LS.mem_en (ZLK.1 hy).1);rw [hL.jOf hc,hL'.jOf hc] at e;subst e;exact hab (hL.2.2.2.trans hL'.2.2.2.symm)
theorem LS.Ok.drs_can {s:LS}(h:s.Ok)(hc:s.k.cl=0):s.k.Can [] s.drs:=
 ⟨by simpa using h.drs_nd hc,fun i hi=>by
   obtain ⟨x,_,_,hL⟩:=h.drs_mem hc (by simpa using hi);rw [XJ hc];exact hL.1,by simp,by simp,fun i hi=>by
   obtain ⟨x,_,_,hL⟩:=h.drs_mem hc hi;exact hL.2.1⟩
theorem LivP.kept {k k':Chk}(hs:k.Same k'){P j:Nat}(h:LivP k P j)(hb:k'.blk j=k.blk j):LivP k' P j:=by
 obtain ⟨h1,h2,h3,h4⟩:=h;refine ⟨h1,by rw [hb];exact h2,by rw [hb];exact h3,?_⟩;rw [h4];unfold Chk.ptr Chk.pay;rw [hb,hs.hdN]
theorem LS.Ok.collect {s:LS}(h:s.Ok)(hc:s.k.cl=0/\s.k.ow=0)(hnr:s.nr<=60000):s.collect.Ok:=by
 have hcan:=h.drs_can hc.1;have hsm:=s.k.same_after [] s.drs;have hat:∀ j,j∈s.drs->(s.k.after [] s.drs).blk j=(s.k.blk j).freed:=fun j hj=>hcan.at_dr hj
 have hel:∀ j,j∉s.drs->(s.k.after [] s.drs).blk j=s.k.blk j:=fun j hj=>Chk.Can.at_else (by simpa using hj)
 have hfl:=h.fl;have hgen:∀ j,((s.k.blk j).gen) < 65535:=fun j=>by have:=(h.gen j).1;omega
 have hfr:∀ j,(s.k.blk j).freed=⟨(s.k.blk j).gen+1,0,176⟩:=fun j=>by unfold Blk.freed;rw [ZKu (by have:=hgen j;omega)]
 have hge:∀ j,(s.k.blk j).gen<=((s.k.after [] s.drs).blk j).gen:=fun j=>by
  by_cases e:j∈s.drs
  ·rw [hat j e,hfr];show _<=(s.k.blk j).gen+1;omega
  ·rw [hel j e];omega
 have hfe:=s.full_en';have hsub:∀ Q,Q∈s.collect.live->Q∈s.live/\∀ m,LivP s.k Q m->m∉s.drs:=by
  intro Q hQ;rw [LS.live_eq] at hQ;have hnd:=h.nd;rw [LS.live_eq] at hnd;have hdis:=(ZLO.1 hnd).2.2;rcases ZK1.1 hQ with hQ|hQ
  ·refine ⟨by rw [LS.live_eq];exact ZK1.2 (.inl hQ),fun m hL hm=>?_⟩
   obtain ⟨x,hx,_,hL'⟩:=h.drs_mem hc.1 hm;exact hdis Q hQ x.1 (ZKz.2 ⟨x,hx,rfl⟩) (hL.2.2.2.trans hL'.2.2.2.symm)
  ·obtain ⟨x,hx,rfl⟩:=ZKz.1 hQ
   have hx:x∈full s.en':=hx;rw [hfe] at hx;obtain ⟨h1,h2⟩:=ZLK.1 hx;refine ⟨LS.mem_en h1,fun m hL hm=>?_⟩;obtain ⟨y,hy,hsf,hL'⟩:=h.drs_mem hc.1 hm;have e:x.1=y.1:=hL.2.2.2.trans hL'.2.2.2.symm;have hnd2:=(ZLO.1 hnd).2.1;have:x=y:=by
    exact ZGq hnd2 h1 hy e
   subst this;rw [hsf] at h2;simp at h2
 have hnd':s.collect.live.Nodup:=by
  have hnd:=h.nd;rw [LS.live_eq] at hnd ⊢;refine List.Sublist.nodup ?_ hnd;refine List.Sublist.append (.refl _) (List.Sublist.map _ ?_);show (full s.en').Sublist _;rw [hfe];exact List.filter_sublist
 have hpf:s.frees.length=(s.its.filter s.sf).length:=((h.per.filter s.sf).length_eq).symm;refine ⟨.inr ⟨hsm.cl.trans hc.1,hsm.ow.trans hc.2⟩,fun j hj=>?_,fun j=>⟨?_,ZK6 (h.gen j).2 (hge j)⟩,fun Q hQ=>?_,hnd',fun j hj he=>?_,h.its.filter _,?_,fun x hx=>?_,?_,fun P hP=>?_,h.now,h.ann,h.cnt,?_,?_⟩
 ·show ((s.k.after [] s.drs).blk j).st=176\/_
  by_cases e:j∈s.drs
  ·rw [hat j e,hfr];exact .inl rfl
  ·show _\/((s.k.after [] s.drs).blk j).st=177
   rw [hel j e];exact h.blk j hj
 ·show ((s.k.after [] s.drs).blk j).gen<=(s.fr++(s.its.filter s.sf).map (·.1)).length+1
  rw [ZK4,ZK7,<-hpf];have:=(h.gen j).1
  by_cases e:j∈s.drs
  ·rw [hat j e,hfr]
   show (s.k.blk j).gen+1<=_;have:0 < s.frees.length:=by
    obtain ⟨x,hx,_⟩:=ZKz.1 e;exact List.length_pos_of_mem hx
   omega
  ·rw [hel j e];omega
 ·obtain ⟨h1,h2⟩:=hsub Q hQ
  obtain ⟨m,hL⟩:=h.liv Q h1;exact ⟨m,hL.kept hsm (hel m (h2 m hL))⟩
 ·have he:((s.k.after [] s.drs).blk j).st=177:=he
  by_cases e:j∈s.drs
  ·rw [hat j e,hfr] at he;cases he
  ·rw [hel j e] at he
   obtain ⟨Q,hQ,hL⟩:=h.use j hj he;refine ⟨Q,?_,hL.kept hsm (hel j e)⟩;rw [LS.live_eq] at hQ ⊢;rcases ZK1.1 hQ with hQ|hQ
   ·exact ZK1.2 (.inl hQ)
   ·obtain ⟨x,hx,rfl⟩:=ZKz.1 hQ
    refine ZK1.2 (.inr (ZKz.2 ⟨x,?_,rfl⟩));show x∈full s.en';rw [hfe];refine ZLK.2 ⟨hx,?_⟩;cases hsf:s.sf x with
    |false=>rfl
    |true=>exact absurd (ZKz.2 ⟨x,ZLK.2 ⟨hx,hsf⟩,hL.jOf hc.1⟩) e
 ·show (s.its.filter _).Perm (full s.en')
  rw [hfe];exact h.per.filter _
 ·have hx:x∈s.en':=hx
  unfold LS.en' at hx;split at hx
  ·cases hx
  ·obtain ⟨y,hy,rfl⟩:=ZKz.1 hx
   have:=h.ep y hy;unfold LS.clr;split
   ·exact this
   ·exact this
 ·show s.en'=[]\/full s.en'≠[]
  unfold LS.en';split
  ·exact .inl rfl
  ·rename_i e;exact .inr e
 ·rcases ZK1.1 hP with hP|hP
  ·obtain ⟨j,g,h1,h2,h3,h4⟩:=h.fr P hP
   refine ⟨j,g,h1,h2,ZLC h3 (hge j),?_⟩;rw [h4];show Yl (s.k.pay 103 j) g 65=Yl ((s.k.after [] s.drs).pay 103 j) g 65;unfold Chk.pay;rw [hsm.hdN]
  ·obtain ⟨x,hx,rfl⟩:=ZKz.1 hP
   obtain ⟨h1,h2⟩:=ZLK.1 hx;have h1':=h.per.mem_iff.1 h1;obtain ⟨j,hL⟩:=h.liv _ (LS.mem_en h1');have hj:j∈s.drs:=ZKz.2 ⟨x,ZLK.2 ⟨h1',h2⟩,hL.jOf hc.1⟩;refine ⟨j,(s.k.blk j).gen,hL.1,(h.gen j).2,?_,?_⟩
   ·show _ < ((s.k.after [] s.drs).blk j).gen
    rw [hat j hj,hfr];show _ < (s.k.blk j).gen+1;omega
   ·rw [hL.2.2.2];show Yl (s.k.pay 103 j) _ 65=Yl ((s.k.after [] s.drs).pay 103 j) _ 65
    unfold Chk.pay;rw [hsm.hdN]
 ·show s.en'.length<=s.nr
  have:=h.len;unfold LS.en';split
  ·simp
  ·simpa using this
 ·show (s.fr++(s.its.filter s.sf).map (·.1)).length+(full s.en').length<=s.nr
  rw [hfe,ZK4,ZK7,<-hpf];have:=VQ s.sf (full s.en);unfold LS.frees;omega
variable {T c c0:Nat->Nat}{s:LS}
theorem LS.Rep.low (h:s.Rep T c c0){c':Nat->Nat}{k:Chk}(hr:HRep T c' 71 2 (chs k))(he:∀ y,y < 824->c' y=c y):LS.Rep T c' c0 {s with k:=k} where
 rep:=hr
 log:=(he _ (by omega)).trans h.log
 nxt:=(he _ (by omega)).trans h.nxt
 num:=(he _ (by omega)).trans h.num
 ptr i hi:=(he _ (by omega)).trans (h.ptr i hi)
 epo i hi:=by
  have hi:i < s.en.length:=hi;have hn:=h.n29;rcases Nat.lt_or_ge i 29 with h2|h2
  ·exact (he _ (by omega)).trans (h.epo i hi)
  ·rcases Nat.lt_or_ge (580+2 * i) 824 with h3|h3
   ·exact (he _ h3).trans (h.epo i hi)
   ·omega
 lnk i hi:=(he _ (by omega)).trans (h.lnk i hi)
 clk:=(he _ (by omega)).trans h.clk
 rts y h1 h2:=(he y (by omega)).trans (h.rts y h1 h2)
 n29:=h.n29
theorem LS.Rep.claim (h:s.Rep T c c0){g:Nat}(hg:1<=g/\g < 65536):LS.Rep T (wrs c (YM T 103 (Chk.made 0 0 g))) c0 {s with k:=Chk.made 0 0 g}:=by
 have hk:(Chk.made 0 0 g).Head:=⟨hg,.inr ⟨Int.le_refl 0,by show (0:Int)<=4;omega,Int.le_refl 0,by show (0:Int)<=7;omega⟩⟩
 have h1:=h.rep.made (m:=1) (by omega) hk;rw [ZEC] at h1;refine h.low h1 fun y hy=>Z2 fun p hp e=>?_
 have hm:p.1 / 8∈(YM T 103 (Chk.made 0 0 g)).map (·.1 / 8):=ZKz.2 ⟨p,hp,rfl⟩;rw [X1,e] at hm;simp only [ZK1,ZKz,ZLJ,ZLL] at hm;rcases hm with (⟨i,_,rfl⟩|⟨i,_,rfl⟩)|rfl <;> omega
theorem LS.Rep.zero (h:s.Rep T c c0)(hc:s.k.cl=0){j off:Nat}(hj:j < 62)(ho:off=(833+4 * j) * 8):LS.Rep T (wrs c (YD off 3)) c0 s:=by
 have hw:∀ p∈YD off 3,∃ i,i < 3/\p.1 / 8=833+4 * j+i:=fun p hp=>by
  unfold YD at hp;obtain ⟨i,hi,rfl⟩:=ZKz.1 hp;exact ⟨i,ZLJ.1 hi,by subst ho;simp only;omega⟩
 refine h.low (k:=s.k) (h.rep.wrs fun p hp=>?_) fun y hy=>Z2 fun p hp e=>?_
 ·obtain ⟨i,hi,e⟩:=hw p hp
  have:=Pay.word h.rep (k:=1) (j:=j) (a:=i+1) (by omega) (by rw [Y4,XJ hc];exact hj) (by omega) (by rw [Y4,ZBZ hc];omega);have e2:8 * (71+32 * 1)+hdN (chs s.k 1) j+(i+1)=p.1 / 8:=by rw [Y4];unfold hdN;rw [ZBZ hc];omega
  rw [e2] at this;exact this
 ·obtain ⟨i,hi,e2⟩:=hw p hp;omega
def YQ (i P:Nat):List (Nat×Nat):=[(8 * (638+i),P)]
theorem LS.Rep.make (h:s.Rep T c c0)(hc:s.k.cl=0){i j P v:Nat}(hi:i < 40)(hj:j < 62)(hs:(s.k.blk j).st=176):(s.make i j P).Rep T (wrs c (cmL 640 v (YQ i P++ZO T 103 s.k [(j,65)] [])).flatten) c0:=by
 have hl:(YQ i P++ZO T 103 s.k [(j,65)] []).length<=96:=by rw [ZK4,Yb];simp [YQ]
 have h8:∀ p∈YQ i P,p.1 % 8=0:=fun p hp=>by unfold YQ at hp;simp at hp;subst hp;simp only;omega
 have hlow:∀ y,y < 80\/288<=y/\y < 824->y≠638+i->wrs c (cmL 640 v (YQ i P++ZO T 103 s.k [(j,65)] [])).flatten y=c y:=fun y hy hne=>by
  rw [ZBK hl h8 hy];unfold YQ;rw [YO,VD,ZZ _ _ (by omega)]
 refine ⟨ZEI h.rep (by omega) (ZCs (by rw [XJ hc];exact hj) hs) (fun q hq=>?_) hl (fun p hp=>(ZK1.1 hp).elim (h8 p) (UM p)),ZA2,?_,?_,fun m hm=>?_,fun m hm=>?_,fun m hm=>?_,?_,fun y h1 h2=>?_,h.n29⟩
 ·unfold YQ at hq;simp at hq;subst hq
  exact Jz h.rep (by simp only;omega)
 ·rw [hlow _ (by omega) (by omega)];exact h.nxt
 ·rw [hlow _ (by omega) (by omega)];exact h.num
 ·rw [hlow _ (by omega) (by omega)];exact h.ptr m hm
 ·have:m < s.en.length:=hm
  have:=h.n29;rw [hlow _ (by omega) (by omega)];exact h.epo m hm
 ·show _=upd s.lp i P m
  by_cases e:m=i
  ·subst e
   rw [ZS,ZBK hl h8 (by omega)];unfold YQ;rw [YO,VD,show (8 * (638+m),P).1 / 8=638+m by simp only;omega,ZS]
  ·rw [ZZ _ _ e,hlow _ (by omega) (by omega)];exact h.lnk m hm
 ·rw [hlow _ (by omega) (by omega)];exact h.clk
 ·rw [hlow _ (by omega) (by omega)];exact h.rts y h1 h2
def XB (s:LS)(i:Nat):List (Nat×Nat):=[(8 * (638+i),0),(8 * (579+2 * s.en.length),s.lp i),(8 * (580+2 * s.en.length),s.now),(8 * 578,s.en.length+1)]
theorem UT {l:List (Nat×Nat)}{x d:Nat×Nat}{m:Nat}(h:m < l.length):(l++[x]).getD m d=l.getD m d:=by
 rw [ZLQ,ZLQ,List.getElem?_append_left h]
theorem US {l:List (Nat×Nat)}{x d:Nat×Nat}:(l++[x]).getD l.length d=x:=by
 rw [ZLQ,ZLT nR];simp
theorem Vi {l:List (Nat×Nat)}{d:Nat×Nat}{m:Nat}(h:l.length<=m):l.getD m d=d:=by
 rw [ZLQ,List.getElem?_eq_none h];rfl
theorem LS.Rep.retire (h:s.Rep T c c0){i v:Nat}(hi:i < 40)(hn:s.en.length < 29):(s.retire i).Rep T (wrs c (cmL 640 v (XB s i)).flatten) c0:=by
 have hl:(XB s i).length<=96:=by simp [XB]
 have h8:∀ p∈XB s i,p.1 % 8=0:=fun p hp=>by
  unfold XB at hp;simp at hp;rcases hp with rfl|rfl|rfl|rfl <;> simp only <;> omega
 have hv:∀ y,y < 80\/288<=y->wrs c (cmL 640 v (XB s i)).flatten y=if y=578 then s.en.length+1 else if y=580+2 * s.en.length then s.now else if y=579+2 * s.en.length then s.lp i else if y=638+i then 0 else c y:=fun y hy=>by
  rw [lcm hl h8 hy];unfold XB;simp only [YO,VD,upd,Nat.mul_div_cancel_left _ (show 0 < 8 by omega)]
 refine ⟨ZGX h.rep (fun q hq=>?_) hl h8,ZA2,?_,?_,fun m hm=>?_,fun m hm=>?_,fun m hm=>?_,?_,fun y h1 h2=>?_,?_⟩
 ·refine Jz h.rep ?_
  unfold XB at hq;simp at hq;rcases hq with rfl|rfl|rfl|rfl <;> simp only <;> omega
 ·rw [hv _ (by omega),ZKu (by omega),ZKu (by omega),ZKu (by omega),ZKu (by omega)];exact h.nxt
 ·rw [hv _ (by omega),ZKv rfl];show _=(s.en++[_]).length;simp
 ·show _=((s.en++[(s.lp i,s.now)]).getD m (0,0)).1
  rw [hv _ (by omega),ZKu (by omega),ZKu (by omega)]
  by_cases e:m=s.en.length
  ·subst e;rw [ZKv rfl,US]
  ·rw [ZKu (by omega),ZKu (by omega),h.ptr m hm]
   rcases Nat.lt_or_ge m s.en.length with h1|h1
   ·rw [UT h1]
   ·rw [Vi h1,Vi (by simp;omega)]
 ·have hm:m < (s.en++[(s.lp i,s.now)]).length:=hm
  have hm2:m<=s.en.length:=by simp at hm;omega
  show _=((s.en++[(s.lp i,s.now)]).getD m (0,0)).2;rw [hv _ (by omega),ZKu (by omega)]
  by_cases e:m=s.en.length
  ·subst e;rw [ZKv rfl,US]
  ·rw [ZKu (by omega),ZKu (by omega),ZKu (by omega),h.epo m (by omega),UT (by omega)]
 ·show _=upd s.lp i 0 m
  rw [hv _ (by omega),ZKu (by omega),ZKu (by omega),ZKu (by omega)]
  by_cases e:m=i
  ·subst e;rw [ZKv rfl,ZS]
  ·rw [ZKu (by omega),ZZ _ _ e];exact h.lnk m hm
 ·rw [hv _ (by omega),ZKu (by omega),ZKu (by omega),ZKu (by omega),ZKu (by omega)];exact h.clk
 ·rw [hv _ (by omega),ZKu (by omega),ZKu (by omega),ZKu (by omega),ZKu (by omega)];exact h.rts y h1 h2
 ·show (s.en++[_]).length<=29
  simp;omega
def LS.ixs (s:LS):List Nat:=(List.range s.en.length).filter fun i=>(s.en.getD i (0,0)).1 != 0 && s.sf (s.en.getD i (0,0))
theorem Qb (l:List (Nat×Nat)):(List.range l.length).map (fun i=>l.getD i (0,0))=l:=by
 refine List.ext_getElem (by simp) fun i h1 h2=>?_
 simp [ZLQ,h2]
theorem LS.frees_ixs (s:LS):s.frees=s.ixs.map fun i=>s.en.getD i (0,0):=by
 unfold LS.frees full LS.ixs
 conv=>lhs;rw [<-Qb s.en]
 rw [List.filter_filter,List.filter_map]
 congr 1
 refine List.filter_congr fun i _=>?_
 simp [Bool.and_comm]
def YB (s:LS):List (Nat×Nat):=s.ixs.map (fun i=>(8 * (579+2 * i),0))++if full (s.en.map s.clr)=[] then [(8 * 578,0)] else []
theorem ZC7 {x:Nat}:∀ {l:List (Nat×Nat)} {c:Nat->Nat},(∀ p∈l,p.2=0)->wrs c l x=if ∃ p∈l,p.1 / 8=x then 0 else c x
 |[],c,_=>by simp [VD]
 |p:: l,c,h=>by
  rw [YO,ZC7 (fun q hq=>h q (.tail _ hq))];have hp:=h p (.head _)
  by_cases e:∃ q∈l,q.1 / 8=x
  ·rw [ZKv e,ZKv (by obtain ⟨q,h1,h2⟩:=e;exact ⟨q,.tail _ h1,h2⟩)]
  ·rw [ZKu e]
   by_cases e2:p.1 / 8=x
   ·rw [ZKv ⟨p,.head _,e2⟩];unfold upd;rw [ZKv e2.symm];exact hp
   ·rw [ZKu (by rintro ⟨q,h1,h2⟩;rcases List.mem_cons.1 h1 with rfl|h1;exact e2 h2;exact e ⟨q,h1,h2⟩)]
    exact ZZ _ _ (fun q=>e2 q.symm)
theorem LS.Rep.collect (h:s.Rep T c c0)(ho:s.Ok)(hc:s.k.cl=0){v:Nat}:s.collect.Rep T (wrs c (cmL 640 v (YB s++ZO T 103 s.k [] s.drs)).flatten) c0:=by
 have hn:=h.n29;have hix:∀ i∈s.ixs,i < s.en.length:=fun i hi=>ZLJ.1 (ZLK.1 hi).1
 have hxl:s.ixs.length<=s.en.length:=by
  have:=ZLX (fun i=>(s.en.getD i (0,0)).1 != 0 && s.sf (s.en.getD i (0,0))) (List.range s.en.length);simpa [LS.ixs] using this
 have hdl:s.drs.length=s.ixs.length:=by unfold LS.drs;rw [LS.frees_ixs];simp
 have hl:(YB s++ZO T 103 s.k [] s.drs).length<=96:=by
  rw [ZK4,Yb,hdl];unfold YB;rw [ZK4,ZK7];split <;> (try simp) <;> (try omega)
 have hmem:∀ p∈YB s,p.2=0/\p.1 % 8=0/\(p.1 / 8=578\/∃ i,i < s.en.length/\p.1 / 8=579+2 * i):=fun p hp=>by
  unfold YB at hp;rcases ZK1.1 hp with hp|hp
  ·obtain ⟨i,hi,rfl⟩:=ZKz.1 hp
   exact ⟨rfl,by simp only;omega,.inr ⟨i,hix i hi,by simp only;omega⟩⟩
  ·split at hp
   ·simp at hp;subst hp;exact ⟨rfl,by simp,.inl (by simp)⟩
   ·cases hp
 have h8:∀ p∈YB s,p.1 % 8=0:=fun p hp=>(hmem p hp).2.1
 have hv:∀ y,y < 80\/288<=y/\y < 824->wrs c (cmL 640 v (YB s++ZO T 103 s.k [] s.drs)).flatten y=if ∃ p∈YB s,p.1 / 8=y then 0 else c y:=fun y hy=>by
  rw [ZBK hl h8 hy];exact ZC7 fun p hp=>(hmem p hp).1
 have hno:∀ y,y < 80\/288<=y/\y < 824->y≠578->(∀ i,i < s.en.length->y≠579+2 * i)->wrs c (cmL 640 v (YB s++ZO T 103 s.k [] s.drs)).flatten y=c y:=fun y hy h1 h2=>by
  rw [hv y hy,ZKu];rintro ⟨p,hp,e⟩;rcases (hmem p hp).2.2 with q|⟨i,hi,q⟩
  ·exact h1 (e.symm.trans q)
  ·exact h2 i hi (e.symm.trans q)
 have hptr:∀ m,m < 29->wrs c (cmL 640 v (YB s++ZO T 103 s.k [] s.drs)).flatten (579+2 * m)=((s.en.map s.clr).getD m (0,0)).1:=fun m hm=>by
  rw [hv _ (by omega)];rcases Nat.lt_or_ge m s.en.length with h1|h1
  ·have e1:(s.en.map s.clr).getD m (0,0)=s.clr (s.en.getD m (0,0)):=by simp [ZLQ,h1]
   rw [e1];unfold LS.clr
   by_cases hx:m∈s.ixs
   ·have h2:=(ZLK.1 hx).2
    simp only [Bool.and_eq_true] at h2;rw [ZKv h2.2,ZKv ⟨(8 * (579+2 * m),0),by unfold YB;exact ZK1.2 (.inl (ZKz.2 ⟨m,hx,rfl⟩)),by simp only;omega⟩]
   ·rw [ZKu,h.ptr m hm]
    ·split
     ·rename_i e
      by_cases e0:(s.en.getD m (0,0)).1=0
      ·exact e0
      ·exact absurd (ZLK.2 ⟨ZLJ.2 h1,by rw [Bool.and_eq_true];exact ⟨bne_iff_ne.2 e0,e⟩⟩) hx
     ·rfl
    ·rintro ⟨p,hp,e⟩
     unfold YB at hp;rcases ZK1.1 hp with hp|hp
     ·obtain ⟨i,hi,rfl⟩:=ZKz.1 hp
      simp only at e;have:i=m:=by omega
      exact hx (this▸hi)
     ·split at hp
      ·simp at hp;subst hp;simp only at e;omega
      ·cases hp
  ·rw [Vi (by simpa using h1),ZKu,h.ptr m hm,Vi h1]
   rintro ⟨p,hp,e⟩;rcases (hmem p hp).2.2 with q|⟨i,hi,q⟩ <;> omega
 refine ⟨ZEI h.rep (by omega) (ho.drs_can hc) (fun q hq=>Jz h.rep ?_) hl (fun p hp=>(ZK1.1 hp).elim (h8 p) (UM p)),ZA2,?_,?_,fun m hm=>?_,fun m hm=>?_,fun m hm=>?_,?_,fun y h1 h2=>?_,?_⟩
 ·rcases (hmem q hq).2.2 with e|⟨i,hi,e⟩ <;> omega
 ·rw [hno _ (by omega) (by omega) (by omega)];exact h.nxt
 ·rw [hv _ (by omega)]
  show _=s.en'.length;unfold LS.en'
  by_cases e:full (s.en.map s.clr)=[]
  ·rw [ZKv e,ZKv ⟨(8 * 578,0),by unfold YB;rw [ZKv e];simp,by simp⟩];rfl
  ·rw [ZKu e,ZKu,ZK7]
   ·exact h.num
   ·rintro ⟨p,hp,e2⟩
    unfold YB at hp;rw [ZKu e,List.append_nil] at hp;obtain ⟨i,hi,rfl⟩:=ZKz.1 hp;simp only at e2;omega
 ·show _=(s.en'.getD m (0,0)).1
  rw [hptr m hm];unfold LS.en'
  by_cases e:full (s.en.map s.clr)=[]
  ·rw [ZKv e]
   show _=0;rcases Nat.lt_or_ge m (s.en.map s.clr).length with h1|h1
   ·have hmm:(s.en.map s.clr).getD m (0,0)∈s.en.map s.clr:=by
     rw [ZLQ,ZK9 h1];exact ZLF h1
    by_cases e0:((s.en.map s.clr).getD m (0,0)).1=0
    ·exact e0
    ·have:(s.en.map s.clr).getD m (0,0)∈full (s.en.map s.clr):=ZLK.2 ⟨hmm,by simpa using e0⟩
     rw [e] at this;cases this
   ·rw [Vi h1]
  ·rw [ZKu e]
 ·have hm:m < s.en'.length:=hm
  show _=(s.en'.getD m (0,0)).2;unfold LS.en' at hm ⊢
  by_cases e:full (s.en.map s.clr)=[]
  ·rw [ZKv e] at hm;cases hm
  ·rw [ZKu e] at hm ⊢
   rw [ZK7] at hm;rw [hno _ (by omega) (by omega) (by omega),h.epo m hm];simp only [ZLQ,List.getElem?_map,ZK9 hm];show _=(s.clr s.en[m]).2;unfold LS.clr;split <;> rfl
 ·show _=s.lp m
  rw [hno _ (by omega) (by omega) (by omega)];exact h.lnk m hm
 ·rw [hno _ (by omega) (by omega) (by omega)];exact h.clk
 ·rw [hno _ (by omega) (by omega) (by omega)];exact h.rts y h1 h2
 ·show s.en'.length<=29
  unfold LS.en';split
  ·simp
  ·simpa using hn
def LS.advance (s:LS):LS:={s with now:=s.now+1}
theorem LS.Rep.advance (h:s.Rep T c c0):s.advance.Rep T (wrs c [(4480,7309464666214760448+(s.now+1))]) c0:=by
 have hv:∀ y,y≠560->wrs c [(4480,7309464666214760448+(s.now+1))] y=c y:=fun y hy=>by
  rw [YO,VD];exact ZZ _ _ (by simpa using hy)
 refine ⟨h.rep.wrs (fun q hq=>by simp at hq;subst hq;exact Jz h.rep (by simp only;omega)),?_,?_,?_,fun m hm=>?_,fun m hm=>?_,fun m hm=>?_,?_,fun y h1 h2=>?_,h.n29⟩
 ·rw [hv _ (by omega)];exact h.log
 ·rw [hv _ (by omega)];exact h.nxt
 ·rw [hv _ (by omega)];exact h.num
 ·rw [hv _ (by omega)];exact h.ptr m hm
 ·rw [hv _ (by omega)];exact h.epo m hm
 ·rw [hv _ (by omega)];exact h.lnk m hm
 ·rw [YO,VD]
  unfold upd LS.advance;simp
 ·rw [hv _ (by omega)];exact h.rts y h1 h2
theorem LS.Ok.advance (h:s.Ok):s.advance.Ok:={h with
 ep:=fun x hx=>⟨(h.ep x hx).1,Nat.le_succ_of_le (h.ep x hx).2⟩
 now:=Nat.le_succ_of_le h.now
 ann:=fun t=>Nat.le_succ_of_le (h.ann t)}
variable {w w':World}
def XA (now:Nat)(an:Nat->Nat):Prop:=∀ t,t < 8->an t=0\/an t=now
instance (now:Nat) (an:Nat->Nat):Decidable (XA now an):=by unfold XA;infer_instance
def kF:Chk:=⟨-1,-1,1,fun _=>⟨1,0,176⟩⟩
structure LS.Inv (s:LS)(n:Nat):Prop where
 ok:s.Ok
 k1:s.k.cl=-1->s.k=kF
 cnt:s.na+s.nr<=n
 now:s.now<=2+n
theorem LS.Inv.mono {s:LS}{n m:Nat}(h:s.Inv n)(hm:n<=m):s.Inv m:=⟨h.ok,h.k1,ZK6 h.cnt hm,ZK6 h.now (by omega)⟩
theorem LS.Inv.nr {s:LS}{n:Nat}(h:s.Inv n):2 * s.nr<=n:=by
 have h1:=h.ok.cnt;have h2:=h.cnt;omega
theorem LS.Inv.en {s:LS}{n:Nat}(h:s.Inv n):2 * s.en.length<=n:=by
 have h1:=h.nr;have h2:=h.ok.len;omega
theorem LS.Ok.zero {s:LS}(h:s.Ok)(h0:s.na=0):s.nr=0/\s.en=[]/\s.fr=[]/\s.live=[]/\s.its=[]:=by
 have h1:=h.cnt;have h2:=h.len;have h3:=h.fl;have e1:s.nr=0:=by omega
 have e2:s.en=[]:=ZLM (by omega);have e3:s.fr=[]:=ZLM (by omega);refine ⟨e1,e2,e3,?_,?_⟩
 ·rw [LS.live_eq,e2]
  have:(((List.range 40).map s.lp).filter (· != 0))=[]:=ZLM (by omega);rw [this];rfl
 ·have:=h.per
  rw [e2] at this;exact List.Perm.eq_nil this
theorem LS.Ok.made {s:LS}(h:s.Ok)(h0:s.na=0):({s with k:=Chk.made 0 0 1}:LS).Ok:=by
 obtain ⟨z1,z2,z3,z4,z5⟩:=h.zero h0;refine {h with cl:=.inr ⟨rfl,rfl⟩,blk:=fun j _=>.inl rfl,gen:=fun j=>⟨?_,nR⟩,liv:=fun P hP=>?_,use:=fun j _ h2=>?_,fr:=fun P hP=>?_}
 ·show 1<=s.fr.length+1;omega
 ·have hP:P∈s.live:=hP
  rw [z4] at hP;cases hP
 ·have h2:(176:Nat)=177:=h2
  omega
 ·have hP:P∈s.fr:=hP
  rw [z3] at hP;cases hP
def LS.clm (s:LS):LS:=if s.k.cl=-1 then {s with k:=Chk.made 0 0 1} else s
theorem LS.clm_no {s:LS}(h:s.k.cl=0):s.clm=s:=by unfold LS.clm;rw [ZKu (by omega)]
theorem LS.clm_yes {s:LS}(h:s.k.cl=-1):s.clm={s with k:=Chk.made 0 0 1}:=by unfold LS.clm;rw [ZKv h]
theorem LS.Inv.clm {s:LS}{n:Nat}(h:s.Inv n):s.clm.Inv n/\s.clm.k.cl=0/\s.clm.k.ow=0:=by
 rcases h.ok.cl with ⟨h1,h2⟩|⟨h1,h2⟩
 ·rw [LS.clm_yes h1]
  exact ⟨⟨h.ok.made h2,(fun q=>by cases q),h.cnt,h.now⟩,rfl,rfl⟩
 ·rw [LS.clm_no h1]
  exact ⟨h,h1,h2⟩
theorem LS.Inv.live {s:LS}{n:Nat}(h:s.Inv n):s.live.length<=n:=by
 have h1:=h.cnt;have h2:=h.ok.fl;have h4:=h.ok.cnt;rw [LS.live_eq,ZK4,ZK7];omega
def LS.fj (s:LS):Nat:=(s.k.free 0).toNat
theorem LS.Inv.fj {s:LS}{n:Nat}(h:s.Inv n)(hn:n<=60)(hc:s.k.cl=0):s.fj < 62/\s.k.free 0=(s.fj:Int)/\s.k.used s.fj=false/\(s.k.blk s.fj).st=176:=by
 obtain ⟨j,h1,h2,h3,h4⟩:=h.ok.free hc (by have:=h.live;omega);have e:s.fj=j:=by unfold LS.fj;rw [h2];rfl
 rw [e];exact ⟨h1,h2,h3,h4⟩
def LS.np (s:LS):Nat:=s.clm.k.ptr 103 s.clm.fj 65
def LS.mk0 (s:LS)(i:Nat):LS:=s.clm.make i s.clm.fj s.np
theorem Xt (s:LS):s.clm.lp=s.lp/\s.clm.en=s.en/\s.clm.its=s.its/\s.clm.fr=s.fr/\s.clm.now=s.now/\s.clm.ann=s.ann/\s.clm.na=s.na/\s.clm.nr=s.nr:=by
 unfold LS.clm;split <;> exact ⟨rfl,rfl,rfl,rfl,rfl,rfl,rfl,rfl⟩
theorem LS.Inv.mk0 {s:LS}{n:Nat}(h:s.Inv n)(hn:n<=60){i:Nat}(hi:i < 40)(h0:s.lp i=0):(s.mk0 i).Inv (n+1):=by
 obtain ⟨hc,h1,h2⟩:=h.clm;obtain ⟨f1,f2,f3,f4⟩:=hc.fj hn h1;refine ⟨hc.ok.make ⟨h1,h2⟩ hi (by rw [(Xt s).1];exact h0) f1 f4 rfl,fun q=>?_,?_,?_⟩
 ·have q:s.clm.k.cl=-1:=q
  omega
 ·have:=hc.cnt
  show s.clm.na+1+s.clm.nr<=n+1;omega
 ·have:=hc.now
  show s.clm.now<=2+(n+1);omega
theorem LS.Inv.cl0 {s:LS}{n:Nat}(h:s.Inv n)(h0:s.na≠0):s.k.cl=0/\s.k.ow=0:=by
 rcases h.ok.cl with ⟨_,h2⟩|h1
 ·exact absurd h2 h0
 ·exact h1
theorem LS.Ok.na_lp {s:LS}(h:s.Ok){i:Nat}(hi:i < 40)(h0:s.lp i≠0):s.na≠0:=by
 intro e;have:=(h.zero e).2.2.2.1;have h2:=LS.mem_lp hi h0;rw [this] at h2;cases h2
theorem LS.Ok.na_en {s:LS}(h:s.Ok)(h0:s.en≠[]):s.na≠0:=fun e=>h0 (h.zero e).2.1
theorem LS.frees_en {s:LS}(h:s.frees≠[]):s.en≠[]:=fun e=>h (by unfold LS.frees;rw [e];rfl)
def LS.stp (s:LS)(kd i t:Nat):LS:=
 if kd=0 then (if s.lp i=0 then s.mk0 i else s)
 else if kd=1 then (if s.lp i=0 then s else s.retire i)
 else if kd=2 then (if s.frees=[] then s else s.collect)
 else if kd=3 then {s with ann:=if s.ann t=0 then upd s.ann t s.now else s.ann}
 else if kd=4 then {s with ann:=if s.ann t=0 then s.ann else upd s.ann t 0}
 else if kd=5 then (if XA s.now s.ann then s.advance else s)
 else s
theorem LS.Inv.setAnn {s:LS}{n:Nat}(h:s.Inv n){an:Nat->Nat}(ha:∀ t,an t<=s.now):({s with ann:=an}:LS).Inv n:=
 ⟨{h.ok with ann:=ha},h.k1,h.cnt,h.now⟩
theorem LS.Inv.stp {s:LS}{n:Nat}(h:s.Inv n)(hn:n<=60){kd i t:Nat}(hi:i < 40):(s.stp kd i t).Inv (n+1):=by
 unfold LS.stp;split
 ·split
  ·exact h.mk0 hn hi ‹_›
  ·exact h.mono (Nat.le_succ _)
 split
 ·split
  ·exact h.mono (Nat.le_succ _)
  ·rename_i h0
   have hc:=h.cl0 (h.ok.na_lp hi h0);refine ⟨h.ok.retire hc hi h0,h.k1,?_,ZK6 h.now (by omega)⟩;have:=h.cnt;show s.na+(s.nr+1)<=n+1;omega
 split
 ·split
  ·exact h.mono (Nat.le_succ _)
  ·rename_i h0
   have hc:=h.cl0 (h.ok.na_en (LS.frees_en h0));refine ⟨h.ok.collect hc (by have:=h.nr;omega),fun q=>?_,ZK6 h.cnt (by show n<=n+1;omega),ZK6 h.now (by omega)⟩;have q:(s.k.after [] s.drs).cl=-1:=q;rw [(s.k.same_after [] s.drs).cl] at q;omega
 split
 ·refine (h.setAnn (an:=if s.ann t=0 then upd s.ann t s.now else s.ann) fun u=>?_).mono (Nat.le_succ _)
  have:=h.ok.ann u;split
  ·unfold upd;split <;> omega
  ·exact this
 split
 ·refine (h.setAnn (an:=if s.ann t=0 then s.ann else upd s.ann t 0) fun u=>?_).mono (Nat.le_succ _)
  have:=h.ok.ann u;split
  ·exact this
  ·unfold upd;split <;> omega
 split
 ·split
  ·refine ⟨h.ok.advance,h.k1,ZK6 h.cnt (Nat.le_succ _),?_⟩
   have:=h.now;show s.now+1<=2+(n+1);omega
  ·exact h.mono (Nat.le_succ _)
 ·exact h.mono (Nat.le_succ _)
theorem LS.Ok.frees_len {s:LS}(h:s.Ok):(s.its.filter s.sf).length=s.frees.length:=(h.per.filter s.sf).length_eq
theorem LS.Ok.frees_nil {s:LS}(h:s.Ok)(h0:s.frees=[]):s.its.filter s.sf=[]/\s.its.filter (fun x=>!s.sf x)=s.its:=by
 have e:s.its.filter s.sf=[]:=ZLM (by rw [h.frees_len,h0];rfl);refine ⟨e,List.filter_eq_self.2 fun x hx=>?_⟩;have:=List.filter_eq_nil_iff.1 e x hx;simpa using this
structure LS.Kept (s:LS)(r:Nat->Option Nat):Prop where
 kept:∀ P e,r P=some e->(P,e)∈full s.en\/(e < s.now/\∀ t,t < 8->s.ann t=0\/e < s.ann t)
theorem ZHO {now e:Nat}{ann:Nat->Nat}(h:YG now ann e=true):e < now/\∀ t,t < 8->ann t=0\/e < ann t:=by
 unfold YG at h;rw [Bool.and_eq_true,List.all_eq_true] at h;exact ⟨of_decide_eq_true h.1,fun t ht=>of_decide_eq_true (h.2 t (ZLJ.2 ht))⟩
theorem LS.Kept.stp {s:LS}{r:Nat->Option Nat}(h:s.Kept r)(ho:s.Ok){kd i t:Nat}(hi:i < 40):
 (s.stp kd i t).Kept (if kd=1/\s.lp i≠0 then YE r (s.lp i) s.now else r):=by
 have easy:∀ {s':LS} {r':Nat->Option Nat},r'=r->s'.en=s.en->(∀ e,(e < s.now/\∀ t,t < 8->s.ann t=0\/e < s.ann t)->e < s'.now/\∀ t,t < 8->s'.ann t=0\/e < s'.ann t)->s'.Kept r':=by
  intro s' r' h1 h2 h3;subst h1;refine ⟨fun P e hr=>(h.kept P e hr).imp (fun q=>by rw [h2];exact q) (h3 e)⟩
 unfold LS.stp;split
 ·rename_i k0
  have e1:(if kd=1/\s.lp i≠0 then YE r (s.lp i) s.now else r)=r:=ZKu (by omega);split
  ·exact easy e1 (Xt s).2.1 (fun e q=>by
    have e4:(s.mk0 i).now=s.now:=(Xt s).2.2.2.2.1;have e5:(s.mk0 i).ann=s.ann:=(Xt s).2.2.2.2.2.1;rw [e4,e5];exact q)
  ·exact easy e1 rfl (fun e q=>q)
 split
 ·rename_i k1
  split
  ·rename_i h0
   exact easy (ZKu (fun q=>q.2 h0)) rfl (fun e q=>q)
  ·rename_i h0
   rw [ZKv ⟨k1,h0⟩];refine ⟨fun P e hr=>?_⟩;have ef:full (s.retire i).en=full s.en++[(s.lp i,s.now)]:=by
    show full (s.en++[(s.lp i,s.now)])=_;rw [ZB7]
    congr 1
    unfold full;simp [h0]
   by_cases hP:P=s.lp i
   ·subst hP
    unfold YE at hr;rw [ZKv rfl] at hr;cases hr;exact .inl (by rw [ef];exact ZK1.2 (.inr (.head _)))
   ·unfold YE at hr
    rw [ZKu hP] at hr;exact (h.kept P e hr).imp (fun q=>by rw [ef];exact ZK1.2 (.inl q)) id
 rename_i k0 k1;have e1:(if kd=1/\s.lp i≠0 then YE r (s.lp i) s.now else r)=r:=ZKu (fun q=>k1 q.1);split
 ·split
  ·exact easy e1 rfl (fun e q=>q)
  ·rw [e1]
   refine ⟨fun P e hr=>?_⟩;rcases h.kept P e hr with q|q
   ·have ef:full s.collect.en=(full s.en).filter fun x=>!s.sf x:=s.full_en'
    by_cases hs:s.sf (P,e)=true
    ·exact .inr (ZHO hs)
    ·exact .inl (by rw [ef];exact ZLK.2 ⟨q,by simpa using hs⟩)
   ·exact .inr q
 split
 ·refine easy e1 rfl (fun e q=>⟨q.1,fun u hu=>?_⟩)
  show (if s.ann t=0 then upd s.ann t s.now else s.ann) u=0\/e < (if s.ann t=0 then upd s.ann t s.now else s.ann) u;split
  ·unfold upd
   split
   ·exact .inr q.1
   ·exact q.2 u hu
  ·exact q.2 u hu
 split
 ·refine easy e1 rfl (fun e q=>⟨q.1,fun u hu=>?_⟩)
  show (if s.ann t=0 then s.ann else upd s.ann t 0) u=0\/e < (if s.ann t=0 then s.ann else upd s.ann t 0) u;split
  ·exact q.2 u hu
  ·unfold upd
   split
   ·exact .inl rfl
   ·exact q.2 u hu
 split
 ·split
  ·refine easy e1 rfl (fun e q=>⟨?_,q.2⟩)
   show e < s.now+1;omega
  ·exact easy e1 rfl (fun e q=>q)
 ·exact easy e1 rfl (fun e q=>q)
end
end Go.Proofs.YteomliechfdhhaaGreatDoor.Dv
