/- Part 22. -/
import Derived.Test.YtbpeehmepehkdaaGreatDoorY21
set_option maxHeartbeats 8000000
set_option maxRecDepth 20000
set_option linter.all false
namespace Go.Proofs.YtbpeehmepehkdaaGreatDoor.Dv
open Tryz
section
open Go.RowKit Go.Proofs.YtbpeehmepehkdaaGreatDoor.Size
theorem Xd {k:Chk}(h:k.cl=0):perN k=62:=by unfold perN;rw [h];decide
theorem ZBw {k:Chk}(h:k.cl=0):Zu k=4:=by unfold Zu;rw [h];decide
theorem ZE0 {k:Chk}(h:k.cl=0)(j:Nat):k.pay 103 j=(833+4 * j) * 8:=by unfold Chk.pay hdN;rw [ZBw h];omega
theorem ZJh {k:Chk}(h:k.cl=0)(j kd:Nat):k.ptr 103 j kd=833+4 * j+(k.blk j).gen * 4294967296+kd * 281474976710656:=by
 unfold Chk.ptr Yr;rw [ZE0 h,Nat.mul_div_cancel _ (by omega)]
theorem LivP.eq {k:Chk}(h:k.cl=0){P j:Nat}(hl:LivP k P j):j < 62/\P=833+4 * j+(k.blk j).gen * 4294967296+65 * 281474976710656:=⟨hl.1,hl.2.2.2.trans (ZJh h j 65)⟩
theorem LivP.inj {k:Chk}(h:k.cl=0){P j j':Nat}(h1:LivP k P j)(h2:LivP k P j'):j=j':=by
 obtain ⟨a1,a2⟩:=h1.eq h;obtain ⟨b1,b2⟩:=h2.eq h;omega
def jOf (P:Nat):Nat:=(P % 4294967296 - 833) / 4
theorem LivP.jOf {k:Chk}(h:k.cl=0){P j:Nat}(h1:LivP k P j):jOf P=j:=by
 obtain ⟨a1,a2⟩:=h1.eq h;unfold Dv.jOf;omega
theorem LivP.ne {k:Chk}(h:k.cl=0){P j:Nat}(h1:LivP k P j):P≠0:=by
 obtain ⟨a1,a2⟩:=h1.eq h;omega
theorem LivP.low {k:Chk}(h:k.cl=0){P j:Nat}(h1:LivP k P j):P % 4294967296=833+4 * j:=by
 obtain ⟨a1,a2⟩:=h1.eq h;omega
theorem Q8 {f:Nat->Nat}{v i:Nat}(hv:v≠0)(h0:f i=0):∀ n,i < n->(((List.range n).map (upd f i v)).filter (· != 0)).Perm (v:: ((List.range n).map f).filter (· != 0))
 |0,h=>by omega
 |n+1,h=>by
  rw [ZLy,ZLs,ZLs,ZL5,ZL5]
  by_cases e:i=n
  ·subst e
   have e1:(List.range i).map (upd f i v)=(List.range i).map f:=List.map_congr_left fun x hx=>YW f v (by have:=ZLz.1 hx;omega)
   rw [e1];simp only [List.map_cons,List.map_nil,YD,h0];have e2:List.filter (· != 0) [v]=[v]:=by simp [hv]
   have e3:List.filter (· != 0) [0]=([]:List Nat):=by simp
   rw [e2,e3,List.append_nil];exact List.perm_append_comm
  ·have:=(Q8 hv h0 n (by omega)).append_right (List.filter (· != 0) ([n].map (upd f i v)))
   simp only [List.map_cons,List.map_nil] at this ⊢;rw [YW f v (show n≠i by omega)] at this ⊢;exact this
theorem LS.live_eq (s:LS):s.live=((List.range 40).map s.lp).filter (· != 0)++(full s.en).map (·.1):=by
 unfold LS.live full;rw [ZL5]
 congr 1
 rw [List.filter_map];rfl
theorem ZHo:∀ (n:Nat) (l:List Nat),l.length < n->∃ j,j < n/\j∉l
 |0,l,h=>by omega
 |n+1,l,h=>by
  by_cases e:n∈l
  ·have h2:(l.erase n).length < n:=by
    have:=List.length_erase_of_mem e;have:=List.length_pos_of_mem e;omega
   obtain ⟨j,hj,hm⟩:=ZHo n (l.erase n) h2;exact ⟨j,by omega,fun q=>hm ((List.mem_erase_of_ne (by omega)).2 q)⟩
  ·exact ⟨n,by omega,e⟩
theorem LS.Ok.free {s:LS}(h:s.Ok)(hc:s.k.cl=0)(hl:s.live.length < 62):∃ j:Nat,j < 62/\s.k.free 0=(j:Int)/\s.k.used j=false/\(s.k.blk j).st=176:=by
 obtain ⟨m,hm,hn⟩:=ZHo 62 (s.live.map jOf) (by rw [ZLj];exact hl);have hu:s.k.used m=false:=by
  unfold Chk.used;rcases h.blk m hm with e|e
  ·simp [e]
  ·obtain ⟨P,hP,hL⟩:=h.use m hm e
   exact absurd (ZLb.2 ⟨P,hP,hL.jOf hc⟩) hn
 have hp:=Xd hc;rcases ZAi s.k.used (perN s.k - 0) 0 with ⟨_,h2⟩|⟨j,h1,_,h3,h4,_⟩
 ·exact absurd (h2 m (by omega) (by omega)) (by rw [hu];simp)
 ·refine ⟨j,by omega,h1,h4,?_⟩
  unfold Chk.used at h4;simpa using h4
theorem ZCQ (a b:List (Nat×Nat)):full (a++b)=full a++full b:=by unfold full;exact ZL5 _ _
def LS.make (s:LS)(i j P:Nat):LS:={s with k:=s.k.took j 65,lp:=upd s.lp i P,na:=s.na+1}
theorem ZDJ {k:Chk}{j:Nat}(hj:j < perN k)(hs:(k.blk j).st=176):k.Can [(j,65)] []:=
 ⟨by simp,by simpa using hj,by simp,by simpa using hs,by simp⟩
theorem LivP.took {k:Chk}{P j m:Nat}(h:LivP k P m)(hne:m≠j):LivP (k.took j 65) P m:=by
 obtain ⟨h1,h2,h3,h4⟩:=h;have e:(k.took j 65).blk m=k.blk m:=k.put_other _ hne;exact ⟨h1,by rw [e];exact h2,by rw [e];exact h3,by rw [h4];unfold Chk.ptr;rw [e];rfl⟩
theorem Q6 (k:Chk)(j m:Nat):((k.took j 65).blk m).gen=(k.blk m).gen:=by
 by_cases e:m=j
 ·subst e;unfold Chk.took;rw [k.put_same]
 ·unfold Chk.took;rw [k.put_other _ e]
theorem LS.Ok.make {s:LS}(h:s.Ok)(hc:s.k.cl=0/\s.k.ow=0){i j P:Nat}(hi:i < 40)(h0:s.lp i=0)(hj:j < 62)(hs:(s.k.blk j).st=176)(hP:P=s.k.ptr 103 j 65):(s.make i j P).Ok:=by
 have hLP:LivP (s.k.took j 65) P j:=by
  refine ⟨hj,?_,?_,?_⟩
  ·unfold Chk.took;rw [s.k.put_same]
  ·unfold Chk.took;rw [s.k.put_same]
  ·rw [hP];unfold Chk.ptr;rw [Q6];rfl
 have hP0:P≠0:=hLP.ne (k:=s.k.took j 65) hc.1;have hp1:=Q8 hP0 h0 40 hi;have hpl:(s.make i j P).live.Perm (P:: s.live):=by
  rw [LS.live_eq,LS.live_eq];exact hp1.append_right _
 have hnj:∀ Q∈s.live,∀ m,LivP s.k Q m->m≠j:=fun Q hQ m hL e=>by
  subst e;have:=hL.2.1;omega
 have hPn:P∉s.live:=fun hm=>by
  obtain ⟨m,hL⟩:=h.liv P hm;have hne:=hnj P hm m hL;obtain ⟨a1,a2⟩:=hL.eq hc.1;rw [hP,ZJh hc.1] at a2;omega
 refine ⟨.inr hc,fun m hm=>?_,fun m=>?_,fun Q hQ=>?_,hpl.nodup_iff.2 (List.nodup_cons.2 ⟨hPn,h.nd⟩),fun m hm he=>?_,h.its,h.per,h.ep,h.fm,fun Q hQ=>?_,h.now,h.ann,?_,h.len,h.fl⟩
 ·show ((s.k.took j 65).blk m).st=176\/_
  by_cases e:m=j
  ·subst e;exact .inr hLP.2.1
  ·unfold LS.make Chk.took;rw [s.k.put_other _ e];exact h.blk m hm
 ·show ((s.k.took j 65).blk m).gen<=s.fr.length+1/\1<=((s.k.took j 65).blk m).gen
  rw [Q6];exact h.gen m
 ·rcases List.mem_cons.1 (hpl.mem_iff.1 hQ) with rfl|hQ
  ·exact ⟨j,hLP⟩
  ·obtain ⟨m,hL⟩:=h.liv Q hQ
   exact ⟨m,hL.took (hnj Q hQ m hL)⟩
 ·by_cases e:m=j
  ·subst e;exact ⟨P,hpl.mem_iff.2 (.head _),hLP⟩
  ·have he':(s.k.blk m).st=177:=by
    have e2:(s.k.took j 65).blk m=s.k.blk m:=s.k.put_other _ e;rw [<-e2];exact he
   obtain ⟨Q,hQ,hL⟩:=h.use m hm he';exact ⟨Q,hpl.mem_iff.2 (.tail _ hQ),hL.took e⟩
 ·obtain ⟨m,g,h1,h2,h3,h4⟩:=h.fr Q hQ
  exact ⟨m,g,h1,h2,by show g < ((s.k.took j 65).blk m).gen;rw [Q6];exact h3,h4⟩
 ·show (((List.range 40).map (upd s.lp i P)).filter (· != 0)).length+s.nr=s.na+1
  rw [hp1.length_eq,List.length_cons];have:=h.cnt;omega
def LS.retire (s:LS)(i:Nat):LS:={s with lp:=upd s.lp i 0,en:=s.en++[(s.lp i,s.now)],its:=YK (s.lp i,s.now) s.its,nr:=s.nr+1}
theorem ZJS {f:Nat->Nat}{i:Nat}(v:Nat):upd (upd f i v) i (f i)=f:=by
 funext x;unfold upd;by_cases e:x=i
 ·simp [e]
 ·simp [e]
theorem LS.mem_lp {s:LS}{i:Nat}(hi:i < 40)(h0:s.lp i≠0):s.lp i∈s.live:=by
 rw [LS.live_eq];refine ZLZ.2 (.inl (ZLv.2 ⟨ZLb.2 ⟨i,ZLz.2 hi,rfl⟩,by simpa using h0⟩))
theorem LS.mem_en {s:LS}{x:Nat×Nat}(hx:x∈full s.en):x.1∈s.live:=by
 rw [LS.live_eq];exact ZLZ.2 (.inr (ZLb.2 ⟨x,hx,rfl⟩))
theorem LS.Ok.retire {s:LS}(h:s.Ok)(hc:s.k.cl=0/\s.k.ow=0){i:Nat}(hi:i < 40)(h0:s.lp i≠0):(s.retire i).Ok:=by
 have hp1:=Q8 (f:=upd s.lp i 0) (v:=s.lp i) (i:=i) h0 (YD _ _ _) 40 hi;rw [ZJS] at hp1;have hf:full (s.en++[(s.lp i,s.now)])=full s.en++[(s.lp i,s.now)]:=by
  rw [ZCQ];congr 1;unfold full;simp [h0]
 have hpl:(s.retire i).live.Perm s.live:=by
  rw [LS.live_eq,LS.live_eq];show (((List.range 40).map (upd s.lp i 0)).filter (· != 0)++(full (s.en++[(s.lp i,s.now)])).map (·.1)).Perm _;rw [hf,ZLs];refine .trans ?_ (hp1.append_right _).symm;show (_++(_++[s.lp i])).Perm _;rw [<-List.append_assoc];exact List.perm_append_comm
 have hdis:∀ y∈full s.en,s.lp i % 4294967296≠y.1 % 4294967296:=by
  intro y hy e;obtain ⟨m,hL⟩:=h.liv _ (LS.mem_lp hi h0);obtain ⟨m',hL'⟩:=h.liv _ (LS.mem_en hy);have hmm:m=m':=by rw [hL.low hc.1,hL'.low hc.1] at e;omega
  subst hmm;have he:s.lp i=y.1:=hL.2.2.2.trans hL'.2.2.2.symm;have hnd:=h.nd;rw [LS.live_eq] at hnd;refine (ZL3.1 hnd).2.2 (s.lp i) (ZLv.2 ⟨ZLb.2 ⟨i,ZLz.2 hi,rfl⟩,by simpa using h0⟩) y.1 (ZLb.2 ⟨y,hy,rfl⟩) he
 refine ⟨.inr hc,h.blk,fun m=>⟨ZLi (h.gen m).1 nR,(h.gen m).2⟩,fun Q hQ=>h.liv Q (hpl.mem_iff.1 hQ),hpl.nodup_iff.2 h.nd,fun m hm he=>?_,ZAp h.its (fun y hy=>hdis y (h.per.mem_iff.1 hy)),?_,fun x hx=>?_,.inr ?_,h.fr,h.now,h.ann,?_,?_,?_⟩
 ·obtain ⟨Q,hQ,hL⟩:=h.use m hm he
  exact ⟨Q,hpl.mem_iff.2 hQ,hL⟩
 ·show (YK _ _).Perm (full (s.en++[_]))
  rw [hf];exact (VH _ _).trans ((h.per.cons _).trans (List.perm_append_comm (l₁:=[_])))
 ·rcases ZLZ.1 hx with hx|hx
  ·exact h.ep x hx
  ·have:x=(s.lp i,s.now):=by simpa using hx
   subst this;have:=h.now;exact ⟨by show 1<=s.now;omega,nR⟩
 ·show full (s.en++[_])≠[]
  rw [hf];simp
 ·show (((List.range 40).map (upd s.lp i 0)).filter (· != 0)).length+(s.nr+1)=s.na
  have h1:=hp1.length_eq;rw [List.length_cons] at h1;have:=h.cnt;omega
 ·show (s.en++[_]).length<=s.nr+1
  have:=h.len;simp;omega
 ·show s.fr.length+(full (s.en++[_])).length<=s.nr+1
  have:=h.fl;rw [hf];simp;omega
theorem ZHb:∀ {l:List (Nat×Nat)},(l.map (·.1)).Nodup->∀ {x y:Nat×Nat},x∈l->y∈l->x.1=y.1->x=y
 |[],_,x,y,hx,_,_=>by cases hx
 |z:: l,h,x,y,hx,hy,e=>by
  rw [List.map_cons,List.nodup_cons] at h;rcases List.mem_cons.1 hx with rfl|hx' <;> rcases List.mem_cons.1 hy with rfl|hy'
  ·rfl
  ·exact absurd (ZLb.2 ⟨y,hy',e.symm⟩:x.1∈l.map (·.1)) h.1
  ·exact absurd (ZLb.2 ⟨x,hx',e⟩:y.1∈l.map (·.1)) h.1
  ·exact ZHb h.2 hx' hy' e
theorem Vh (p:Nat×Nat->Bool):∀ l:List (Nat×Nat),(l.filter p).length+(l.filter fun x=>!p x).length=l.length
 |[]=>rfl
 |x:: l=>by
  have:=Vh p l;rw [List.filter_cons,List.filter_cons]
  by_cases e:p x=true
  ·simp [e];omega
  ·have e':p x=false:=by simpa using e
   simp [e'];omega
def LS.sf (s:LS)(x:Nat×Nat):Bool:=Zg s.now s.ann x.2
def LS.clr (s:LS)(x:Nat×Nat):Nat×Nat:=if s.sf x then (0,x.2) else x
def LS.frees (s:LS):List (Nat×Nat):=(full s.en).filter s.sf
def LS.drs (s:LS):List Nat:=s.frees.map fun x=>jOf x.1
def LS.en' (s:LS):List (Nat×Nat):=if full (s.en.map s.clr)=[] then [] else s.en.map s.clr
def LS.collect (s:LS):LS:={s with k:=s.k.after [] s.drs,en:=s.en',its:=s.its.filter (fun x=>!s.sf x),fr:=s.fr++(s.its.filter s.sf).map (·.1)}
theorem Um (s:LS):∀ l:List (Nat×Nat),full (l.map s.clr)=(full l).filter fun x=>!s.sf x
 |[]=>rfl
 |x:: l=>by
  have ih:=Um s l;unfold full at *;rw [List.map_cons,List.filter_cons,ih,List.filter_cons];unfold LS.clr
  by_cases e:s.sf x=true
  ·simp only [e,if_true]
   by_cases e2:x.1=0 <;> simp [e2,e]
  ·have e':s.sf x=false:=by simpa using e
   by_cases e2:x.1=0 <;> simp [e2,e']
theorem LS.full_en' (s:LS):full s.en'=(full s.en).filter fun x=>!s.sf x:=by
 unfold LS.en';split
 ·rename_i e;rw [<-Um,e];rfl
 ·exact Um s _
theorem LS.Ok.drs_mem {s:LS}(h:s.Ok)(hc:s.k.cl=0){j:Nat}(hj:j∈s.drs):∃ x,x∈full s.en/\s.sf x=true/\LivP s.k x.1 j:=by
 obtain ⟨x,hx,rfl⟩:=ZLb.1 hj;obtain ⟨h1,h2⟩:=ZLv.1 hx;obtain ⟨m,hL⟩:=h.liv _ (LS.mem_en h1);exact ⟨x,h1,h2,by rw [hL.jOf hc];exact hL⟩
theorem LS.Ok.drs_nd {s:LS}(h:s.Ok)(hc:s.k.cl=0):s.drs.Nodup:=by
 have hnd:=h.nd;rw [LS.live_eq] at hnd;have h2:=(ZL3.1 hnd).2.1;have h3:(s.frees.map (·.1)).Nodup:=(List.filter_sublist.map _).nodup h2;have e:s.drs=(s.frees.map (·.1)).map jOf:=by unfold LS.drs;rw [List.map_map];rfl
 rw [e];refine List.pairwise_map.2 (List.Pairwise.imp_of_mem (R:=(·≠·)) ?_ h3);intro a b ha hb hab e;obtain ⟨x,hx,rfl⟩:=ZLb.1 ha;obtain ⟨y,hy,rfl⟩:=ZLb.1 hb;obtain ⟨m,hL⟩:=h.liv _ (LS.mem_en (ZLv.1 hx).1);obtain ⟨m',hL'⟩:=h.liv _ (LS.mem_en (ZLv.1 hy).1);rw [hL.jOf hc,hL'.jOf hc] at e;subst e;exact hab (hL.2.2.2.trans hL'.2.2.2.symm)
theorem LS.Ok.drs_can {s:LS}(h:s.Ok)(hc:s.k.cl=0):s.k.Can [] s.drs:=
 ⟨by simpa using h.drs_nd hc,fun i hi=>by
   obtain ⟨x,_,_,hL⟩:=h.drs_mem hc (by simpa using hi);rw [Xd hc];exact hL.1,by simp,by simp,fun i hi=>by
   obtain ⟨x,_,_,hL⟩:=h.drs_mem hc hi;exact hL.2.1⟩
theorem LivP.kept {k k':Chk}(hs:k.Same k'){P j:Nat}(h:LivP k P j)(hb:k'.blk j=k.blk j):LivP k' P j:=by
 obtain ⟨h1,h2,h3,h4⟩:=h;refine ⟨h1,by rw [hb];exact h2,by rw [hb];exact h3,?_⟩;rw [h4];unfold Chk.ptr Chk.pay;rw [hb,hs.hdN]
theorem LS.Ok.collect {s:LS}(h:s.Ok)(hc:s.k.cl=0/\s.k.ow=0)(hnr:s.nr<=60000):s.collect.Ok:=by
 have hcan:=h.drs_can hc.1;have hsm:=s.k.same_after [] s.drs;have hat:∀ j,j∈s.drs->(s.k.after [] s.drs).blk j=(s.k.blk j).freed:=fun j hj=>hcan.at_dr hj
 have hel:∀ j,j∉s.drs->(s.k.after [] s.drs).blk j=s.k.blk j:=fun j hj=>Chk.Can.at_else (by simpa using hj)
 have hfl:=h.fl;have hgen:∀ j,((s.k.blk j).gen) < 65535:=fun j=>by have:=(h.gen j).1;omega
 have hfr:∀ j,(s.k.blk j).freed=⟨(s.k.blk j).gen+1,0,176⟩:=fun j=>by unfold Blk.freed;rw [ZLU (by have:=hgen j;omega)]
 have hge:∀ j,(s.k.blk j).gen<=((s.k.after [] s.drs).blk j).gen:=fun j=>by
  by_cases e:j∈s.drs
  ·rw [hat j e,hfr];show _<=(s.k.blk j).gen+1;omega
  ·rw [hel j e];omega
 have hfe:=s.full_en';have hsub:∀ Q,Q∈s.collect.live->Q∈s.live/\∀ m,LivP s.k Q m->m∉s.drs:=by
  intro Q hQ;rw [LS.live_eq] at hQ;have hnd:=h.nd;rw [LS.live_eq] at hnd;have hdis:=(ZL3.1 hnd).2.2;rcases ZLZ.1 hQ with hQ|hQ
  ·refine ⟨by rw [LS.live_eq];exact ZLZ.2 (.inl hQ),fun m hL hm=>?_⟩
   obtain ⟨x,hx,_,hL'⟩:=h.drs_mem hc.1 hm;exact hdis Q hQ x.1 (ZLb.2 ⟨x,hx,rfl⟩) (hL.2.2.2.trans hL'.2.2.2.symm)
  ·obtain ⟨x,hx,rfl⟩:=ZLb.1 hQ
   have hx:x∈full s.en':=hx;rw [hfe] at hx;obtain ⟨h1,h2⟩:=ZLv.1 hx;refine ⟨LS.mem_en h1,fun m hL hm=>?_⟩;obtain ⟨y,hy,hsf,hL'⟩:=h.drs_mem hc.1 hm;have e:x.1=y.1:=hL.2.2.2.trans hL'.2.2.2.symm;have hnd2:=(ZL3.1 hnd).2.1;have:x=y:=by
    exact ZHb hnd2 h1 hy e
   subst this;rw [hsf] at h2;simp at h2
 have hnd':s.collect.live.Nodup:=by
  have hnd:=h.nd;rw [LS.live_eq] at hnd ⊢;refine List.Sublist.nodup ?_ hnd;refine List.Sublist.append (.refl _) (List.Sublist.map _ ?_);show (full s.en').Sublist _;rw [hfe];exact List.filter_sublist
 have hpf:s.frees.length=(s.its.filter s.sf).length:=((h.per.filter s.sf).length_eq).symm;refine ⟨.inr ⟨hsm.cl.trans hc.1,hsm.ow.trans hc.2⟩,fun j hj=>?_,fun j=>⟨?_,ZLi (h.gen j).2 (hge j)⟩,fun Q hQ=>?_,hnd',fun j hj he=>?_,h.its.filter _,?_,fun x hx=>?_,?_,fun P hP=>?_,h.now,h.ann,h.cnt,?_,?_⟩
 ·show ((s.k.after [] s.drs).blk j).st=176\/_
  by_cases e:j∈s.drs
  ·rw [hat j e,hfr];exact .inl rfl
  ·show _\/((s.k.after [] s.drs).blk j).st=177
   rw [hel j e];exact h.blk j hj
 ·show ((s.k.after [] s.drs).blk j).gen<=(s.fr++(s.its.filter s.sf).map (·.1)).length+1
  rw [ZLc,ZLj,<-hpf];have:=(h.gen j).1
  by_cases e:j∈s.drs
  ·rw [hat j e,hfr]
   show (s.k.blk j).gen+1<=_;have:0 < s.frees.length:=by
    obtain ⟨x,hx,_⟩:=ZLb.1 e;exact List.length_pos_of_mem hx
   omega
  ·rw [hel j e];omega
 ·obtain ⟨h1,h2⟩:=hsub Q hQ
  obtain ⟨m,hL⟩:=h.liv Q h1;exact ⟨m,hL.kept hsm (hel m (h2 m hL))⟩
 ·have he:((s.k.after [] s.drs).blk j).st=177:=he
  by_cases e:j∈s.drs
  ·rw [hat j e,hfr] at he;cases he
  ·rw [hel j e] at he
   obtain ⟨Q,hQ,hL⟩:=h.use j hj he;refine ⟨Q,?_,hL.kept hsm (hel j e)⟩;rw [LS.live_eq] at hQ ⊢;rcases ZLZ.1 hQ with hQ|hQ
   ·exact ZLZ.2 (.inl hQ)
   ·obtain ⟨x,hx,rfl⟩:=ZLb.1 hQ
    refine ZLZ.2 (.inr (ZLb.2 ⟨x,?_,rfl⟩));show x∈full s.en';rw [hfe];refine ZLv.2 ⟨hx,?_⟩;cases hsf:s.sf x with
    |false=>rfl
    |true=>exact absurd (ZLb.2 ⟨x,ZLv.2 ⟨hx,hsf⟩,hL.jOf hc.1⟩) e
 ·show (s.its.filter _).Perm (full s.en')
  rw [hfe];exact h.per.filter _
 ·have hx:x∈s.en':=hx
  unfold LS.en' at hx;split at hx
  ·cases hx
  ·obtain ⟨y,hy,rfl⟩:=ZLb.1 hx
   have:=h.ep y hy;unfold LS.clr;split
   ·exact this
   ·exact this
 ·show s.en'=[]\/full s.en'≠[]
  unfold LS.en';split
  ·exact .inl rfl
  ·rename_i e;exact .inr e
 ·rcases ZLZ.1 hP with hP|hP
  ·obtain ⟨j,g,h1,h2,h3,h4⟩:=h.fr P hP
   refine ⟨j,g,h1,h2,ZLq h3 (hge j),?_⟩;rw [h4];show Yr (s.k.pay 103 j) g 65=Yr ((s.k.after [] s.drs).pay 103 j) g 65;unfold Chk.pay;rw [hsm.hdN]
  ·obtain ⟨x,hx,rfl⟩:=ZLb.1 hP
   obtain ⟨h1,h2⟩:=ZLv.1 hx;have h1':=h.per.mem_iff.1 h1;obtain ⟨j,hL⟩:=h.liv _ (LS.mem_en h1');have hj:j∈s.drs:=ZLb.2 ⟨x,ZLv.2 ⟨h1',h2⟩,hL.jOf hc.1⟩;refine ⟨j,(s.k.blk j).gen,hL.1,(h.gen j).2,?_,?_⟩
   ·show _ < ((s.k.after [] s.drs).blk j).gen
    rw [hat j hj,hfr];show _ < (s.k.blk j).gen+1;omega
   ·rw [hL.2.2.2];show Yr (s.k.pay 103 j) _ 65=Yr ((s.k.after [] s.drs).pay 103 j) _ 65
    unfold Chk.pay;rw [hsm.hdN]
 ·show s.en'.length<=s.nr
  have:=h.len;unfold LS.en';split
  ·simp
  ·simpa using this
 ·show (s.fr++(s.its.filter s.sf).map (·.1)).length+(full s.en').length<=s.nr
  rw [hfe,ZLc,ZLj,<-hpf];have:=Vh s.sf (full s.en);unfold LS.frees;omega
variable {T c c0:Nat->Nat}{s:LS}
theorem LS.Rep.low (h:s.Rep T c c0){c':Nat->Nat}{k:Chk}(hr:HRep T c' 71 2 (chs k))(he:∀ y,y < 824->c' y=c y):LS.Rep T c' c0 {s with k:=k} where
 rep:=hr
 log:=(he _ (by omega)).trans h.log
 nxt:=(he _ (by omega)).trans h.nxt
 num:=(he _ (by omega)).trans h.num
 ptr i hi:=(he _ (by omega)).trans (h.ptr i hi)
 epo i hi:=by
  have hi:i < s.en.length:=hi;have hn:=h.n29;rcases Nat.lt_or_ge i 29 with h2|h2
  ·exact (he _ (by omega)).trans (h.epo i hi)
  ·rcases Nat.lt_or_ge (580+2 * i) 824 with h3|h3
   ·exact (he _ h3).trans (h.epo i hi)
   ·omega
 lnk i hi:=(he _ (by omega)).trans (h.lnk i hi)
 clk:=(he _ (by omega)).trans h.clk
 rts y h1 h2:=(he y (by omega)).trans (h.rts y h1 h2)
 n29:=h.n29
theorem LS.Rep.claim (h:s.Rep T c c0){g:Nat}(hg:1<=g/\g < 65536):LS.Rep T (wrs c (YP T 103 (Chk.made 0 0 g))) c0 {s with k:=Chk.made 0 0 g}:=by
 have hk:(Chk.made 0 0 g).Head:=⟨hg,.inr ⟨Int.le_refl 0,by show (0:Int)<=4;omega,Int.le_refl 0,by show (0:Int)<=7;omega⟩⟩
 have h1:=h.rep.made (m:=1) (by omega) hk;rw [ZEj] at h1;refine h.low h1 fun y hy=>YU fun p hp e=>?_
 have hm:p.1 / 8∈(YP T 103 (Chk.made 0 0 g)).map (·.1 / 8):=ZLb.2 ⟨p,hp,rfl⟩;rw [VK,e] at hm;simp only [ZLZ,ZLb,ZLz,ZLt] at hm;rcases hm with (⟨i,_,rfl⟩|⟨i,_,rfl⟩)|rfl <;> omega
theorem LS.Rep.zero (h:s.Rep T c c0)(hc:s.k.cl=0){j off:Nat}(hj:j < 62)(ho:off=(833+4 * j) * 8):LS.Rep T (wrs c (Yh off 3)) c0 s:=by
 have hw:∀ p∈Yh off 3,∃ i,i < 3/\p.1 / 8=833+4 * j+i:=fun p hp=>by
  unfold Yh at hp;obtain ⟨i,hi,rfl⟩:=ZLb.1 hp;exact ⟨i,ZLz.1 hi,by subst ho;simp only;omega⟩
 refine h.low (k:=s.k) (h.rep.wrs fun p hp=>?_) fun y hy=>YU fun p hp e=>?_
 ·obtain ⟨i,hi,e⟩:=hw p hp
  have:=Pay.word h.rep (k:=1) (j:=j) (a:=i+1) (by omega) (by rw [XF,Xd hc];exact hj) (by omega) (by rw [XF,ZBw hc];omega);have e2:8 * (71+32 * 1)+hdN (chs s.k 1) j+(i+1)=p.1 / 8:=by rw [XF];unfold hdN;rw [ZBw hc];omega
  rw [e2] at this;exact this
 ·obtain ⟨i,hi,e2⟩:=hw p hp;omega
def YV (i P:Nat):List (Nat×Nat):=[(8 * (638+i),P)]
theorem LS.Rep.make (h:s.Rep T c c0)(hc:s.k.cl=0){i j P v:Nat}(hi:i < 40)(hj:j < 62)(hs:(s.k.blk j).st=176):(s.make i j P).Rep T (wrs c (cmL 640 v (YV i P++ZR T 103 s.k [(j,65)] [])).flatten) c0:=by
 have hl:(YV i P++ZR T 103 s.k [(j,65)] []).length<=96:=by rw [ZLc,XC];simp [YV]
 have h8:∀ p∈YV i P,p.1 % 8=0:=fun p hp=>by unfold YV at hp;simp at hp;subst hp;simp only;omega
 have hlow:∀ y,y < 80\/288<=y/\y < 824->y≠638+i->wrs c (cmL 640 v (YV i P++ZR T 103 s.k [(j,65)] [])).flatten y=c y:=fun y hy hne=>by
  rw [ZBf hl h8 hy];unfold YV;rw [YS,VV,YW _ _ (by omega)]
 refine ⟨ZEr h.rep (by omega) (ZDJ (by rw [Xd hc];exact hj) hs) (fun q hq=>?_) hl (fun p hp=>(ZLZ.1 hp).elim (h8 p) (Ug p)),ZBP,?_,?_,fun m hm=>?_,fun m hm=>?_,fun m hm=>?_,?_,fun y h1 h2=>?_,h.n29⟩
 ·unfold YV at hq;simp at hq;subst hq
  exact QG h.rep (by simp only;omega)
 ·rw [hlow _ (by omega) (by omega)];exact h.nxt
 ·rw [hlow _ (by omega) (by omega)];exact h.num
 ·rw [hlow _ (by omega) (by omega)];exact h.ptr m hm
 ·have:m < s.en.length:=hm
  have:=h.n29;rw [hlow _ (by omega) (by omega)];exact h.epo m hm
 ·show _=upd s.lp i P m
  by_cases e:m=i
  ·subst e
   rw [YD,ZBf hl h8 (by omega)];unfold YV;rw [YS,VV,show (8 * (638+m),P).1 / 8=638+m by simp only;omega,YD]
  ·rw [YW _ _ e,hlow _ (by omega) (by omega)];exact h.lnk m hm
 ·rw [hlow _ (by omega) (by omega)];exact h.clk
 ·rw [hlow _ (by omega) (by omega)];exact h.rts y h1 h2
def XU (s:LS)(i:Nat):List (Nat×Nat):=[(8 * (638+i),0),(8 * (579+2 * s.en.length),s.lp i),(8 * (580+2 * s.en.length),s.now),(8 * 578,s.en.length+1)]
theorem Uo {l:List (Nat×Nat)}{x d:Nat×Nat}{m:Nat}(h:m < l.length):(l++[x]).getD m d=l.getD m d:=by
 rw [ZLw,ZLw,List.getElem?_append_left h]
theorem Un {l:List (Nat×Nat)}{x d:Nat×Nat}:(l++[x]).getD l.length d=x:=by
 rw [ZLw,ZL6 nR];simp
theorem V8 {l:List (Nat×Nat)}{d:Nat×Nat}{m:Nat}(h:l.length<=m):l.getD m d=d:=by
 rw [ZLw,List.getElem?_eq_none h];rfl
theorem LS.Rep.retire (h:s.Rep T c c0){i v:Nat}(hi:i < 40)(hn:s.en.length < 29):(s.retire i).Rep T (wrs c (cmL 640 v (XU s i)).flatten) c0:=by
 have hl:(XU s i).length<=96:=by simp [XU]
 have h8:∀ p∈XU s i,p.1 % 8=0:=fun p hp=>by
  unfold XU at hp;simp at hp;rcases hp with rfl|rfl|rfl|rfl <;> simp only <;> omega
 have hv:∀ y,y < 80\/288<=y->wrs c (cmL 640 v (XU s i)).flatten y=if y=578 then s.en.length+1 else if y=580+2 * s.en.length then s.now else if y=579+2 * s.en.length then s.lp i else if y=638+i then 0 else c y:=fun y hy=>by
  rw [lcm hl h8 hy];unfold XU;simp only [YS,VV,upd,Nat.mul_div_cancel_left _ (show 0 < 8 by omega)]
 refine ⟨ZHL h.rep (fun q hq=>?_) hl h8,ZBP,?_,?_,fun m hm=>?_,fun m hm=>?_,fun m hm=>?_,?_,fun y h1 h2=>?_,?_⟩
 ·refine QG h.rep ?_
  unfold XU at hq;simp at hq;rcases hq with rfl|rfl|rfl|rfl <;> simp only <;> omega
 ·rw [hv _ (by omega),ZLU (by omega),ZLU (by omega),ZLU (by omega),ZLU (by omega)];exact h.nxt
 ·rw [hv _ (by omega),ZLX rfl];show _=(s.en++[_]).length;simp
 ·show _=((s.en++[(s.lp i,s.now)]).getD m (0,0)).1
  rw [hv _ (by omega),ZLU (by omega),ZLU (by omega)]
  by_cases e:m=s.en.length
  ·subst e;rw [ZLX rfl,Un]
  ·rw [ZLU (by omega),ZLU (by omega),h.ptr m hm]
   rcases Nat.lt_or_ge m s.en.length with h1|h1
   ·rw [Uo h1]
   ·rw [V8 h1,V8 (by simp;omega)]
 ·have hm:m < (s.en++[(s.lp i,s.now)]).length:=hm
  have hm2:m<=s.en.length:=by simp at hm;omega
  show _=((s.en++[(s.lp i,s.now)]).getD m (0,0)).2;rw [hv _ (by omega),ZLU (by omega)]
  by_cases e:m=s.en.length
  ·subst e;rw [ZLX rfl,Un]
  ·rw [ZLU (by omega),ZLU (by omega),ZLU (by omega),h.epo m (by omega),Uo (by omega)]
 ·show _=upd s.lp i 0 m
  rw [hv _ (by omega),ZLU (by omega),ZLU (by omega),ZLU (by omega)]
  by_cases e:m=i
  ·subst e;rw [ZLX rfl,YD]
  ·rw [ZLU (by omega),YW _ _ e];exact h.lnk m hm
 ·rw [hv _ (by omega),ZLU (by omega),ZLU (by omega),ZLU (by omega),ZLU (by omega)];exact h.clk
 ·rw [hv _ (by omega),ZLU (by omega),ZLU (by omega),ZLU (by omega),ZLU (by omega)];exact h.rts y h1 h2
 ·show (s.en++[_]).length<=29
  simp;omega
def LS.ixs (s:LS):List Nat:=(List.range s.en.length).filter fun i=>(s.en.getD i (0,0)).1 != 0 && s.sf (s.en.getD i (0,0))
theorem Qy (l:List (Nat×Nat)):(List.range l.length).map (fun i=>l.getD i (0,0))=l:=by
 refine List.ext_getElem (by simp) fun i h1 h2=>?_
 simp [ZLw,h2]
theorem LS.frees_ixs (s:LS):s.frees=s.ixs.map fun i=>s.en.getD i (0,0):=by
 unfold LS.frees full LS.ixs
 conv=>lhs;rw [<-Qy s.en]
 rw [List.filter_filter,List.filter_map]
 congr 1
 refine List.filter_congr fun i _=>?_
 simp [Bool.and_comm]
def YH (s:LS):List (Nat×Nat):=s.ixs.map (fun i=>(8 * (579+2 * i),0))++if full (s.en.map s.clr)=[] then [(8 * 578,0)] else []
theorem ZDY {x:Nat}:∀ {l:List (Nat×Nat)} {c:Nat->Nat},(∀ p∈l,p.2=0)->wrs c l x=if ∃ p∈l,p.1 / 8=x then 0 else c x
 |[],c,_=>by simp [VV]
 |p:: l,c,h=>by
  rw [YS,ZDY (fun q hq=>h q (.tail _ hq))];have hp:=h p (.head _)
  by_cases e:∃ q∈l,q.1 / 8=x
  ·rw [ZLX e,ZLX (by obtain ⟨q,h1,h2⟩:=e;exact ⟨q,.tail _ h1,h2⟩)]
  ·rw [ZLU e]
   by_cases e2:p.1 / 8=x
   ·rw [ZLX ⟨p,.head _,e2⟩];unfold upd;rw [ZLX e2.symm];exact hp
   ·rw [ZLU (by rintro ⟨q,h1,h2⟩;rcases List.mem_cons.1 h1 with rfl|h1;exact e2 h2;exact e ⟨q,h1,h2⟩)]
    exact YW _ _ (fun q=>e2 q.symm)
theorem LS.Rep.collect (h:s.Rep T c c0)(ho:s.Ok)(hc:s.k.cl=0){v:Nat}:s.collect.Rep T (wrs c (cmL 640 v (YH s++ZR T 103 s.k [] s.drs)).flatten) c0:=by
 have hn:=h.n29;have hix:∀ i∈s.ixs,i < s.en.length:=fun i hi=>ZLz.1 (ZLv.1 hi).1
 have hxl:s.ixs.length<=s.en.length:=by
  have:=ZL0 (fun i=>(s.en.getD i (0,0)).1 != 0 && s.sf (s.en.getD i (0,0))) (List.range s.en.length);simpa [LS.ixs] using this
 have hdl:s.drs.length=s.ixs.length:=by unfold LS.drs;rw [LS.frees_ixs];simp
 have hl:(YH s++ZR T 103 s.k [] s.drs).length<=96:=by
  rw [ZLc,XC,hdl];unfold YH;rw [ZLc,ZLj];split <;> (try simp) <;> (try omega)
 have hmem:∀ p∈YH s,p.2=0/\p.1 % 8=0/\(p.1 / 8=578\/∃ i,i < s.en.length/\p.1 / 8=579+2 * i):=fun p hp=>by
  unfold YH at hp;rcases ZLZ.1 hp with hp|hp
  ·obtain ⟨i,hi,rfl⟩:=ZLb.1 hp
   exact ⟨rfl,by simp only;omega,.inr ⟨i,hix i hi,by simp only;omega⟩⟩
  ·split at hp
   ·simp at hp;subst hp;exact ⟨rfl,by simp,.inl (by simp)⟩
   ·cases hp
 have h8:∀ p∈YH s,p.1 % 8=0:=fun p hp=>(hmem p hp).2.1
 have hv:∀ y,y < 80\/288<=y/\y < 824->wrs c (cmL 640 v (YH s++ZR T 103 s.k [] s.drs)).flatten y=if ∃ p∈YH s,p.1 / 8=y then 0 else c y:=fun y hy=>by
  rw [ZBf hl h8 hy];exact ZDY fun p hp=>(hmem p hp).1
 have hno:∀ y,y < 80\/288<=y/\y < 824->y≠578->(∀ i,i < s.en.length->y≠579+2 * i)->wrs c (cmL 640 v (YH s++ZR T 103 s.k [] s.drs)).flatten y=c y:=fun y hy h1 h2=>by
  rw [hv y hy,ZLU];rintro ⟨p,hp,e⟩;rcases (hmem p hp).2.2 with q|⟨i,hi,q⟩
  ·exact h1 (e.symm.trans q)
  ·exact h2 i hi (e.symm.trans q)
 have hptr:∀ m,m < 29->wrs c (cmL 640 v (YH s++ZR T 103 s.k [] s.drs)).flatten (579+2 * m)=((s.en.map s.clr).getD m (0,0)).1:=fun m hm=>by
  rw [hv _ (by omega)];rcases Nat.lt_or_ge m s.en.length with h1|h1
  ·have e1:(s.en.map s.clr).getD m (0,0)=s.clr (s.en.getD m (0,0)):=by simp [ZLw,h1]
   rw [e1];unfold LS.clr
   by_cases hx:m∈s.ixs
   ·have h2:=(ZLv.1 hx).2
    simp only [Bool.and_eq_true] at h2;rw [ZLX h2.2,ZLX ⟨(8 * (579+2 * m),0),by unfold YH;exact ZLZ.2 (.inl (ZLb.2 ⟨m,hx,rfl⟩)),by simp only;omega⟩]
   ·rw [ZLU,h.ptr m hm]
    ·split
     ·rename_i e
      by_cases e0:(s.en.getD m (0,0)).1=0
      ·exact e0
      ·exact absurd (ZLv.2 ⟨ZLz.2 h1,by rw [Bool.and_eq_true];exact ⟨bne_iff_ne.2 e0,e⟩⟩) hx
     ·rfl
    ·rintro ⟨p,hp,e⟩
     unfold YH at hp;rcases ZLZ.1 hp with hp|hp
     ·obtain ⟨i,hi,rfl⟩:=ZLb.1 hp
      simp only at e;have:i=m:=by omega
      exact hx (this▸hi)
     ·split at hp
      ·simp at hp;subst hp;simp only at e;omega
      ·cases hp
  ·rw [V8 (by simpa using h1),ZLU,h.ptr m hm,V8 h1]
   rintro ⟨p,hp,e⟩;rcases (hmem p hp).2.2 with q|⟨i,hi,q⟩ <;> omega
 refine ⟨ZEr h.rep (by omega) (ho.drs_can hc) (fun q hq=>QG h.rep ?_) hl (fun p hp=>(ZLZ.1 hp).elim (h8 p) (Ug p)),ZBP,?_,?_,fun m hm=>?_,fun m hm=>?_,fun m hm=>?_,?_,fun y h1 h2=>?_,?_⟩
 ·rcases (hmem q hq).2.2 with e|⟨i,hi,e⟩ <;> omega
 ·rw [hno _ (by omega) (by omega) (by omega)];exact h.nxt
 ·rw [hv _ (by omega)]
  show _=s.en'.length;unfold LS.en'
  by_cases e:full (s.en.map s.clr)=[]
  ·rw [ZLX e,ZLX ⟨(8 * 578,0),by unfold YH;rw [ZLX e];simp,by simp⟩];rfl
  ·rw [ZLU e,ZLU,ZLj]
   ·exact h.num
   ·rintro ⟨p,hp,e2⟩
    unfold YH at hp;rw [ZLU e,List.append_nil] at hp;obtain ⟨i,hi,rfl⟩:=ZLb.1 hp;simp only at e2;omega
 ·show _=(s.en'.getD m (0,0)).1
  rw [hptr m hm];unfold LS.en'
  by_cases e:full (s.en.map s.clr)=[]
  ·rw [ZLX e]
   show _=0;rcases Nat.lt_or_ge m (s.en.map s.clr).length with h1|h1
   ·have hmm:(s.en.map s.clr).getD m (0,0)∈s.en.map s.clr:=by
     rw [ZLw,ZLg h1];exact ZLl h1
    by_cases e0:((s.en.map s.clr).getD m (0,0)).1=0
    ·exact e0
    ·have:(s.en.map s.clr).getD m (0,0)∈full (s.en.map s.clr):=ZLv.2 ⟨hmm,by simpa using e0⟩
     rw [e] at this;cases this
   ·rw [V8 h1]
  ·rw [ZLU e]
 ·have hm:m < s.en'.length:=hm
  show _=(s.en'.getD m (0,0)).2;unfold LS.en' at hm ⊢
  by_cases e:full (s.en.map s.clr)=[]
  ·rw [ZLX e] at hm;cases hm
  ·rw [ZLU e] at hm ⊢
   rw [ZLj] at hm;rw [hno _ (by omega) (by omega) (by omega),h.epo m hm];simp only [ZLw,List.getElem?_map,ZLg hm];show _=(s.clr s.en[m]).2;unfold LS.clr;split <;> rfl
 ·show _=s.lp m
  rw [hno _ (by omega) (by omega) (by omega)];exact h.lnk m hm
 ·rw [hno _ (by omega) (by omega) (by omega)];exact h.clk
 ·rw [hno _ (by omega) (by omega) (by omega)];exact h.rts y h1 h2
 ·show s.en'.length<=29
  unfold LS.en';split
  ·simp
  ·simpa using hn
def LS.advance (s:LS):LS:={s with now:=s.now+1}
theorem LS.Rep.advance (h:s.Rep T c c0):s.advance.Rep T (wrs c [(4480,7309464666214760448+(s.now+1))]) c0:=by
 have hv:∀ y,y≠560->wrs c [(4480,7309464666214760448+(s.now+1))] y=c y:=fun y hy=>by
  rw [YS,VV];exact YW _ _ (by simpa using hy)
 refine ⟨h.rep.wrs (fun q hq=>by simp at hq;subst hq;exact QG h.rep (by simp only;omega)),?_,?_,?_,fun m hm=>?_,fun m hm=>?_,fun m hm=>?_,?_,fun y h1 h2=>?_,h.n29⟩
 ·rw [hv _ (by omega)];exact h.log
 ·rw [hv _ (by omega)];exact h.nxt
 ·rw [hv _ (by omega)];exact h.num
 ·rw [hv _ (by omega)];exact h.ptr m hm
 ·rw [hv _ (by omega)];exact h.epo m hm
 ·rw [hv _ (by omega)];exact h.lnk m hm
 ·rw [YS,VV]
  unfold upd LS.advance;simp
 ·rw [hv _ (by omega)];exact h.rts y h1 h2
theorem LS.Ok.advance (h:s.Ok):s.advance.Ok:={h with
 ep:=fun x hx=>⟨(h.ep x hx).1,Nat.le_succ_of_le (h.ep x hx).2⟩
 now:=Nat.le_succ_of_le h.now
 ann:=fun t=>Nat.le_succ_of_le (h.ann t)}
end
end Go.Proofs.YtbpeehmepehkdaaGreatDoor.Dv
