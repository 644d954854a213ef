/- Part 42. -/
import Derived.Test.YteomliechfdhhaaGreatDoorY41
set_option maxHeartbeats 8000000
set_option maxRecDepth 20000
set_option linter.all false
namespace Go.Proofs.YteomliechfdhhaaGreatDoor.Dv
open Tryz
section
open Go.RowKit Go.Proofs.YteomliechfdhhaaGreatDoor.Size
variable {w w':World}{A:DAd}{F F':Nat->Option ZK}{T c c' c0:Nat->Nat}{x x':Nat}{H:HAd}{ex n:Nat}{s:LS}{B:WAd}{fv iv:Value}
theorem WC.ar (h:WC w A F T c x H ex B c0 s):Ar w A F 160 T c:=h.hw.aq.ar
theorem WC.hn (h:WC w A F T c x H ex B c0 s):H.n=2:=by unfold HAd.n;rw [h.l0.2.1]
theorem WC.chk (h:WC w A F T c x H ex B c0 s){m:Nat}(hm:m < 2):CRep T c (8 * (H.l0+32 * m)) (chs s.k m):=by rw [h.l0.1];exact h.rep.rep m hm
theorem Xc (h:WC w A F T c x H ex B c0 s):
 Calls prog 18 #[.pointer (some ⟨B.db,0,none⟩),.int .u64 (pL:Nat),.int .u8 12] w fun e w'=>e=.returned (.int .i64 0)/\Bl w w':=by
 have hR:=h.chk (m:=0) (by omega);rw [XH] at hR;have h1:=Xy h.ar h.hw.hp (m:=0) (k:=k0) (by rw [h.hn];omega) (by rw [h.l0.1];omega) hR (by decide) (p:=pL) (by decide) (by decide) (by rw [h.l0.1];decide) (by rw [h.l0.1];decide) 12 (by omega);rw [h.l0.1] at h1;exact V7 h.dr (by simpa [ZEK,V6,Xk.2.2] using h1)
theorem ZHf (h:WC w A F T c x H ex B c0 s){P kd:Nat}(hP:InC P)(hc:s.k.cl=0)(hkd:kd < 256):
 Calls prog 18 #[.pointer (some ⟨B.db,0,none⟩),.int .u64 P,.int .u8 kd] w fun e w'=>e=.returned (.int .i64 (V6 (s.k.block 103 P).2 kd P))/\Bl w w':=by
 have hR:=h.chk (m:=1) (by omega);rw [Y4] at hR;have h1:=Xy h.ar h.hw.hp (m:=1) (k:=s.k) (by rw [h.hn];omega) (by rw [h.l0.1];omega) hR (by omega) (p:=P) hP.ok.ne hP.ok.lt (by rw [h.l0.1];exact hP.lo) (by rw [h.l0.1];exact hP.hi) kd hkd;rw [h.l0.1] at h1;exact V7 h.dr h1
theorem Xd (h:WC w A F T c x H ex B c0 s)(hi:s.Inv n)(hn:n<=60){P kd:Nat}(hP:P∈s.live)(hkd:kd=0\/kd=65):
 Calls prog 18 #[.pointer (some ⟨B.db,0,none⟩),.int .u64 P,.int .u8 kd] w fun e w'=>e=.returned (.int .i64 0)/\Bl w w':=by
 obtain ⟨h1,h2,h3,h4⟩:=hi.live_chk hn h.rep.head hP;have:=ZHf h h2 h1 (kd:=kd) (by omega);rw [h4] at this;have e:V6 0 kd P=0:=by
  unfold V6;rw [ZKv rfl];rcases hkd with rfl|rfl
  ·rfl
  ·rw [ZKu (by omega),ZKv h3.symm]
 rw [e] at this;exact this
theorem WR.cells (h:WR w F H B s fv iv){i:Nat}(hi:i < 55):w.cell? ⟨B.wb,i,none⟩=some (wwC B s fv iv i):=h.row.cell i hi
theorem WR.zero (h:WR w F H B s fv iv):w.cell? ⟨B.wb,0,none⟩=some (.pointer (some ⟨B.pb,0,none⟩)):=h.cells (by omega)
theorem WR.one (h:WR w F H B s fv iv):w.cell? ⟨B.wb,1,none⟩=some (.pointer (some ⟨B.db,0,none⟩)):=h.cells (by omega)
theorem WR.two (h:WR w F H B s fv iv):w.cell? ⟨B.wb,2,none⟩=some (.pointer (some ⟨B.lib,0,none⟩)):=h.cells (by omega)
theorem WR.three (h:WR w F H B s fv iv):w.cell? ⟨B.wb,3,none⟩=some (.int .u64 (pA:Nat)):=h.cells (by omega)
theorem WR.lp (h:WR w F H B s fv iv){i:Nat}(hi:i < 40):w.cell? ⟨B.wb,4+i,none⟩=some (.int .u64 (s.lp i:Nat)):=by
 have:=h.cells (i:=4+i) (by omega);unfold wwC at this;rw [ZKu (by omega),ZKu (by omega),ZKu (by omega),ZKu (by omega),ZKv (by omega),show 4+i - 4=i by omega] at this;exact this
theorem WR.fvc (h:WR w F H B s fv iv):w.cell? ⟨B.wb,44,none⟩=some fv:=h.cells (by omega)
theorem WR.ivc (h:WR w F H B s fv iv):w.cell? ⟨B.wb,45,none⟩=some iv:=h.cells (by omega)
theorem WR.nowc (h:WR w F H B s fv iv):w.cell? ⟨B.wb,46,none⟩=some (.int .u64 (s.now:Nat)):=h.cells (by omega)
theorem WR.annc (h:WR w F H B s fv iv):w.cell? ⟨B.wb,47,none⟩=some (.int .u64 (s.ann 0:Nat))/\w.cell? ⟨B.wb,48,none⟩=some (.int .u64 (s.ann 1:Nat))/\w.cell? ⟨B.wb,49,none⟩=some (.int .u64 (s.ann 2:Nat))/\w.cell? ⟨B.wb,50,none⟩=some (.int .u64 (s.ann 3:Nat))/\w.cell? ⟨B.wb,51,none⟩=some (.int .u64 (s.ann 4:Nat))/\w.cell? ⟨B.wb,52,none⟩=some (.int .u64 (s.ann 5:Nat))/\w.cell? ⟨B.wb,53,none⟩=some (.int .u64 (s.ann 6:Nat))/\w.cell? ⟨B.wb,54,none⟩=some (.int .u64 (s.ann 7:Nat)):=
 ⟨h.cells (by omega),h.cells (by omega),h.cells (by omega),h.cells (by omega),h.cells (by omega),h.cells (by omega),h.cells (by omega),h.cells (by omega)⟩
theorem WR.free (h:WR w F H B s fv iv)(i:Nat):w.frozen? ⟨B.wb,i,none⟩=false:=h.row.free i
theorem WR.put (h:WR w F H B s fv iv) (i:Nat) (u:Value) {B':WAd} {s':LS} {fv' iv':Value} (hB:B'.wb=B.wb) (hc:∀ y,y < 55->wwC B' s' fv' iv' y=if y=i then u else wwC B s fv iv y)
 (h1:OwF w F H 30 1 fv' s'.fr.length (ptl s'.fr))(h2:OwF w F H 452 2 iv' s'.its.length (rcl s'.its)):WR (w.setCell ⟨B.wb,i,none⟩ u) F H B' s' fv' iv' where
 row:=by rw [hB];exact (h.row.set i u).congr fun y hy=>hc y hy
 fre:=h1.setw h.row (by decide) u
 ite:=h2.setw h.row (by decide) u
 fw:=by rw [hB];exact h.fw
theorem WC.clock (h:WC w A F T c x H ex B c0 s){now:Nat}{an:Nat->Nat}(ho:Only (fun k=>k=B.kb) w w')(hk:CkB w' A B.kb now an){s':LS}(hs:s'.k=s.k/\s'.now=now/\s'.ann=an)(hr:s'.Rep T c c0):WC w' A F T c x H ex B c0 s':=by
 obtain ⟨e1,e2,e3⟩:=hs;have hne:∀ {b:Nat} {a:Array Value} {e:TypeId},w.heap[b]?=some (.cells a e (0,0))->e≠99->w'.heap[b]?=w.heap[b]?:=fun {b a e} hb he=>ho.block b (heap_lt hb) (fun q=>by
  have q:b=B.kb:=q;rw [q,h.ck] at hb;cases hb;exact he rfl)
 exact {hw:=by rw [e1];exact h.hw.only ho (fun k _ hk=>hk▸h.fk),l0:=h.l0,dr:=⟨(hne h.dr.dr (by decide)).trans h.dr.dr,(hne h.dr.lg (by decide)).trans h.dr.lg,h.dr.t,h.dr.fd,h.dr.fl⟩,ck:=by rw [e2,e3];exact hk,fk:=h.fk,li:=(hne h.li (by decide)).trans h.li,fi:=h.fi,po:=(hne h.po (by decide)).trans h.po,fp:=h.fp,rt:=(hne h.rt (by decide)).trans h.rt,fr:=h.fr,rep:=hr,xk:=h.xk,xo:=h.xo,xf:=h.xf,xb:=Zr h.xb ho h.x0 (fun k _ q=>by have q:k=B.kb:=q;rw [q];exact h.xk.1),xt:=h.xt.only ho (fun p hp=>h.xt.ne hp h.ck h.xk.1 (by decide))}
theorem WR.clock (h:WR w F H B s fv iv){now:Nat}{an:Nat->Nat}(hc:CkB w A B.kb now an)(ho:Only (fun k=>k=B.kb) w w'):WR w' F H B s fv iv:=by
 have hne:B.wb≠B.kb:=(XG hc h.row (by decide)).symm;have hown:∀ {e:TypeId} {z n:Nat} {v:Value} {xs:List Value},w.ownsRow 0 e z v n xs->e≠99->∀ k,v.ownBlock=some k->¬ (k=B.kb):=fun {e z n v xs} h1 he k hk q=>by
  rw [q] at hk;exact Zc h1 hc he hk
 exact ⟨h.row.of_block (ho.block _ h.row.lt hne),⟨Z4 h.fre.1 ho (hown h.fre.1 (by decide)),h.fre.2⟩,⟨Z4 h.ite.1 ho (hown h.ite.1 (by decide)),h.ite.2⟩,h.fw⟩
theorem ZFK {l:List (Nat×Nat)}(h:(l.map (·.1 / 8)).Nodup):(l.map (·.1)).Nodup:=
 List.pairwise_map.2 ((List.pairwise_map.1 h).imp fun hne e=>hne (by rw [e]))
theorem ZEa {k:Chk}(hk:k.Head)(hc:k.cl=0){tk:List (Nat×Nat)}{dr:List Nat}(h:k.Can tk dr)(hg:∀ j,1<=(k.blk j).gen/\(k.blk j).gen < 65536)(hT:∀ i,i < 4294967296->ZX T i < 18446744073709551616):
 ∀ p∈ZO T 103 k tk dr,p.1 % 8=0/\p.1 < 64 * 160/\6592<=p.1/\p.2 < 18446744073709551616:=by
 intro p hp;refine ⟨UM p hp,?_,by have:=Q7 p hp;omega,?_⟩
 ·unfold ZO YN Yc Qp hdW at hp
  simp only [ZK1,ZKz,ZLL] at hp;rcases hp with (⟨q,hq,rfl⟩|⟨q,hq,rfl⟩)|rfl
  ·have:=YF hk (h.lt q.1 (ZK1.2 (.inl (ZKz.2 ⟨q,hq,rfl⟩))))
   simp only;omega
  ·have:=YF hk (h.lt q (ZK1.2 (.inr hq)))
   simp only;omega
  ·simp
 ·unfold ZO YN Yc Qp hdW at hp
  simp only [ZK1,ZKz,ZLL] at hp;rcases hp with (⟨q,hq,rfl⟩|⟨q,hq,rfl⟩)|rfl
  ·have hkd:=h.kind q hq
   exact hT _ (Blk.Good.info_lt ⟨hg q.1,.inr (.inl ⟨rfl,hkd.1,hkd.2⟩)⟩)
  ·have:=hg q
   refine hT _ (Blk.Good.info_lt ?_);unfold Blk.freed;split
   ·rename_i e;exact ⟨⟨by simp,by simp⟩,.inr (.inr ⟨rfl,rfl,rfl⟩)⟩
   ·rename_i e;exact ⟨⟨by simp only;omega,by simp only;omega⟩,.inl ⟨rfl,rfl⟩⟩
  ·have hb:=YW (k.after tk dr).used (perN (k.after tk dr))
   have hp:perN (k.after tk dr)=62:=XJ ((k.same_after tk dr).cl.trans hc);rw [hp] at hb ⊢;exact Nat.lt_trans hb (by decide)
theorem ZBh {k:Chk} (hk:k.Head) (hc:k.cl=0) {tk:List (Nat×Nat)} {dr:List Nat} (h:k.Can tk dr) (hg:∀ j,1<=(k.blk j).gen/\(k.blk j).gen < 65536) (hT:∀ i,i < 4294967296->ZX T i < 18446744073709551616)
 {lw:List (Nat×Nat)} (hn:(lw.map (·.1)).Nodup) (hl:∀ p∈lw,p.1 % 8=0/\2304<=p.1/\p.1 < 6592/\p.2 < 18446744073709551616):Vp 160 640 1664 (lw++ZO T 103 k tk dr):=by
 have ha:=ZEa hk hc h hg hT;refine ⟨?_,fun p hp=>?_⟩
 ·rw [ZLH,ZLO]
  refine ⟨hn,ZFK (UN hk h),fun a ha1 b hb1 e=>?_⟩;obtain ⟨p,hp,rfl⟩:=ZKz.1 ha1;obtain ⟨q,hq,rfl⟩:=ZKz.1 hb1;have:=(hl p hp).2.2.1;have:=(ha q hq).2.2.1;omega
 ·rcases ZK1.1 hp with hp|hp
  ·obtain ⟨h1,h2,h3,h4⟩:=hl p hp
   exact ⟨h1,by omega,by omega,h4⟩
  ·obtain ⟨h1,h2,h3,h4⟩:=ha p hp
   exact ⟨h1,h2,by omega,h4⟩
theorem ZG4 {k k':Chk}(h:k.Same k'):plc k'=plc k:=by
 funext j;unfold plc;rw [h.cl,h.ow]
theorem LS.ixs_le (s:LS):s.ixs.length<=s.en.length:=by
 have:=ZLX (fun i=>(s.en.getD i (0,0)).1 != 0 && s.sf (s.en.getD i (0,0))) (List.range s.en.length);simpa [LS.ixs] using this
theorem LS.drs_len (s:LS):s.drs.length=s.ixs.length:=by unfold LS.drs;rw [LS.frees_ixs];simp
theorem ZCI (s:LS)(hn:s.en.length<=29):((YB s).map (·.1)).Nodup/\∀ p∈YB s,p.1 % 8=0/\2304<=p.1/\p.1 < 6592/\p.2 < 18446744073709551616:=by
 have hix:∀ i∈s.ixs,i < s.en.length:=fun i hi=>ZLJ.1 (ZLK.1 hi).1
 have hnd:s.ixs.Nodup:=List.nodup_range.filter _;have hn1:((s.ixs.map (fun i=>(8 * (579+2 * i),0))).map (·.1)).Nodup:=by
  rw [List.map_map];exact List.Pairwise.map _ (fun a b hab e=>hab (by simp only [Function.comp_apply] at e;omega)) hnd
 constructor
 ·unfold YB
  split
  ·rw [ZLH,ZLO]
   refine ⟨hn1,by simp,fun a ha b hb e=>?_⟩;rw [List.map_map] at ha;obtain ⟨i,_,rfl⟩:=ZKz.1 ha;simp at hb;simp only [Function.comp_apply] at e;omega
  ·rw [List.append_nil];exact hn1
 ·intro p hp
  unfold YB at hp;rcases ZK1.1 hp with hp|hp
  ·obtain ⟨i,hi,rfl⟩:=ZKz.1 hp
   have:=hix i hi;exact ⟨by simp only;omega,by simp only;omega,by simp only;omega,by simp only;omega⟩
  ·split at hp
   ·simp at hp;subst hp;exact ⟨by simp,by simp,by simp,by simp⟩
   ·cases hp
theorem ZAT (s:LS):s.ixs.length<=(YB s).length/\(YB s).length<=s.ixs.length+1:=by
 unfold YB;split <;> simp
theorem ZD4 (h:WC w A F T c x H ex B c0 s)(hi:s.Inv n)(hn:n<=59)(hx:x<=900000):
 Calls prog 16 #[.pointer (some ⟨B.lib,0,none⟩),.iface 27 (.pointer (some ⟨B.db,0,none⟩))] w fun e w'=>e=.returned (.tuple #[.int .i64 (s.frees.length:Nat),.int .i64 0])/\(s.frees=[]/\Bl w w'\/s.frees≠[]/\∃ F' c',WC w' A F' T c' (x+400) H ex B c0 s.collect/\HMv F F' H w w'):=by
 have hps:(s.ixs.map fun i=>(i,s.en.getD i (0,0))).map (·.2.1)=s.frees.map (·.1):=by rw [LS.frees_ixs,List.map_map,List.map_map];rfl
 have hlen:(s.ixs.map fun i=>(i,s.en.getD i (0,0))).length=s.frees.length:=by rw [LS.frees_ixs];simp
 have hen:=hi.en;have hil:=s.ixs_le;have hdl:=s.drs_len;have hfl:s.frees.length=s.ixs.length:=by rw [LS.frees_ixs];simp
 have hK:=h.rep.head
 have key:=ZBI h.ar h.dr h.li h.ck (h.rep.ndc hi (by omega)) (fun w1 hb=>Xc (h.below hb)) (FL:=s.ixs.map fun i=>(i,s.en.getD i (0,0))) h.rep.itm_fl.symm (Q:=fun w'=>∃ F' c',WC w' A F' T c' (x+400) H ex B c0 s.collect/\HMv F F' H w w') (by
  intro hne wx hb v tb tc hv hs;rw [s.colW_eq h.rep.all_iff] at hv;rw [hlen,show s.frees.length=(s.frees.map (·.1)).length by simp];have h0:s.frees≠[]:=fun e=>hne (ZLM (by rw [hlen,e];rfl))
  have hpos:1<=s.frees.length:=by
   rcases Nat.eq_zero_or_pos s.frees.length with q|q
   ·exact absurd (ZLM q) h0
   ·exact q
  have hc:=(hi.cl0 (hi.ok.na_en (LS.frees_en h0))).1;have hcan:=hi.ok.drs_can hc;have hB:=h.below hb;have hR:=hB.chk (m:=1) (by omega);rw [Y4] at hR;have hal:(YB s++ZO T 103 s.k [] s.drs).length<=60:=by
   have:=(ZAT s).2;rw [ZK4,Yb,hdl,List.length_nil];omega
  have hcm:=ZBh (T:=T) hK hc hcan (hi.gens (by omega)) h.hw.sealed_lt (ZCI s (by omega)).1 (ZCI s (by omega)).2;have hnd:(s.frees.map (·.1)).Nodup:=by
   have hnd:=hi.ok.nd;rw [LS.live_eq] at hnd;have h2:=(ZLO.1 hnd).2.1;exact List.Nodup.sublist (List.Sublist.map _ List.filter_sublist) h2
  have hhn:=h.hn;have hat:∀ i (h1:i < (s.frees.map (·.1)).length) (h2:i < s.drs.length),s.drs[i] < perN s.k/\ZM (s.frees.map (·.1))[i]=s.k.pay 103 s.drs[i]/\(s.frees.map (·.1))[i]≠0/\(s.frees.map (·.1))[i] < 72057594037927936/\(s.k.block 103 (s.frees.map (·.1))[i]).2=0:=by
   intro i h1 h2;have hm:s.frees[i]'(by simpa using h1)∈s.frees:=ZLF _;have hlv:=LS.mem_en (ZLK.1 hm).1;obtain ⟨j,hL⟩:=hi.ok.liv _ hlv;obtain ⟨_,h3,_,h5⟩:=hi.live_chk (by omega) hK hlv;obtain ⟨_,h6,_,_⟩:=hL.chk hK hc (hi.gens (by omega));have e1:(s.frees.map (·.1))[i]=(s.frees[i]'(by simpa using h1)).1:=by simp
   have e2:s.drs[i]=j:=by
    have:s.drs[i]=jOf (s.frees[i]'(by simpa using h1)).1:=by simp [LS.drs]
    rw [this,hL.jOf hc]
   rw [e1,e2];exact ⟨by rw [XJ hc];exact hL.1,by rw [h6,ZEQ hc],h3.ok.ne,h3.ok.lt,h5⟩
  have k1:(s.frees.map (·.1)).length=s.drs.length:=by simp [LS.drs]
  have k2:64+16 * (YB s++ZO T 103 s.k [] s.drs).length<=1664:=by omega
  have k3:x+6 * (YB s++ZO T 103 s.k [] s.drs).length+8<=x+400:=by omega
  have k4:(YB s++ZO T 103 s.k [] s.drs).length<=96:=by omega
  have k5:1<=(YB s).length:=by have:=(ZAT s).1;omega
  have e103:H.l0+32 * 1=103:=by rw [h.l0.1]
  rw [hps] at hs;have key2:=ZEy (x':=x+400) hB.hw hB.dr (by omega) (by omega) h.rep.log (m:=1) (by omega) (by omega) hR (by omega) (ps:=s.frees.map (·.1)) (bs:=s.drs) k1 (by omega) (by omega) (by rw [e103];exact hat) hnd hcan (tc:=tc) hs hv k5 (by rw [e103];exact k4) (by rw [e103];exact k2) (by rw [e103];exact hcm) (by rw [e103];exact k3) (by omega);rw [e103] at key2;refine key2.mono ?_
  ·rintro e w' ⟨rfl,F',h2,h3⟩
   refine ⟨rfl,⟨F',_,hB.moved (s':=s.collect) (by rw [show plc s.collect.k=plc s.k from ZG4 (s.k.same_after [] s.drs)];exact h2) h3 (h.rep.collect hi.ok hc) ⟨rfl,rfl⟩,(HMv.of_below hb).trans h3⟩,fun k o hk ho=>?_⟩;exact (h3.frn (h.hw.newf hk) (heap_lt ho)).1.trans ho)
 refine key.mono ?_;rintro e w' ⟨rfl,hq⟩;rw [hlen];refine ⟨rfl,hq.imp (fun q=>⟨ZLM (by rw [<-hlen,q.1];rfl),q.2⟩) (fun q=>⟨fun e=>q.1 (ZLM (by rw [hlen,e];rfl)),q.2⟩)⟩
theorem WC.hok (h:WC w A F T c x H ex B c0 s):HOK T c 160 H (plc s.k) (chs s.k) where
 rep:=by rw [h.l0.1,h.hn];exact h.rep.rep
 line j hj:=by
  rw [h.hn] at hj;rw [h.l0.1];rcases (show j=0\/j=1 by omega) with rfl|rfl <;> rfl
 cl j hj:=by
  rw [h.hn] at hj;rcases (show j=0\/j=1 by omega) with rfl|rfl <;> exact ⟨rfl,rfl⟩
 fit:=by rw [h.l0.1,h.hn];omega
theorem ZIM {k:Chk}(h:k.cl=0/\k.ow=0):Zt (plc k) ((0:Nat):Int) ((0:Nat):Int) 2=[1]:=by
 rw [ZCh (m:=1) (by unfold plc;exact ⟨h.2,h.1⟩),ZBX (m:=0) (by rintro ⟨_,q⟩;cases q)];rfl
theorem ZG5:Zt (plc kF) ((0:Nat):Int) ((0:Nat):Int) 2=[]:=by decide
theorem ZKB (k:Chk):∀ m,m < 1->0<=(plc k m).cl:=by
 intro m hm;obtain rfl:m=0:=by omega
 show (0:Int)<=4;omega
theorem ZKC (k:Chk):∀ m,m < 1->(plc k m).line≠(plc k 1).line:=by
 intro m hm;obtain rfl:m=0:=by omega
 show (71+32 * 0:Nat)≠103;omega
theorem ZIr (hi:s.Inv n)(hn:n<=60)(hk:s.clm.k.Head):s.clm.fj < 62/\InC s.np/\ZM s.np=(833+4 * s.clm.fj) * 8/\Z0 s.np=65:=by
 obtain ⟨h1,h2,h3⟩:=hi.clm;obtain ⟨f1,f2,f3,f4⟩:=h1.fj hn h2;obtain ⟨m1,m2,m3,m4,m5⟩:=ZGo (P:=s.np) hk h2 f1 (h1.gens hn s.clm.fj) rfl;exact ⟨f1,m1,m2,m4⟩
def ZF1 (A:DAd)(F:Nat->Option ZK)(T:Nat->Nat)(x:Nat)(H:HAd)(ex:Nat)(c0:Nat->Nat)(s:LS)(w w':World):Prop:=
 ∃ F' c' x',x'<=x+400/\HW w' A F' 160 T c' x' H false (XQ (plc s.clm.k) 1 ⟨103,0,0,true⟩) (ex+1) (YE (fun _=>none) (ZM s.np) s.np) (YE (fun _=>none) 103 1)/\HMv F F' H w w'/\s.clm.Rep T c' c0
theorem ZHg (h:WC w A F T c x H ex B c0 s)(hi:s.Inv n)(hn:n<=59)(hx:x<=900000):∃ c1 x1,x1<=x+200/\s.clm.Rep T c1 c0/\ZBe w A F 160 T c x H false (plc s.k) ex (fun _=>none) (fun _=>none) 0 0 65 c1 x1 (plc s.clm.k) s.np 103:=by
 obtain ⟨hc,h1,h2⟩:=hi.clm;obtain ⟨f1,f2,f3,f4⟩:=hc.fj (by omega) h1;have hhn:=h.hn;rcases hi.ok.cl with ⟨e1,e2⟩|⟨e1,e2⟩
 ·have hk:=hi.k1 e1
  have hrep:s.clm.Rep T (wrs c (YM T 103 (Chk.made 0 0 1))) c0:=by rw [LS.clm_yes e1];exact h.rep.claim (by omega)
  have hR:=hrep.rep 1 (by omega);rw [Y4] at hR;have hmk:s.clm.k=Chk.made 0 0 1:=by rw [LS.clm_yes e1]
  refine ⟨_,x+200,by omega,hrep,.inr ⟨fun w1 hb=>?_,fun w1 hb=>?_,fun F1 w1 hw1=>?_⟩⟩
  ·refine UU (th:=0) (cl:=0) (h.hw.below hb) h.hok (fun i hi2 _=>?_) 65
   rw [hhn,hk,ZG5] at hi2;cases hi2
  ·have hR0:=h.chk (m:=1) (by omega)
   rw [Y4,hk,h.l0.1] at hR0;have:=QM (h.hw.below hb) (j:=1) (by omega) (ZKB s.k) (by rw [hk];show (-1:Int) < 0;omega) (k:=kF) (by show 103+32<=160;omega) hR0 (cl:=0) (th:=0) (by omega) (by omega) (by omega);refine this.mono ?_;rintro e w' ⟨he,hp⟩;have ep:XQ (plc s.k) 1 ⟨(plc s.k 1).line,(0:Nat),(0:Nat),(plc s.k 1).held⟩=plc s.clm.k:=by
    rw [hmk];funext j;unfold XQ plc
    by_cases e:j=1
    ·subst e;rfl
    ·simp [e]
   rw [ep] at hp;exact ⟨he,hp⟩
  ·have:=VT hw1.ar hw1.hp hw1.rm (line:=103) (k:=s.clm.k) (by omega) hR (by omega) (j:=s.clm.fj) (by rw [XJ h1];exact f1) f2 f3 (kind:=65) (by omega) rfl
   exact this
 ·have hk:s.clm=s:=LS.clm_no e1
  rw [hk] at f1 f2 f3;refine ⟨c,x,by omega,by rw [hk];exact h.rep,.inl ⟨rfl,rfl,by rw [hk],fun w1 hb=>?_⟩⟩;have hsel:Zt (plc s.k) ((0:Nat):Int) ((0:Nat):Int) H.n=[1]:=by rw [hhn];exact ZIM ⟨e1,e2⟩
  have hl0:=h.l0.1;have key:=JY (th:=0) (cl:=0) (h.hw.below hb) h.hok (m:=0) (by rw [hsel];exact Nat.zero_lt_one) (fun i _ hi2=>by omega) (b:=s.fj) (by simp only [hsel,ZKy,Y4];rw [XJ e1];exact f1) (by simp only [hsel,ZKy,Y4];exact f2) (by simp only [hsel,ZKy,Y4];exact f3) (kind:=65) (by omega) rfl;simp only [hsel,ZKy,Y4,hl0] at key;have enp:s.np=s.k.ptr (71+32 * 1) s.fj 65:=by unfold LS.np;rw [hk]
  rw [enp];exact key
theorem ZD6 (h:WC w A F T c x H ex B c0 s)(hi:s.Inv n)(hn:n<=59)(hx:x<=900000)(hex:ex<=900000):
 Calls prog 56 #[.pointer (some ⟨H.hb,0,none⟩),.int .i64 (0:Nat),.int .i64 (3:Nat),.int .u8 (65:Nat)] w fun e w'=>e=.returned (.tuple #[.int .u64 s.np,.int .i64 0])/\ZF1 A F T x H ex c0 s w w':=by
 obtain ⟨c1,x1,hx1,hrep,hf⟩:=ZHg h hi hn hx;obtain ⟨hc,h1,h2⟩:=hi.clm;have hK:=hrep.head;obtain ⟨f1,hin,hof,hkd⟩:=ZIr hi (by omega) hK;have hhn:=h.hn;have key:=XC h.hw (th:=0) (cl:=0) (kind:=65) (n:=3) (words:=3) (by omega) (by omega) (by omega) (by decide) (by omega) (by decide) hf hin.ok.lt hin.ok.ne (by omega) (by omega) (j:=1) (by omega) (ZKC s.clm.k) (by show 0<=s.clm.k.cl;omega) rfl (by omega) (by simp) (by omega);refine key.mono ?_;rintro e w' ⟨he,F',hw,hm⟩;refine ⟨he,F',_,x1+200,by omega,?_,hm,hrep.zero h1 f1 hof⟩;have ep:(⟨(plc s.clm.k 1).line,(plc s.clm.k 1).cl,(plc s.clm.k 1).ow,true⟩:Plc)=⟨103,0,0,true⟩:=by
  show (⟨103,s.clm.k.cl,s.clm.k.ow,true⟩:Plc)=_;rw [h1,h2]
 rw [ep] at hw;exact hw
theorem ZHe (h:WC w A F T c x H ex B c0 s)(hi:s.Inv n)(hn:n<=59)(hx:x<=900000)(hex:ex<=900000):
 Calls prog 24 #[.pointer (some ⟨B.db,0,none⟩),.int .i64 (3:Nat),.int .u8 (65:Nat)] w fun e w'=>e=.returned (.tuple #[.int .u64 s.np,.int .i64 0])/\ZF1 A F T x H ex c0 s w w':=
 Xv h.hw h.dr (by omega) (by omega) (fun w1 ⟨F',_,_,_,_,h2,_⟩=>⟨F',h2⟩) (fun w1 hb=>(ZD6 (h.below hb) hi hn hx hex).mono fun e w' ⟨h1,F',c',x',h2,h3,h4,h5⟩=>⟨h1,F',c',x',h2,h3,(HMv.of_below hb).trans h4,h5⟩)
theorem ZAU {i P:Nat}(hi:i < 40)(hP:P < 18446744073709551616):((YQ i P).map (·.1)).Nodup/\∀ p∈YQ i P,p.1 % 8=0/\2304<=p.1/\p.1 < 6592/\p.2 < 18446744073709551616:=by
 unfold YQ;refine ⟨by simp,fun p hp=>?_⟩;simp only [ZLL] at hp;subst hp;exact ⟨by simp only;omega,by simp only;omega,by simp only;omega,hP⟩
theorem ZAH {α:Type}(a:Nat)(v:α):XV (YE (fun _=>none) a v) a=fun _=>none:=by
 rw [ZAG];funext y;unfold XV;by_cases e:y=a <;> simp [e]
theorem ZGm (s:LS)(i:Nat):(s.mk0 i).lp=upd s.lp i s.np/\(s.mk0 i).now=s.now/\(s.mk0 i).ann=s.ann/\(s.mk0 i).fr=s.fr/\(s.mk0 i).its=s.its:=by
 obtain ⟨e1,e2,e3,e4,e5,e6,_⟩:=Xt s;exact ⟨by show upd s.clm.lp i s.np=_;rw [e1],e5,e6,e4,e3⟩
theorem ZD5 {wx:World} (h:WC w A F T c x H ex B c0 s) (hi:s.Inv n) (hn:n<=59) (hx:x<=900000) (hex:ex<=900000) {i:Nat} (hi40:i < 40) (hr:ZF1 A F T x H ex c0 s w w') (hb:Bl w' wx)
 {v:Value} (hv:Wrs wx v [(8 * (638+i),s.np)]) {tb tc:Nat} (ht:wx.cell? ⟨tb,0,none⟩=some (.int .u64 (s.np:Nat))) (htb:w'.heap.size<=tb):
 Calls prog 26 #[.pointer (some ⟨B.db,0,none⟩),v,.slice (some ⟨tb,0,none⟩) 1 tc,.slice none 0 0] wx fun e w2=>e=.returned (.int .i64 0)/\∃ F2 c2,WC w2 A F2 T c2 (x+800) H (ex+2) B c0 (s.mk0 i)/\HMv F F2 H w w2:=by
 obtain ⟨F1,c1,x1,hx1,hw,hm,hrep⟩:=hr;obtain ⟨hc,h1,h2⟩:=hi.clm;have hK:=hrep.head;obtain ⟨f1,f2,f3,f4⟩:=hc.fj (by omega) h1;obtain ⟨_,hin,hof,hkd⟩:=ZIr hi (by omega) hK;have hhn:=h.hn;have hl0:=h.l0.1;have e103:H.l0+32 * 1=103:=by omega
 have hR:=hrep.rep 1 (by omega);rw [Y4] at hR;have hcan:s.clm.k.Can [(s.clm.fj,65)] []:=ZCs (by rw [XJ h1];exact f1) f4;have hal:(YQ i s.np++ZO T 103 s.clm.k [(s.clm.fj,65)] []).length=3:=by rw [ZK4,Yb];rfl
 have hP64:s.np < 18446744073709551616:=by have:=hin.ok.lt;omega
 have hcm:=ZBh (T:=T) hK h1 hcan (hc.gens (by omega)) h.hw.sealed_lt (ZAU hi40 hP64).1 (ZAU hi40 hP64).2;have hplc:∀ m,m < H.n->(XQ (plc s.clm.k) 1 ⟨103,0,0,true⟩ m).line=H.l0+32 * m:=fun m hm=>by
  rw [hhn] at hm;rw [hl0];rcases (show m=0\/m=1 by omega) with rfl|rfl <;> rfl
 have key:=Vh (x':=x+800) (hw.below hb) ((h.dr.moved hm).below hb) (by omega) (by omega) hrep.log (m:=1) (by omega) (by omega) (by rw [e103];exact hR) (by omega) (b:=s.clm.fj) (kd:=65) (P:=s.np) (by rw [XJ h1];exact f1) (by rw [e103,hof,ZEQ h1]) hkd (by omega) hin.ok.ne hin.ok.lt (by simp [YE]) hcan
  (tc:=tc) ht ⟨hw.new htb,(hw.newf htb).o⟩ hplc (by show (0:Int)<=0;omega) (by rw [e103];exact hin.lo) (by rw [e103];exact hin.hi) (g:=0) (by rw [e103];simp [YE]) (by omega) (by omega) (lw:=YQ i s.np) hv (by simp [YQ]) (by rw [e103,hal];omega) (by rw [e103,hal];omega) (by rw [e103];exact hcm) (by rw [e103,hal];omega) (by omega)
 rw [e103] at key;refine key.mono ?_;rintro e w2 ⟨he,F2,hw2,hm2⟩;have hfin:=hrep.make h1 hi40 (P:=s.np) (v:=cmV T (YQ i s.np++ZO T 103 s.clm.k [(s.clm.fj,65)] [])) f1 f4;refine ⟨he,F2,wrs c1 (cmL 640 (cmV T (YQ i s.np++ZO T 103 s.clm.k [(s.clm.fj,65)] [])) (YQ i s.np++ZO T 103 s.clm.k [(s.clm.fj,65)] [])).flatten,h.moved (s':=s.mk0 i) (x':=x+800) (ex':=ex+2) ?_ ((hm.trans (HMv.of_below hb)).trans hm2) hfin ⟨(ZGm s i).2.1,(ZGm s i).2.2.1⟩,(hm.trans (HMv.of_below hb)).trans hm2⟩;have e1:Qc (XQ (plc s.clm.k) 1 ⟨103,0,0,true⟩) 1 0=plc (s.mk0 i).k:=by
  funext j
  unfold Qc;rw [ZKv rfl]
  by_cases e:j=1
  ·subst e
   show (⟨103,0,0,false⟩:Plc)=⟨103,s.clm.k.cl,s.clm.k.ow,false⟩;rw [h1,h2]
  ·rw [QZ _ _ e,QZ _ _ e]
   unfold plc;rw [ZKu e,ZKu e]
 have e2:Jo (YE (fun _=>none) 103 (1:Nat)) 103 0=fun _=>none:=by unfold Jo;rw [ZKv rfl];exact ZAH _ _
 rw [e1,e2,ZAH] at hw2;exact hw2
theorem ZGk {i:Nat}(hi:i < 40)(hn:s.en.length < 29)(h1:s.lp i < 18446744073709551616)(h2:s.now < 18446744073709551616):Vp 160 640 1664 (XB s i):=by
 unfold Vp XB;refine ⟨?_,fun p hp=>?_⟩
 ·simp only [List.map_cons,List.map_nil,List.nodup_cons,List.mem_cons,List.not_mem_nil,or_false,not_false_eq_true,List.nodup_nil,and_true]
  omega
 ·simp only [List.mem_cons,List.not_mem_nil,or_false] at hp
  rcases hp with rfl|rfl|rfl|rfl <;> dsimp only <;> refine ⟨by omega,by omega,by omega,by omega⟩
theorem ZFw (h:WC w A F T c x H ex B c0 s)(hi:s.Inv n)(hn:n<=59)(hen:s.en.length < 29){i:Nat}(hi40:i < 40)(h0:s.lp i≠0)(hx:x<=900000){v:Value}(hv:Wrs w v [(8 * (638+i),0)]):
 Calls prog 41 #[.pointer (some ⟨B.lib,0,none⟩),.iface 27 (.pointer (some ⟨B.db,0,none⟩)),.int .u64 (s.lp i),v] w fun e w'=>e=.returned (.int .i64 0)/\∃ F',WC w' A F' T (wrs c (cmL 640 (cmV T (XB s i)) (XB s i)).flatten) (x+100) H ex B c0 (s.retire i)/\HMv F F' H w w':=by
 have hlive:=LS.mem_lp hi40 h0;obtain ⟨hc,hin,hkd,hbl⟩:=hi.live_chk (by omega) h.rep.head hlive;have hnow:s.now<=1000000:=by have:=hi.now;omega
 have hno:¬ ZEZ (Dv.itm s.q (epW c) 29) (s.lp i):=by
  rintro ⟨y,hy,e⟩;have h1:(y.2.1,y.2.2)∈full s.en:=by rw [<-h.rep.itm_full];exact ZKz.2 ⟨y,hy,rfl⟩
  have hnd:=hi.ok.nd;rw [LS.live_eq] at hnd;refine (ZLO.1 hnd).2.2 (s.lp i) (ZLK.2 ⟨ZKz.2 ⟨i,ZLJ.2 hi40,rfl⟩,by simpa using h0⟩) (s.lp i) (ZKz.2 ⟨_,h1,e⟩) rfl
 have hl:XB s i=[(8 * (638+i),0)]++[(ZM pL+8 * (2+2 * s.en.length),s.lp i),(ZM pL+8 * (3+2 * s.en.length),s.now),(ZM pL+8 * 1,s.en.length+1)]:=by
  unfold XB;rw [show ZM pL=4616 from Xk.2.1];simp only [List.cons_append,List.nil_append,List.cons.injEq,Prod.mk.injEq,and_true,true_and];omega
 have:=ZCH (x':=x+100) h.hw h.dr (by omega) (by omega) h.rep.log h.li h.ck (h.rep.ndc hi (by omega)) hen hin.ok (fun w1 hb=>Xc (h.below hb)) (fun w1 hb=>Xd (h.below hb) hi (by omega) hlive (.inl rfl)) hno hnow hv hl (by simp) (by simp) (by unfold XB;simp) (ZGk hi40 hen (by have:=hin.ok.lt;omega) (by omega)) (by unfold XB;simp only [List.length_cons,List.length_nil];omega) (by omega);refine this.mono ?_;rintro e w' ⟨rfl,F',h1,h2⟩;exact ⟨rfl,F',h.moved h1 h2 (h.rep.retire hi40 hen) ⟨rfl,rfl⟩,h2⟩
def pX:Nat:=3377704015495867
theorem ZJW:k0.ptr (71+32 * 0) 2 12=pX:=by kernel_rfl
theorem XK:ZM pX=5592/\Z0 pX=12/\pX < 72057594037927936/\pX≠0:=⟨by decide,by decide,by decide,by decide⟩
theorem ZJI:k0.Can [(2,12)] []:=⟨by decide,by decide,by decide,by decide,by decide⟩
theorem ZHt (h:WC w A F T c x H ex B c0 s)(hi:s.Inv n):ZBe w A F 160 T c x H false (plc s.k) ex (fun _=>none) (fun _=>none) 0 4 12 c x (plc s.k) pX 71:=by
 have hhn:=h.hn;have hl0:=h.l0.1;have hsel:Zt (plc s.k) ((0:Nat):Int) ((4:Nat):Int) H.n=[0]:=by
  rw [hhn];have hc:¬ s.k.cl=4:=by rcases hi.ok.cl with q|q <;> omega
  unfold Zt plc;rw [show List.range 2=[0,1] from rfl,List.filter_cons_of_pos (by simp),List.filter_cons_of_neg (by simp [hc])];rfl
 refine .inl ⟨rfl,rfl,rfl,fun w1 hb=>?_⟩;have key:=JY (th:=0) (cl:=4) (h.hw.below hb) h.hok (m:=0) (by rw [hsel];exact Nat.zero_lt_one) (fun i _ hi2=>by omega) (b:=2) (by simp only [hsel,ZKy,XH];decide) (by simp only [hsel,ZKy,XH];decide) (by simp only [hsel,ZKy,XH];decide) (kind:=12) (by omega) rfl;simp only [hsel,ZKy,XH,hl0,ZJW] at key;exact key
def ZIQ:Nat->Option Nat:=YE (fun _=>none) 5592 pX
def ZEH:Nat->Option Nat:=YE (fun _=>none) 71 1
def ZIL (k:Chk):Nat->Plc:=XQ (plc k) 0 ⟨71,4,0,true⟩
theorem ZKW (h:WC w A F T c x H ex B c0 s)(hi:s.Inv n)(hx:x<=900000)(hex:ex<=900000):
 Calls prog 24 #[.pointer (some ⟨B.db,0,none⟩),.int .i64 (60:Nat),.int .u8 (12:Nat)] w fun e w'=>e=.returned (.tuple #[.int .u64 pX,.int .i64 0])/\ClP w A F 160 T (wrs c (YD 5592 60)) (x+200) H false (ZIL s.k) (ex+1) ZIQ ZEH w':=by
 refine Xv h.hw h.dr (by omega) (by omega) (fun w1 ⟨F',_,h2⟩=>⟨F',h2⟩) (fun w1 hb=>?_);have hb2:=h.below hb;have hhn:=h.hn;have key:=XC hb2.hw (th:=0) (cl:=4) (kind:=12) (n:=60) (words:=60) (by omega) (by omega) (by omega) (by decide) (by omega) (by decide) (ZHt hb2 hi) XK.2.2.1 XK.2.2.2 (by rw [XK.1];omega) (by omega) (j:=0) (by omega) (fun m hm=>by omega) (by show (0:Int)<=4;omega) rfl (by omega) (by simp) (by omega);refine key.mono ?_;rintro e w' ⟨he,F',hw,hm⟩;rw [XK.1] at hw;exact ⟨he,F',hw,(HMv.of_below hb).trans hm⟩
theorem ZIt (hR:HRep T c 71 2 (chs s.k)){y:Nat}(hy:699<=y/\y < 759):Pay 71 2 (chs s.k) y:=by
 have:=Pay.word hR (k:=0) (j:=2) (a:=y - 698) (by omega) (by rw [XH,Vk];omega) (by omega) (by rw [XH,Xn];omega);have e:8 * (71+32 * 0)+hdN (chs s.k 0) 2+(y - 698)=y:=by rw [XH];unfold hdN;rw [Xn];omega
 rw [e] at this;exact this
def ZCb (q e:Nat):List (Nat×Nat):=[(5592,0),(5600,1),(5608,q),(5616,e)]
theorem ZII (hR:HRep T c 71 2 (chs s.k))(q e:Nat):HRep T (wrs (wrs c (YD 5592 60)) (ZCb q e)) 71 2 (chs s.k):=by
 refine (hR.wrs fun p hp=>?_).wrs fun p hp=>?_
 ·unfold YD at hp
  obtain ⟨i,hi,rfl⟩:=ZKz.1 hp;have:=ZLJ.1 hi;exact ZIt hR (by simp only;omega)
 ·refine ZIt hR ?_
  unfold ZCb at hp;simp only [List.mem_cons,List.not_mem_nil,or_false] at hp;rcases hp with rfl|rfl|rfl|rfl <;> simp only <;> omega
theorem ZH9 (h:c 80=0)(q e:Nat):wrs (wrs c (YD 5592 60)) (ZCb q e) 80=0:=by
 rw [Z2 (fun p hp=>?_),Z2 (fun p hp=>?_)]
 ·exact h
 ·unfold YD at hp
  obtain ⟨i,hi,rfl⟩:=ZKz.1 hp;have:=ZLJ.1 hi;simp only;omega
 ·unfold ZCb at hp
  simp only [List.mem_cons,List.not_mem_nil,or_false] at hp;rcases hp with rfl|rfl|rfl|rfl <;> simp only <;> omega
theorem ZKX (hT:∀ i,i < 4294967296->ZX T i < 18446744073709551616){i:Nat}(hi:i < 40):Vp 160 640 1664 ([(8 * (638+i),0),(4616,pX)]++ZO T 71 k0 [(2,12)] []):=by
 have e:ZO T 71 k0 [(2,12)] []=[(5584,ZX T (Blk.info ⟨1,12,177⟩)),(4552,Ze (k0.after [(2,12)] []).used 4)]:=rfl;rw [e];have hb:=YW (k0.after [(2,12)] []).used 4;have hs:=hT (Blk.info ⟨1,12,177⟩) (by decide);have hp:=XK.2.2.1;refine ⟨?_,fun p hp=>?_⟩
 ·simp only [List.map_cons,List.map_nil,List.cons_append,List.nil_append,List.nodup_cons,List.mem_cons,List.not_mem_nil,or_false,not_false_eq_true,List.nodup_nil,and_true]
  omega
 ·simp only [List.cons_append,List.nil_append,List.mem_cons,List.not_mem_nil,or_false] at hp
  rcases hp with rfl|rfl|rfl|rfl <;> dsimp only <;> refine ⟨by omega,by omega,by omega,by omega⟩
theorem Wrs.moved {v:Value}{l:List (Nat×Nat)}(h:Wrs w v l)(hm:HMv F F' H w w')(hv:∀ b o k cap,v=.slice (some ⟨b,o,none⟩) k cap->F b=none/\¬ H.own b)(h1:1<=l.length):Wrs w' v l:=by
 rcases h with ⟨rfl,rfl⟩|⟨b,o,cap,rfl,hs⟩
 ·simp at h1
 ·obtain ⟨q1,q2⟩:=hv b o _ cap rfl
  have hl:b < w.heap.size:=by
   cases l with
   |nil=>simp at h1
   |cons p l=>exact ZK2 _ _ (hs 0 (u64 p.1) rfl)
  exact .inr ⟨b,o,cap,rfl,hs.of_block (hm.only.block b hl (fun q=>q.elim (fun q=>q q1) q2))⟩
theorem ZFv (h:WC w A F T c x H ex B c0 s)(hi:s.Inv n)(hn:n<=59){i:Nat}(hi40:i < 40)(hx:x<=900000)(hex:ex<=900000){v iv:Value}(hv:Wrs w v [(8 * (638+i),0)])(hvb:∀ b o k cap,v=.slice (some ⟨b,o,none⟩) k cap->F b=none/\¬ H.own b){Q now cnt:Nat}(hQ:Q < 18446744073709551616)(hnow:now < 18446744073709551616):
 Calls prog 81 #[.pointer (some ⟨B.lib,0,none⟩),.iface 27 (.pointer (some ⟨B.db,0,none⟩)),.agg #[.int .u64 pL,.int .u64 (0:Nat),.int .i64 cnt,iv],.agg #[.int .i64 0,.int .u64 Q,.int .u64 now],v] w fun e w'=>e=.returned (.int .i64 0)/\∃ F',HMv F F' H w w':=by
 have hhn:=h.hn;have hl0:=h.l0.1;obtain ⟨w1,hw1⟩:=xE ((w.alloc (.cells #[.int .u64 pL,.int .u64 (0:Nat),.int .i64 cnt,iv] 184)).alloc (.cells #[.int .i64 0,.int .u64 Q,.int .u64 now] 115));have hb1:Bl w w1:=by rw [hw1];exact ZA (ZA bR)
 have h1:=h.below hb1;have hnew:∀ k,w.heap.size<=k->F k=none/\¬ H.own k:=fun k hk=>⟨h.hw.new hk,(h.hw.newf hk).o⟩
 have hvb1:∀ b o k cap,v=.slice (some ⟨b,o,none⟩) k cap->F b=none/\¬ H.own b:=hvb
 refine ZBM (S1:=fun wA=>∃ F1,HW wA A F1 160 T (wrs c (YD 5592 60)) (x+200) H false (ZIL s.k) (ex+1) ZIQ ZEH/\HMv F F1 H w1 wA)
  (S2:=fun wB=>∃ F2,HW wB A F2 160 T (wrs (wrs c (YD 5592 60)) (ZCb Q now)) (x+220) H false (ZIL s.k) (ex+1) ZIQ ZEH/\HMv F F2 H w1 wB)
  (lw:=[(8 * (638+i),0)]) ⟨by decide,by decide⟩ ⟨XK.2.2.2,by have:=XK.2.2.1;omega⟩ (by simp) hw1 ?_ ?_ ?_ ?_
 ·refine (ZKW h1 hi hx hex).mono ?_
  rintro e wA ⟨he,F1,q1,q2⟩;exact ⟨he,⟨F1,q1,q2⟩,(Kp.of_below (w:=w) (Below.refl w1.heap.size w1)).of_moved q2 (fun k hk _=>hnew k hk)⟩
 ·rintro wA ⟨F1,q1,q2⟩ wx hb r hr
  have hq:=q1.below hb;rw [XK.1] at hr;have key:=ZGW (x':=x+220) hq ((h1.dr.moved q2).below hb).drb (by omega) (ls:=[ZCb Q now]) (v:=r) (B:=wA.heap.size) (by rw [Zs];exact hr) (fun g hg=>q1.new hg) (by rw [Zs];exact Zl _) (fun l hl p hp=>by
   obtain rfl:=ZLL.1 hl;unfold ZCb at hp;simp only [List.mem_cons,List.not_mem_nil,or_false] at hp;rcases hp with rfl|rfl|rfl|rfl <;> dsimp only <;> refine ⟨by omega,by omega,by omega⟩) (by simp [Zn,ZCb]) (by omega)
  refine key.mono ?_;rintro e wB ⟨he,F2,q3,q4⟩;have q5:=(q2.trans (HMv.of_below hb)).trans q4;refine ⟨he,⟨F2,by simpa using q3,q5⟩,(Kp.of_below (w:=w) (Below.refl w1.heap.size w1)).of_moved q5 (fun k hk _=>hnew k hk)⟩
 ·rintro wB ⟨F2,q1,q2⟩
  exact (hv.below hb1).moved q2 hvb (by simp)
 ·rintro wB ⟨F2,q1,q2⟩ wx hb v' hv' tb htb hle
  have hq:=q1.below hb;have hR:=ZII h.rep.rep Q now 0 (by omega);rw [XH] at hR;have hlog:=ZH9 h.rep.log Q now;have e71:H.l0+32 * 0=71:=by omega
  have hplc:∀ m,m < H.n->(ZIL s.k m).line=H.l0+32 * m:=fun m hm=>by
   rw [hhn] at hm;rw [hl0];rcases (show m=0\/m=1 by omega) with rfl|rfl <;> rfl
  have hv2:Wrs wx v' [(8 * (638+i),0),(4616,pX)]:=by
   have e:ZM pL+8 * 0=4616:=by rw [Xk.2.1]
   rw [e] at hv';exact hv'
  have hal:([(8 * (638+i),0),(4616,pX)]++ZO T 71 k0 [(2,12)] []).length=4:=by rw [ZK4,Yb];rfl
  have key:=Vh (x':=x+1000) hq ((h1.dr.moved q2).below hb) (by omega) (by omega) hlog (m:=0) (by omega) (by omega) (k:=k0) (by rw [e71];exact hR) (by decide) (b:=2) (kd:=12) (P:=pX) (by rw [Vk];omega) (by rw [e71,XK.1];kernel_rfl) XK.2.1 (by omega) XK.2.2.2 XK.2.2.1 (by rw [XK.1];simp [ZIQ,YE]) ZJI
   (tc:=1) htb ⟨q1.new hle,(q1.newf hle).o⟩ hplc (by show (0:Int)<=4;omega) (by rw [e71,XK.1];omega) (by rw [e71,XK.1];omega) (g:=0) (by rw [e71];simp [ZEH,YE]) (by omega) (by omega) (lw:=[(8 * (638+i),0),(4616,pX)]) hv2 (by simp) (by rw [e71,hal];omega) (by rw [e71,hal];omega) (by rw [e71];exact ZKX h.hw.sealed_lt hi40) (by rw [e71,hal];omega) (by omega)
  refine key.mono ?_;rintro e w2 ⟨he,F3,_,hm3⟩;exact ⟨he,F3,((HMv.of_below hb1).trans q2).trans ((HMv.of_below hb).trans hm3)⟩
theorem Qo (h:WC w A F T c x H ex B c0 s)(hi:s.Inv n)(hn:n<=59)(hen:s.en.length=29){i:Nat}(hi40:i < 40)(h0:s.lp i≠0)(hx:x<=900000)(hex:ex<=900000){v:Value}(hv:Wrs w v [(8 * (638+i),0)])(hvb:∀ b o k cap,v=.slice (some ⟨b,o,none⟩) k cap->F b=none/\¬ H.own b):
 Calls prog 41 #[.pointer (some ⟨B.lib,0,none⟩),.iface 27 (.pointer (some ⟨B.db,0,none⟩)),.int .u64 (s.lp i),v] w fun e w'=>e=.returned (.int .i64 0)/\∃ F',HMv F F' H w w':=by
 have hlive:=LS.mem_lp hi40 h0;obtain ⟨hc,hin,hkd,hbl⟩:=hi.live_chk (by omega) h.rep.head hlive;have hnow:s.now<=1000000:=by have:=hi.now;omega
 have hno:¬ ZEZ (Dv.itm s.q (epW c) 29) (s.lp i):=by
  rintro ⟨y,hy,e⟩;have h1:(y.2.1,y.2.2)∈full s.en:=by rw [<-h.rep.itm_full];exact ZKz.2 ⟨y,hy,rfl⟩
  have hnd:=hi.ok.nd;rw [LS.live_eq] at hnd;refine (ZLO.1 hnd).2.2 (s.lp i) (ZLK.2 ⟨ZKz.2 ⟨i,ZLJ.2 hi40,rfl⟩,by simpa using h0⟩) (s.lp i) (ZKz.2 ⟨_,h1,e⟩) rfl
 exact Ja h.hw h.dr h.li h.ck (h.rep.ndc hi (by omega)) (by omega) hin.ok (fun w1 hb=>Xc (h.below hb)) (fun w1 hb=>Xd (h.below hb) hi (by omega) hlive (.inl rfl)) hno hnow hv rfl (by simp) (by simp)
  (fun hc=>absurd hen (by omega))
  (fun hc wx hb iv=>(ZFv (h.below hb) hi hn hi40 hx hex (hv.below hb) hvb (by have:=hin.ok.lt;omega) (by omega)).mono fun e w' ⟨he,F',hm⟩=>⟨he,F',(HMv.of_below hb).trans hm⟩)
theorem WC.mvx (h:WC w A F T c x H ex B c0 s)(hm:HMv F F' H w w'):(∀ k,F' k≠none->H.x0<=k)/\Below H.x0 B.w0 w'/\XsB w' F' H B.xs:=by
 refine ⟨fun k hk=>?_,Zr h.xb hm.only h.x0 (fun k _ q=>q.elim (h.xf k) (h.xo k)),h.xt.moved hm⟩;have h2:=h.x0
 by_cases e:k < w.heap.size
 ·rw [hm.same k e] at hk;exact h.xf k hk
 ·omega
theorem WC.adv {wm:World}{s':LS}{v:Nat}(h:WC w A F T c x H ex B c0 s)(hw:HW wm A F' 160 T c' x' H false (plc s.k) ex (fun _=>none) (fun _=>none))(hm:HMv F F' H w wm)(hk:CkB wm A B.kb s.now s.ann)(hr:s'.Rep T c' c0)(he:s'.k=s.k/\s'.now=v/\s'.ann=s.ann):
 WC (wm.setCell ⟨B.kb,2,none⟩ (.int .u64 v)) A F' T c' x' H ex B c0 s':=by
 obtain ⟨e1,e2,e3⟩:=he;have mx:=h.mvx hm;have ho:Only (fun k=>k=B.kb) wm (wm.setCell ⟨B.kb,2,none⟩ (.int .u64 v)):=(Only.refl (fun k=>k=B.kb) wm).set (F:=fun k=>k=B.kb) rfl _;have hne:∀ {b:Nat} {a:Array Value} {e:TypeId},wm.heap[b]?=some (.cells a e (0,0))->e≠99->(wm.setCell ⟨B.kb,2,none⟩ (.int .u64 v)).heap[b]?=wm.heap[b]?:=fun {b a e} hb he=>ho.block b (heap_lt hb) (fun q=>by
  have q:b=B.kb:=q;rw [q,hk] at hb;cases hb;exact he rfl)
 have fk:=(hm.frn h.fk (heap_lt h.ck)).2;have li:=(hm.frn h.fi (heap_lt h.li)).1.trans h.li;have po:=(hm.frn h.fp (heap_lt h.po)).1.trans h.po;have rt:=(hm.frn h.fr (heap_lt h.rt)).1.trans h.rt;have dr:=h.dr.moved hm;exact {hw:=by rw [e1];exact hw.only ho (fun k _ hk=>hk▸fk),l0:=h.l0,dr:=⟨(hne dr.dr (by decide)).trans dr.dr,(hne dr.lg (by decide)).trans dr.lg,dr.t,dr.fd,dr.fl⟩,ck:=by rw [e2,e3];exact hk.now v,fk:=fk,li:=(hne li (by decide)).trans li,fi:=(hm.frn h.fi (heap_lt h.li)).2,po:=(hne po (by decide)).trans po,fp:=(hm.frn h.fp (heap_lt h.po)).2,rt:=(hne rt (by decide)).trans rt,fr:=(hm.frn h.fr (heap_lt h.rt)).2,rep:=hr,xk:=h.xk,xo:=h.xo,xf:=mx.1,xb:=Zr mx.2.1 ho (ZK6 h.x0 hm.only.size) (fun k _ q=>by have q:k=B.kb:=q;rw [q];exact h.xk.1),xt:=mx.2.2.only ho (fun p hp=>mx.2.2.ne hp hk h.xk.1 (by decide))}
end
end Go.Proofs.YteomliechfdhhaaGreatDoor.Dv
