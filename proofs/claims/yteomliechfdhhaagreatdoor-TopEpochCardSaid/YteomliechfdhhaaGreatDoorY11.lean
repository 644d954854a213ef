/- Part 11. -/
import Derived.Test.YteomliechfdhhaaGreatDoorY10
import Derived.StillTailTactics
import Derived.Laws.MakeOwn
import Derived.Laws.OwnMore
import Derived.Deep.RegionWith
import Derived.Deep.DeepCutAuto
set_option maxHeartbeats 8000000
set_option maxRecDepth 20000
set_option linter.all false
namespace Go.Proofs.YteomliechfdhhaaGreatDoor.Dv
open Tryz
section
open Go.RowKit
def DSt.store (s:DSt)(i off v:Nat):DSt:=if (s.cnt i (s.word off)).2 then (s.cnt i (s.word off)).1.write off v else (s.cnt i (s.word off)).1
theorem ZBq {s:DSt}{i:Nat}{b:Bool}(h:(s.cnt i b).2=true):s.off=false/\b=true/\(s.cnt i b).1=s.ctl false s.armed (if s.armed then s.left - 1 else s.left) (s.ex+1):=by
 unfold DSt.cnt at *;cases ho:s.off
 ·rw [ho] at h
  cases b
  ·simp at h
  ·simp only [Bool.false_eq_true,if_false] at *
   by_cases hh:(s.armed && decide (s.left=0))=true
   ·rw [ZKv hh] at h;simp at h
   ·refine ⟨trivial,trivial,?_⟩
    rw [ZKu (by simp),ZKu hh]
 ·rw [ho] at h;simp at h
theorem ZAj {w:World}{A:DAd}{s:DSt}{F:Nat->Option ZK}(h:Dev w A s F){i:Nat}(hi:i < 8){off v:Nat}(ho:off < 18446744073709551616)(hvv:v < 18446744073709551616)(hx:s.ex < 1000000):
 Calls prog 313 #[ptr (A.t i),u64 off,u64 v] w fun r w'=>r=.returned (.tuple #[])/\∃ F',Dev w' A (s.store i off v) F'/\Moved F F' w w':=by
 have c0:w.cell? ⟨A.t i,0,none⟩=some (.pointer (some ⟨A.d,0,none⟩)):=(h.thr i hi).cell 0 (by omega);have HH:=zh h.ok;have HW:=zh (ZC2 h hi off ho);have HC:=zh (VN h hi (s.word off) hx);clear h;unfold DSt.store;cases hok:(s.cnt i (s.word off)).2
 ·rw [hok] at HC
  simp only [ptr,u64];go_in;go_wp2_with fail;refine HW.o.mono ?_;rintro e w' ⟨rfl,rfl⟩;go_wp2_with fail;refine HC.o.mono ?_;rintro e w' ⟨rfl,h1,h2⟩;have H2:=zh h1;have H3:=zh h2;clear h1 h2;go_wp2;go_returns;exact ⟨rfl,F,H2.o,H3.o⟩
 ·rw [hok] at HC
  obtain ⟨q1,q2,q3⟩:=ZBq hok;have HQ:=zh q2;have HQ3:=zh q3;clear q1 q2 q3;simp only [ptr,u64];go_in;go_wp2_with fail;refine HW.o.mono ?_;rintro e w' ⟨rfl,rfl⟩;go_wp2_with fail;refine HC.o.mono ?_;rintro e w' ⟨rfl,h1,h2⟩;have hs:=ZFu h1 hi (off:=off) (v:=v) (by rw [HQ3.o];exact HQ.o) hvv (by rw [HQ3.o];have:=HH.o.len (off / 64);unfold DSt.ctl;dsimp only;omega);have H2:=zh hs;have H3:=zh h2;clear h1 h2 hs;go_wp2_with fail;refine H2.o.mono ?_;rintro e w'' ⟨rfl,F',h3,h4⟩;have H4:=zh h3;have H5:=zh (H3.o.trans h4);clear h3 h4;go_wp2;go_returns;exact ⟨rfl,F',H4.o,H5.o⟩
def DSt.setNote (s:DSt)(i:Nat)(f:Nat->Option Nat)(nb:Nat):DSt:={s with notes:=upd s.notes i f,nb:=nb}
theorem Dev.setNote {w w':World} {A:DAd} {s:DSt} {F:Nat->Option ZK} (h:Dev w A s F) {i nb:Nat} {f:Nat->Option Nat} (hi:i < 8) (hg:w.grownBy w' (some (A.m i))) (hn:Notes w' (A.m i) nb f)
 (hf:∀ n p,f n=some p->p<=(s.H n).length/\n < s.L)(hb:s.nb<=nb)(hb':nb<=s.ex):Dev w' A (s.setNote i f nb) F/\Moved F F w w':=by
 have hfm:=h.fm i hi;have keep:∀ k q,F k=some q->q≠(5,i)->w'.heap[k]?=w.heap[k]?:=fun k q hk hq=>hg.block k (h.lt k (by rw [hk];simp)) (fun e=>hq (by rw [ZK5 e,hfm] at hk;exact (ZK5 hk).symm))
 have hnn:∀ t n p,(s.setNote i f nb).notes t n=some p->p<=(s.H n).length/\n < s.L:=by
  intro t n p hp;unfold DSt.setNote upd at hp;dsimp only at hp;split at hp
  ·exact hf n p hp
  ·exact h.ok.note t n p hp
 have hok:(s.setNote i f nb).Ok:={h.ok with nb:=hb',note:=hnn}
 refine ⟨{h with ok:=hok,dev:=?_,per:=?_,cur:=?_,lin:=?_,thr:=?_,note:=?_,lt:=?_},⟨hg.os,hg.tape,hg.output,hg.size,?_⟩,fun _ _=>rfl⟩
 ·exact h.dev.of_block (keep _ _ h.fd (by simp))
 ·exact h.per.of_block (keep _ _ h.fper (by simp))
 ·exact h.cur.of_block (keep _ _ h.fcur (by simp))
 ·obtain ⟨hv,h1,h2⟩:=h.lin
  exact ⟨hv,h1.of_block (keep _ _ h.flin (by simp)),fun n hn=>(h2 n hn).of_agree (fun k hk=>keep _ _ hk (by simp))⟩
 ·intro j hj
  exact (h.thr j hj).of_block (keep _ _ (h.ft j hj) (by simp))
 ·intro j hj
  unfold DSt.setNote upd;dsimp only
  by_cases e:j=i
  ·subst e;rw [ZKv rfl];exact hn
  ·rw [ZKu e]
   exact ((h.note j hj).of_agree (keep _ _ (h.fm j hj) (by simp [e]))).mono hb
 ·intro k hk;exact ZLC (h.lt k hk) hg.size
 ·intro k hk hf
  exact hg.block k hk (fun e=>hf (by rw [ZK5 e,hfm];simp))
theorem Notes.put {w':World} {b ex:Nat} {f:Nat->Option Nat} {D:DataW Unit} {n p:Nat} (hD:(∀ k:Int,Maps.has D (.int .i64 k)=true->0<=k)/\
 ∀ n:Nat,(Maps.has D (.int .i64 n)=(f n).isSome)/\∀ p zd,f n=some p->D.atKey (.int .i64 n) zd=.lit (.int .u64 p)) (hm:Maps.IsMap D)
 (h:w'.ownsMap prog 3 (plainElem prog 29) b ex (D.put (.int .i64 n) (.lit (.int .u64 p)))):Notes w' b ex (upd f n (some p)):=by
 refine ⟨_,h,?_,?_⟩
 ·intro k hk
  by_cases e:k=(n:Int)
  ·omega
  ·rw [Maps.has_put_other (by simp [e])] at hk
   exact hD.1 k hk
 ·intro m
  unfold upd
  by_cases e:m=n
  ·subst e
   rw [ZKv rfl];refine ⟨by rw [Maps.has_put_same hm (show WideAt.IsKeyLit (Lit.int .i64 (m:Int)) from trivial)];rfl,fun q zd hq=>?_⟩;rw [Maps.atKey_put_same hm (show WideAt.IsKeyLit (Lit.int .i64 (m:Int)) from trivial),ZK5 hq]
  ·rw [ZKu e]
   have hne:(Lit.int .i64 (m:Int))≠Lit.int .i64 (n:Int):=by simp;omega
   refine ⟨by rw [Maps.has_put_other hne];exact (hD.2 m).1,fun q zd hq=>?_⟩;rw [Maps.atKey_put_other hne];exact (hD.2 m).2 q zd hq
theorem ZJi {z:Int}(h1:-9223372036854775808<=z)(h2:z<=9223372036854775807):(Lit.int .i64 z).wf=true:=by
 have e1:IntKind.i64.min=-9223372036854775808:=by decide
 have e2:IntKind.i64.max=9223372036854775807:=by decide
 simp only [Lit.wf,e1,e2,Bool.and_eq_true,decide_eq_true_eq];exact ⟨h1,h2⟩
theorem ZJj {z:Int}(h1:0<=z)(h2:z<=18446744073709551615):(Lit.int .u64 z).wf=true:=by
 have e1:IntKind.u64.min=0:=by decide
 have e2:IntKind.u64.max=18446744073709551615:=by decide
 simp only [Lit.wf,e1,e2,Bool.and_eq_true,decide_eq_true_eq];exact ⟨h1,h2⟩
theorem U9:Maps.Keyed prog 3:=Maps.int_keyed underlying3
theorem Qz {w:World}{P:Program}{k:TypeId}{R:Value->Option (DataW Unit×List MemPlace)}{b n:Nat}{D:DataW Unit}(h:w.ownsMap P k R b n D):Maps.IsMap D:=by
 obtain ⟨es,clock,_,_,_,hD⟩:=h;exact ⟨_,hD⟩
def DSt.flushed (s:DSt)(i off:Nat):DSt:=s.setNote i (upd (s.notes i) (off / 64) (some (s.H (off / 64)).length)) (s.nb+1)
def DSt.flush (s:DSt)(i off:Nat):DSt:=
 if (s.cnt i (decide (off < s.L * 64))).2 then (s.cnt i (decide (off < s.L * 64))).1.flushed i off else (s.cnt i (decide (off < s.L * 64))).1
theorem ZAK {w:World}{A:DAd}{s:DSt}{F:Nat->Option ZK}(h:Dev w A s F){i:Nat}(hi:i < 8){off:Nat}(ho:off < 18446744073709551616)(hx:s.ex < 1000000):
 Calls prog 311 #[ptr (A.t i),u64 off] w fun r w'=>r=.returned (.tuple #[])/\Dev w' A (s.flush i off) F/\Moved F F w w':=by
 have c0:w.cell? ⟨A.t i,0,none⟩=some (.pointer (some ⟨A.d,0,none⟩)):=(h.thr i hi).cell 0 (by omega);have HH:=zh h.ok;have hsz:=Uj h;have d3:decide ((off:Int) < ((s.L * 64:Nat):Int))=decide (off < s.L * 64):=by apply decide_eq_decide.2;omega
 obtain ⟨M,hM⟩:∃ M:Int,M=((s.L * 64:Nat):Int):=⟨_,rfl⟩
 rw [<-hM] at hsz d3;have HS:=zh hsz;have HC:=zh (VN h hi (decide (off < s.L * 64)) hx);clear h hsz hM;unfold DSt.flush;obtain ⟨val,hval⟩:=xE (decide (off < s.L * 64));rw [<-hval] at HC d3 ⊢;have HV:=zh hval;clear hval;have ho2:(off:Int) < 18446744073709551616:=by omega
 cases hok:(s.cnt i val).2
 ·rw [hok] at HC
  simp only [ptr,u64];go_in;go_wp2_with fail;refine HS.o.mono ?_;rintro e w' ⟨rfl,rfl⟩;go_wp2_with fail;refine HC.o.mono ?_;rintro e w' ⟨rfl,h1,h2⟩;have H2:=zh h1;have H3:=zh h2;clear h1 h2 d3 hok;go_wp2_with (refine bodyPost_ret (results_none rfl _ _ _) rfl ?_);exact ⟨H2.o,H3.o⟩
 ·rw [hok] at HC
  obtain ⟨q1,q2,q3⟩:=ZBq hok;have hlt:off < s.L * 64:=by rw [q2] at HV;simpa using HV.o.symm
  obtain ⟨s1,hs1⟩:=xE ((s.cnt i val).1);rw [<-hs1] at HC q3 ⊢;have e1:s1.L=s.L:=by rw [q3];rfl
  have e2:s1.nb < s1.ex:=by rw [q3];have:=HH.o.nb;unfold DSt.ctl;dsimp only;omega
  have e3:s1.H=s.H:=by rw [q3];rfl
  clear hs1 q1 q2 q3 hok;have E2:=zh e2;clear e2;have E3:=zh e3;clear e3;have hoff2:(off:Int) / 64 < s1.L:=by rw [e1];omega
  have hoff3:(off:Int) / 64<=9223372036854775807:=by omega
  have HL:=zh hlt;clear hlt;have HE:=zh e1;clear e1;simp only [ptr,u64];go_in;go_wp2_with fail;refine HS.o.mono ?_;rintro e w' ⟨rfl,rfl⟩;go_wp2_with fail;refine HC.o.mono ?_;rintro e w' ⟨rfl,h1,h2⟩;have hL:off / 64 < s1.L:=by omega
  have k0:w'.cell? ⟨A.t i,0,none⟩=some (.pointer (some ⟨A.d,0,none⟩)):=(h1.thr i hi).cell 0 (by omega);have k1:w'.cell? ⟨A.d,2,none⟩=some (.slice (some ⟨A.lin,0,none⟩) s1.L s1.L):=h1.dev.cell 2 (by omega);have k3:w'.cell? ⟨A.t i,3,none⟩=some (.map (some (A.m i))):=(h1.thr i hi).cell 3 (by omega);obtain ⟨hv,hlin,hhist⟩:=h1.lin;have k4:w'.cell? ⟨A.lin,off / 64 * 2,none⟩=some (.int .u64 (s1.dn (off / 64))):=by
   rw [hlin.cell _ (by omega)];unfold X0;rw [ZKv (by omega)];unfold u64;congr 4;omega
  obtain ⟨ha,hcp,hv'⟩:∃ ha hcp,hv (off / 64)=.slice ha (s1.hist (off / 64)).length hcp:=by
   rcases hhist (off / 64) hL with ⟨e0,e⟩|⟨b,o,cap,c,e,_⟩
   ·rw [e0];exact ⟨_,_,e⟩
   ·exact ⟨_,_,e⟩
  have k5:w'.cell? ⟨A.lin,off / 64 * 2+1,none⟩=some (.slice ha (s1.hist (off / 64)).length hcp):=by
   rw [hlin.cell _ (by omega),<-hv'];unfold X0;rw [ZKu (by omega)]
   congr 2;omega
  have hdn:=h1.ok.dn (off / 64);have hlen:=h1.ok.len (off / 64);have hex:=h1.ok.ex;have hh:(s1.hist (off / 64)).length=(s1.H (off / 64)).length - s1.dn (off / 64):=by unfold DSt.hist;rw [List.length_drop]
  obtain ⟨D,hown,hD⟩:=h1.note i hi;have hL4:=h1.ok.lines;have wf1:(Lit.int .i64 ((off / 64:Nat):Int)).wf=true:=ZJi (by omega) (by omega);have wf2:(Lit.int .u64 ((s1.H (off / 64)).length:Int)).wf=true:=ZJj (by omega) (by omega);have e2':=E2.o;obtain ⟨w2,hrun,hown2,hgr⟩:=hown.drew.update U9 underlying172 (by unfold maxLen;omega) (Maps.keyOf_int_mk underlying3 wf1) (plainElem_int (H:=Unit) underlying29 wf2);have hn2:=Notes.put hD (Qz hown) hown2;obtain ⟨g1,g2⟩:=h1.drew.setNote hi hgr hn2 (fun n p hp=>by
   unfold upd at hp;split at hp
   ·rename_i e;rw [e];exact ⟨by have:=ZK5 hp;omega,hL⟩
   ·exact h1.ok.note i n p hp) (Nat.le_succ _) E2.o
  have G1:=zh g1;have G2:=zh (h2.trans ⟨((Only.refl _ _).drew).trans g2.only (fun _ _ h=>h),fun _ _=>rfl⟩);have ek:((off / 64:Nat):Int)=(off:Int) / 64:=by omega
  have el:((s1.H (off / 64)).length:Int)=(s1.dn (off / 64):Int)+((s1.hist (off / 64)).length:Int):=by rw [hh];omega
  rw [ek,el] at hrun;have bb:(s1.dn (off / 64):Int)+((s1.hist (off / 64)).length:Int)<=1000000:=by rw [<-el];omega
  have bc:((s1.hist (off / 64)).length:Int)<=1000000:=by rw [hh];omega
  clear wf1 wf2 hn2 g1 g2 ek el hgr hown2 hown hD hh hex hlen hdn hv' hlin hhist h1 h2 hL hL4 d3;go_wp2_with fail
  go_region
  go_returns;exact ⟨rfl,G1.o,G2.o⟩
def ZJm (l:List (Nat×Nat))(w:World)(B N:Nat)(g:Nat->Nat)(i:Value)(wr:World):Prop:=
 ∃ k:Nat,k<=l.length/\i=.int .i64 k/\Row wr B 29 N (fun x=>u64 (after (g x) x (l.take k)))/\Only (fun b=>b=B) w wr
theorem ZAl {l:List (Nat×Nat)}{k:Nat}(h:k < l.length):l.take (k+1)=l.take k++[l[k]]:=by
 rw [List.take_add_one,ZK9 h];rfl
theorem ZEe {w:World} {B N:Nat} {g:Nat->Nat} {l:List (Nat×Nat)} {bs o wc sc:Nat} (hrow:Row w B 29 N (fun x=>u64 (g x))) (hne:bs≠B)
 (hc:∀ i p,l[i]?=some p->w.cell? ⟨bs,o+2 * i,none⟩=some (u64 p.1)/\w.cell? ⟨bs,o+2 * i+1,none⟩=some (u64 p.2))(hl:∀ p∈l,p.1 / 8 < N/\p.1 < 18446744073709551616/\p.2 < 18446744073709551616)(hlen:l.length<=1000000):
 Calls prog 317 #[.slice (some ⟨B,0,none⟩) N wc,.slice (some ⟨bs,o,none⟩) l.length sc] w fun r w'=>
  r=.returned (.tuple #[])/\Row w' B 29 N (fun x=>u64 (after (g x) x l))/\Only (fun b=>b=B) w w':=by
 have HR:=zh hrow;have HC:=zh hc;have HL:=zh hl;have HN:=zh hne;clear hrow hc hl hne;have hlen2:(l.length:Int)<=1000000:=by omega
 go_in;go_wp2_with fail
 go_loopw [8] (fun i wr=>ZJm l w B N g i wr) (fun i _=>l.length - (intOf i).toNat)
 case atStart=>exact ⟨0,by omega,rfl,HR.o,Only.refl _ _⟩
 case round=>
  obtain ⟨k,hk,rfl,hrow,honly⟩:=hrel
  by_cases hlt:k < l.length
  ·have hlt2:(k:Int) < l.length:=by omega
   have hg:l[k]?=some l[k]:=ZK9 hlt;obtain ⟨p,hp⟩:=xE (l[k]);rw [<-hp] at hg;obtain ⟨h1,h2⟩:=HC.o k p hg;obtain ⟨b1,b2,b3⟩:=HL.o p (by rw [hp];exact ZLF hlt);have c1:=honly.cell h1 HN.o;have c2:=honly.cell h2 HN.o;have hrow2:=hrow.alloc (.cells #[u64 p.1,u64 p.2] 155);have c3:=hrow2.cell (p.1 / 8) b1;have f3:=hrow2.free (p.1 / 8);have HR2:=zh (hrow2.set (p.1 / 8) (u64 p.2));have HO2:=zh ((honly.alloc (.cells #[u64 p.1,u64 p.2] 155)).set (b:=B) (i:=p.1 / 8) rfl (u64 p.2));have HP:=zh hp;clear hp;have e1:o+k * 2=o+2 * k:=by omega
   have bi1:(p.1:Int) / 8 < N:=by omega
   have bi2:(p.1:Int) < 18446744073709551616:=by omega
   rw [<-e1] at c1 c2;clear h1 h2 hrow2 hrow honly e1 hg b1 b2 b3;unfold u64 at *;go_wp2_with fail;go_roundw
   case rel=>
    refine ⟨k+1,by omega,by go_num,?_,HO2.o⟩;refine HR2.o.congr (fun x hx=>?_);rw [ZAl (by omega),J4,<-HP.o]
    by_cases e:p.1 / 8=x
    ·rw [ZKv e,ZKv e.symm];rfl
    ·rw [ZKu e,ZKu (fun h=>e h.symm)];rfl
   case measure=>simp [intOf];omega
  ·obtain rfl:k=l.length:=by omega
   rw [List.take_length] at hrow;have H1:=zh hrow;have H2:=zh honly;clear hrow honly;go_wp2;go_returns;exact ⟨rfl,H1.o,H2.o⟩
theorem ZBi {v x:Nat}{l:List (Nat×Nat)}(h:∀ p∈l,p.1 / 8≠x):after v x l=v:=by
 induction l generalizing v with
 |nil=>rfl
 |cons a l ih=>
  unfold after;rw [ZKu (h a (by simp))];exact ih (fun p hp=>h p (by simp [hp]))
def DSt.persist (s:DSt)(n k:Nat):DSt:={s with dn:=upd s.dn n (s.dn n+k)}
theorem DSt.persist_hist (s:DSt)(n k m:Nat):(s.persist n k).hist m=if m=n then (s.hist n).drop k else s.hist m:=by
 unfold DSt.hist DSt.persist upd;dsimp only;split
 ·rename_i e;rw [e,List.drop_drop]
 ·rfl
theorem DSt.persist_per {s:DSt}(h:s.Ok)(n k x:Nat):(s.persist n k).per x=after (s.per x) x ((s.hist n).take k):=by
 unfold DSt.per DSt.persist upd DSt.hist;dsimp only
 by_cases e:x / 8=n
 ·rw [ZKv e,e,List.take_add,ZAr]
 ·rw [ZKu e]
  refine (ZBi (fun p hp=>?_)).symm;have h1:=h.word n p (List.mem_of_mem_drop (List.mem_of_mem_take hp));omega
theorem DSt.Ok.persist {s:DSt}(h:s.Ok){n k:Nat}(hk:k<=(s.hist n).length):(s.persist n k).Ok:=by
 refine {h with dn:=?_};intro m;unfold DSt.persist upd;dsimp only;have h1:=h.dn n;unfold DSt.hist at hk;rw [List.length_drop] at hk;split
 ·rename_i e;rw [e];omega
 ·exact h.dn m
theorem Dev.persist {w w2:World} {A:DAd} {s:DSt} {F:Nat->Option ZK} {n k:Nat} {hv:Nat->Value} {v':Value} (h:Dev w A s F) (hk:k<=(s.hist n).length)
 (hhist:∀ m,m < s.L->Hist w F m (hv m) (s.hist m))
 (hper:Row w2 A.per 29 (8 * s.L) (fun x=>u64 (after (s.per x) x ((s.hist n).take k)))) (hlin:Row w2 A.lin 446 (2 * s.L) (X0 (s.persist n k) (upd hv n v')))
 (hh:Hist w2 F n v' ((s.hist n).drop k))(honly:Only (fun b=>b=A.per\/b=A.lin) w w2):Dev w2 A (s.persist n k) F/\Moved F F w w2:=by
 have keep:∀ b q,F b=some q->q≠(1,0)->q≠(3,0)->w2.heap[b]?=w.heap[b]?:=fun b q hb h1 h3=>honly.block b (h.lt b (by rw [hb];simp)) (fun e=>by
  rcases e with e|e
  ·rw [e,h.fper] at hb;exact h1 (ZK5 hb).symm
  ·rw [e,h.flin] at hb;exact h3 (ZK5 hb).symm)
 refine ⟨{h with ok:=h.ok.persist hk,dev:=?_,per:=?_,cur:=?_,lin:=?_,thr:=?_,note:=?_,lt:=?_},?_,fun _ _=>rfl⟩
 ·exact h.dev.of_block (keep _ _ h.fd (by simp) (by simp))
 ·exact hper.congr (fun x _=>by rw [DSt.persist_per h.ok])
 ·exact h.cur.of_block (keep _ _ h.fcur (by simp) (by simp))
 ·refine ⟨_,hlin,fun m hm=>?_⟩
  rw [DSt.persist_hist];unfold upd
  by_cases e:m=n
  ·subst e;rw [ZKv rfl,ZKv rfl];exact hh
  ·rw [ZKu e,ZKu e]
   exact (hhist m hm).of_agree (fun b hb=>keep _ _ hb (by simp) (by simp))
 ·intro j hj
  exact (h.thr j hj).of_block (keep _ _ (h.ft j hj) (by simp) (by simp))
 ·intro j hj
  exact (h.note j hj).of_agree (keep _ _ (h.fm j hj) (by simp) (by simp))
 ·intro b hb;exact ZLC (h.lt b hb) honly.size
 ·refine honly.mono (fun b hb=>?_)
  rcases hb with rfl|rfl
  ·rw [h.fper];simp
  ·rw [h.flin];simp
theorem ZBR {w w1:World} {A:DAd} {s:DSt} {F:Nat->Option ZK} {n k:Nat} {hv:Nat->Value} {v':Value} (h:Dev w A s F) (hk:k<=(s.hist n).length)
 (hlin:Row w A.lin 446 (2 * s.L) (X0 s hv)) (hhist:∀ m,m < s.L->Hist w F m (hv m) (s.hist m))
 (hr1:Row w1 A.per 29 (8 * s.L) fun x=>u64 (after (s.per x) x (List.take k (s.hist n)))) (ho1:Only (fun b=>b=A.per) w.drew w1)
 (hv':Hist w F n v' ((s.hist n).drop k)):
 Dev ((w1.setCell ⟨A.lin,n * 2,none⟩ (u64 (s.dn n+k))).setCell ⟨A.lin,n * 2+1,none⟩ v') A (s.persist n k) F/\
  Moved F F w ((w1.setCell ⟨A.lin,n * 2,none⟩ (u64 (s.dn n+k))).setCell ⟨A.lin,n * 2+1,none⟩ v')/\
  Only (fun b=>b=A.per\/b=A.lin) w ((w1.setCell ⟨A.lin,n * 2,none⟩ (u64 (s.dn n+k))).setCell ⟨A.lin,n * 2+1,none⟩ v'):=by
 have keep:∀ b,F b≠none->b≠A.per->w1.heap[b]?=w.heap[b]?:=fun b hb hne=>ho1.block b (h.lt b hb) hne
 have hne:A.lin≠A.per:=ZU h.flin h.fper (by simp);have hlin1:Row w1 A.lin 446 (2 * s.L) (X0 s hv):=hlin.of_block (keep _ (by rw [h.flin];simp) hne)
 have ho:Only (fun b=>b=A.per\/b=A.lin) w ((w1.setCell ⟨A.lin,n * 2,none⟩ (u64 (s.dn n+k))).setCell ⟨A.lin,n * 2+1,none⟩ v'):=
  ((((Only.refl _ w).drew).trans (ho1.mono (G:=fun b=>b=A.per\/b=A.lin) (fun b hb=>.inl hb)) (fun _ _ e=>e)).set (.inr rfl) _).set (.inr rfl) _
 refine (fun (q:_/\_)=>⟨q.1,q.2,ho⟩) (h.persist hk hhist ?_ ?_ (hv'.of_agree (fun b hb=>?_)) ho)
 ·exact (hr1.set_other (ZU h.fper h.flin (by simp))).set_other (ZU h.fper h.flin (by simp))
 ·refine ((hlin1.set (n * 2) (u64 (s.dn n+k))).set (n * 2+1) v').congr (fun x hx=>?_)
  unfold X0 DSt.persist upd;dsimp only
  by_cases e1:x=n * 2+1
  ·rw [ZKv e1,ZKu (by omega),ZKv (by omega)]
  ·rw [ZKu e1]
   by_cases e2:x=n * 2
   ·rw [ZKv e2,ZKv (by omega),ZKv (by omega)]
   ·rw [ZKu e2]
    by_cases e3:x % 2=0
    ·rw [ZKv e3,ZKv e3,ZKu (by omega)]
    ·rw [ZKu e3,ZKu e3,ZKu (by omega)]
 ·rw [ZF (ZU hb h.flin (by simp)),ZF (ZU hb h.flin (by simp)),keep b (by rw [hb];simp) (ZU hb h.fper (by simp))]
theorem Vz (w:World)(p:Addr)(a b:Value):(w.setCell p a).setCell p b=w.setCell p b:=by
 have hh:((w.setCell p a).setCell p b).heap=(w.setCell p b).heap:=by
  apply Array.ext_getElem?;intro i;simp only [World.setCell,Array.getElem?_modify]
  by_cases e:p.block=i
  ·rw [ZKv e,ZKv e,ZKv e,Option.map_map]
   congr 1
   funext o
   cases o <;> simp only [Function.comp]
   split <;> simp
  ·rw [ZKu e,ZKu e,ZKu e]
 show ({w with heap:=((w.setCell p a).setCell p b).heap}:World)={w with heap:=(w.setCell p b).heap};rw [hh]
theorem ZCR {w:World}{A:DAd}{s:DSt}{F:Nat->Option ZK}(h:Dev w A s F){n k:Nat}(hn:n < s.L)(hk1:1<=k)(hk:k<=(s.hist n).length):
 Calls prog 315 #[ptr A.d,i64 n,i64 k] w fun r w'=>r=.returned (.tuple #[])/\Dev w' A (s.persist n k) F/\Moved F F w w'/\Only (fun b=>b=A.per\/b=A.lin) w w':=by
 obtain ⟨hv,hlin,hhist⟩:=h.lin;have hh:=hhist n hn;have hlh:(s.hist n).length+s.dn n<=1000000:=by unfold DSt.hist;rw [List.length_drop];have:=h.ok.len n;have:=h.ok.ex;have:=h.ok.dn n;omega
 have hdn:=h.ok.dn n;have hLL:=h.ok.lines;rcases hh with ⟨e0,_⟩|⟨b,o,cap,c,e1,e2,e3,e4,e5,e6,e7⟩
 ·rw [e0] at hk;simp at hk;omega
 ·have c0:w.cell? ⟨A.d,2,none⟩=some (.slice (some ⟨A.lin,0,none⟩) s.L s.L):=h.dev.cell 2 (by omega)
  have c1:w.cell? ⟨A.d,0,none⟩=some (.slice (some ⟨A.per,0,none⟩) (8 * s.L) (8 * s.L)):=h.dev.cell 0 (by omega);have c2:w.cell? ⟨A.lin,n * 2+1,none⟩=some (.slice (some ⟨b,o,none⟩) (s.hist n).length cap):=by
   rw [hlin.cell _ (by omega),<-e1];unfold X0;rw [ZKu (by omega)];congr 2;omega
  have hcell:∀ i p,((s.hist n).take k)[i]?=some p->w.cell? ⟨b,o+2 * i,none⟩=some (u64 p.1)/\w.cell? ⟨b,o+2 * i+1,none⟩=some (u64 p.2):=by
   intro i p hi;rw [List.getElem?_take] at hi;split at hi
   ·rw [ZC e3,ZC e3];exact e7 i p hi
   ·cases hi
  have hap:=fun w1 (ho:Only (fun _=>False) w w1)=>ZEe (wc:=8 * s.L) (sc:=cap) (h.per.of_block (ho.block _ h.per.lt (fun f=>f))) (ZU e2 h.fper (by simp)) (l:=(s.hist n).take k)
   (fun i p hi=>⟨ho.cell (hcell i p hi).1 (fun f=>f),ho.cell (hcell i p hi).2 (fun f=>f)⟩)
   (fun p hp=>by
     have h1:=h.ok.word n p (List.mem_of_mem_drop (List.mem_of_mem_take hp));omega) (by rw [List.length_take];omega)
  have ek:((s.hist n).take k).length=k:=by rw [List.length_take];omega
  rw [ek] at hap;have HA:=zh hap;clear hap ek;have b1:(n:Int) < s.L:=by omega
  have b2:(k:Int)<=cap:=by omega
  have b3:(k:Int)<=((s.hist n).length:Int):=by omega
  have HH:=zh h;have HP:=fun w1 v'=>zh (@ZBR w w1 A s F n k hv v' h hk hlin hhist)
  have HE:=zh (And.intro e1 (And.intro e2 (And.intro e3 (And.intro e4 (And.intro e5 (And.intro e6 e7))))));have HX:=zh hlin;have l1:(s.dn n:Int)+k<=1000000:=by omega
  simp only [ptr,i64];go_in;clear h hhist hlin hcell e7 e6 e5 e4 e3 e2 e1 hLL hdn hlh;go_wp2_with fail
  go_still_tail 10,(by kernel_rfl)
  go_wp2_with fail;refine (HA.o _ ?_).mono ?_
  ·exact (Only.refl _ _).drew
  rintro e w1 ⟨rfl,hr1,ho1⟩;have h:=HH.o;have hlin1:Row w1 A.lin 446 (2 * s.L) (X0 s hv):=HX.o.of_block (ho1.block _ HX.o.lt (ZU h.flin h.fper (by simp)));have k1:w1.cell? ⟨A.lin,n * 2,none⟩=some (.int .u64 (s.dn n)):=by
   rw [hlin1.cell _ (by omega)];unfold X0 u64;rw [ZKv (by omega)];congr 4;omega
  have k2:w1.cell? ⟨A.lin,n * 2+1,none⟩=some (.slice (some ⟨b,o,none⟩) (s.hist n).length cap):=by
   rw [hlin1.cell _ (by omega),<-HE.o.1];unfold X0;rw [ZKu (by omega)];congr 2;omega
  have f1:w1.frozen? ⟨A.lin,n * 2,none⟩=false:=hlin1.free _;have f2:w1.frozen? ⟨A.lin,n * 2+1,none⟩=false:=hlin1.free _;have HQ:=fun v'=>zh ((HP w1 v').out hr1 ho1)
  clear hr1 ho1 h hlin1 HA HP c0 c1 c2;obtain ⟨N,hN⟩:=xE ((s.hist n).length);rw [<-hN] at k2 b3
  by_cases hlast:k=N
  ·subst hlast
   have d0:(((k - k:Nat):Int) == 0)=true:=by simp
   have HR:=zh ((HQ (.slice none 0 0)).out (.inl ⟨by rw [hN,List.drop_length],rfl⟩));have HN:=zh hN;clear hN HQ;simp only [u64,Int.natCast_add] at HR
   by_cases hc:cap=k
   ·go_wp2
    go_returns;rw [Vz];exact ⟨rfl,HR.o⟩
   ·go_wp2
    go_returns;rw [Vz];exact ⟨rfl,HR.o⟩
  ·have hkN:(k:Int) < N:=by rw [hN] at hlast ⊢;omega
   have HN:=zh hN;clear hN hlast;have d0:(((N - k:Nat):Int) == 0)=false:=by simp;omega
   have d1:¬ cap=k:=by intro e;have:=HE.o.2.2.2.1;rw [<-HN.o] at this;omega
   have HR:=zh ((HQ (.slice (some ⟨b,o+k * 2,none⟩) (N - k) (cap - k))).out (.inr (by
    obtain ⟨e1,e2,e3,e4,e5,e6,e7⟩:=HE.o;refine ⟨b,o+k * 2,cap - k,c,by rw [List.length_drop,HN.o],e2,e3,by rw [List.length_drop];omega,by omega,by omega,?_⟩;intro i p hi;rw [List.getElem?_drop] at hi;have:=e7 _ _ hi;rw [show o+k * 2+2 * i=o+2 * (k+i) by omega];exact this)))
   clear HQ;go_wp2;go_returns;simp only [u64,Int.natCast_add] at HR;exact ⟨rfl,HR.o⟩
theorem JH {H:Type} {w w':World} {P:Program} {k:TypeId} {R:Value->Option (DataW H×List MemPlace)} {b r n:Nat} {D:DataW H} {left:Lit->Bool} {cnt:Nat}
 (h:w.ranges P k R b r n D left cnt)(hb:w'.heap[b]?=w.heap[b]?)(hr:w'.heap[r]?=w.heap[r]?):w'.ranges P k R b r n D left cnt:=by
 obtain ⟨es,clock,since,seen,c0,hb0,F,hs,hD,hr0,rest⟩:=h;exact ⟨es,clock,since,seen,c0,hb.trans hb0,F,hs,hD,hr.trans hr0,rest⟩
theorem ZEm {H:Type}{w:World}{P:Program}{k e t:TypeId}{R:Value->Option (DataW H×List MemPlace)}{b n:Nat}{D:DataW H}(h:w.ownsMap P k R b n D)(ht:P.underlying t=some (.map k e)):
 ∃ w',(∀ ty,(Builtin.clear_ #[t] ty #[.map (some b)]).run P w=.ok (.tuple #[]) w')/\w'.ownsMap P k R b n (.map [])/\w.grownBy w' (some b):=by
 obtain ⟨es,clock,hb,F,hs,hD⟩:=h;have hlt:=heap_lt hb;refine ⟨{w with heap:=w.heap.setIfInBounds b (.map #[] clock)},fun ty=>?_,⟨#[],clock,?_,⟨by simp,MapKept.stamped_empty clock,by simp⟩,by simp,rfl⟩,rfl,rfl,rfl,by simp,fun i hi hne=>?_⟩
 ·simp [Builtin.clear_,run_underlying ht,MapKept.run_getObj_map hb,MapKept.run_setObj_map _ hb,Result.andThen]
 ·simp [hlt]
 ·have:b≠i:=fun e=>hne (by rw [e])
  simp [this]
def DSt.fencing (s:DSt)(i:Nat)(left:Nat->Bool):DSt:=
 {s with dn:=fun n=>if left n then s.dn n else match s.notes i n with|some p=>max (s.dn n) p|none=>s.dn n}
def DSt.fenced (s:DSt)(i:Nat):DSt:={s with dn:=fun n=>match s.notes i n with|some p=>max (s.dn n) p|none=>s.dn n,notes:=upd s.notes i (fun _=>none)}
def DSt.fence (s:DSt)(i:Nat):DSt:=if (s.cnt i true).2 then (s.cnt i true).1.fenced i else (s.cnt i true).1
theorem DSt.fencing_start {s:DSt}{i:Nat}{left:Nat->Bool}(h:∀ n,left n=(s.notes i n).isSome):s.fencing i left=s:=by
 unfold DSt.fencing;have:(fun n=>if left n then s.dn n else match s.notes i n with|some p=>max (s.dn n) p|none=>s.dn n)=s.dn:=by
  funext n
  rw [h n];cases s.notes i n <;> simp
 rw [this]
theorem DSt.fencing_step {s:DSt}{i n p:Nat}{left left':Nat->Bool}(h:left n=true)(hp:s.notes i n=some p)(hl:∀ m,left' m=(left m && decide (m≠n))):
 s.fencing i left'=if s.dn n < p then (s.fencing i left).persist n (p - s.dn n) else s.fencing i left:=by
 have e:(s.fencing i left').dn=(if s.dn n < p then (s.fencing i left).persist n (p - s.dn n) else s.fencing i left).dn:=by
  funext m
  unfold DSt.fencing DSt.persist upd
  by_cases hm:m=n
  ·subst hm
   have h':left' m=false:=by simp [hl]
   by_cases hlt:s.dn m < p
   ·simp [hlt,h,h',hp];omega
   ·simp [hlt,h,h',hp];omega
  ·by_cases hlt:s.dn n < p <;> simp [hl,hm,hlt]
 unfold DSt.fencing DSt.persist at *
 by_cases hlt:s.dn n < p
 ·rw [ZKv hlt] at e ⊢
  dsimp only at e ⊢;rw [e]
 ·rw [ZKu hlt] at e ⊢
  dsimp only at e ⊢;rw [e]
def ZIn (w:World)(A:DAd)(s:DSt)(F:Nat->Option ZK)(i r:Nat)(D:DataW Unit)(wr:World):Prop:=
 ∃ (left:Lit->Bool) (cnt:Nat),wr.ranges prog 3 (plainElem prog 29) (A.m i) r s.nb D left cnt/\Dev wr A (s.fencing i (fun n=>left (.int .i64 n))) F/\Moved F F w wr/\
  (∀ kl,left kl=true->Maps.has D kl=true)/\w.heap.size<=r
def ZD9 (w:World)(A:DAd)(s:DSt)(F:Nat->Option ZK)(r:Ending)(w':World):Prop:=r=.returned (.tuple #[])/\Dev w' A s F/\Moved F F w w'
theorem ZAJ {w:World}{A:DAd}{s:DSt}{F:Nat->Option ZK}(h:Dev w A s F){i:Nat}(hi:i < 8)(hx:s.ex < 1000000):
 Calls prog 310 #[ptr (A.t i)] w (ZD9 w A (s.fence i) F):=by
 have c0:w.cell? ⟨A.t i,0,none⟩=some (.pointer (some ⟨A.d,0,none⟩)):=(h.thr i hi).cell 0 (by omega);have HC:=zh (VN h hi true hx);clear h;unfold DSt.fence;cases hok:(s.cnt i true).2
 ·rw [hok] at HC
  simp only [ptr];go_in;go_wp2_with fail;refine HC.o.mono ?_;rintro e w' ⟨rfl,h1,h2⟩;have H2:=zh h1;have H3:=zh h2;clear h1 h2 hok;go_wp2;go_returns;exact ⟨rfl,H2.o,H3.o⟩
 ·rw [hok] at HC
  obtain ⟨s1,hs1⟩:=xE ((s.cnt i true).1);rw [<-hs1] at HC ⊢;clear hs1 hok;simp only [ptr];go_in;go_wp2_with fail;refine HC.o.mono ?_;rintro e w1 ⟨rfl,h1,h2⟩;have k3:w1.cell? ⟨A.t i,3,none⟩=some (.map (some (A.m i))):=(h1.thr i hi).cell 3 (by omega);obtain ⟨D,hown,hD⟩:=h1.note i hi;have HD:=zh hD;have H1:=zh h1;have H2:=zh h2;clear hD h1 h2;go_wp2_with (at_range;refine wpList_range_own _ rfl _ 172 rfl 3 29 U9 underlying172 _ (A.m i) s1.nb _ rfl hown ?_;intro w0 hrg0 hg0 hs0);have hst:ZIn w1 A s1 F i w1.heap.size D w0:=by
   refine ⟨_,_,hrg0,?_,⟨⟨hg0.os,hg0.tape,hg0.output,hg0.size,fun k hk _=>hg0.block k hk (by simp)⟩,fun _ _=>rfl⟩,fun _ h=>h,nR⟩;rw [DSt.fencing_start (fun n=>(HD.o.2 n).1)];exact H1.o.of_agree (fun k hk=>hg0.block k (H1.o.lt k hk) (by simp)) hg0.size
  have HST:=zh hst;clear hst hg0 hs0 hrg0 hown k3
  go_loopw [2,3,4] (fun _ _ _ wr=>ZIn w1 A s1 F i w1.heap.size D wr) (fun _ _ _ wr=>wr.rangeLeft (A.m i) w1.heap.size)
  case atStart=>exact HST.o
  case round=>
   obtain ⟨left,cnt,hrg,hdev,hmv,hlf,hr⟩:=hrel;go_wp2_with (at_next;refine wpList_next_ranges_ii _ rfl _ rfl 3 29 .i64 .u64 U9 underlying3 underlying29 (A.m i) w1.heap.size s1.nb _ _ _ rfl hrg ?_ ?_)
   ·intro _ hl0
    have k3:wr.cell? ⟨A.t i,3,none⟩=some (.map (some (A.m i))):=(hdev.thr i hi).cell 3 (by omega);obtain ⟨w3,hrun,hown3,hgr⟩:=ZEm hrg.owns underlying172;have hn:Notes w3 (A.m i) s1.nb (fun _=>none):=⟨_,hown3,fun k hk=>by simp [Maps.has] at hk,fun n=>⟨by simp [Maps.has],fun p zd hp=>by cases hp⟩⟩
    obtain ⟨g1,g2⟩:=hdev.setNote hi hgr hn (fun n p hp=>by cases hp) nR hdev.ok.nb;have e:(s1.fencing i (fun n=>left (.int .i64 n))).setNote i (fun _=>none) s1.nb=s1.fenced i:=by
     unfold DSt.fencing DSt.setNote DSt.fenced;simp [hl0]
    rw [e] at g1;have G1:=zh g1;have G2:=zh ((H2.o.trans hmv).trans g2);clear hrg hdev hmv hlf hr hown3 hgr hn g1 g2 e hl0;go_wp2;go_returns;exact ⟨rfl,G1.o,G2.o⟩
   ·intro x c w2 cnt1 hwx hwc hlx hat hrg1 hlt hg1 hs1 hen
    have hx0:=HD.o.1 x (hlf _ hlx);obtain ⟨n,rfl⟩:=Int.eq_ofNat_of_zero_le hx0;obtain ⟨p,hp⟩:∃ p,s1.notes i n=some p:=by
     have:=(HD.o.2 n).1;rw [hlf _ hlx] at this;cases hq:s1.notes i n with
     |none=>rw [hq] at this;cases this
     |some p=>exact ⟨p,rfl⟩
    obtain rfl:c=(p:Int):=by
     have h1:=(HD.o.2 n).2 p (.lit (.int .u64 0)) hp;rw [hat] at h1;injection h1 with h1;injection h1 with h1
    have hnp:=hdev.ok.note i n p hp;have hex:=hdev.ok.ex;have hlen:=hdev.ok.len n;have hne:∀ k,F k≠none->k≠w1.heap.size:=fun k hk e=>by have:=H1.o.lt k hk;omega
    have hdev2:Dev w2 A (s1.fencing i (fun n=>left (.int .i64 n))) F:=hdev.of_agree (fun k hk=>hg1.block k (hdev.lt k hk) (fun e=>hne k hk (ZK5 e))) hg1.size
    have hmv2:Moved F F w1 w2:=⟨⟨hg1.os.trans hmv.only.os,hg1.tape.trans hmv.only.tape,hg1.output.trans hmv.only.output,ZK6 hmv.only.size hg1.size,fun k hk hf=>
     (hg1.block k (ZLC hk hmv.only.size) (fun e=>by have:=ZK5 e;omega)).trans (hmv.only.block k hk hf)⟩,fun _ _=>rfl⟩
    have edn:(s1.fencing i (fun n=>left (.int .i64 n))).dn n=s1.dn n:=by unfold DSt.fencing;simp [hlx]
    have hdn:=hdev.ok.dn n;rw [edn] at hdn
    have hst:=DSt.fencing_step (s:=s1) (i:=i) (n:=n) (p:=p) (left:=fun n=>left (.int .i64 n)) (left':=fun m=>left (.int .i64 m) && !(Lit.int .i64 (m:Int)).sameKey (.int .i64 (n:Int))) hlx hp
     (fun m=>by simp [Lit.sameKey];by_cases e:m=n <;> simp [e];omega)
    have k0:w2.cell? ⟨A.t i,0,none⟩=some (.pointer (some ⟨A.d,0,none⟩)):=(hdev2.thr i hi).cell 0 (by omega);have k1:w2.cell? ⟨A.d,2,none⟩=some (.slice (some ⟨A.lin,0,none⟩) s1.L s1.L):=hdev2.dev.cell 2 (by omega);have k2:w2.cell? ⟨A.lin,n * 2,none⟩=some (.int .u64 (s1.dn n)):=by
     obtain ⟨hv,hlin,_⟩:=hdev2.lin;rw [hlin.cell _ (by have:=hnp.2;unfold DSt.fencing at this ⊢;dsimp only at this ⊢;omega),<-edn];unfold X0 u64;rw [ZKv (by omega)];congr 4;omega
    have b1:(n:Int) < s1.L:=by have:=hnp.2;unfold DSt.fencing at this;dsimp only at this;omega
    by_cases hgt:s1.dn n < p
    ·rw [ZKv hgt] at hst
     have hpd:=ZCR hdev2 (n:=n) (k:=p - s1.dn n) hnp.2 (by omega) (by unfold DSt.hist;rw [List.length_drop,edn];omega);rw [<-hst] at hpd;have d1:decide ((s1.dn n:Int) < p)=true:=by simp;omega
     have d2:((p - s1.dn n:Nat):Int)=(p:Int) - s1.dn n:=by omega
     have b2:(p:Int)<=1000000:=by have:=hnp.1;unfold DSt.fencing at *;dsimp only at *;omega
     have b3:(s1.dn n:Int) < p:=by omega
     simp only [i64,ptr,d2] at hpd;have HP:=zh hpd;have HM:=zh hmv2;have HR:=zh hrg1;have HL:=zh hlf;have HN:=zh hne;have HW:=zh hrg;have HT:=zh hlt;have HD2:=zh hdev2;clear hpd hmv2 hrg1 hlf hne hst hdev hdev2 hmv hnp hex hlen hdn edn hat hp hwx hwc hlx hg1 hs1 hr hx0 d2 hgt hrg hlt;go_wp2_with fail;refine HP.o.mono ?_;rintro e w3 ⟨rfl,h3,h4,h5⟩;have H3:=zh h3;have H4:=zh h4;have H5:=zh h5;clear h3 h4 h5;go_wp2_with fail;have hrg3:=JH HR.o (H5.o.block (A.m i) HR.o.owns.lt (fun e=>by rcases e with e|e;exact ZU (HD2.o.fm i hi) HD2.o.fper (by simp) e;exact ZU (HD2.o.fm i hi) HD2.o.flin (by simp) e)) (H5.o.block w1.heap.size HR.o.lt (fun e=>by
      rcases e with e|e
      ·exact HN.o _ (by rw [HD2.o.fper];simp) e.symm
      ·exact HN.o _ (by rw [HD2.o.flin];simp) e.symm))
     go_roundw
     case rel=>exact ⟨_,cnt1,hrg3,H3.o,HM.o.trans H4.o,fun kl hk=>HL.o kl (by simp at hk;exact hk.1),nR⟩
     case measure=>rw [hrg3.left_eq,HW.o.left_eq];exact HT.o
    ·rw [ZKu hgt] at hst
     have d1:decide ((s1.dn n:Int) < p)=false:=by simp;omega
     have d2:¬ ((s1.dn n:Int) < p):=by omega
     rw [<-hst] at hdev2;have HM:=zh hmv2;have HR:=zh hrg1;have HL:=zh hlf;have HW:=zh hrg;have HT:=zh hlt;have HD2:=zh hdev2;clear hmv2 hrg1 hlf hne hst hdev hdev2 hmv hnp hex hlen hdn edn hat hp hwx hwc hlx hg1 hs1 hr hx0 hgt hrg hlt;go_wp2_with fail;go_roundw
     case rel=>exact ⟨_,cnt1,HR.o,HD2.o,HM.o,fun kl hk=>HL.o kl (by simp at hk;exact hk.1),nR⟩
     case measure=>rw [HR.o.left_eq,HW.o.left_eq];exact HT.o
theorem Vj:(prog.info? 29).map (fun i=>(i.zero,i.size,i.bytes))=some (some (.int .u64 0),1,8):=by kernel_rfl
theorem ZGb:(prog.info? 446).map (fun i=>(i.zero,i.size,i.bytes))=some (some (.agg #[.int .u64 0,.slice none 0 0]),2,32):=by kernel_rfl
theorem ZCB:(prog.info? 5).map (fun i=>(i.zero,i.size,i.bytes))=some (some (.int .u8 0),1,1):=by kernel_rfl
def WSl (w:World)(B n:Nat)(g:Nat->Nat)(v:Value):Prop:=
 ∃ b cap,v=.slice (some ⟨b,0,none⟩) n cap/\Row w b 29 n (fun x=>u64 (g x))/\B<=b/\n<=cap/\cap<=maxLen
theorem YL {w:World}{b:Nat}{e:TypeId}{n:Nat}{f:Nat->Value}{c:Array Value}(h:w.heap[b]?=some (.cells c e (0,0)))(hc:∀ x,x < n->c[x]?=some (f x)):Row w b e n f:=by
 refine ⟨c,h,?_,hc⟩;rcases Nat.eq_zero_or_pos n with h0|h0
 ·omega
 ·have:=hc (n - 1) (by omega)
  have:=(ZLR.1 this).1;omega
theorem ZAu {w:World}{b n cap:Nat}{g:Nat->Nat}{base:Option Addr}(hrow:Row w b 29 n (fun x=>u64 (g x)))(hn:1<=n)(hn2:n<=1000000):
 ∃ v' w',(∀ ty,(Builtin.append_ #[123,123] ty #[.slice base 0 0,.slice (some ⟨b,0,none⟩) n cap]).run prog w=.ok v' w')/\WSl w' w.heap.size n g v'/\Bl w w':=by
 obtain ⟨i,hi,hz,hsz,hby⟩:=info_parts Vj;have hsrc:Src prog i.size 123 (.slice (some ⟨b,0,none⟩) n cap) n ((List.range n).map (fun x=>u64 (g x))) w:=by
  refine Src.ofSlice w underlying123 ⟨b,0,none⟩ n cap _ (by rw [hsz];simp) ?_ ?_
  ·intro j u hj
   rw [List.getElem?_map] at hj;rcases Nat.lt_or_ge j n with h|h
   ·rw [List.getElem?_range h] at hj
    rw [Addr.add_lit,ZLI,hrow.cell j h,<-hj];rfl
   ·rw [List.getElem?_eq_none (by simpa using h)] at hj;cases hj
  ·intro u hu
   obtain ⟨x,_,rfl⟩:=ZKz.1 hu;rfl
 have hrun:=fun ty=>run_append_grow_src (P:=prog) w 123 123 ty 29 i _ underlying123 hi hz base 0 0 [] (by cases base with|none=>exact run_firstCells_none _ _ _ _ _|some a=>exact run_firstCells_some _ _ _ _ _ _ [] (by simp) (by simp)) _ n _ hsrc (by omega) (by omega)
  (growslice_fits (by omega) (by rw [hby];omega))
 have hge:=grownCap_ge w (0+n) 0 29;have hcm:=grownCap_le_maxLen w (0+n) 0 29 (by unfold maxLen;omega);refine ⟨_,_,hrun,⟨w.heap.size,_,by rw [ZLI],YL (ZB _ _) ?_,nR,by omega,hcm⟩,?_⟩
 ·intro x hx
  rw [Array.getElem?_append_left (by simpa using hx)];simp [hx]
 ·exact (((Only.refl (fun _=>False) _).drew).alloc _).below
theorem ZBp {w:World}{b n cap:Nat}{g:Nat->Nat}(hrow:Row w b 29 n (fun x=>u64 (g x)))(hn:1<=n)(hn2:n<=1000000):
 Calls prog 86 #[.slice (some ⟨b,0,none⟩) n cap] w fun r w'=>∃ v,r=.returned v/\WSl w' w.heap.size n g v/\Bl w w':=by
 have q1:=fun (w:World) (a:Option Addr) (n c n' c':Nat)=>Lib.run_eql_slice_nil (P:=prog) w _ _ a n c n' c' underlying123
 obtain ⟨v',w',hrun,h1,h2⟩:=ZAu (cap:=cap) (base:=some ⟨w.heap.size,0,none⟩) (hrow.alloc (.cells #[] 29)) hn hn2;have HR:=zh h1;have HB:=zh h2;clear hrow h1 h2;go_in;go_wp2_with (at_builtin;refine Zg rfl _ _ _ rfl _ _ _ _ rfl rfl hrun ?_);go_returns;obtain ⟨b',c',e1,e2,e3,e4⟩:=HR.o;simp at e3;exact ⟨_,rfl,⟨b',c',e1,e2,by omega,e4⟩,(bR.alloc nR _).trans (HB.o.mono (by simp))⟩
end
end Go.Proofs.YteomliechfdhhaaGreatDoor.Dv
