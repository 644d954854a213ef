/- Part 12. -/
import Derived.Test.YtbpeehmepehkdaaGreatDoorY11
import Derived.Lib.SliceRun
import Derived.Deep.Onto
import Derived.Test.YtbpeehmepehkdaaGreatDoorY7
set_option maxHeartbeats 8000000
set_option maxRecDepth 20000
set_option linter.all false
namespace Go.Proofs.YtbpeehmepehkdaaGreatDoor.Dv
open Tryz
section
open Go.RowKit
def kept (l:List Nat)(i:Nat):Bool:=decide (i=0) || !(l.getD i 0 == l.getD (i - 1) 0)
def dd (l:List Nat)(m:Nat):List Nat:=((List.range m).filter (kept l)).map (fun i=>l.getD i 0)
theorem QA (l:List Nat)(m:Nat):dd l (m+1)=dd l m++if kept l m then [l.getD m 0] else []:=by
 unfold dd;rw [ZLy,ZL5,ZLs]
 by_cases h:kept l m <;> simp [h]
theorem ZDq (l:List Nat)(m:Nat)(h:∀ i,i < m->kept l i=true):dd l m=(List.range m).map (fun i=>l.getD i 0):=by
 unfold dd;rw [List.filter_eq_self.2 (fun i hi=>h i (by simpa using hi))]
theorem ZG9 (l:List Nat)(m:Nat):(dd l m).length<=m:=by
 unfold dd;rw [ZLj];have:=ZL0 (kept l) (List.range m);simpa using this
theorem ZJ8 (l:List Nat)(x:Nat):x∈dd l l.length↔x∈l:=by
 have key:∀ m,m<=l.length->∀ i,i < m->l.getD i 0∈dd l m:=by
  intro m hm
  induction m with
  |zero=>intro i hi;omega
  |succ m ih=>
   intro i hi;rw [QA];rcases Nat.lt_or_ge i m with h|h
   ·exact List.mem_append_left _ (ih (by omega) i h)
   ·obtain rfl:i=m:=by omega
    by_cases hk:kept l i=true
    ·rw [ZLX hk];simp
    ·rw [ZLU hk,List.append_nil]
     have h1:¬ i=0/\l.getD i 0=l.getD (i - 1) 0:=by
      unfold kept at hk;simp only [Bool.or_eq_true,decide_eq_true_eq,Bool.not_eq_true',beq_eq_false_iff_ne,not_or] at hk;exact ⟨hk.1,by simpa using hk.2⟩
     rw [h1.2];exact ih (by omega) (i - 1) (by omega)
 constructor
 ·intro h
  unfold dd at h;obtain ⟨i,hi,rfl⟩:=ZLb.1 h;have:=(ZLv.1 hi).1;have hi':i < l.length:=by simpa using this
  simp [List.getD,hi']
 ·intro h
  obtain ⟨i,hi,rfl⟩:=List.getElem_of_mem h;have:=key l.length nR i hi;simpa [List.getD,hi] using this
theorem Row.setCells {b:Nat}{e:TypeId}{n:Nat}{f:Nat->Value}(vs:List Value):∀ {w:World} {o:Nat},Row w b e n f->n<=o->Row (w.setCells b o vs) b e n f:=by
 induction vs with
 |nil=>exact fun h _=>h
 |cons v r ih=>
  intro w o h ho;exact ih ((h.set o v).congr (fun x hx=>by rw [ZLU (by omega)])) (by omega)
theorem Only.setCells {F:Nat->Prop}{a:World}{b:Nat}(hb:F b)(vs:List Value):∀ {w:World} {o:Nat},Only F a w->Only F a (w.setCells b o vs):=by
 induction vs with
 |nil=>exact fun h=>h
 |cons v r ih=>exact fun h=>ih (h.set hb v)
def ZKa (w wr:World)(g n:Nat)(l:List Nat)(m:Nat):Prop:=
 ∃ f:Nat->Nat,Row wr g 31 n (fun x=>u64 (f x))/\(∀ j,j < (dd l m).length->f j=(dd l m).getD j 0)/\(∀ j,m - 1<=j->f j=l.getD j 0)/\Only (fun b=>b=g) w wr
def ZJZ (w:World)(g:Nat)(l:List Nat)(i:Value)(wr:World):Prop:=
 ∃ k:Nat,1<=k/\k<=l.length/\i=.int .i64 (k:Nat)/\Row wr g 31 l.length (fun x=>u64 (l.getD x 0))/\Only (fun b=>b=g) w wr/\∀ i,i < k->kept l i=true
def ZEe (w:World)(g:Nat)(l:List Nat)(K:Nat)(k k2:Value)(wr:World):Prop:=
 ∃ q:Nat,1<=q/\K+q<=l.length/\k2=.int .i64 (q:Nat)/\k=.int .i64 ((dd l (K+q)).length:Nat)/\(dd l (K+q)).length<=K+q - 1/\ZKa w wr g l.length l (K+q)
theorem ZJY (w:World):(zeroValue 31).run prog w=.ok (.int .u64 0) w:=by kernel_rfl
theorem ZBU {l:List Nat}{m j:Nat}{v:Nat}:(l++[v]).getD j m=if j < l.length then l.getD j m else if j=l.length then v else m:=by
 unfold List.getD;rcases Nat.lt_or_ge j l.length with h|h
 ·rw [ZLX h,List.getElem?_append_left h]
 ·rw [ZLU (by omega),ZL6 h]
  by_cases e:j=l.length
  ·rw [ZLX e,e];simp
  ·rw [ZLU e,List.getElem?_eq_none (by simp;omega)];rfl
theorem ZCC {w:World}{g c:Nat}{l:List Nat}(hrow:Row w g 31 l.length (fun x=>u64 (l.getD x 0)))(hn:1<=l.length)(hn2:l.length<=1000000)(hc:l.length<=c):
 Calls prog 174 #[.slice (some ⟨g,0,none⟩) l.length c] w fun e w'=>e=.returned (.slice (some ⟨g,0,none⟩) (dd l l.length).length c)/\
  Row w' g 31 (dd l l.length).length (fun x=>u64 ((dd l l.length).getD x 0))/\Only (fun b=>b=g) w w':=by
 have k0:∀ i,i < 1->kept l i=true:=fun i hi=>by
  have e:i=0:=by omega
  subst e;rfl
 by_cases h2:l.length < 2
 ·have e1:l.length=1:=by omega
  have e2:dd l l.length=(List.range l.length).map (fun i=>l.getD i 0):=ZDq l _ (fun i hi=>k0 i (by omega));have e3:(dd l l.length).length=l.length:=by rw [e2];simp
  have hr2:Row w g 31 (dd l l.length).length (fun x=>u64 ((dd l l.length).getD x 0)):=by
   rw [e3];refine hrow.congr (fun x hx=>?_);rw [e2];simp [List.getD,hx]
  rw [e3] at hr2 ⊢;have HR:=zh hr2;have b1:(l.length:Int) < 2:=by omega
  have d1:decide (l.length < 2)=true:=ZLp h2;have d2:decide ((l.length:Int) < 2)=true:=ZLp b1;clear hrow e1 e2 e3 hr2 k0;go_in;go_wp2;go_returns;exact ⟨rfl,HR.o,Only.refl _ _⟩
 ·have b1:¬ (l.length:Int) < 2:=by omega
  have d1:decide (l.length < 2)=false:=ZLh h2;have d2:decide ((l.length:Int) < 2)=false:=ZLh b1;have b2:(l.length:Int)<=1000000:=by omega
  have HR:=zh hrow;obtain ⟨n,hN⟩:=xE l.length;clear hrow;go_in;go_wp2_with fail
  go_loopw [3,4,5] (fun i _ _ wr=>ZJZ w g l i wr) (fun i _ _ _=>l.length - (intOf i).toNat)
  case atStart=>exact ⟨1,by omega,by omega,rfl,HR.o,Only.refl _ _,k0⟩
  case round=>
   obtain ⟨k,hk1,hk,rfl,hr,ho,hkp⟩:=hrel
   by_cases hlt:k < l.length
   ·have hlt2:(k:Int) < l.length:=by omega
    have c1:=hr.cell k hlt;have c2:=hr.cell (k - 1) (by omega);have w1:IntKind.i64.wrap ((k:Int) - 1)=(k:Int) - 1:=IntWalk.i64_in _ (by omega);have w2:(0:Int)<=(k:Int) - 1:=by omega
    have w3:((k:Int) - 1).toNat=k - 1:=by omega
    have w4:(k:Int) - 1 < l.length:=by omega
    by_cases hkk:kept l k=true
    ·have hne:¬ l.getD k 0=l.getD (k - 1) 0:=by
      unfold kept at hkk;simp only [Bool.or_eq_true,decide_eq_true_eq,Bool.not_eq_true',beq_eq_false_iff_ne] at hkk;rcases hkk with h|h
      ·omega
      ·exact h
     have G:=fun nq=>zh (show ZJZ w g l (.int .i64 ((k+1:Nat):Int)) (wr.drewN nq) from ⟨k+1,by omega,by omega,rfl,hr.of_block rfl,ho.drewN _,fun i hi=>by
      by_cases e:i=k
      ·rw [e];exact hkk
      ·exact hkp i (by omega)⟩)
     generalize l.getD k 0=x at c1 hne;generalize l.getD (k - 1) 0=y at c2 hne;have d5:((x:Int) == (y:Int))=false:=by simp;omega
     clear hr ho hkp hkk hne;unfold u64 at *;go_wp2_with fail
     go_quiet (fail)
     clear w1 w2 w3 w4;go_wp2_with fail;go_roundw
     case rel=>simpa using (G _).out
     case measure=>simp [intOf];omega
    ·have hee:l.getD k 0=l.getD (k - 1) 0:=by
      unfold kept at hkk;simp only [Bool.or_eq_true,decide_eq_true_eq,Bool.not_eq_true',beq_eq_false_iff_ne,not_or] at hkk;simpa using hkk.2
     have hd1:dd l (k+1)=(List.range k).map (fun i=>l.getD i 0):=by
      rw [QA,ZLU hkk,List.append_nil];exact ZDq l k hkp
     have hd2:(dd l (k+1)).length=k:=by rw [hd1];simp
     have G:=fun nq=>zh (show ZEe w g l k (.int .i64 (k:Nat)) (.int .i64 (1:Nat)) (wr.drewN nq) from ⟨1,by omega,by omega,rfl,by rw [hd2],by rw [hd2];omega,fun x=>l.getD x 0,hr.of_block rfl,fun j hj=>by
      rw [hd1];rw [hd2] at hj;simp [List.getD,hj],fun _ _=>rfl,ho.drewN _⟩)
     have d5:(((l.getD k 0:Nat):Int) == ((l.getD (k - 1) 0:Nat):Int))=true:=by rw [hee];simp
     generalize l.getD k 0=x at c1 d5;generalize l.getD (k - 1) 0=y at c2 d5;have d6:¬ c=k:=by omega
     have b5:(k:Int)<=l.length:=by omega
     have b6:(k:Int)<=c:=by omega
     clear hr ho hkp hkk hee hd1 hd2;unfold u64 at *;go_wp2_with fail
     go_quiet (fail)
     clear w1 w2 w3 w4;go_wp2_with fail
     go_loopw [3,5] (fun kv k2 wr=>ZEe w g l k kv k2 wr) (fun _ k2 _=>l.length - (intOf k2).toNat)
     case atStart=>exact (G _).out
     case round=>
      obtain ⟨q,hq1,hq,rfl,rfl,hkq,f,hrf,hf1,hf2,hof⟩:=hrel;obtain ⟨kk,hkk⟩:=xE ((dd l (k+q)).length);rw [<-hkk] at hf1 hkq ⊢;have c3:wr.cell? ⟨g,k+(q - 1),none⟩=some (.int .u64 (f (k+(q - 1)))):=hrf.cell _ (by omega);rw [hf2 (k+(q - 1)) (by omega)] at c3
      by_cases hlt3:k+q < l.length
      ·have c4:wr.cell? ⟨g,k+q,none⟩=some (.int .u64 (f (k+q))):=hrf.cell _ (by omega)
       rw [hf2 (k+q) (by omega)] at c4;have c5:wr.cell? ⟨g,kk,none⟩=some (.int .u64 (f kk)):=hrf.cell _ (by omega);have f5:wr.frozen? ⟨g,kk,none⟩=false:=hrf.free _;have w1:IntKind.i64.wrap ((q:Int) - 1)=(q:Int) - 1:=IntWalk.i64_in _ (by omega);have w2:(0:Int)<=(q:Int) - 1:=by omega
       have w3:((q:Int) - 1).toNat=q - 1:=by omega
       have w4:(q:Int) - 1 < ((l.length - k:Nat):Int):=by omega
       have w5:(q:Int) < ((l.length - k:Nat):Int):=by omega
       have w6:decide (q < l.length - k)=true:=ZLp (by omega);have ek:(k+q) - 1=k+(q - 1):=by omega
       have b7:(kk:Int) < l.length:=by omega
       by_cases hkp:kept l (k+q)=true
       ·have hne:¬ l.getD (k+q) 0=l.getD (k+(q - 1)) 0:=by
         unfold kept at hkp;simp only [Bool.or_eq_true,decide_eq_true_eq,Bool.not_eq_true',beq_eq_false_iff_ne] at hkp;rw [ek] at hkp;rcases hkp with h|h
         ·omega
         ·exact h
        have hds:dd l (k+(q+1))=dd l (k+q)++[l.getD (k+q) 0]:=by rw [<-Nat.add_assoc,QA,ZLX hkp]
        have hdl:(dd l (k+(q+1))).length=kk+1:=by rw [hds,ZLc,hkk];rfl
        have G2:=fun nq=>zh (show ZEe w g l k (.int .i64 ((kk+1:Nat):Int)) (.int .i64 ((q+1:Nat):Int)) ((wr.drewN nq).setCell ⟨g,kk,none⟩ (.int .u64 (l.getD (k+q) 0))) from
         ⟨q+1,by omega,by omega,rfl,by rw [hdl],by rw [hdl];omega,fun x=>if x=kk then l.getD (k+q) 0 else f x,
           ((show Row (wr.drewN nq) g 31 l.length (fun x=>u64 (f x)) from hrf.of_block rfl).set kk _).congr (fun x hx=>by
             dsimp only
             by_cases e:x=kk
             ·rw [ZLX e,ZLX e];rfl
             ·rw [ZLU e,ZLU e]),
           fun j hj=>by
            rw [hdl] at hj;dsimp only;rw [hds,ZBU,<-hkk]
            by_cases e:j=kk
            ·rw [ZLX e,ZLU (by omega),ZLX e]
            ·rw [ZLU e,ZLX (by omega)];exact hf1 j (by omega),
           fun j hj=>by
            dsimp only;rw [ZLU (by omega)];exact hf2 j (by omega),
           (hof.drewN nq).set rfl _⟩)
        generalize l.getD (k+q) 0=x at c4 hne G2;generalize l.getD (k+(q - 1)) 0=y at c3 hne;have d7:((x:Int) != (y:Int))=true:=by simp;omega
        generalize f kk=z at c5;clear hrf hf1 hf2 hof hkp hne hds hdl hkk ek;go_wp2_with fail
        go_quiet (fail)
        clear w1 w2 w3 w4;go_wp2_with fail;go_roundw
        case rel=>simpa using (G2 _).out
        case measure=>simp [intOf];omega
       ·have hee:l.getD (k+q) 0=l.getD (k+(q - 1)) 0:=by
         unfold kept at hkp;simp only [Bool.or_eq_true,decide_eq_true_eq,Bool.not_eq_true',beq_eq_false_iff_ne,not_or] at hkp;rw [ek] at hkp;simpa using hkp.2
        have hds:dd l (k+(q+1))=dd l (k+q):=by rw [<-Nat.add_assoc,QA,ZLU hkp,List.append_nil]
        have G2:=fun nq=>zh (show ZEe w g l k (.int .i64 (kk:Nat)) (.int .i64 ((q+1:Nat):Int)) (wr.drewN nq) from
         ⟨q+1,by omega,by omega,rfl,by rw [hds,hkk],by rw [hds,<-hkk];omega,f,hrf.of_block rfl,fun j hj=>by
           rw [hds,<-hkk] at hj;rw [hds];exact hf1 j hj,fun j hj=>hf2 j (by omega),hof.drewN nq⟩)
        have d7:(((l.getD (k+q) 0:Nat):Int) != ((l.getD (k+(q - 1)) 0:Nat):Int))=false:=by rw [hee];simp
        generalize l.getD (k+q) 0=x at c4 d7;generalize l.getD (k+(q - 1)) 0=y at c3 d7;generalize f kk=z at c5;clear hrf hf1 hf2 hof hkp hee hds hkk ek;go_wp2_with fail
        go_quiet (fail)
        clear w1 w2 w3 w4;go_wp2_with fail;go_roundw
        case rel=>simpa using (G2 _).out
        case measure=>simp [intOf];omega
      ·have hend:k+q=l.length:=by omega
       have w5:¬ (q:Int) < ((l.length - k:Nat):Int):=by omega
       have w6:decide (q < l.length - k)=false:=ZLh (by omega)
       have hcl:∀ ty,(Builtin.clear_ #[166] ty #[.slice (some ⟨g,kk,none⟩) (l.length - kk) (c - kk)]).run prog wr=.ok (.tuple #[]) (wr.setCells g kk (List.replicate (l.length - kk) (.int .u64 0))):=
        fun ty=>Lib.run_clear_slice wr 166 31 ty (.int .u64 0) underlying166 ZJY rfl rfl g kk _ _ (by omega) (fun j hj=>by rw [hrf.cell _ (by omega)];rfl) (fun j hj=>hrf.free _)
       have hrk:Row wr g 31 kk (fun x=>u64 (f x)):=by
        obtain ⟨cc,h1,h2,h3⟩:=hrf;exact ⟨cc,h1,by omega,fun x hx=>h3 x (by omega)⟩
       have G2:=zh (show Row (wr.setCells g kk (List.replicate (l.length - kk) (.int .u64 0))) g 31 (dd l l.length).length (fun x=>u64 ((dd l l.length).getD x 0)) from by
        rw [hend] at hkk hf1;rw [<-hkk];exact (hrk.setCells _ nR).congr (fun x hx=>by rw [hf1 x hx]))
       have G3:=zh (Only.setCells (F:=fun b=>b=g) (b:=g) rfl (List.replicate (l.length - kk) (Value.int .u64 0)) (o:=kk) hof);rw [hend] at hkk;have HK:=zh hkk;have d8:¬ c=kk:=by omega
       have b7:(kk:Int) < l.length:=by omega
       have b8:(kk:Int)<=c:=by omega
       clear hrf hf1 hf2 hof hkk hrk hend c3 w5;go_wp2;go_returns;exact ⟨by rw [<-HK.o];rfl,G2.o,G3.o⟩
   ·obtain rfl:k=l.length:=by omega
    have e2:dd l l.length=(List.range l.length).map (fun i=>l.getD i 0):=ZDq l _ hkp;have e3:(dd l l.length).length=l.length:=by rw [e2];simp
    have HR2:=zh (show Row wr g 31 (dd l l.length).length (fun x=>u64 ((dd l l.length).getD x 0)) by
     rw [e3];refine hr.congr (fun x hx=>?_);rw [e2];simp [List.getD,hx])
    have HO:=zh ho;have HE:=zh e3;clear hr ho hkp e2 e3 hlt;go_wp2;go_returns;exact ⟨by rw [HE.o];rfl,HR2.o,HO.o⟩
structure El (P:Program)(t e:TypeId)(size bytes:Nat):Prop where
 ht:P.underlying t=some (.slice e)
 ex:∃ i z,P.info? e=some i/\i.zero=some z/\i.size=size/\i.bytes=bytes/\z.cells.size=size
 pos:0 < size
theorem Zo {P:Program} {w:World} {t e:TypeId} {size bytes:Nat} (E:El P t e size bytes) {base:Nat} {v:Value} {n:Nat} {xs:List Value} (hown:w.ownsRow base e size v n xs)
 (a:Addr) (m c:Nat) (news:List Value) (hl:news.length=m * size) (hnews:∀ j u,news[j]?=some u->w.cell? (a.add j)=some u) (h1:∀ u∈news,u.oneCell'=true)
 (hm:0 < m)(h63:n+m<=maxLen)(hbytes:(n+m) * bytes<=140737488355328)(hbase:base<=w.heap.size):
 ∃ g cap w',(∀ ty,(Builtin.append_ #[t,t] ty #[v,.slice (some a) m c]).run P w=.ok (.slice (some ⟨g,0,none⟩) (n+m) cap) w')/\w'.ownsRow base e size (.slice (some ⟨g,0,none⟩) (n+m) cap) (n+m) (xs++news)/\w.grownBy w' v.ownBlock/\
  (v.ownBlock=some g\/w.heap.size<=g):=by
 obtain ⟨i,z,hi,hz,hsz,hby,hzs⟩:=E.ex;have hsrc:Src P i.size t (.slice (some a) m c) m news w:=Src.ofSlice w E.ht a m c news (by rw [hsz];exact hl) hnews h1
 have grow:∀ (b:Option Addr) (sCap:Nat),v=.slice b n sCap->(Builtin.firstCells i.size n (.slice b n sCap)).run P w.drew=.ok xs.toArray w.drew->sCap < n+m->
  ∃ g cap w',(∀ ty,(Builtin.append_ #[t,t] ty #[v,.slice (some a) m c]).run P w=.ok (.slice (some ⟨g,0,none⟩) (n+m) cap) w')/\w'.ownsRow base e size (.slice (some ⟨g,0,none⟩) (n+m) cap) (n+m) (xs++news)/\w.grownBy w' v.ownBlock/\
  (v.ownBlock=some g\/w.heap.size<=g):=by
  intro b sCap hv hold hcap;subst hv;have hrun:=fun ty=>run_append_grow_src (P:=P) w t t ty e i z E.ht hi hz b n sCap xs hold _ m _ hsrc hcap (by unfold maxLen at h63;omega) (growslice_fits hcap (by rw [hby];exact hbytes))
  have hge:=grownCap_ge w (n+m) sCap e;have hcm:=grownCap_le_maxLen w (n+m) sCap e h63;have hx:=hown.1;refine ⟨w.heap.size,_,_,hrun,⟨by rw [ZLc,hx,hl,Nat.add_mul],.inr ⟨w.heap.size,_,_,rfl,hbase,ZC _ _,hge,hcm,?_,?_⟩⟩,?_,.inr nR⟩
  ·rw [Array.size_append,size_zeroCells,hzs,List.size_toArray,ZLc,hx,hl,<-Nat.add_mul,<-Nat.add_mul]
   congr 1
   omega
  ·rw [Array.toList_append,List.toList_toArray,List.take_append_of_le_length (by rw [ZLc,hx,hl,Nat.add_mul];exact nR),ZL1 (by rw [ZLc,hx,hl,Nat.add_mul];exact nR)]
  ·exact ⟨rfl,rfl,rfl,by simp,fun k hk _=>ZK (w:=w.drew) hk⟩
 rcases hown.2 with ⟨hv,hn⟩|⟨g,cap,cur,hv,hb,hg,hnc,hcm,hcs,htake⟩
 ·subst hn
  have hx:xs=[]:=List.length_eq_zero_iff.1 (by rw [hown.1];simp);exact grow none 0 hv (by rw [hx];exact run_firstCells_none _ _ _ _ _) (by omega)
 ·by_cases hroom:n+m<=cap
  ·obtain ⟨w',hrun,how,hgr⟩:∃ w',(∀ ty,(Builtin.append_ #[t,t] ty #[.slice (some ⟨g,0,none⟩) n cap,.slice (some a) m c]).run P w=.ok (.slice (some ⟨g,0,none⟩) (n+m) cap) w')/\
    w'.ownsRow base e size (.slice (some ⟨g,0,none⟩) (n+m) cap) (n+m) (xs++news)/\w.grownBy w' (some g):=by
    obtain ⟨w',h1',h2',h3'⟩:=run_append_fits (P:=P) w base t 0 e i size E.ht hi hsz g n cap xs (by rw [hv] at hown;exact hown) a m c news hl hnews h1 hroom;exact ⟨w',fun ty=>by simpa [Builtin.append_] using h1',h2',h3'⟩
   subst hv;exact ⟨g,cap,w',hrun,how,hgr,.inl rfl⟩
  ·have hx:=hown.1
   refine grow (some ⟨g,0,none⟩) cap hv ?_ (by omega);refine run_firstCells_some _ _ _ _ _ _ xs (by rw [hx,hsz]) ?_;intro j u hj;exact hown.cells (by rw [hv];rfl) j u hj
theorem ZS {P:Program} {ops:Array Oper} {rest:List Oper} {o:Oper} {a:Act} {Q:Exit->Act->World->Prop} {W:World} {t e T':TypeId} {size bytes:Nat} (E:El P t e size bytes) (hgd:o.guard=none) (s x:Operand)
 (ho:o.op=.call {callee:=.builtin .append,args:=#[s,x],argTypes:=#[t,t]}) {base:Nat} {v:Value} {n:Nat} {xs:List Value} {cs:Array Value} (hown:W.ownsRow base e size v n xs)
 {N:Nat} (hs:a.eval s=v) (hx:a.eval x=.slice (some ⟨N,0,none⟩) 1 1) (hN:N=W.heap.size) (hcs:cs.size=size) (h1:∀ u∈cs.toList,u.oneCell'=true) (h63:n+1<=maxLen) (hbytes:(n+1) * bytes<=140737488355328) (hbase:base<=W.heap.size)
 (h:∀ g cap w',w'.ownsRow base e size (.slice (some ⟨g,0,none⟩) (n+1) cap) (n+1) (xs++cs.toList)->W.grownBy w' v.ownBlock->(v.ownBlock=some g\/W.heap.size<=g)->
   wpList P ops Q rest (a.put o.dst (.slice (some ⟨g,0,none⟩) (n+1) cap)) w'):wpList P ops Q (o:: rest) a (W.alloc (.cells cs T')):=by
 subst hN;obtain ⟨g,cap,w',hrun,how,hgr,hg⟩:=Zo (w:=W.alloc (.cells cs T')) E (hown.alloc _) ⟨W.heap.size,0,none⟩ 1 1 cs.toList (by simpa using hcs) (fun j u hj=>by
  rw [Addr.add_lit,ZLu,ZD (ZC _ _)];simpa using hj) h1 (by omega) h63 hbytes (by simp;omega)
 refine Zf hgd s x t ho v _ _ w' hs hx hrun ?_;refine h g cap w' how ?_ ?_
 ·exact (World.grownBy_alloc W (.cells cs T') v.ownBlock).andThen hgr (fun j hj=>.inr hj)
 ·rcases hg with hg|hg
  ·exact .inl hg
  ·exact .inr (by simp at hg;omega)
theorem El.of {P:Program}{t e:TypeId}{z:Value}{size bytes:Nat}(ht:P.underlying t=some (.slice e))(h:(P.info? e).map (fun i=>(i.zero,i.size,i.bytes))=some (some z,size,bytes))(hz:z.cells.size=size)(hp:0 < size):
 El P t e size bytes:=by
 obtain ⟨i,h1,h2,h3,h4⟩:=info_parts h;exact ⟨ht,⟨i,z,h1,h2,h3,h4,hz⟩,hp⟩
theorem ZAm:(prog.info? 298).map (fun i=>(i.zero,i.size,i.bytes))=some (some (.agg #[.int .u8 0,.int .u64 0,.int .u64 0]),3,24):=by kernel_rfl
theorem ZEo:El prog 166 31 1 8:=El.of underlying166 UA rfl (by omega)
theorem elWrites:El prog 56 138 2 16:=El.of underlying56 ZAn rfl (by omega)
theorem Qb:El prog 191 298 3 24:=El.of underlying191 ZAm rfl (by omega)
theorem ZBV:El prog 150 3 1 8:=El.of underlying150 ZIn rfl (by omega)
theorem JQ {w:World}{B B':Nat}{e e':TypeId}{z z':Nat}{v v':Value}{n n':Nat}{xs xs':List Value}(h:w.ownsRow B e z v n xs)(h':w.ownsRow B' e' z' v' n' xs')(hne:e≠e'):
 v.ownBlock=none\/v.ownBlock≠v'.ownBlock:=by
 rcases h.2 with ⟨rfl,_⟩|⟨g,cap,cur,rfl,_,hg,_⟩
 ·exact .inl rfl
 ·rcases h'.2 with ⟨rfl,_⟩|⟨g',cap',cur',rfl,_,hg',_⟩
  ·exact .inr (by simp [Value.ownBlock])
  ·refine .inr ?_
   simp only [Value.ownBlock];intro e1;have e2:=ZLd e1;rw [e2,hg'] at hg;simp only [Option.some.injEq,Obj.cells.injEq] at hg;exact hne hg.2.1.symm
structure Ins where
 op:Nat
 off:Nat
 val:Nat
def Ins.cells (i:Ins):List Value:=[.int .u8 i.op,u64 i.off,u64 i.val]
def Zn (l:List Ins):List Value:=l.flatMap Ins.cells
def ZT (l:List (Nat×Nat)):List Value:=l.flatMap (fun p=>[u64 p.1,u64 p.2])
def line (off:Nat):Nat:=off - off % 64
def sins (l:List (Nat×Nat)):List Ins:=l.map (fun p=>⟨1,p.1,p.2⟩)
def fins (l:List Nat):List Ins:=l.map (fun x=>⟨2,x,0⟩)
def pgW (l:List (Nat×Nat)):List Ins:=sins l++fins (dd (l.map (fun p=>line p.1)) l.length)++[⟨3,0,0⟩]
theorem ZGY (w:World)(off:Nat)(h:off < 18446744073709551616):Calls prog 172 #[u64 off] w fun e w'=>e=.returned (u64 (line off))/\w=w':=by
 have e:((line off:Nat):Int)=(off:Int) - (off:Int) % 64:=by unfold line;omega
 unfold u64;rw [e];have b1:(off:Int) < 18446744073709551616:=by omega
 have b2:(off:Int) % 64<=off:=by omega
 clear e;go_in;go_wp2;go_returns;exact ⟨rfl,rfl⟩
def JO (l:List (Nat×Nat)):List Value:=l.map (fun p=>u64 (line p.1))
theorem ZCa (l:List (Nat×Nat))(p:Nat×Nat):JO (l++[p])=JO l++[u64 (line p.1)]:=by simp [JO]
theorem ZFu (l:List (Nat×Nat)):JO l=(l.map (fun p=>line p.1)).map u64:=by simp [JO]
def ZGt (w:World)(l:List (Nat×Nat))(vp vl i:Value)(wr:World):Prop:=
 ∃ k:Nat,k<=l.length/\i=.int .i64 (k:Nat)/\wr.ownsRow w.heap.size 298 3 vp k (Zn (sins (l.take k)))/\
  wr.ownsRow w.heap.size 31 1 vl k (JO (l.take k))/\Bl w wr
theorem ZFw {w:World}{B g cap k:Nat}{l:List Nat}(h:w.ownsRow B 31 1 (.slice (some ⟨g,0,none⟩) k cap) k (l.map u64)):k=l.length/\l.length<=cap/\cap<=maxLen/\Row w g 31 l.length (fun x=>u64 (l.getD x 0)):=by
 have h1:=h.1;rw [ZLj,Nat.mul_one] at h1;rcases h.2 with ⟨e,_⟩|⟨g',cap',cur,e,hb,hg,hnc,hcm,hcs,htake⟩
 ·simp at e
 ·simp only [Value.slice.injEq,Option.some.injEq,Addr.mk.injEq,and_true,true_and] at e
  obtain ⟨rfl,rfl⟩:=e;refine ⟨h1.symm,by omega,hcm,YO hg (fun x hx=>?_)⟩;have:=h.cellAt x (by omega);rw [ZD hg] at this;rw [this,List.getElem?_map,ZLg hx];simp [List.getD,hx]
theorem Q9:∀ {l:List (Nat×Nat)} {k:Nat} {p:Nat×Nat},l[k]?=some p->(ZT l)[2 * k]?=some (u64 p.1)/\(ZT l)[2 * k+1]?=some (u64 p.2)
 |[],k,p,h=>by simp at h
 |a:: l,0,p,h=>by
  simp at h;subst h;simp [ZT]
 |a:: l,k+1,p,h=>by
  have h':l[k]?=some p:=by simpa using h
  have:=Q9 h';rw [show 2 * (k+1)=2 * k+2 by omega];simpa [ZT] using this
theorem ZEC {w:World}{B b:Nat}{e e':TypeId}{z n m:Nat}{v:Value}{xs:List Value}{f:Nat->Value}(h:w.ownsRow B e z v n xs)(h':Row w b e' m f)(hne:e≠e'):some b≠v.ownBlock:=by
 rcases h.2 with ⟨rfl,_⟩|⟨g,cap,cur,rfl,_,hg,_⟩
 ·simp [Value.ownBlock]
 ·obtain ⟨c,hc,_⟩:=h'
  simp only [Value.ownBlock];intro e1;have e2:=ZLd e1;rw [e2,hg] at hc;simp only [Option.some.injEq,Obj.cells.injEq] at hc;exact hne hc.2.1
def ZGr (w:World)(l:List (Nat×Nat))(R:List Nat)(gl:Nat)(vp i:Value)(wr:World):Prop:=
 ∃ j:Nat,j<=R.length/\i=.int .i64 (j:Nat)/\wr.ownsRow w.heap.size 298 3 vp (l.length+j) (Zn (sins l++fins (R.take j)))/\Row wr gl 31 R.length (fun x=>u64 (R.getD x 0))/\Bl w wr
theorem ZFf (l:List Nat)(x:Nat):fins (l++[x])=fins l++[⟨2,x,0⟩]:=by simp [fins]
theorem Vl (l:List Ins)(i:Ins):Zn (l++[i])=Zn l++i.cells:=by simp [Zn]
theorem ZGQ (l:List (Nat×Nat))(p:Nat×Nat):sins (l++[p])=sins l++[⟨1,p.1,p.2⟩]:=by simp [sins]
open Go.Sort
def srt (l:List Nat):List Nat:=((l.map (fun (n:Nat)=>(n:Int))).mergeSort (fun x y=>decide (x<=y))).map Int.toNat
theorem Ub (l:List Nat):(srt l).length=l.length:=by simp [srt]
theorem ZI2 {l:List Nat}{x:Nat}:x∈srt l↔x∈l:=by
 unfold srt;rw [ZLb];constructor
 ·rintro ⟨z,hz,rfl⟩
  obtain ⟨y,hy,rfl⟩:=ZLb.1 (List.mem_mergeSort.1 hz);simpa using hy
 ·intro hx
  exact ⟨(x:Int),List.mem_mergeSort.2 (ZLb.2 ⟨x,hx,rfl⟩),by simp⟩
theorem ZJP {l:List Nat}{x:Nat}(h:x < l.length):(((l.map (fun (n:Nat)=>(n:Int))).mergeSort (fun x y=>decide (x<=y))).toArray)[x]! =(((srt l).getD x 0:Nat):Int):=by
 have hl:x < ((l.map (fun (n:Nat)=>(n:Int))).mergeSort (fun x y=>decide (x<=y))).length:=by simpa using h
 have h1:(((l.map (fun (n:Nat)=>(n:Int))).mergeSort (fun x y=>decide (x<=y))).toArray)[x]! =((l.map (fun (n:Nat)=>(n:Int))).mergeSort (fun x y=>decide (x<=y)))[x]:=by
  rw [getElem!_pos _ x (by simpa using h)];simp
 have h2:(srt l).getD x 0=(((l.map (fun (n:Nat)=>(n:Int))).mergeSort (fun x y=>decide (x<=y)))[x]).toNat:=by
  unfold srt;rw [ZLw,List.getElem?_map,ZLg hl];rfl
 rw [h1,h2];have hm:((l.map (fun (n:Nat)=>(n:Int))).mergeSort (fun x y=>decide (x<=y)))[x]∈l.map (fun (n:Nat)=>(n:Int)):=List.mem_mergeSort.1 (ZLl hl);obtain ⟨y,_,e⟩:=ZLb.1 hm;rw [<-e];simp
theorem ZIF {w:World}{g cap:Nat}{l:List Nat}(h:Row w g 31 l.length (fun x=>u64 (l.getD x 0)))(hn:l.length < 4611686018427387904):
 Calls prog 173 #[.slice (some ⟨g,0,none⟩) l.length cap] w fun e w'=>
  e=.returned (.tuple #[])/\Row w' g 31 l.length (fun x=>u64 ((srt l).getD x 0))/\Only (fun b=>b=g) w w':=by
 have hlt:=h.lt;obtain ⟨c,hc,hsz,hf⟩:=h;have hH:Holds (Value.int .u64) w g 0 (l.map (fun (n:Nat)=>(n:Int))).toArray:=by
  intro j hj;have hj':j < l.length:=by simpa using hj
  refine ⟨?_,by rw [ZLu];exact ZH hc⟩;rw [ZLu,ZD hc,hf j hj',getElem!_pos _ j hj];simp [u64,List.getD,hj']
 have hcall:=Srt.slices_Sort_int g 0 cap (l.map (fun (n:Nat)=>(n:Int))) w hH hlt (by simpa using hn);rw [ZLj] at hcall;refine hcall.mono ?_;rintro e w' ⟨rfl,n,os,rfl⟩;obtain ⟨d,hd⟩:=xE (((l.map (fun (n:Nat)=>(n:Int))).mergeSort (fun x y=>decide (x<=y))).toArray);have hds:d.size=l.length:=by rw [hd];simp
 rw [<-hd];have hz:(putRow (Value.int .u64) (Sort.ahead w n) g 0 d).heap.size=w.heap.size:=by simp
 have old:∀ k,k < w.heap.size->(grow (putRow (Value.int .u64) (Sort.ahead w n) g 0 d) os).heap[k]?=(putRow (Value.int .u64) (Sort.ahead w n) g 0 d).heap[k]?:=fun k hk=>heap_grow_old _ _ (by rw [hz];exact hk)
 refine ⟨rfl,⟨putCells (Value.int .u64) 0 d c,?_,by simpa [putCells] using hsz,fun x hx=>?_⟩,⟨rfl,rfl,rfl,by rw [size_grow,hz];omega,fun k hk hne=>?_⟩⟩
 ·rw [old g hlt]
  simp [putRow,mapBlock,Array.getElem?_modify,hc,onCells]
 ·have hxc:x < c.size:=by omega
  unfold putCells;rw [Array.getElem?_mapIdx,ZL8 hxc,Option.map_some,ZLX ⟨Nat.zero_le _,by omega⟩,Nat.sub_zero,hd,ZJP hx];rfl
 ·rw [old k hk]
  simp only [putRow,mapBlock,heap_ahead,Array.getElem?_modify];rw [ZLU (fun e=>hne e.symm)]
def Xv (b:Nat):Value:=.iface 116 (ptr b)
def DSt.exec (s:DSt)(i:Nat)(x:Ins):DSt:=if x.op=1 then s.store i x.off x.val else if x.op=2 then s.flush i x.off else s.fence i
def DSt.runs (s:DSt)(i:Nat)(l:List Ins):DSt:=l.foldl (fun s x=>s.exec i x) s
def Ins.Ok (x:Ins):Prop:=1<=x.op/\x.op<=3/\x.off < 18446744073709551616/\x.val < 18446744073709551616
def ZE8 (w:World)(A:DAd)(F:Nat->Option ZM)(s:DSt)(w':World):Prop:=∃ F',Dev w' A s F'/\Moved F F' w w'
theorem Moved.alloc {F:Nat->Option ZM}(w:World)(o:Obj):Moved F F w (w.alloc o):=⟨(Only.refl _ _).alloc _,fun _ _=>rfl⟩
theorem ZCP {w:World}{A:DAd}{s:DSt}{F:Nat->Option ZM}(h:Dev w A s F){i:Nat}(hi:i < 8){x:Ins}(hx:x.Ok)(hex:s.ex < 1000000):
 Calls prog 176 #[.agg #[.int .u8 x.op,u64 x.off,u64 x.val],Xv (A.t i)] w fun r w'=>r=.returned (.tuple #[])/\ZE8 w A F (s.exec i x) w':=by
 obtain ⟨op,off,v⟩:=x;obtain ⟨h1,h2,ho,hv⟩:=hx;dsimp only at h1 h2 ho hv;have hop:op=1\/op=2\/op=3:=by omega
 rcases hop with rfl|rfl|rfl
 ·have HS:=zh (ZGZ (h.alloc (.cells #[.int .u8 1,u64 off,u64 v] 298)) hi ho hv hex)
  clear h;unfold Xv ptr u64 at *;go_in;go_wp2_with fail;refine HS.o.mono ?_;rintro e w' ⟨rfl,F',g1,g2⟩;have G:=zh (show ZE8 w A F (s.exec i ⟨1,off,v⟩) w' from ⟨F',g1,(Moved.alloc w _).trans g2⟩);clear g1 g2;go_wp2;go_returns;exact ⟨rfl,G.o⟩
 ·have HS:=zh (ZFg (h.alloc (.cells #[.int .u8 2,u64 off,u64 v] 298)) hi ho hex)
  clear h;unfold Xv ptr u64 at *;go_in;go_wp2_with fail;refine HS.o.mono ?_;rintro e w' ⟨rfl,g1,g2⟩;have G:=zh (show ZE8 w A F (s.exec i ⟨2,off,v⟩) w' from ⟨F,g1,(Moved.alloc w _).trans g2⟩);clear g1 g2;go_wp2;go_returns;exact ⟨rfl,G.o⟩
 ·have HS:=zh (ZFe (h.alloc (.cells #[.int .u8 3,u64 off,u64 v] 298)) hi hex)
  clear h;unfold Xv ptr u64 at *;go_in;go_wp2_with fail;refine HS.o.mono ?_;rintro e w' ⟨rfl,g1,g2⟩;have G:=zh (show ZE8 w A F (s.exec i ⟨3,off,v⟩) w' from ⟨F,g1,(Moved.alloc w _).trans g2⟩);clear g1 g2;go_wp2;go_returns;exact ⟨rfl,G.o⟩
theorem US:∀ {l:List Ins} {k:Nat} {x:Ins},l[k]?=some x->(Zn l)[3 * k]?=some (.int .u8 x.op)/\(Zn l)[3 * k+1]?=some (u64 x.off)/\(Zn l)[3 * k+2]?=some (u64 x.val)
 |[],k,p,h=>by simp at h
 |a:: l,0,p,h=>by
  simp at h;subst h;simp [Zn,Ins.cells]
 |a:: l,k+1,p,h=>by
  have h':l[k]?=some p:=by simpa using h
  have:=US h';rw [show 3 * (k+1)=3 * k+3 by omega];simpa [Zn,Ins.cells] using this
theorem UK (l:List Ins):(Zn l).length=3 * l.length:=by
 induction l with
 |nil=>rfl
 |cons a l ih=>simp [Zn,Ins.cells] at *;omega
def ZJb (w:World)(n:Nat)(i:Value)(wr:World):Prop:=∃ k:Nat,k<=n/\i=.int .i64 (k:Nat)/\Bl w wr
theorem ZGf {w:World}{b o c:Nat}{l:List Ins}(hs:Seen w b o (Zn l))(hl:∀ x∈l,x.Ok)(hn:l.length<=1000000):
 Calls prog 175 #[.slice (some ⟨b,o,none⟩) l.length c] w fun e w'=>e=.returned (.bool true)/\Bl w w':=by
 have HS:=zh hs;have HL:=zh hl;have hn2:(l.length:Int)<=1000000:=by omega
 clear hs hl;go_in;go_wp2_with fail
 go_loopw [4,7] (fun _ i wr=>ZJb w l.length i wr) (fun _ i _=>l.length - (intOf i).toNat)
 case atStart=>exact ⟨0,by omega,rfl,bR⟩
 case round=>
  obtain ⟨k,hk,rfl,hbel⟩:=hrel
  by_cases hlt:k < l.length
  ·have hlt2:(k:Int) < l.length:=by omega
   obtain ⟨x,hx⟩:=xE (l[k]);have hg:=US (l:=l) (k:=k) (x:=x) (by rw [hx];exact ZLg hlt);obtain ⟨q1,q2,q3,q4⟩:=HL.o x (by rw [hx];exact ZLl hlt);have hs:=HS.o.below hbel nR;have c1:wr.cell? ⟨b,o+k * 3,none⟩=some (.int .u8 x.op):=by rw [Nat.mul_comm];exact hs _ _ hg.1
   have c2:wr.cell? ⟨b,o+k * 3+1,none⟩=some (.int .u64 x.off):=by rw [Nat.mul_comm];exact hs _ _ hg.2.1
   have c3:wr.cell? ⟨b,o+k * 3+2,none⟩=some (.int .u64 x.val):=by rw [Nat.mul_comm];exact hs _ _ hg.2.2
   have G:=zh (show ZJb w l.length (.int .i64 ((k+1:Nat):Int)) (wr.alloc (.cells #[.int .u8 x.op,.int .u64 x.off,.int .u64 x.val] 298)) from ⟨k+1,by omega,rfl,ZA hbel⟩);have d1:decide ((x.op:Int) < 1)=false:=ZLh (by omega);have d2:decide ((3:Int) < x.op)=false:=ZLh (by omega);have d3:¬ (x.op:Int) < 1:=by omega
   have d4:¬ (3:Int) < x.op:=by omega
   clear hs hg hbel hx;go_wp2_with fail;go_roundw
   case rel=>simpa using G.o
   case measure=>simp [intOf];omega
  ·obtain rfl:k=l.length:=by omega
   have HB:=zh hbel;clear hbel hlt;go_wp2;go_returns;exact ⟨rfl,HB.o⟩
theorem JE (s:DSt)(i:Nat)(b:Bool):(s.cnt i b).1.ex<=s.ex+1:=by
 unfold DSt.cnt DSt.fail DSt.setErr DSt.ctl;split
 ·split <;> simp
 ·split
  ·split <;> simp
  ·split
   ·split <;> simp
   ·simp
theorem ZIi (s:DSt)(i:Nat)(x:Ins):(s.exec i x).ex<=s.ex+1:=by
 unfold DSt.exec;split
 ·unfold DSt.store
  split
  ·exact JE _ _ _
  ·exact JE _ _ _
 ·split
  ·unfold DSt.flush
   split
   ·exact JE _ _ _
   ·exact JE _ _ _
  ·unfold DSt.fence
   split
   ·exact JE _ _ _
   ·exact JE _ _ _
theorem ZJI (l:List Ins):∀ (s:DSt) (i:Nat),(s.runs i l).ex<=s.ex+l.length:=by
 induction l with
 |nil=>intro s i;exact nR
 |cons x l ih=>
  intro s i;have h1:=ih (s.exec i x) i;have h2:=ZIi s i x;simp only [DSt.runs,List.foldl_cons,List.length_cons] at *;omega
theorem ZGM (s:DSt)(i:Nat)(l:List Ins)(x:Ins):s.runs i (l++[x])=(s.runs i l).exec i x:=by simp [DSt.runs]
def ZGq (w:World)(A:DAd)(F:Nat->Option ZM)(s:DSt)(t:Nat)(l:List Ins)(i:Value)(wr:World):Prop:=
 ∃ k:Nat,k<=l.length/\i=.int .i64 (k:Nat)/\ZE8 w A F (s.runs t (l.take k)) wr
theorem ZJH {w:World}{A:DAd}{s:DSt}{F:Nat->Option ZM}(h:Dev w A s F){t:Nat}(ht:t < 8){b o c:Nat}{l:List Ins}(hs:Seen w b o (Zn l))(hF:F b=none)(hl:∀ x∈l,x.Ok)(hn:s.ex+l.length<=1000000):
 Calls prog 112 #[.slice (some ⟨b,o,none⟩) l.length c,Xv (A.t t)] w fun e w'=>e=.returned (i64 ((s.runs t l).err t))/\ZE8 w A F (s.runs t l) w':=by
 have HV:=zh (ZGf (c:=c) hs hl (by omega));have HS:=zh hs;have HL:=zh hl;have HH:=zh h;have hn2:(l.length:Int)<=1000000:=by omega
 have HF:=zh hF;clear hs hl h hF;unfold Xv ptr at *;go_in;go_wp2_with fail;refine HV.o.mono ?_;rintro e w1 ⟨rfl,hb1⟩;have HST:=zh (show ZGq w A F s t l (.int .i64 (0:Nat)) w1 from ⟨0,by omega,rfl,F,HH.o.below hb1,⟨Only.of_below hb1,fun _ _=>rfl⟩⟩);clear hb1;go_wp2_with fail
 go_loopw [6,16] (fun _ i wr=>ZGq w A F s t l i wr) (fun _ i _=>l.length - (intOf i).toNat)
 case atStart=>exact HST.o
 case round=>
  obtain ⟨k,hk,rfl,F1,hd,hm⟩:=hrel
  by_cases hlt:k < l.length
  ·have hlt2:(k:Int) < l.length:=by omega
   obtain ⟨x,hx⟩:=xE (l[k]);have hg0:l[k]?=some x:=by rw [hx];exact ZLg hlt
   have hg:=US hg0;have hxo:=HL.o x (by rw [hx];exact ZLl hlt);have htk:l.take (k+1)=l.take k++[x]:=by rw [List.take_add_one,hg0];rfl
   have hbl:b < w.heap.size:=ZLf _ _ (HS.o _ _ hg.1);have hs:=HS.o.of_block (hm.only.block b hbl (by rw [HF.o];simp));have c1:wr.cell? ⟨b,o+k * 3,none⟩=some (.int .u8 x.op):=by rw [Nat.mul_comm];exact hs _ _ hg.1
   have c2:wr.cell? ⟨b,o+k * 3+1,none⟩=some (.int .u64 x.off):=by rw [Nat.mul_comm];exact hs _ _ hg.2.1
   have c3:wr.cell? ⟨b,o+k * 3+2,none⟩=some (.int .u64 x.val):=by rw [Nat.mul_comm];exact hs _ _ hg.2.2
   have hex:=ZJI (l.take k) s t;rw [List.length_take] at hex;have he:=ZCP (hd.alloc (.cells #[.int .u8 x.op,.int .u64 x.off,.int .u64 x.val] 298)) ht hxo (by omega);rw [<-ZGM,<-htk] at he;have HE:=zh he;have HM:=zh (hm.trans (Moved.alloc wr (.cells #[.int .u8 x.op,.int .u64 x.off,.int .u64 x.val] 298)));clear he hex hs hg hg0 htk hxo hd hm hx;unfold Xv ptr u64 at HE;go_wp2_with fail;refine HE.o.mono ?_;rintro e w2 ⟨rfl,F2,g1,g2⟩;have G:=zh (show ZGq w A F s t l (.int .i64 ((k+1:Nat):Int)) w2 from ⟨k+1,by omega,rfl,F2,g1,HM.o.trans g2⟩);clear g1 g2;go_wp2_with fail;go_roundw
   case rel=>simpa using G.o
   case measure=>simp [intOf];omega
  ·obtain rfl:k=l.length:=by omega
   rw [List.take_length] at hd;have HE:=zh (ZEp hd ht);have HD:=zh hd;have HM:=zh hm;clear hd hm hlt hk;unfold ptr at HE;go_wp2_with fail;refine HE.o.mono ?_;rintro e w2 ⟨rfl,rfl⟩;go_wp2;go_returns;exact ⟨rfl,F1,HD.o,HM.o⟩
structure Qt (s:DSt)(c:Nat->Nat):Prop where
 off:s.off=false
 arm:s.armed=false
 err:∀ t,s.err t=0
 note:∀ t n,s.notes t n=none
 dn:∀ n,s.dn n=(s.H n).length
 cur:∀ x,s.cur x=c x
structure Mid (s0 s:DSt)(t:Nat)(c:Nat->Nat)(D R:List Nat):Prop where
 off:s.off=false
 arm:s.armed=false
 err:∀ u,s.err u=0
 L:s.L=s0.L
 notet:∀ n,s.notes t n=if n∈R then some (s.H n).length else none
 note:∀ u n,u≠t->s.notes u n=none
 dn:∀ n,s.dn n=(s0.H n).length
 H:∀ n,n∉D->s.H n=s0.H n
 len:∀ n,(s0.H n).length<=(s.H n).length
 cur:∀ x,s.cur x=c x
def wrs (c:Nat->Nat)(l:List (Nat×Nat)):Nat->Nat:=l.foldl (fun c p=>upd c (p.1 / 8) p.2) c
theorem VV (c:Nat->Nat):wrs c []=c:=rfl
theorem YS (c:Nat->Nat)(p:Nat×Nat)(l:List (Nat×Nat)):wrs c (p:: l)=wrs (upd c (p.1 / 8) p.2) l:=rfl
theorem YF (c:Nat->Nat)(l m:List (Nat×Nat)):wrs c (l++m)=wrs (wrs c l) m:=List.foldl_append
theorem YU {c:Nat->Nat}{x:Nat}:∀ {l:List (Nat×Nat)},(∀ p∈l,p.1 / 8≠x)->wrs c l x=c x:=by
 intro l
 induction l generalizing c with
 |nil=>intro _;rfl
 |cons p l ih=>
  intro h;rw [YS,ih (fun q hq=>h q (List.mem_cons_of_mem _ hq)),YW];exact fun e=>h p List.mem_cons_self e.symm
theorem Qt.mid {s:DSt}{c:Nat->Nat}(h:Qt s c)(t:Nat):Mid s s t c [] []:=
 ⟨h.off,h.arm,h.err,rfl,fun n=>by rw [h.note];rfl,fun u n _=>h.note u n,h.dn,fun n _=>rfl,fun n=>nR,h.cur⟩
theorem QX {s:DSt}{t:Nat}(h1:s.off=false)(h2:s.armed=false):s.cnt t true=(s.ctl false false s.left (s.ex+1),true):=by
 unfold DSt.cnt;rw [h1,h2];simp
theorem Mid.store {s0 s:DSt}{t:Nat}{c:Nat->Nat}{D:List Nat}(h:Mid s0 s t c D []){off v:Nat}(ho:s0.word off=true):Mid s0 (s.store t off v) t (upd c (off / 8) v) (D++[off / 64]) []/\(s.store t off v).ex=s.ex+1:=by
 have hw:s.word off=true:=by unfold DSt.word at ho ⊢;rw [h.L];exact ho
 have h8:off % 8=0:=by unfold DSt.word at ho;simp at ho;exact ho.1
 have e:s.store t off v=(s.ctl false false s.left (s.ex+1)).write off v:=by
  unfold DSt.store;rw [hw,QX h.off h.arm];rfl
 rw [e];refine ⟨⟨rfl,rfl,h.err,h.L,h.notet,h.note,h.dn,fun n hn=>?_,fun n=>?_,fun x=>?_⟩,rfl⟩
 ·have h1:n∉D:=fun hm=>hn (List.mem_append_left _ hm)
  have h2:n≠off / 64:=fun hm=>hn (List.mem_append_right _ (by rw [hm];exact ZLt.2 rfl))
  exact (YW _ _ h2).trans (h.H n h1)
 ·show _<=(upd s.H (off / 64) (s.H (off / 64)++[(off,v)]) n).length
  unfold upd;split
  ·rename_i e
   have:=h.len n;rw [ZLc,<-e];omega
  ·exact h.len n
 ·rw [DSt.write_cur (s:=s.ctl false false s.left (s.ex+1)) off v x h8]
  show (if x=off / 8 then v else s.cur x)=_;rw [h.cur];rfl
theorem Mid.flush {s0 s:DSt}{t:Nat}{c:Nat->Nat}{D R:List Nat}(h:Mid s0 s t c D R){off:Nat}(ho:off < s0.L * 64):Mid s0 (s.flush t off) t c D (R++[off / 64])/\(s.flush t off).ex=s.ex+1:=by
 have e:s.flush t off=(s.ctl false false s.left (s.ex+1)).flushed t off:=by
  unfold DSt.flush;have:decide (off < s.L * 64)=true:=ZLp (by rw [h.L];exact ho);rw [this,QX h.off h.arm];rfl
 rw [e];refine ⟨⟨rfl,rfl,h.err,h.L,fun n=>?_,fun u n hu=>?_,h.dn,h.H,h.len,h.cur⟩,rfl⟩
 ·show upd s.notes t (upd (s.notes t) (off / 64) (some (s.H (off / 64)).length)) t n=if n∈R++[off / 64] then some (s.H n).length else none
  rw [YD]
  by_cases en:n=off / 64
  ·rw [en,YD,ZLX (List.mem_append_right _ (ZLt.2 rfl))]
  ·rw [YW _ _ en,h.notet]
   by_cases hm:n∈R
   ·rw [ZLX hm,ZLX (List.mem_append_left _ hm)]
   ·rw [ZLU hm,ZLU (fun hx=>(ZLZ.1 hx).elim hm (fun h2=>en (ZLt.1 h2)))]
 ·show upd s.notes t _ u n=none
  rw [YW _ _ hu];exact h.note u n hu
theorem Mid.fence {s0 s:DSt}{t:Nat}{c:Nat->Nat}{D R:List Nat}(h:Mid s0 s t c D R)(hd:∀ n,n∈D->n∈R):Qt (s.fence t) c/\(s.fence t).L=s0.L/\(s.fence t).ex=s.ex+1:=by
 have e:s.fence t=(s.ctl false false s.left (s.ex+1)).fenced t:=by
  unfold DSt.fence;rw [QX h.off h.arm];rfl
 rw [e];refine ⟨⟨rfl,rfl,h.err,fun u n=>?_,fun n=>?_,h.cur⟩,h.L,rfl⟩
 ·show upd s.notes t (fun _=>none) u n=none
  by_cases hu:u=t
  ·rw [hu,YD]
  ·rw [YW _ _ hu];exact h.note u n hu
 ·show (match s.notes t n with|some p=>max (s.dn n) p|none=>s.dn n)=(s.H n).length
  rw [h.notet n]
  by_cases hm:n∈R
  ·rw [ZLX hm]
   have:=h.len n;rw [<-h.dn n] at this;exact Nat.max_eq_right this
  ·rw [ZLU hm]
   show s.dn n=_;rw [h.dn,h.H n (fun hx=>hm (hd n hx))]
theorem Mid.sins {s0:DSt}{t:Nat}:∀ {l:List (Nat×Nat)} {s:DSt} {c:Nat->Nat} {D:List Nat},Mid s0 s t c D []->(∀ p∈l,s0.word p.1=true)->Mid s0 (s.runs t (sins l)) t (wrs c l) (D++l.map (fun p=>p.1 / 64)) []/\(s.runs t (sins l)).ex=s.ex+l.length:=by
 intro l
 induction l with
 |nil=>intro s c D h _;exact ⟨by rw [List.map_nil,List.append_nil];exact h,rfl⟩
 |cons p l ih=>
  intro s c D h hw;obtain ⟨h1,e1⟩:=h.store (v:=p.2) (hw p List.mem_cons_self);obtain ⟨h2,e2⟩:=ih h1 (fun q hq=>hw q (List.mem_cons_of_mem _ hq));have e3:s.runs t (Dv.sins (p:: l))=(s.store t p.1 p.2).runs t (Dv.sins l):=rfl;rw [e3,YS];refine ⟨by simpa using h2,?_⟩;rw [e2,e1,List.length_cons];omega
theorem Mid.fins {s0:DSt}{t:Nat}:∀ {l:List Nat} {s:DSt} {c:Nat->Nat} {D R:List Nat},Mid s0 s t c D R->(∀ x∈l,x < s0.L * 64)->Mid s0 (s.runs t (fins l)) t c D (R++l.map (fun x=>x / 64))/\(s.runs t (fins l)).ex=s.ex+l.length:=by
 intro l
 induction l with
 |nil=>intro s c D R h _;exact ⟨by rw [List.map_nil,List.append_nil];exact h,rfl⟩
 |cons p l ih=>
  intro s c D R h hw;obtain ⟨h1,e1⟩:=h.flush (hw p List.mem_cons_self);obtain ⟨h2,e2⟩:=ih h1 (fun q hq=>hw q (List.mem_cons_of_mem _ hq));have e3:s.runs t (Dv.fins (p:: l))=(s.flush t p).runs t (Dv.fins l):=rfl;rw [e3];refine ⟨by simpa using h2,?_⟩;rw [e2,e1,List.length_cons];omega
theorem Ju (s:DSt)(t:Nat)(a b:List Ins):s.runs t (a++b)=(s.runs t a).runs t b:=List.foldl_append
theorem Qt.run {s:DSt}{c:Nat->Nat}{t:Nat}{l:List (Nat×Nat)}{R:List Nat}(h:Qt s c)(hl:∀ p∈l,s.word p.1=true)(hR:∀ x∈R,x < s.L * 64)(hc:∀ p∈l,∃ x∈R,x / 64=p.1 / 64):
 Qt (s.runs t (sins l++fins R++[⟨3,0,0⟩])) (wrs c l)/\(s.runs t (sins l++fins R++[⟨3,0,0⟩])).L=s.L/\(s.runs t (sins l++fins R++[⟨3,0,0⟩])).ex=s.ex+(l.length+R.length+1):=by
 obtain ⟨h1,e1⟩:=(h.mid t).sins hl;obtain ⟨h2,e2⟩:=h1.fins hR;rw [Ju,Ju];obtain ⟨h3,h4,h5⟩:=h2.fence (fun n hn=>by
  rw [List.nil_append] at hn ⊢;obtain ⟨p,hp,rfl⟩:=ZLb.1 hn;obtain ⟨x,hx,e⟩:=hc p hp;exact ZLb.2 ⟨x,hx,e⟩)
 refine ⟨h3,h4,?_⟩;show (DSt.fence _ t).ex=_;rw [h5,e2,e1];omega
end
end Go.Proofs.YtbpeehmepehkdaaGreatDoor.Dv
