/- Part 13. -/
import Derived.Test.YteomliechfdhhaaGreatDoorY12
import Derived.Lib.SliceRun
import Derived.Deep.Onto
import Derived.Test.YteomliechfdhhaaGreatDoorY9
set_option maxHeartbeats 8000000
set_option maxRecDepth 20000
set_option linter.all false
namespace Go.Proofs.YteomliechfdhhaaGreatDoor.Dv
open Tryz
section
open Go.RowKit
def kept (l:List Nat)(i:Nat):Bool:=decide (i=0) || !(l.getD i 0 == l.getD (i - 1) 0)
def dd (l:List Nat)(m:Nat):List Nat:=((List.range m).filter (kept l)).map (fun i=>l.getD i 0)
theorem Ju (l:List Nat)(m:Nat):dd l (m+1)=dd l m++if kept l m then [l.getD m 0] else []:=by
 unfold dd;rw [ZLN,ZLU,ZLH]
 by_cases h:kept l m <;> simp [h]
theorem ZDM (l:List Nat)(m:Nat)(h:∀ i,i < m->kept l i=true):dd l m=(List.range m).map (fun i=>l.getD i 0):=by
 unfold dd;rw [List.filter_eq_self.2 (fun i hi=>h i (by simpa using hi))]
theorem ZGH (l:List Nat)(m:Nat):(dd l m).length<=m:=by
 unfold dd;rw [ZK7];have:=ZLX (kept l) (List.range m);simpa using this
theorem ZJN (l:List Nat)(x:Nat):x∈dd l l.length↔x∈l:=by
 have key:∀ m,m<=l.length->∀ i,i < m->l.getD i 0∈dd l m:=by
  intro m hm
  induction m with
  |zero=>intro i hi;omega
  |succ m ih=>
   intro i hi;rw [Ju];rcases Nat.lt_or_ge i m with h|h
   ·exact List.mem_append_left _ (ih (by omega) i h)
   ·obtain rfl:i=m:=by omega
    by_cases hk:kept l i=true
    ·rw [ZKv hk];simp
    ·rw [ZKu hk,List.append_nil]
     have h1:¬ i=0/\l.getD i 0=l.getD (i - 1) 0:=by
      unfold kept at hk;simp only [Bool.or_eq_true,decide_eq_true_eq,Bool.not_eq_true',beq_eq_false_iff_ne,not_or] at hk;exact ⟨hk.1,by simpa using hk.2⟩
     rw [h1.2];exact ih (by omega) (i - 1) (by omega)
 constructor
 ·intro h
  unfold dd at h;obtain ⟨i,hi,rfl⟩:=ZKz.1 h;have:=(ZLK.1 hi).1;have hi':i < l.length:=by simpa using this
  simp [List.getD,hi']
 ·intro h
  obtain ⟨i,hi,rfl⟩:=List.getElem_of_mem h;have:=key l.length nR i hi;simpa [List.getD,hi] using this
theorem Row.setCells {b:Nat}{e:TypeId}{n:Nat}{f:Nat->Value}(vs:List Value):∀ {w:World} {o:Nat},Row w b e n f->n<=o->Row (w.setCells b o vs) b e n f:=by
 induction vs with
 |nil=>exact fun h _=>h
 |cons v r ih=>
  intro w o h ho;exact ih ((h.set o v).congr (fun x hx=>by rw [ZKu (by omega)])) (by omega)
theorem Only.setCells {F:Nat->Prop}{a:World}{b:Nat}(hb:F b)(vs:List Value):∀ {w:World} {o:Nat},Only F a w->Only F a (w.setCells b o vs):=by
 induction vs with
 |nil=>exact fun h=>h
 |cons v r ih=>exact fun h=>ih (h.set hb v)
def ZJn (w wr:World)(g n:Nat)(l:List Nat)(m:Nat):Prop:=
 ∃ f:Nat->Nat,Row wr g 29 n (fun x=>u64 (f x))/\(∀ j,j < (dd l m).length->f j=(dd l m).getD j 0)/\(∀ j,m - 1<=j->f j=l.getD j 0)/\Only (fun b=>b=g) w wr
def ZIm (w:World)(g:Nat)(l:List Nat)(i:Value)(wr:World):Prop:=
 ∃ k:Nat,1<=k/\k<=l.length/\i=.int .i64 (k:Nat)/\Row wr g 29 l.length (fun x=>u64 (l.getD x 0))/\Only (fun b=>b=g) w wr/\∀ i,i < k->kept l i=true
def ZD8 (w:World)(g:Nat)(l:List Nat)(K:Nat)(k k2:Value)(wr:World):Prop:=
 ∃ q:Nat,1<=q/\K+q<=l.length/\k2=.int .i64 (q:Nat)/\k=.int .i64 ((dd l (K+q)).length:Nat)/\(dd l (K+q)).length<=K+q - 1/\ZJn w wr g l.length l (K+q)
theorem ZIl (w:World):(zeroValue 29).run prog w=.ok (.int .u64 0) w:=by kernel_rfl
theorem ZA7 {l:List Nat}{m j:Nat}{v:Nat}:(l++[v]).getD j m=if j < l.length then l.getD j m else if j=l.length then v else m:=by
 unfold List.getD;rcases Nat.lt_or_ge j l.length with h|h
 ·rw [ZKv h,List.getElem?_append_left h]
 ·rw [ZKu (by omega),ZLT h]
  by_cases e:j=l.length
  ·rw [ZKv e,e];simp
  ·rw [ZKu e,List.getElem?_eq_none (by simp;omega)];rfl
theorem ZBr {w:World}{g c:Nat}{l:List Nat}(hrow:Row w g 29 l.length (fun x=>u64 (l.getD x 0)))(hn:1<=l.length)(hn2:l.length<=1000000)(hc:l.length<=c):
 Calls prog 134 #[.slice (some ⟨g,0,none⟩) l.length c] w fun e w'=>e=.returned (.slice (some ⟨g,0,none⟩) (dd l l.length).length c)/\
  Row w' g 29 (dd l l.length).length (fun x=>u64 ((dd l l.length).getD x 0))/\Only (fun b=>b=g) w w':=by
 have k0:∀ i,i < 1->kept l i=true:=fun i hi=>by
  have e:i=0:=by omega
  subst e;rfl
 by_cases h2:l.length < 2
 ·have e1:l.length=1:=by omega
  have e2:dd l l.length=(List.range l.length).map (fun i=>l.getD i 0):=ZDM l _ (fun i hi=>k0 i (by omega));have e3:(dd l l.length).length=l.length:=by rw [e2];simp
  have hr2:Row w g 29 (dd l l.length).length (fun x=>u64 ((dd l l.length).getD x 0)):=by
   rw [e3];refine hrow.congr (fun x hx=>?_);rw [e2];simp [List.getD,hx]
  rw [e3] at hr2 ⊢;have HR:=zh hr2;have b1:(l.length:Int) < 2:=by omega
  have d1:decide (l.length < 2)=true:=ZLG h2;have d2:decide ((l.length:Int) < 2)=true:=ZLG b1;clear hrow e1 e2 e3 hr2 k0;go_in;go_wp2;go_returns;exact ⟨rfl,HR.o,Only.refl _ _⟩
 ·have b1:¬ (l.length:Int) < 2:=by omega
  have d1:decide (l.length < 2)=false:=ZLB h2;have d2:decide ((l.length:Int) < 2)=false:=ZLB b1;have b2:(l.length:Int)<=1000000:=by omega
  have HR:=zh hrow;obtain ⟨n,hN⟩:=xE l.length;clear hrow;go_in;go_wp2_with fail
  go_loopw [3,4,5] (fun i _ _ wr=>ZIm w g l i wr) (fun i _ _ _=>l.length - (intOf i).toNat)
  case atStart=>exact ⟨1,by omega,by omega,rfl,HR.o,Only.refl _ _,k0⟩
  case round=>
   obtain ⟨k,hk1,hk,rfl,hr,ho,hkp⟩:=hrel
   by_cases hlt:k < l.length
   ·have hlt2:(k:Int) < l.length:=by omega
    have c1:=hr.cell k hlt;have c2:=hr.cell (k - 1) (by omega);have w1:IntKind.i64.wrap ((k:Int) - 1)=(k:Int) - 1:=IntWalk.i64_in _ (by omega);have w2:(0:Int)<=(k:Int) - 1:=by omega
    have w3:((k:Int) - 1).toNat=k - 1:=by omega
    have w4:(k:Int) - 1 < l.length:=by omega
    by_cases hkk:kept l k=true
    ·have hne:¬ l.getD k 0=l.getD (k - 1) 0:=by
      unfold kept at hkk;simp only [Bool.or_eq_true,decide_eq_true_eq,Bool.not_eq_true',beq_eq_false_iff_ne] at hkk;rcases hkk with h|h
      ·omega
      ·exact h
     have G:=fun nq=>zh (show ZIm w g l (.int .i64 ((k+1:Nat):Int)) (wr.drewN nq) from ⟨k+1,by omega,by omega,rfl,hr.of_block rfl,ho.drewN _,fun i hi=>by
      by_cases e:i=k
      ·rw [e];exact hkk
      ·exact hkp i (by omega)⟩)
     generalize l.getD k 0=x at c1 hne;generalize l.getD (k - 1) 0=y at c2 hne;have d5:((x:Int) == (y:Int))=false:=by simp;omega
     clear hr ho hkp hkk hne;unfold u64 at *;go_wp2_with fail
     go_quiet (fail)
     clear w1 w2 w3 w4;go_wp2_with fail;go_roundw
     case rel=>simpa using (G _).out
     case measure=>simp [intOf];omega
    ·have hee:l.getD k 0=l.getD (k - 1) 0:=by
      unfold kept at hkk;simp only [Bool.or_eq_true,decide_eq_true_eq,Bool.not_eq_true',beq_eq_false_iff_ne,not_or] at hkk;simpa using hkk.2
     have hd1:dd l (k+1)=(List.range k).map (fun i=>l.getD i 0):=by
      rw [Ju,ZKu hkk,List.append_nil];exact ZDM l k hkp
     have hd2:(dd l (k+1)).length=k:=by rw [hd1];simp
     have G:=fun nq=>zh (show ZD8 w g l k (.int .i64 (k:Nat)) (.int .i64 (1:Nat)) (wr.drewN nq) from ⟨1,by omega,by omega,rfl,by rw [hd2],by rw [hd2];omega,fun x=>l.getD x 0,hr.of_block rfl,fun j hj=>by
      rw [hd1];rw [hd2] at hj;simp [List.getD,hj],fun _ _=>rfl,ho.drewN _⟩)
     have d5:(((l.getD k 0:Nat):Int) == ((l.getD (k - 1) 0:Nat):Int))=true:=by rw [hee];simp
     generalize l.getD k 0=x at c1 d5;generalize l.getD (k - 1) 0=y at c2 d5;have d6:¬ c=k:=by omega
     have b5:(k:Int)<=l.length:=by omega
     have b6:(k:Int)<=c:=by omega
     clear hr ho hkp hkk hee hd1 hd2;unfold u64 at *;go_wp2_with fail
     go_quiet (fail)
     clear w1 w2 w3 w4;go_wp2_with fail
     go_loopw [3,5] (fun kv k2 wr=>ZD8 w g l k kv k2 wr) (fun _ k2 _=>l.length - (intOf k2).toNat)
     case atStart=>exact (G _).out
     case round=>
      obtain ⟨q,hq1,hq,rfl,rfl,hkq,f,hrf,hf1,hf2,hof⟩:=hrel;obtain ⟨kk,hkk⟩:=xE ((dd l (k+q)).length);rw [<-hkk] at hf1 hkq ⊢;have c3:wr.cell? ⟨g,k+(q - 1),none⟩=some (.int .u64 (f (k+(q - 1)))):=hrf.cell _ (by omega);rw [hf2 (k+(q - 1)) (by omega)] at c3
      by_cases hlt3:k+q < l.length
      ·have c4:wr.cell? ⟨g,k+q,none⟩=some (.int .u64 (f (k+q))):=hrf.cell _ (by omega)
       rw [hf2 (k+q) (by omega)] at c4;have c5:wr.cell? ⟨g,kk,none⟩=some (.int .u64 (f kk)):=hrf.cell _ (by omega);have f5:wr.frozen? ⟨g,kk,none⟩=false:=hrf.free _;have w1:IntKind.i64.wrap ((q:Int) - 1)=(q:Int) - 1:=IntWalk.i64_in _ (by omega);have w2:(0:Int)<=(q:Int) - 1:=by omega
       have w3:((q:Int) - 1).toNat=q - 1:=by omega
       have w4:(q:Int) - 1 < ((l.length - k:Nat):Int):=by omega
       have w5:(q:Int) < ((l.length - k:Nat):Int):=by omega
       have w6:decide (q < l.length - k)=true:=ZLG (by omega);have ek:(k+q) - 1=k+(q - 1):=by omega
       have b7:(kk:Int) < l.length:=by omega
       by_cases hkp:kept l (k+q)=true
       ·have hne:¬ l.getD (k+q) 0=l.getD (k+(q - 1)) 0:=by
         unfold kept at hkp;simp only [Bool.or_eq_true,decide_eq_true_eq,Bool.not_eq_true',beq_eq_false_iff_ne] at hkp;rw [ek] at hkp;rcases hkp with h|h
         ·omega
         ·exact h
        have hds:dd l (k+(q+1))=dd l (k+q)++[l.getD (k+q) 0]:=by rw [<-Nat.add_assoc,Ju,ZKv hkp]
        have hdl:(dd l (k+(q+1))).length=kk+1:=by rw [hds,ZK4,hkk];rfl
        have G2:=fun nq=>zh (show ZD8 w g l k (.int .i64 ((kk+1:Nat):Int)) (.int .i64 ((q+1:Nat):Int)) ((wr.drewN nq).setCell ⟨g,kk,none⟩ (.int .u64 (l.getD (k+q) 0))) from
         ⟨q+1,by omega,by omega,rfl,by rw [hdl],by rw [hdl];omega,fun x=>if x=kk then l.getD (k+q) 0 else f x,
           ((show Row (wr.drewN nq) g 29 l.length (fun x=>u64 (f x)) from hrf.of_block rfl).set kk _).congr (fun x hx=>by
             dsimp only
             by_cases e:x=kk
             ·rw [ZKv e,ZKv e];rfl
             ·rw [ZKu e,ZKu e]),
           fun j hj=>by
            rw [hdl] at hj;dsimp only;rw [hds,ZA7,<-hkk]
            by_cases e:j=kk
            ·rw [ZKv e,ZKu (by omega),ZKv e]
            ·rw [ZKu e,ZKv (by omega)];exact hf1 j (by omega),
           fun j hj=>by
            dsimp only;rw [ZKu (by omega)];exact hf2 j (by omega),
           (hof.drewN nq).set rfl _⟩)
        generalize l.getD (k+q) 0=x at c4 hne G2;generalize l.getD (k+(q - 1)) 0=y at c3 hne;have d7:((x:Int) != (y:Int))=true:=by simp;omega
        generalize f kk=z at c5;clear hrf hf1 hf2 hof hkp hne hds hdl hkk ek;go_wp2_with fail
        go_quiet (fail)
        clear w1 w2 w3 w4;go_wp2_with fail;go_roundw
        case rel=>simpa using (G2 _).out
        case measure=>simp [intOf];omega
       ·have hee:l.getD (k+q) 0=l.getD (k+(q - 1)) 0:=by
         unfold kept at hkp;simp only [Bool.or_eq_true,decide_eq_true_eq,Bool.not_eq_true',beq_eq_false_iff_ne,not_or] at hkp;rw [ek] at hkp;simpa using hkp.2
        have hds:dd l (k+(q+1))=dd l (k+q):=by rw [<-Nat.add_assoc,Ju,ZKu hkp,List.append_nil]
        have G2:=fun nq=>zh (show ZD8 w g l k (.int .i64 (kk:Nat)) (.int .i64 ((q+1:Nat):Int)) (wr.drewN nq) from
         ⟨q+1,by omega,by omega,rfl,by rw [hds,hkk],by rw [hds,<-hkk];omega,f,hrf.of_block rfl,fun j hj=>by
           rw [hds,<-hkk] at hj;rw [hds];exact hf1 j hj,fun j hj=>hf2 j (by omega),hof.drewN nq⟩)
        have d7:(((l.getD (k+q) 0:Nat):Int) != ((l.getD (k+(q - 1)) 0:Nat):Int))=false:=by rw [hee];simp
        generalize l.getD (k+q) 0=x at c4 d7;generalize l.getD (k+(q - 1)) 0=y at c3 d7;generalize f kk=z at c5;clear hrf hf1 hf2 hof hkp hee hds hkk ek;go_wp2_with fail
        go_quiet (fail)
        clear w1 w2 w3 w4;go_wp2_with fail;go_roundw
        case rel=>simpa using (G2 _).out
        case measure=>simp [intOf];omega
      ·have hend:k+q=l.length:=by omega
       have w5:¬ (q:Int) < ((l.length - k:Nat):Int):=by omega
       have w6:decide (q < l.length - k)=false:=ZLB (by omega)
       have hcl:∀ ty,(Builtin.clear_ #[123] ty #[.slice (some ⟨g,kk,none⟩) (l.length - kk) (c - kk)]).run prog wr=.ok (.tuple #[]) (wr.setCells g kk (List.replicate (l.length - kk) (.int .u64 0))):=
        fun ty=>Lib.run_clear_slice wr 123 29 ty (.int .u64 0) underlying123 ZIl rfl rfl g kk _ _ (by omega) (fun j hj=>by rw [hrf.cell _ (by omega)];rfl) (fun j hj=>hrf.free _)
       have hrk:Row wr g 29 kk (fun x=>u64 (f x)):=by
        obtain ⟨cc,h1,h2,h3⟩:=hrf;exact ⟨cc,h1,by omega,fun x hx=>h3 x (by omega)⟩
       have G2:=zh (show Row (wr.setCells g kk (List.replicate (l.length - kk) (.int .u64 0))) g 29 (dd l l.length).length (fun x=>u64 ((dd l l.length).getD x 0)) from by
        rw [hend] at hkk hf1;rw [<-hkk];exact (hrk.setCells _ nR).congr (fun x hx=>by rw [hf1 x hx]))
       have G3:=zh (Only.setCells (F:=fun b=>b=g) (b:=g) rfl (List.replicate (l.length - kk) (Value.int .u64 0)) (o:=kk) hof);rw [hend] at hkk;have HK:=zh hkk;have d8:¬ c=kk:=by omega
       have b7:(kk:Int) < l.length:=by omega
       have b8:(kk:Int)<=c:=by omega
       clear hrf hf1 hf2 hof hkk hrk hend c3 w5;go_wp2;go_returns;exact ⟨by rw [<-HK.o];rfl,G2.o,G3.o⟩
   ·obtain rfl:k=l.length:=by omega
    have e2:dd l l.length=(List.range l.length).map (fun i=>l.getD i 0):=ZDM l _ hkp;have e3:(dd l l.length).length=l.length:=by rw [e2];simp
    have HR2:=zh (show Row wr g 29 (dd l l.length).length (fun x=>u64 ((dd l l.length).getD x 0)) by
     rw [e3];refine hr.congr (fun x hx=>?_);rw [e2];simp [List.getD,hx])
    have HO:=zh ho;have HE:=zh e3;clear hr ho hkp e2 e3 hlt;go_wp2;go_returns;exact ⟨by rw [HE.o];rfl,HR2.o,HO.o⟩
structure El (P:Program)(t e:TypeId)(size bytes:Nat):Prop where
 ht:P.underlying t=some (.slice e)
 ex:∃ i z,P.info? e=some i/\i.zero=some z/\i.size=size/\i.bytes=bytes/\z.cells.size=size
 pos:0 < size
theorem Zm {P:Program} {w:World} {t e:TypeId} {size bytes:Nat} (E:El P t e size bytes) {base:Nat} {v:Value} {n:Nat} {xs:List Value} (hown:w.ownsRow base e size v n xs)
 (a:Addr) (m c:Nat) (news:List Value) (hl:news.length=m * size) (hnews:∀ j u,news[j]?=some u->w.cell? (a.add j)=some u) (h1:∀ u∈news,u.oneCell'=true)
 (hm:0 < m)(h63:n+m<=maxLen)(hbytes:(n+m) * bytes<=140737488355328)(hbase:base<=w.heap.size):
 ∃ g cap w',(∀ ty,(Builtin.append_ #[t,t] ty #[v,.slice (some a) m c]).run P w=.ok (.slice (some ⟨g,0,none⟩) (n+m) cap) w')/\w'.ownsRow base e size (.slice (some ⟨g,0,none⟩) (n+m) cap) (n+m) (xs++news)/\w.grownBy w' v.ownBlock/\
  (v.ownBlock=some g\/w.heap.size<=g):=by
 obtain ⟨i,z,hi,hz,hsz,hby,hzs⟩:=E.ex;have hsrc:Src P i.size t (.slice (some a) m c) m news w:=Src.ofSlice w E.ht a m c news (by rw [hsz];exact hl) hnews h1
 have grow:∀ (b:Option Addr) (sCap:Nat),v=.slice b n sCap->(Builtin.firstCells i.size n (.slice b n sCap)).run P w.drew=.ok xs.toArray w.drew->sCap < n+m->
  ∃ g cap w',(∀ ty,(Builtin.append_ #[t,t] ty #[v,.slice (some a) m c]).run P w=.ok (.slice (some ⟨g,0,none⟩) (n+m) cap) w')/\w'.ownsRow base e size (.slice (some ⟨g,0,none⟩) (n+m) cap) (n+m) (xs++news)/\w.grownBy w' v.ownBlock/\
  (v.ownBlock=some g\/w.heap.size<=g):=by
  intro b sCap hv hold hcap;subst hv;have hrun:=fun ty=>run_append_grow_src (P:=P) w t t ty e i z E.ht hi hz b n sCap xs hold _ m _ hsrc hcap (by unfold maxLen at h63;omega) (growslice_fits hcap (by rw [hby];exact hbytes))
  have hge:=grownCap_ge w (n+m) sCap e;have hcm:=grownCap_le_maxLen w (n+m) sCap e h63;have hx:=hown.1;refine ⟨w.heap.size,_,_,hrun,⟨by rw [ZK4,hx,hl,Nat.add_mul],.inr ⟨w.heap.size,_,_,rfl,hbase,ZB _ _,hge,hcm,?_,?_⟩⟩,?_,.inr nR⟩
  ·rw [Array.size_append,size_zeroCells,hzs,List.size_toArray,ZK4,hx,hl,<-Nat.add_mul,<-Nat.add_mul]
   congr 1
   omega
  ·rw [Array.toList_append,List.toList_toArray,List.take_append_of_le_length (by rw [ZK4,hx,hl,Nat.add_mul];exact nR),ZLV (by rw [ZK4,hx,hl,Nat.add_mul];exact nR)]
  ·exact ⟨rfl,rfl,rfl,by simp,fun k hk _=>ZI (w:=w.drew) hk⟩
 rcases hown.2 with ⟨hv,hn⟩|⟨g,cap,cur,hv,hb,hg,hnc,hcm,hcs,htake⟩
 ·subst hn
  have hx:xs=[]:=List.length_eq_zero_iff.1 (by rw [hown.1];simp);exact grow none 0 hv (by rw [hx];exact run_firstCells_none _ _ _ _ _) (by omega)
 ·by_cases hroom:n+m<=cap
  ·obtain ⟨w',hrun,how,hgr⟩:∃ w',(∀ ty,(Builtin.append_ #[t,t] ty #[.slice (some ⟨g,0,none⟩) n cap,.slice (some a) m c]).run P w=.ok (.slice (some ⟨g,0,none⟩) (n+m) cap) w')/\
    w'.ownsRow base e size (.slice (some ⟨g,0,none⟩) (n+m) cap) (n+m) (xs++news)/\w.grownBy w' (some g):=by
    obtain ⟨w',h1',h2',h3'⟩:=run_append_fits (P:=P) w base t 0 e i size E.ht hi hsz g n cap xs (by rw [hv] at hown;exact hown) a m c news hl hnews h1 hroom;exact ⟨w',fun ty=>by simpa [Builtin.append_] using h1',h2',h3'⟩
   subst hv;exact ⟨g,cap,w',hrun,how,hgr,.inl rfl⟩
  ·have hx:=hown.1
   refine grow (some ⟨g,0,none⟩) cap hv ?_ (by omega);refine run_firstCells_some _ _ _ _ _ _ xs (by rw [hx,hsz]) ?_;intro j u hj;exact hown.cells (by rw [hv];rfl) j u hj
theorem ZT {P:Program} {ops:Array Oper} {rest:List Oper} {o:Oper} {a:Act} {Q:Exit->Act->World->Prop} {W:World} {t e T':TypeId} {size bytes:Nat} (E:El P t e size bytes) (hgd:o.guard=none) (s x:Operand)
 (ho:o.op=.call {callee:=.builtin .append,args:=#[s,x],argTypes:=#[t,t]}) {base:Nat} {v:Value} {n:Nat} {xs:List Value} {cs:Array Value} (hown:W.ownsRow base e size v n xs)
 {N:Nat} (hs:a.eval s=v) (hx:a.eval x=.slice (some ⟨N,0,none⟩) 1 1) (hN:N=W.heap.size) (hcs:cs.size=size) (h1:∀ u∈cs.toList,u.oneCell'=true) (h63:n+1<=maxLen) (hbytes:(n+1) * bytes<=140737488355328) (hbase:base<=W.heap.size)
 (h:∀ g cap w',w'.ownsRow base e size (.slice (some ⟨g,0,none⟩) (n+1) cap) (n+1) (xs++cs.toList)->W.grownBy w' v.ownBlock->(v.ownBlock=some g\/W.heap.size<=g)->
   wpList P ops Q rest (a.put o.dst (.slice (some ⟨g,0,none⟩) (n+1) cap)) w'):wpList P ops Q (o:: rest) a (W.alloc (.cells cs T')):=by
 subst hN;obtain ⟨g,cap,w',hrun,how,hgr,hg⟩:=Zm (w:=W.alloc (.cells cs T')) E (hown.alloc _) ⟨W.heap.size,0,none⟩ 1 1 cs.toList (by simpa using hcs) (fun j u hj=>by
  rw [Addr.add_lit,ZLI,ZC (ZB _ _)];simpa using hj) h1 (by omega) h63 hbytes (by simp;omega)
 refine Zg hgd s x t ho v _ _ w' hs hx hrun ?_;refine h g cap w' how ?_ ?_
 ·exact (World.grownBy_alloc W (.cells cs T') v.ownBlock).andThen hgr (fun j hj=>.inr hj)
 ·rcases hg with hg|hg
  ·exact .inl hg
  ·exact .inr (by simp at hg;omega)
theorem El.of {P:Program}{t e:TypeId}{z:Value}{size bytes:Nat}(ht:P.underlying t=some (.slice e))(h:(P.info? e).map (fun i=>(i.zero,i.size,i.bytes))=some (some z,size,bytes))(hz:z.cells.size=size)(hp:0 < size):
 El P t e size bytes:=by
 obtain ⟨i,h1,h2,h3,h4⟩:=info_parts h;exact ⟨ht,⟨i,z,h1,h2,h3,h4,hz⟩,hp⟩
theorem ZAO:(prog.info? 260).map (fun i=>(i.zero,i.size,i.bytes))=some (some (.agg #[.int .u8 0,.int .u64 0,.int .u64 0]),3,24):=by kernel_rfl
theorem ZEF:El prog 123 29 1 8:=El.of underlying123 Vj rfl (by omega)
theorem elWrites:El prog 78 155 2 16:=El.of underlying78 ZAP rfl (by omega)
theorem QJ:El prog 158 260 3 24:=El.of underlying158 ZAO rfl (by omega)
theorem ZA9:El prog 241 3 1 8:=El.of underlying241 ZHw rfl (by omega)
theorem JD {w:World}{B B':Nat}{e e':TypeId}{z z':Nat}{v v':Value}{n n':Nat}{xs xs':List Value}(h:w.ownsRow B e z v n xs)(h':w.ownsRow B' e' z' v' n' xs')(hne:e≠e'):
 v.ownBlock=none\/v.ownBlock≠v'.ownBlock:=by
 rcases h.2 with ⟨rfl,_⟩|⟨g,cap,cur,rfl,_,hg,_⟩
 ·exact .inl rfl
 ·rcases h'.2 with ⟨rfl,_⟩|⟨g',cap',cur',rfl,_,hg',_⟩
  ·exact .inr (by simp [Value.ownBlock])
  ·refine .inr ?_
   simp only [Value.ownBlock];intro e1;have e2:=ZK5 e1;rw [e2,hg'] at hg;simp only [Option.some.injEq,Obj.cells.injEq] at hg;exact hne hg.2.1.symm
structure Ins where
 op:Nat
 off:Nat
 val:Nat
def Ins.cells (i:Ins):List Value:=[.int .u8 i.op,u64 i.off,u64 i.val]
def Zh (l:List Ins):List Value:=l.flatMap Ins.cells
def ZP (l:List (Nat×Nat)):List Value:=l.flatMap (fun p=>[u64 p.1,u64 p.2])
def line (off:Nat):Nat:=off - off % 64
def sins (l:List (Nat×Nat)):List Ins:=l.map (fun p=>⟨1,p.1,p.2⟩)
def fins (l:List Nat):List Ins:=l.map (fun x=>⟨2,x,0⟩)
def pgW (l:List (Nat×Nat)):List Ins:=sins l++fins (dd (l.map (fun p=>line p.1)) l.length)++[⟨3,0,0⟩]
theorem ZFm (w:World)(off:Nat)(h:off < 18446744073709551616):Calls prog 132 #[u64 off] w fun e w'=>e=.returned (u64 (line off))/\w=w':=by
 have e:((line off:Nat):Int)=(off:Int) - (off:Int) % 64:=by unfold line;omega
 unfold u64;rw [e];have b1:(off:Int) < 18446744073709551616:=by omega
 have b2:(off:Int) % 64<=off:=by omega
 clear e;go_in;go_wp2;go_returns;exact ⟨rfl,rfl⟩
def JB (l:List (Nat×Nat)):List Value:=l.map (fun p=>u64 (line p.1))
theorem ZCE (l:List (Nat×Nat))(p:Nat×Nat):JB (l++[p])=JB l++[u64 (line p.1)]:=by simp [JB]
theorem ZFD (l:List (Nat×Nat)):JB l=(l.map (fun p=>line p.1)).map u64:=by simp [JB]
def ZF4 (w:World)(l:List (Nat×Nat))(vp vl i:Value)(wr:World):Prop:=
 ∃ k:Nat,k<=l.length/\i=.int .i64 (k:Nat)/\wr.ownsRow w.heap.size 260 3 vp k (Zh (sins (l.take k)))/\
  wr.ownsRow w.heap.size 29 1 vl k (JB (l.take k))/\Bl w wr
theorem ZFF {w:World}{B g cap k:Nat}{l:List Nat}(h:w.ownsRow B 29 1 (.slice (some ⟨g,0,none⟩) k cap) k (l.map u64)):k=l.length/\l.length<=cap/\cap<=maxLen/\Row w g 29 l.length (fun x=>u64 (l.getD x 0)):=by
 have h1:=h.1;rw [ZK7,Nat.mul_one] at h1;rcases h.2 with ⟨e,_⟩|⟨g',cap',cur,e,hb,hg,hnc,hcm,hcs,htake⟩
 ·simp at e
 ·simp only [Value.slice.injEq,Option.some.injEq,Addr.mk.injEq,and_true,true_and] at e
  obtain ⟨rfl,rfl⟩:=e;refine ⟨h1.symm,by omega,hcm,YL hg (fun x hx=>?_)⟩;have:=h.cellAt x (by omega);rw [ZC hg] at this;rw [this,List.getElem?_map,ZK9 hx];simp [List.getD,hx]
theorem Ql:∀ {l:List (Nat×Nat)} {k:Nat} {p:Nat×Nat},l[k]?=some p->(ZP l)[2 * k]?=some (u64 p.1)/\(ZP l)[2 * k+1]?=some (u64 p.2)
 |[],k,p,h=>by simp at h
 |a:: l,0,p,h=>by
  simp at h;subst h;simp [ZP]
 |a:: l,k+1,p,h=>by
  have h':l[k]?=some p:=by simpa using h
  have:=Ql h';rw [show 2 * (k+1)=2 * k+2 by omega];simpa [ZP] using this
theorem ZDh {w:World}{B b:Nat}{e e':TypeId}{z n m:Nat}{v:Value}{xs:List Value}{f:Nat->Value}(h:w.ownsRow B e z v n xs)(h':Row w b e' m f)(hne:e≠e'):some b≠v.ownBlock:=by
 rcases h.2 with ⟨rfl,_⟩|⟨g,cap,cur,rfl,_,hg,_⟩
 ·simp [Value.ownBlock]
 ·obtain ⟨c,hc,_⟩:=h'
  simp only [Value.ownBlock];intro e1;have e2:=ZK5 e1;rw [e2,hg] at hc;simp only [Option.some.injEq,Obj.cells.injEq] at hc;exact hne hc.2.1
def ZF2 (w:World)(l:List (Nat×Nat))(R:List Nat)(gl:Nat)(vp i:Value)(wr:World):Prop:=
 ∃ j:Nat,j<=R.length/\i=.int .i64 (j:Nat)/\wr.ownsRow w.heap.size 260 3 vp (l.length+j) (Zh (sins l++fins (R.take j)))/\Row wr gl 29 R.length (fun x=>u64 (R.getD x 0))/\Bl w wr
theorem ZE4 (l:List Nat)(x:Nat):fins (l++[x])=fins l++[⟨2,x,0⟩]:=by simp [fins]
theorem VU (l:List Ins)(i:Ins):Zh (l++[i])=Zh l++i.cells:=by simp [Zh]
theorem ZFf (l:List (Nat×Nat))(p:Nat×Nat):sins (l++[p])=sins l++[⟨1,p.1,p.2⟩]:=by simp [sins]
open Go.Sort
def srt (l:List Nat):List Nat:=((l.map (fun (n:Nat)=>(n:Int))).mergeSort (fun x y=>decide (x<=y))).map Int.toNat
theorem UI (l:List Nat):(srt l).length=l.length:=by simp [srt]
theorem ZIB {l:List Nat}{x:Nat}:x∈srt l↔x∈l:=by
 unfold srt;rw [ZKz];constructor
 ·rintro ⟨z,hz,rfl⟩
  obtain ⟨y,hy,rfl⟩:=ZKz.1 (List.mem_mergeSort.1 hz);simpa using hy
 ·intro hx
  exact ⟨(x:Int),List.mem_mergeSort.2 (ZKz.2 ⟨x,hx,rfl⟩),by simp⟩
theorem ZIc {l:List Nat}{x:Nat}(h:x < l.length):(((l.map (fun (n:Nat)=>(n:Int))).mergeSort (fun x y=>decide (x<=y))).toArray)[x]! =(((srt l).getD x 0:Nat):Int):=by
 have hl:x < ((l.map (fun (n:Nat)=>(n:Int))).mergeSort (fun x y=>decide (x<=y))).length:=by simpa using h
 have h1:(((l.map (fun (n:Nat)=>(n:Int))).mergeSort (fun x y=>decide (x<=y))).toArray)[x]! =((l.map (fun (n:Nat)=>(n:Int))).mergeSort (fun x y=>decide (x<=y)))[x]:=by
  rw [getElem!_pos _ x (by simpa using h)];simp
 have h2:(srt l).getD x 0=(((l.map (fun (n:Nat)=>(n:Int))).mergeSort (fun x y=>decide (x<=y)))[x]).toNat:=by
  unfold srt;rw [ZLQ,List.getElem?_map,ZK9 hl];rfl
 rw [h1,h2];have hm:((l.map (fun (n:Nat)=>(n:Int))).mergeSort (fun x y=>decide (x<=y)))[x]∈l.map (fun (n:Nat)=>(n:Int)):=List.mem_mergeSort.1 (ZLF hl);obtain ⟨y,_,e⟩:=ZKz.1 hm;rw [<-e];simp
theorem ZHU {w:World}{g cap:Nat}{l:List Nat}(h:Row w g 29 l.length (fun x=>u64 (l.getD x 0)))(hn:l.length < 4611686018427387904):
 Calls prog 133 #[.slice (some ⟨g,0,none⟩) l.length cap] w fun e w'=>
  e=.returned (.tuple #[])/\Row w' g 29 l.length (fun x=>u64 ((srt l).getD x 0))/\Only (fun b=>b=g) w w':=by
 have hlt:=h.lt;obtain ⟨c,hc,hsz,hf⟩:=h;have hH:Holds (Value.int .u64) w g 0 (l.map (fun (n:Nat)=>(n:Int))).toArray:=by
  intro j hj;have hj':j < l.length:=by simpa using hj
  refine ⟨?_,by rw [ZLI];exact ZG hc⟩;rw [ZLI,ZC hc,hf j hj',getElem!_pos _ j hj];simp [u64,List.getD,hj']
 have hcall:=Srt.slices_Sort_int g 0 cap (l.map (fun (n:Nat)=>(n:Int))) w hH hlt (by simpa using hn);rw [ZK7] at hcall;refine hcall.mono ?_;rintro e w' ⟨rfl,n,os,rfl⟩;obtain ⟨d,hd⟩:=xE (((l.map (fun (n:Nat)=>(n:Int))).mergeSort (fun x y=>decide (x<=y))).toArray);have hds:d.size=l.length:=by rw [hd];simp
 rw [<-hd];have hz:(putRow (Value.int .u64) (Sort.ahead w n) g 0 d).heap.size=w.heap.size:=by simp
 have old:∀ k,k < w.heap.size->(grow (putRow (Value.int .u64) (Sort.ahead w n) g 0 d) os).heap[k]?=(putRow (Value.int .u64) (Sort.ahead w n) g 0 d).heap[k]?:=fun k hk=>heap_grow_old _ _ (by rw [hz];exact hk)
 refine ⟨rfl,⟨putCells (Value.int .u64) 0 d c,?_,by simpa [putCells] using hsz,fun x hx=>?_⟩,⟨rfl,rfl,rfl,by rw [size_grow,hz];omega,fun k hk hne=>?_⟩⟩
 ·rw [old g hlt]
  simp [putRow,mapBlock,Array.getElem?_modify,hc,onCells]
 ·have hxc:x < c.size:=by omega
  unfold putCells;rw [Array.getElem?_mapIdx,ZLW hxc,Option.map_some,ZKv ⟨Nat.zero_le _,by omega⟩,Nat.sub_zero,hd,ZIc hx];rfl
 ·rw [old k hk]
  simp only [putRow,mapBlock,heap_ahead,Array.getElem?_modify];rw [ZKu (fun e=>hne e.symm)]
def Xg (b:Nat):Value:=.iface 97 (ptr b)
def DSt.exec (s:DSt)(i:Nat)(x:Ins):DSt:=if x.op=1 then s.store i x.off x.val else if x.op=2 then s.flush i x.off else s.fence i
def DSt.runs (s:DSt)(i:Nat)(l:List Ins):DSt:=l.foldl (fun s x=>s.exec i x) s
def Ins.Ok (x:Ins):Prop:=1<=x.op/\x.op<=3/\x.off < 18446744073709551616/\x.val < 18446744073709551616
def J3 (w:World)(A:DAd)(F:Nat->Option ZK)(s:DSt)(w':World):Prop:=∃ F',Dev w' A s F'/\Moved F F' w w'
theorem Moved.alloc {F:Nat->Option ZK}(w:World)(o:Obj):Moved F F w (w.alloc o):=⟨(Only.refl _ _).alloc _,fun _ _=>rfl⟩
theorem ZB5 {w:World}{A:DAd}{s:DSt}{F:Nat->Option ZK}(h:Dev w A s F){i:Nat}(hi:i < 8){x:Ins}(hx:x.Ok)(hex:s.ex < 1000000):
 Calls prog 136 #[.agg #[.int .u8 x.op,u64 x.off,u64 x.val],Xg (A.t i)] w fun r w'=>r=.returned (.tuple #[])/\J3 w A F (s.exec i x) w':=by
 obtain ⟨op,off,v⟩:=x;obtain ⟨h1,h2,ho,hv⟩:=hx;dsimp only at h1 h2 ho hv;have hop:op=1\/op=2\/op=3:=by omega
 rcases hop with rfl|rfl|rfl
 ·have HS:=zh (ZAj (h.alloc (.cells #[.int .u8 1,u64 off,u64 v] 260)) hi ho hv hex)
  clear h;unfold Xg ptr u64 at *;go_in;go_wp2_with fail;refine HS.o.mono ?_;rintro e w' ⟨rfl,F',g1,g2⟩;have G:=zh (show J3 w A F (s.exec i ⟨1,off,v⟩) w' from ⟨F',g1,(Moved.alloc w _).trans g2⟩);clear g1 g2;go_wp2;go_returns;exact ⟨rfl,G.o⟩
 ·have HS:=zh (ZAK (h.alloc (.cells #[.int .u8 2,u64 off,u64 v] 260)) hi ho hex)
  clear h;unfold Xg ptr u64 at *;go_in;go_wp2_with fail;refine HS.o.mono ?_;rintro e w' ⟨rfl,g1,g2⟩;have G:=zh (show J3 w A F (s.exec i ⟨2,off,v⟩) w' from ⟨F,g1,(Moved.alloc w _).trans g2⟩);clear g1 g2;go_wp2;go_returns;exact ⟨rfl,G.o⟩
 ·have HS:=zh (ZAJ (h.alloc (.cells #[.int .u8 3,u64 off,u64 v] 260)) hi hex)
  clear h;unfold Xg ptr u64 at *;go_in;go_wp2_with fail;refine HS.o.mono ?_;rintro e w' ⟨rfl,g1,g2⟩;have G:=zh (show J3 w A F (s.exec i ⟨3,off,v⟩) w' from ⟨F,g1,(Moved.alloc w _).trans g2⟩);clear g1 g2;go_wp2;go_returns;exact ⟨rfl,G.o⟩
theorem Xz:∀ {l:List Ins} {k:Nat} {x:Ins},l[k]?=some x->(Zh l)[3 * k]?=some (.int .u8 x.op)/\(Zh l)[3 * k+1]?=some (u64 x.off)/\(Zh l)[3 * k+2]?=some (u64 x.val)
 |[],k,p,h=>by simp at h
 |a:: l,0,p,h=>by
  simp at h;subst h;simp [Zh,Ins.cells]
 |a:: l,k+1,p,h=>by
  have h':l[k]?=some p:=by simpa using h
  have:=Xz h';rw [show 3 * (k+1)=3 * k+3 by omega];simpa [Zh,Ins.cells] using this
theorem Vw (l:List Ins):(Zh l).length=3 * l.length:=by
 induction l with
 |nil=>rfl
 |cons a l ih=>simp [Zh,Ins.cells] at *;omega
def ZIo (w:World)(n:Nat)(i:Value)(wr:World):Prop:=∃ k:Nat,k<=n/\i=.int .i64 (k:Nat)/\Bl w wr
theorem ZAp {w:World}{b o c:Nat}{l:List Ins}(hs:Seen w b o (Zh l))(hl:∀ x∈l,x.Ok)(hn:l.length<=1000000):
 Calls prog 135 #[.slice (some ⟨b,o,none⟩) l.length c] w fun e w'=>e=.returned (.bool true)/\Bl w w':=by
 have HS:=zh hs;have HL:=zh hl;have hn2:(l.length:Int)<=1000000:=by omega
 clear hs hl;go_in;go_wp2_with fail
 go_loopw [4,7] (fun _ i wr=>ZIo w l.length i wr) (fun _ i _=>l.length - (intOf i).toNat)
 case atStart=>exact ⟨0,by omega,rfl,bR⟩
 case round=>
  obtain ⟨k,hk,rfl,hbel⟩:=hrel
  by_cases hlt:k < l.length
  ·have hlt2:(k:Int) < l.length:=by omega
   obtain ⟨x,hx⟩:=xE (l[k]);have hg:=Xz (l:=l) (k:=k) (x:=x) (by rw [hx];exact ZK9 hlt);obtain ⟨q1,q2,q3,q4⟩:=HL.o x (by rw [hx];exact ZLF hlt);have hs:=HS.o.below hbel nR;have c1:wr.cell? ⟨b,o+k * 3,none⟩=some (.int .u8 x.op):=by rw [Nat.mul_comm];exact hs _ _ hg.1
   have c2:wr.cell? ⟨b,o+k * 3+1,none⟩=some (.int .u64 x.off):=by rw [Nat.mul_comm];exact hs _ _ hg.2.1
   have c3:wr.cell? ⟨b,o+k * 3+2,none⟩=some (.int .u64 x.val):=by rw [Nat.mul_comm];exact hs _ _ hg.2.2
   have G:=zh (show ZIo w l.length (.int .i64 ((k+1:Nat):Int)) (wr.alloc (.cells #[.int .u8 x.op,.int .u64 x.off,.int .u64 x.val] 260)) from ⟨k+1,by omega,rfl,ZA hbel⟩);have d1:decide ((x.op:Int) < 1)=false:=ZLB (by omega);have d2:decide ((3:Int) < x.op)=false:=ZLB (by omega);have d3:¬ (x.op:Int) < 1:=by omega
   have d4:¬ (3:Int) < x.op:=by omega
   clear hs hg hbel hx;go_wp2_with fail;go_roundw
   case rel=>simpa using G.o
   case measure=>simp [intOf];omega
  ·obtain rfl:k=l.length:=by omega
   have HB:=zh hbel;clear hbel hlt;go_wp2;go_returns;exact ⟨rfl,HB.o⟩
theorem Uu (s:DSt)(i:Nat)(b:Bool):(s.cnt i b).1.ex<=s.ex+1:=by
 unfold DSt.cnt DSt.fail DSt.setErr DSt.ctl;split
 ·split <;> simp
 ·split
  ·split <;> simp
  ·split
   ·split <;> simp
   ·simp
theorem ZHr (s:DSt)(i:Nat)(x:Ins):(s.exec i x).ex<=s.ex+1:=by
 unfold DSt.exec;split
 ·unfold DSt.store
  split
  ·exact Uu _ _ _
  ·exact Uu _ _ _
 ·split
  ·unfold DSt.flush
   split
   ·exact Uu _ _ _
   ·exact Uu _ _ _
  ·unfold DSt.fence
   split
   ·exact Uu _ _ _
   ·exact Uu _ _ _
theorem ZEU (l:List Ins):∀ (s:DSt) (i:Nat),(s.runs i l).ex<=s.ex+l.length:=by
 induction l with
 |nil=>intro s i;exact nR
 |cons x l ih=>
  intro s i;have h1:=ih (s.exec i x) i;have h2:=ZHr s i x;simp only [DSt.runs,List.foldl_cons,List.length_cons] at *;omega
theorem ZAe (s:DSt)(i:Nat)(l:List Ins)(x:Ins):s.runs i (l++[x])=(s.runs i l).exec i x:=by simp [DSt.runs]
def Q6 (w:World)(A:DAd)(F:Nat->Option ZK)(s:DSt)(t:Nat)(l:List Ins)(i:Value)(wr:World):Prop:=
 ∃ k:Nat,k<=l.length/\i=.int .i64 (k:Nat)/\J3 w A F (s.runs t (l.take k)) wr
theorem ZIV {w:World}{A:DAd}{s:DSt}{F:Nat->Option ZK}(h:Dev w A s F){t:Nat}(ht:t < 8){b o c:Nat}{l:List Ins}(hs:Seen w b o (Zh l))(hF:F b=none)(hl:∀ x∈l,x.Ok)(hn:s.ex+l.length<=1000000):
 Calls prog 76 #[.slice (some ⟨b,o,none⟩) l.length c,Xg (A.t t)] w fun e w'=>e=.returned (i64 ((s.runs t l).err t))/\J3 w A F (s.runs t l) w':=by
 have HV:=zh (ZAp (c:=c) hs hl (by omega));have HS:=zh hs;have HL:=zh hl;have HH:=zh h;have hn2:(l.length:Int)<=1000000:=by omega
 have HF:=zh hF;clear hs hl h hF;unfold Xg ptr at *;go_in;go_wp2_with fail;refine HV.o.mono ?_;rintro e w1 ⟨rfl,hb1⟩;have HST:=zh (show Q6 w A F s t l (.int .i64 (0:Nat)) w1 from ⟨0,by omega,rfl,F,HH.o.below hb1,⟨Only.of_below hb1,fun _ _=>rfl⟩⟩);clear hb1;go_wp2_with fail
 go_loopw [6,16] (fun _ i wr=>Q6 w A F s t l i wr) (fun _ i _=>l.length - (intOf i).toNat)
 case atStart=>exact HST.o
 case round=>
  obtain ⟨k,hk,rfl,F1,hd,hm⟩:=hrel
  by_cases hlt:k < l.length
  ·have hlt2:(k:Int) < l.length:=by omega
   obtain ⟨x,hx⟩:=xE (l[k]);have hg0:l[k]?=some x:=by rw [hx];exact ZK9 hlt
   have hg:=Xz hg0;have hxo:=HL.o x (by rw [hx];exact ZLF hlt);have htk:l.take (k+1)=l.take k++[x]:=by rw [List.take_add_one,hg0];rfl
   have hbl:b < w.heap.size:=ZK2 _ _ (HS.o _ _ hg.1);have hs:=HS.o.of_block (hm.only.block b hbl (by rw [HF.o];simp));have c1:wr.cell? ⟨b,o+k * 3,none⟩=some (.int .u8 x.op):=by rw [Nat.mul_comm];exact hs _ _ hg.1
   have c2:wr.cell? ⟨b,o+k * 3+1,none⟩=some (.int .u64 x.off):=by rw [Nat.mul_comm];exact hs _ _ hg.2.1
   have c3:wr.cell? ⟨b,o+k * 3+2,none⟩=some (.int .u64 x.val):=by rw [Nat.mul_comm];exact hs _ _ hg.2.2
   have hex:=ZEU (l.take k) s t;rw [List.length_take] at hex;have he:=ZB5 (hd.alloc (.cells #[.int .u8 x.op,.int .u64 x.off,.int .u64 x.val] 260)) ht hxo (by omega);rw [<-ZAe,<-htk] at he;have HE:=zh he;have HM:=zh (hm.trans (Moved.alloc wr (.cells #[.int .u8 x.op,.int .u64 x.off,.int .u64 x.val] 260)));clear he hex hs hg hg0 htk hxo hd hm hx;unfold Xg ptr u64 at HE;go_wp2_with fail;refine HE.o.mono ?_;rintro e w2 ⟨rfl,F2,g1,g2⟩;have G:=zh (show Q6 w A F s t l (.int .i64 ((k+1:Nat):Int)) w2 from ⟨k+1,by omega,rfl,F2,g1,HM.o.trans g2⟩);clear g1 g2;go_wp2_with fail;go_roundw
   case rel=>simpa using G.o
   case measure=>simp [intOf];omega
  ·obtain rfl:k=l.length:=by omega
   rw [List.take_length] at hd;have HE:=zh (ZBA hd ht);have HD:=zh hd;have HM:=zh hm;clear hd hm hlt hk;unfold ptr at HE;go_wp2_with fail;refine HE.o.mono ?_;rintro e w2 ⟨rfl,rfl⟩;go_wp2;go_returns;exact ⟨rfl,F1,HD.o,HM.o⟩
end
end Go.Proofs.YteomliechfdhhaaGreatDoor.Dv
