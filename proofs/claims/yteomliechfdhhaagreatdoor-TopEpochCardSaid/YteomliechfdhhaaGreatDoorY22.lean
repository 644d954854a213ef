/- Part 22. -/
import Derived.Test.YteomliechfdhhaaGreatDoorY21
import Derived.Carry
set_option maxHeartbeats 8000000
set_option maxRecDepth 20000
set_option linter.all false
namespace Go.Proofs.YteomliechfdhhaaGreatDoor.Dv
open Tryz
section
open Go.RowKit Go.Proofs.YteomliechfdhhaaGreatDoor.Size
variable {w w':World}{A:DAd}{F:Nat->Option ZK}{L:Nat}{T c c':Nat->Nat}{x x':Nat}
def Wrs (w:World)(v:Value)(l:List (Nat×Nat)):Prop:=v=.slice none 0 0/\l=[]\/∃ b o cap,v=.slice (some ⟨b,o,none⟩) l.length cap/\Seen w b o (ZP l)
theorem Wrs.below {v:Value}{l:List (Nat×Nat)}(h:Wrs w v l)(hb:Bl w w'):Wrs w' v l:=by
 rcases h with h|⟨b,o,cap,h1,h2⟩
 ·exact .inl h
 ·exact .inr ⟨b,o,cap,h1,h2.below hb nR⟩
theorem Wrs.len {v:Value}{l:List (Nat×Nat)}(h:Wrs w v l):∃ a cap,v=.slice a l.length cap:=by
 rcases h with ⟨h,rfl⟩|⟨b,o,cap,h1,h2⟩
 ·exact ⟨none,0,h⟩
 ·exact ⟨_,cap,h1⟩
theorem UJ:∀ (l:List (Nat×Nat)) (i:Nat) (hi:i < l.length),(ZP l)[i * 2]?=some (u64 l[i].1)/\(ZP l)[i * 2+1]?=some (u64 l[i].2)
 |[],i,hi=>by simp at hi
 |p:: l,0,_=>⟨rfl,rfl⟩
 |p:: l,i+1,hi=>by
  have h:=UJ l i (by simpa using hi);have e:ZP (p:: l)=u64 p.1:: u64 p.2:: ZP l:=rfl;rw [e,show (i+1) * 2=i * 2+1+1 by omega];simp only [List.getElem?_cons_succ,ZK0];exact h
theorem Wrs.at {v:Value}{l:List (Nat×Nat)}(h:Wrs w v l){n:Nat}(hn:n < l.length):∃ b o cap,v=.slice (some ⟨b,o,none⟩) l.length cap/\w.cell? ⟨b,o+n * 2,none⟩=some (.int .u64 (l[n].1:Nat))/\w.cell? ⟨b,o+n * 2+1,none⟩=some (.int .u64 (l[n].2:Nat)):=by
 rcases h with ⟨h,rfl⟩|⟨b,o,cap,h1,h2⟩
 ·simp at hn
 ·exact ⟨b,o,cap,h1,h2 _ _ (UJ l n hn).1,by rw [Nat.add_assoc];exact h2 _ _ (UJ l n hn).2⟩
theorem VE {B:Nat}{v:Value}{l:List (Nat×Nat)}(h:Wrt w B v l):Wrs w v l:=by
 rcases h.2 with ⟨e,e0⟩|⟨g,cap,cur,e,_⟩
 ·exact .inl ⟨e,List.length_eq_zero_iff.1 e0⟩
 ·refine .inr ⟨g,0,cap,e,fun j u hj=>?_⟩
  have:=h.cells (g:=g) (by rw [e];rfl) j u hj;rw [Addr.add_lit] at this;exact this
abbrev IMp (w:World)(b ex:Nat)(f:Nat->Option Nat):Prop:=UMap prog 29 .u64 cInt w b ex f
def La1 (W:World)(mb:Nat)(l:List (Nat×Nat))(i:Value)(wr:World):Prop:=
 ∃ m:Nat,m<=l.length/\i=.int .i64 (m:Nat)/\Bl W wr/\∃ f,IMp wr mb m f/\∀ k (hk:k < l.length),k < m->f l[k].1=some k
def La2 (W W2:World)(mb ex:Nat)(f:Nat->Option Nat)(l:List (Nat×Nat))(v i:Value)(wr:World):Prop:=
 ∃ m:Nat,m<=l.length/\i=.int .i64 (m:Nat)/\Bl W2 wr/\wr.ownsRow W2.heap.size 155 2 v m (ZP (l.take m))
theorem ZFa {v:Value}{l:List (Nat×Nat)}(hv:Wrs w v l)(hn:(l.map (·.1)).Nodup)(hlen:l.length<=1000)(hlt:∀ p∈l,p.1 < 18446744073709551616):
 Calls prog 117 #[v] w fun e w'=>∃ r,e=.returned r/\Wrt w' w.heap.size r l/\Bl w w':=by
 have HV:=zh hv;obtain ⟨va,vc,rfl⟩:=hv.len;obtain ⟨N,hN⟩:=xE l.length;have HN:=zh hN;have HND:=zh hn;have HLT:=zh hlt;rw [<-hN] at hlen ⊢;have HB:=zh (ZA (o:=.map #[] 0) (Below.refl w.heap.size w));have HM0:=zh (UMap.made prog 29 .u64 cInt w);clear hv hn hN hlt;have hmm:=@run_makeMap prog;go_in;go_wp2_with fail;clear hmm
 go_loopw [12] (fun i wr=>La1 w w.heap.size l i wr) (fun i _=>N - (intOf i).toNat)
 case atStart=>exact ⟨0,by omega,rfl,HB.o,_,HM0.o,fun k hk h0=>by omega⟩
 case round=>
  obtain ⟨m,hm,rfl,hbel,f,hu,hf⟩:=hrel;rw [<-HN.o] at hm
  by_cases hlt:m < N
  ·have d0:(m:Int) < N:=by omega
   have hml:m < l.length:=by rw [<-HN.o];exact hlt
   obtain ⟨b2,o2,r2,g2,k2,k3⟩:=(HV.o.below hbel).at hml;rw [<-HN.o] at g2;cases g2;obtain ⟨O,hO⟩:=xE (l[m].1);obtain ⟨V,hV⟩:=xE (l[m].2);rw [<-hO] at k2;rw [<-hV] at k3;have hO64:O < 18446744073709551616:=by rw [hO];exact HLT.o _ (ZLF hml)
   obtain ⟨w8,hput,hu8,hg8⟩:=(hu.kept (ZI (o:=.cells #[.int .u64 O,.int .u64 V] 155) hu.lt)).put underlying29 underlying312 (by unfold maxLen;omega) (n:=O) (wfU (by omega)) m;have HR:=zh (show La1 w w.heap.size l (.int .i64 ((m+1:Nat):Int)) w8 from ⟨m+1,by omega,rfl,(ZA hbel).grown hg8 (by have:=hbel.size;simp;omega) (fun k hk=>by rw [ZK5 hk];exact nR),_,hu8,fun k hk hkm=>by
    by_cases e:k=m
    ·subst e;rw [<-hO,Yv]
    ·have hne:l[k].1≠O:=by
      intro e2;have hp:=ZLY.1 (List.nodup_iff_pairwise_ne.1 HND.o) k m (by simpa using hk) (by simpa using hml) (by omega);simp only [List.getElem_map] at hp;exact hp (e2.trans hO)
     rw [UQ _ _ hne];exact hf k hk (by omega)⟩)
   unfold cInt at hput;simp only at hput;clear hbel hu hf hu8 hg8 hO hV hO64 hml;go_wp2_with fail;go_roundw
   case rel=>simpa using HR.o
   case measure=>simp [intOf];omega
  ·obtain rfl:m=N:=by omega
   have d0:¬ ((m:Int) < m):=by omega
   obtain ⟨W2,hW2⟩:=xE wr;subst hW2;have HB2:=zh hbel;have HU:=zh hu;have HF:=zh hf;clear hbel hu hf hlt hm;go_wp2_with fail
   go_loopw [6,24] (fun v i wr2=>La2 w W2 w.heap.size m f l v i wr2) (fun _ i _=>m - (intOf i).toNat)
   case atStart=>exact ⟨0,by omega,rfl,bR,ZLD _ _ _ _⟩
   case round=>
    obtain ⟨q,hq,rfl,hbel,hown⟩:=hrel;rw [<-HN.o] at hq;have HX:=zh hbel;have HO:=zh hown;obtain ⟨ra,rc,hv⟩:=ZR hown;subst hv;have HB3:=zh (HB2.o.trans (hbel.mono HB2.o.size))
    by_cases hlt:q < m
    ·have d0:(q:Int) < m:=by omega
     have hml:q < l.length:=by rw [<-HN.o];exact hlt
     obtain ⟨b2,o2,r2,g2,k2,k3⟩:=(HV.o.below HB3.o).at hml;rw [<-HN.o] at g2;cases g2;have hfq:=HF.o q hml (by omega);have hO64:l[q].1 < 18446744073709551616:=HLT.o _ (ZLF hml);have htk:l.take (q+1)=l.take q++[l[q]]:=ZLE hml;obtain ⟨O,hO⟩:=xE (l[q].1);obtain ⟨V,hV⟩:=xE (l[q].2);rw [<-hO] at k2 hfq hO64;rw [<-hV] at k3;have HTK:=zh (show ZP (l.take (q+1))=ZP (l.take q)++[u64 O,u64 V] by rw [htk,Zk,hO,hV]);have hu2:=HU.o.kept (hbel.block _ HU.o.lt);have hlk:=(hu2.kept (ZI (o:=.cells #[.int .u64 O,.int .u64 V] 155) hu2.lt)).look underlying29 underlying312 (ZHh _) (n:=O) (wfU (by omega));rw [hfq] at hlk;unfold cInt at hlk;simp only [Option.getD_some] at hlk;clear hbel hown hfq hO64 htk hO hV hu2 hml;go_wp2_with (at_builtin;refine ZT elWrites rfl _ _ rfl (HO.o.alloc _) rfl rfl ?c1 rfl ?c2 ?c3 ?c4 ?c5 ?_)
     case c1=>simp
     case c2=>exact ⟨rfl,rfl⟩
     case c3=>unfold maxLen;omega
     case c4=>omega
     case c5=>have:=HX.o.size;simp;omega
     intro g4 cap4 w5 hop5 hgr5 hg5
     have G:=zh (show La2 w W2 w.heap.size m f l (.slice (some ⟨g4,0,none⟩) (q+1) cap4) (.int .i64 ((q+1:Nat):Int)) w5 from ⟨q+1,by have:=HN.o;omega,rfl,ZN (Zo HX.o HX.o.size) hgr5 (by have:=HX.o.size;simp;omega) (fun b hb=>(HO.o.lt b hb).1),by
      rw [HTK.o];exact hop5⟩)
     clear hop5 hgr5 hg5;go_wp2_with fail;go_roundw
     case rel=>simpa using G.o
     case measure=>simp [intOf];omega
    ·obtain rfl:q=m:=by omega
     have d0:¬ ((q:Int) < q):=by omega
     have hall:l.take q=l:=ZLV (by rw [<-HN.o];exact nR);have HOW:=zh (show Wrt wr w.heap.size (.slice ra q rc) l from by
      unfold Wrt;rw [<-HN.o];rw [hall] at hown;exact YJ hown HB2.o.size)
     clear hown hall hbel;go_wp2;go_returns;exact ⟨_,rfl,HOW.o,HB3.o⟩
theorem JK {b t off size:Nat}(hg:Lg w b A t off size)(hoff:off < 1000000){v:Nat}:
 Calls prog 119 #[.pointer (some ⟨b,0,none⟩),.int .u64 v] w fun e w'=>∃ r,e=.returned r/\Prg w' w.heap.size r (Zf [(off,v)])/\Bl w w':=by
 obtain ⟨c0,c1,c2,_⟩:=Zb hg;have HST:=zh (Yg (Below.refl w.heap.size w) (M:=off) (S:=v) (by omega) w (Below.refl w.heap.size w));clear hg hoff;go_in;go_wp2_with fail;refine HST.o.mono ?_;rintro e w1 ⟨r,rfl,h1,h2⟩;have H1:=zh h1;have H2:=zh h2;clear h1 h2 c0 c1 c2;go_wp2;go_returns;exact ⟨_,rfl,H1.o,H2.o⟩
theorem ZCZ {b t off size:Nat}(hg:Lg w b A t off size)(hoff:off < 1000000){B:Nat}{v:Value}{l:List (Nat×Nat)}(hv:Wrt w B v l)(h0:1<=l.length)(h1:l.length<=200)(hl:∀ p∈l,p.1 < 18446744073709551616):
 Calls prog 120 #[.pointer (some ⟨b,0,none⟩),v] w fun e w'=>∃ r,e=.returned r/\Prg w' w.heap.size r (Za [l,[(off,0)]])/\Bl w w':=by
 have HST:=zh (YV hv h0 (by omega) hl w bR);have HMK:=zh (fun (w1:World) (hb:Bl w w1)=>JK (hg.below hb) hoff (v:=0));have h2:=Ym l;have h3:=Ym [(off,0)];have HLN:=zh (show (Zf l).length+(Zf [(off,0)]).length<=1000 by simp at h3;omega);obtain ⟨a,cp,hs⟩:=ZR hv;subst hs;clear hg hoff hv h0 h1 hl h2 h3;go_in;go_wp2_with fail;refine HST.o.mono ?_;rintro e w1 ⟨r1,rfl,h1,hb1⟩;have H1:=zh h1;have HB:=zh hb1;clear h1 hb1 HST;go_wp2_with fail;refine (HMK.o _ HB.o).mono ?_;rintro e w2 ⟨r2,rfl,h2,hb2⟩;have HTH:=zh (Vb (H1.o.below hb2) h2 (Zl _) (Zl _) HLN.o w2 bR);have HB2:=zh (HB.o.trans (hb2.mono HB.o.size));clear h2 hb2 HMK;go_wp2_with fail;refine HTH.o.mono ?_;rintro e w3 ⟨r3,rfl,h3,hb3⟩;have H3:=zh (show Prg w3 w.heap.size r3 (Za [l,[(off,0)]]) from by
  have e:Za [l,[(off,0)]]=Zf l++Zf [(off,0)]:=by simp [Za]
  rw [e];exact YJ h3 HB2.o.size)
 have HB3:=zh (HB2.o.trans (hb3.mono HB2.o.size));clear h3 hb3 HTH;go_wp2;go_returns;exact ⟨_,rfl,H3.o,HB3.o⟩
theorem ZC4 {P:Program} {ops:Array Oper} {rest:List Oper} {o:Oper} {a:Act} {Q:Exit->Act->World->Prop} {W:World} {t e T':TypeId} {size bytes:Nat} (E:El P t e size bytes) (hgd:o.guard=none) (s x:Operand)
 (ho:o.op=.call {callee:=.builtin .append,args:=#[s,x],argTypes:=#[t,t]}) {base:Nat} {v:Value} {n m:Nat} {xs:List Value} {cs:Array Value} (hown:W.ownsRow base e size v n xs)
 {N:Nat} (hs:a.eval s=v) (hx:a.eval x=.slice (some ⟨N,0,none⟩) m m) (hN:N=W.heap.size) (hm:0 < m) (hcs:cs.size=m * size) (h1:∀ u∈cs.toList,u.oneCell'=true) (h63:n+m<=maxLen) (hbytes:(n+m) * bytes<=140737488355328) (hbase:base<=W.heap.size)
 (h:∀ g cap w',w'.ownsRow base e size (.slice (some ⟨g,0,none⟩) (n+m) cap) (n+m) (xs++cs.toList)->W.grownBy w' v.ownBlock->(v.ownBlock=some g\/W.heap.size<=g)->
   wpList P ops Q rest (a.put o.dst (.slice (some ⟨g,0,none⟩) (n+m) cap)) w'):wpList P ops Q (o:: rest) a (W.alloc (.cells cs T')):=by
 subst hN;obtain ⟨g,cap,w',hrun,how,hgr,hg⟩:=Zm (w:=W.alloc (.cells cs T')) E (hown.alloc _) ⟨W.heap.size,0,none⟩ m m cs.toList (by simpa using hcs) (fun j u hj=>by
  rw [Addr.add_lit,ZLI,ZC (ZB _ _)];simpa using hj) h1 hm h63 hbytes (by simp;omega)
 refine Zg hgd s x t ho v _ _ w' hs hx hrun ?_;refine h g cap w' how ?_ ?_
 ·exact (World.grownBy_alloc W (.cells cs T') v.ownBlock).andThen hgr (fun j hj=>.inr hj)
 ·rcases hg with hg|hg
  ·exact .inl hg
  ·exact .inr (by simp at hg;omega)
def Vp (L off size:Nat)(l:List (Nat×Nat)):Prop:=(l.map (·.1)).Nodup/\∀ p∈l,p.1 % 8=0/\p.1 < 64 * L/\(p.1 < off\/off+size<=p.1)/\p.2 < 18446744073709551616
def ZDH (off:Nat)(l:List (Nat×Nat))(m:Nat):List (Nat×Nat):=(List.range m).flatMap fun i=>[(off+64+i * 16,(l.getD i (0,0)).1),(off+64+i * 16+8,(l.getD i (0,0)).2)]
def wdn (l:List (Nat×Nat))(m:Nat):List Nat:=(l.take m).flatMap fun p=>[p.1,p.2]
theorem ZEq {off:Nat}{l:List (Nat×Nat)}{m:Nat}(h:m < l.length):ZDH off l (m+1)=ZDH off l m++[(off+64+m * 16,l[m].1)]++[(off+64+m * 16+8,l[m].2)]:=by
 unfold ZDH;rw [ZLN,List.flatMap_append];simp [List.getD,h]
theorem ZC1 {l:List (Nat×Nat)}{m:Nat}(h:m < l.length):wdn l (m+1)=wdn l m++[l[m].1,l[m].2]:=by
 unfold wdn;rw [ZLE h,List.flatMap_append];simp
theorem Qm (l:List (Nat×Nat)):∀ m,m<=l.length->(wdn l m).length=2 * m
 |0,_=>rfl
 |m+1,h=>by rw [ZC1 (by omega),ZK4,Qm l m (by omega)];simp;omega
theorem ZIh {l:List (Nat×Nat)}{m y:Nat}(h:y∈wdn l m):∃ p∈l,y=p.1\/y=p.2:=by
 unfold wdn at h;obtain ⟨p,hp,hy⟩:=List.mem_flatMap.1 h;exact ⟨p,List.mem_of_mem_take hp,by simpa using hy⟩
def cmV (T:Nat->Nat)(l:List (Nat×Nat)):Nat:=l.length ||| Vq T (wdn l l.length) * 4294967296
def PnA (W:World)(N:Nat)(i:Value)(wr:World):Prop:=∃ m:Nat,m<=N/\i=.int .i64 (m:Nat)/\Bl W wr
def PnB (W:World)(off:Nat)(l:List (Nat×Nat))(v z i:Value)(wr:World):Prop:=
 ∃ m:Nat,m<=l.length/\i=.int .i64 (m:Nat)/\Bl W wr/\wr.ownsRow W.heap.size 155 2 v (2 * m) (ZP (ZDH off l m))/\wr.ownsRow W.heap.size 29 1 z (2 * m) ((wdn l m).map u64)
def PlP (w:World)(g:List Ins)(e:Ending)(w':World):Prop:=∃ r,e=.returned (.tuple #[r,.int .i64 0])/\Prg w' w.heap.size r g/\Bl w w'
theorem ZAd (h:Ar w A F L T c){b t off size:Nat}(ht:t < 8)(hg:Lg w b A t off size)(hoff:off % 8=0/\off < 64 * L)(hsz:size < 1000000)(hz:c (off / 8)=0){v:Value}{l:List (Nat×Nat)}(hv:Wrs w v l)(h1:1<=l.length)(h96:l.length<=96)(hok:Vp L off size l):
 Calls prog 64 #[.pointer (some ⟨b,0,none⟩),v] w (PlP w (Za (cmL off (cmV T l) l))):=by
 have hLL:=h.lines;have hl64:∀ p∈l,p.1 < 18446744073709551616:=fun p hp=>by have:=hok.2 p hp;omega
 have HAL:=zh (fun (m:Nat) (hm:m < l.length) (w1:World) (hb:Bl w w1)=>ZBJ (h.below hb) ht (hg.below hb) (by omega) hsz (hok.2 _ (ZLF hm)).1 (hok.2 _ (ZLF hm)).2.1 (hok.2 _ (ZLF hm)).2.2.1);have HLA:=zh (fun (w1:World) (hb:Bl w w1)=>ZFa (hv.below hb) hok.1 (by omega) hl64);have HER:=zh (fun w1 hb=>Zq h ht w1 hb);have HLD:=zh (fun (w1:World) (hb:Bl w w1)=>Yw h ht w1 hb off hoff.1 hoff.2);rw [hz] at HLD;have HMK:=zh (fun (vv:Nat) (w1:World) (hb:Bl w w1)=>JK (hg.below hb) (by omega) (v:=vv));have HFN:=zh (fun (w1:World) (hb:Bl w w1) (B:Nat) (r:Value) (hr:Wrt w1 B r l)=>ZCZ (hg.below hb) (by omega) hr h1 (by omega) hl64);have HCR:=zh (fun (w1:World) (hb:Bl w w1)=>h.nib.below hb nR);have HV:=zh hv;have HG:=zh hg;have HOK:=zh hok;have HL64:=zh hl64;have HCL:=zh (Xu h.nib (wdn l l.length));obtain ⟨va,vc,rfl⟩:=hv.len;obtain ⟨N,hN⟩:=xE l.length;have HN:=zh hN;have b0:(off:Int)<=262144:=by omega
 rw [<-hN] at h1 h96 HLA ⊢;obtain ⟨c0,c1,c2,_⟩:=Zb hg;clear h ht hg hoff hsz hz hv hok hl64 hLL hN;go_in;go_wp2_with fail
 go_loopw [29] (fun i wr=>PnA w N i wr) (fun i _=>N - (intOf i).toNat)
 case atStart=>exact ⟨0,by omega,rfl,bR⟩
 case round=>
  obtain ⟨m,hm,rfl,hbel⟩:=hrel;have HB:=zh hbel
  by_cases hlt:m < N
  ·have d0:(m:Int) < N:=by omega
   have hml:m < l.length:=by rw [<-HN.o];exact hlt
   obtain ⟨b2,o2,r2,g2,k2,k3⟩:=(HV.o.below hbel).at hml;rw [<-HN.o] at g2;cases g2;have HA:=zh (HAL.o m hml);obtain ⟨O,hO⟩:=xE (l[m].1);obtain ⟨V,hV⟩:=xE (l[m].2);rw [<-hO] at k2 HA;rw [<-hV] at k3;clear hbel hO hV hml c0 c1 c2;go_wp2_with fail;refine (HA.o _ (ZA HB.o)).mono ?_;rintro e w1 ⟨rfl,hb⟩;have HB1:=zh ((ZA (o:=.cells #[.int .u64 O,.int .u64 V] 155) HB.o).trans (hb.mono (ZA HB.o).size));clear hb k2 k3;go_wp2_with fail;go_roundw
   case rel=>exact ⟨m+1,by omega,by go_num,HB1.o⟩
   case measure=>simp [intOf];omega
  ·obtain rfl:m=N:=by omega
   have d0:¬ ((m:Int) < m):=by omega
   clear hbel hlt hm c0 c1 c2;go_wp2_with fail;refine (HLA.o _ HB.o).mono ?_;rintro e w1 ⟨r,rfl,hr,hb⟩;have HB1:=zh (HB.o.trans (hb.mono HB.o.size));have HR:=zh hr;obtain ⟨ra,rc,hs⟩:=ZR hr;subst hs;rw [<-HN.o] at HR ⊢;clear hr hb HB;obtain ⟨c0,c1,c2,_⟩:=Zb (HG.o.below HB1.o);have d1:¬ ((m:Int) > 96):=by omega
   have d2:((m:Int) == 0)=false:=by simp;omega
   go_wp2_with fail;refine (HER.o _ HB1.o).mono ?_;rintro e w' ⟨rfl,rfl⟩;go_upto_region 15 with fail;have HKP:=zh (fun (wx:World) (hb:Bl w1 wx)=>(show wx.cell? ⟨b,0,none⟩=some (.iface 97 (.pointer (some ⟨A.t t,0,none⟩)))/\wx.cell? ⟨b,1,none⟩=some (.int .u64 off) from ⟨(hb.cell (ZK2 _ _ c0)).trans c0,(hb.cell (ZK2 _ _ c1)).trans c1⟩));have HLD1:=zh (ZAy HB1.o HLD.o);have HR1:=zh (Below.refl w1.heap.size w1)
   go_cut [10] (fun v wx=>v=.int .u64 0/\Bl w1 wx)
   ·go_region_held3 (fun w'=>w'.cell? ⟨b,0,none⟩=some (.iface 97 (.pointer (some ⟨A.t t,0,none⟩)))/\w'.cell? ⟨b,1,none⟩=some (.int .u64 off))
     (exact HKP.o _ (by repeat (with_reducible first|assumption|exact HR1.o|apply ZD)))
     (first
       |(go_at_call 34;refine (HLD1.o _ (by repeat (with_reducible first|assumption|exact HR1.o|apply ZD))).mono ?_;rintro e V1 ⟨rfl,rfl⟩))
    all_goals
     go_wp2_with fail;go_meet;exact ⟨rfl,by repeat (with_reducible first|exact HR1.o|apply ZD)⟩
   ·obtain ⟨rfl,hb⟩:=hcut
    obtain ⟨W2,hW2⟩:=xE wc;subst hW2;have HB2:=zh (HB1.o.trans (hb.mono HB1.o.size));replace HR:=zh (HR.o.below hb);clear hb c0 c1 c2 HLD1 HKP HR1;obtain ⟨c0,c1,c2,_⟩:=Zb (HG.o.below HB2.o);go_wp2_with fail;refine (HER.o _ HB2.o).mono ?_;rintro e w' ⟨rfl,rfl⟩;go_wp2_with fail
    go_loopw [12,13,78] (fun v z i wr=>PnB W2 off l v z i wr) (fun _ _ i _=>m - (intOf i).toNat)
    case atStart=>exact ⟨0,by omega,rfl,bR,ZLD _ _ _ _,ZLD _ _ _ _⟩
    case round=>
     obtain ⟨q,hq,rfl,hbel,hown,howz⟩:=hrel;rw [<-HN.o] at hq;have HX:=zh hbel;have HO:=zh hown;have HZ:=zh howz;obtain ⟨sa,sc,hv⟩:=ZR hown;obtain ⟨za,zc,hv2⟩:=ZR howz;subst hv;subst hv2;have HB3:=zh (HB2.o.trans (hbel.mono HB2.o.size));clear hown howz
     by_cases hlt:q < m
     ·have d0':(q:Int) < m:=by omega
      have hml:q < l.length:=by rw [<-HN.o];exact hlt
      obtain ⟨b2,o2,r2,g2,k2,k3⟩:=(VE (HR.o.below hbel)).at hml;rw [<-HN.o] at g2;cases g2;obtain ⟨O,hO⟩:=xE (l[q].1);obtain ⟨V,hV⟩:=xE (l[q].2);rw [<-hO] at k2;rw [<-hV] at k3;have HEN:=zh (show ZP (ZDH off l (q+1))=(ZP (ZDH off l q)++[Dv.u64 (off+64+q * 16),Dv.u64 O])++[Dv.u64 (off+64+q * 16+8),Dv.u64 V] by rw [ZEq hml,Zk,Zk,hO,hV]);have HWD:=zh (show (wdn l (q+1)).map Dv.u64=(wdn l q).map Dv.u64++[Dv.u64 O,Dv.u64 V] by rw [ZC1 hml,ZLH,hO,hV];rfl);obtain ⟨M,hM⟩:=xE (off+64+q * 16);rw [<-hM] at HEN;have e1:=zh (show ((off:Int)+64+(q:Int) * 16)=(M:Int) by omega);have bM:(M:Int)<=300000:=by omega
      have e2:=zh (show ((M:Int)+8)=((M+8:Nat):Int) by omega);clear hbel hO hV hM hml c0 c1 c2 d0 d1 d2 hlt;obtain ⟨c0,c1,c2,_⟩:=Zb (HG.o.below (ZA (o:=.cells #[.int .u64 O,.int .u64 V] 155) HB3.o));go_wp2_with (at_builtin;refine ZT elWrites rfl _ _ rfl (HO.o.alloc _) rfl rfl ?c1 rfl ?c2 ?c3 ?c4 ?c5 ?_)
      case c1=>simp
      case c2=>exact ⟨rfl,rfl⟩
      case c3=>unfold maxLen;omega
      case c4=>omega
      case c5=>have:=HX.o.size;simp;omega
      intro g4 cap4 w5 hop5 hgr5 hg5;rw [e1.o] at hop5;have hbx5:w5.heap[wr.heap.size]?=some (.cells #[.int .u64 O,.int .u64 V] 155 (0,0)):=(hgr5.block _ (by simp) (fun e=>by have:=(HO.o.lt _ e.symm).2;omega)).trans (ZB _ _);have HZ5:=zh ((HZ.o.alloc (.cells #[.int .u64 O,.int .u64 V] 155)).kept hgr5 (JD HZ.o HO.o (by decide)));have HX5:=zh (ZN (Zo HX.o HX.o.size) hgr5 (by have:=HX.o.size;simp;omega) (fun b hb=>(HO.o.lt b hb).1));have HO5:=zh hop5;have HBX5:=zh hbx5;have HG4:=zh (show wr.heap.size≠g4 from fun e=>by
       rcases hg5 with h|h
       ·have:=(HO.o.lt _ h).2;omega
       ·first|omega|(simp at h;omega))
      clear hop5 hgr5 hg5 hbx5 c0 c1 c2 k2 k3;obtain ⟨x0,x1,_⟩:=XX HBX5.o;rw [e1.o];go_wp2_with (at_builtin;refine ZT elWrites rfl _ _ rfl HO5.o rfl rfl ?c1 rfl ?c2 ?c3 ?c4 ?c5 ?_)
      case c1=>rfl
      case c2=>exact ⟨rfl,rfl⟩
      case c3=>unfold maxLen;omega
      case c4=>omega
      case c5=>exact HX5.o.size
      intro g6 cap6 w6 hop6 hgr6 hg6;rw [e2.o] at hop6;have hbx6:w6.heap[wr.heap.size]?=some (.cells #[.int .u64 O,.int .u64 V] 155 (0,0)):=(hgr6.block _ (heap_lt HBX5.o) (fun e=>HG4.o (ZK5 e))).trans HBX5.o;have HZ6:=zh (HZ5.o.kept hgr6 (JD HZ5.o HO5.o (by decide)));have HX6:=zh (ZN HX5.o hgr6 HX5.o.size (fun b hb=>(HO5.o.lt b hb).1));have HO6:=zh hop6;clear hop6 hgr6 hg6 x0 x1;obtain ⟨x0,x1,_⟩:=XX hbx6;clear hbx6;go_wp2_with (at_builtin;refine ZC4 ZEF rfl _ _ rfl HZ6.o rfl rfl ?c1 (by omega) rfl ?c2 ?c3 ?c4 ?c5 ?_)
      case c1=>rfl
      case c2=>exact ⟨rfl,rfl⟩
      case c3=>unfold maxLen;omega
      case c4=>omega
      case c5=>exact HX6.o.size
      intro g7 cap7 w7 hop7 hgr7 hg7;have G:=zh (show PnB W2 off l (.slice (some ⟨g6,0,none⟩) (2 * q+1+1) cap6) (.slice (some ⟨g7,0,none⟩) (2 * q+2) cap7) (.int .i64 ((q+1:Nat):Int)) w7 from by
       refine ⟨q+1,by have:=HN.o;omega,rfl,ZN HX6.o hgr7 HX6.o.size (fun b hb=>(HZ6.o.lt b hb).1),?_,?_⟩
       ·rw [show 2 * (q+1)=2 * q+1+1 by omega,HEN.o]
        rw [List.append_assoc];exact HO6.o.kept hgr7 (JD HO6.o HZ6.o (by decide))
       ·rw [show 2 * (q+1)=2 * q+2 by omega,HWD.o]
        exact hop7)
      clear hop7 hgr7 hg7 x0 x1;go_wp2_with fail;go_roundw
      case rel=>simpa using G.o
      case measure=>simp [intOf];omega
     ·obtain rfl:q=m:=by omega
      have d0':¬ ((q:Int) < q):=by omega
      obtain ⟨gz,cz,hsz,hseen,_⟩:=Zi HZ.o (by omega);cases hsz;have hwl:=Qm l l.length nR;rw [<-HN.o] at hwl;have HCW:=zh (words_any (c:=zc) (HCR.o wr HB3.o) hseen (fun y hy=>by
       obtain ⟨p,hp,e⟩:=ZIh hy;have h1:=HL64.o p hp;have h2:=HOK.o.2 p hp;rcases e with rfl|rfl <;> omega) (by rw [hwl];omega))
      rw [hwl] at HCW;obtain ⟨C,hC⟩:=xE (Vq T (wdn l q));have hCl:=HCL.o;rw [<-HN.o,<-hC] at hCl;rw [<-hC] at HCW;have HC:=zh hC;have bC:(C:Int)<=4294967295:=by omega
      clear hbel hlt hseen hwl hC c0 c1 c2 d0 d1 d2 hCl;go_wp2_with fail
      with_reducible refine HCW.o.mono ?_
      rintro e w' ⟨rfl,rfl⟩;go_wp2_with fail;have HE:=zh (show bits .or .u64 (q:Int) ((C:Int) * 4294967296)=((cmV T l:Nat):Int) from by
       have e:((C:Int) * 4294967296)=((C * 4294967296:Nat):Int):=by omega
       rw [e,u64_or_nat q (C * 4294967296) (by omega) (by omega)];unfold cmV;rw [<-HN.o,<-HC.o])
      rw [HE.o];obtain ⟨V,hV⟩:=xE (cmV T l);rw [<-hV];have HCE:=zh (show ZDH off l q=cmE off l by rw [HN.o];rfl);have HEL:=zh (show (cmE off l).length=2 * q by rw [QE,HN.o]);have HS1:=zh (YV (w:=wr) (l:=cmE off l) (by unfold Wrt;rw [HEL.o,<-HCE.o];exact HO.o) (by rw [HEL.o];omega) (by rw [HEL.o];omega) (fun p hp=>by
       have:=HN.o;obtain ⟨i,hi,e|e⟩:=ZA1 hp <;> subst e <;> simp only <;> omega) wr bR)
      have l1:=Ym (cmE off l);have l2:=Ym [(off,V)];have l3:=Ue [l,[(off,0)]];have l4:Zn [l,[(off,0)]]=2 * q+1+(2 * 1+1+0):=by unfold Zn Zn Zn;rw [<-HN.o];rfl
      rw [HEL.o] at l1;simp only [List.length_cons,List.length_nil] at l2;have HLA1:=zh (show (Zf (cmE off l)).length+(Zf [(off,V)]).length<=1000 by omega);have HLA2:=zh (show (Zf (cmE off l)++Zf [(off,V)]).length+(Za [l,[(off,0)]]).length<=1000 by rw [ZK4];omega);have HVV:=zh hV;clear hV l1 l2 l3 l4 HE HCW HCL;refine HS1.o.mono ?_;rintro e w2 ⟨r1,rfl,p1,hb⟩;have HP1:=zh p1;have HY:=zh hb;have HB4:=zh (HB3.o.trans (hb.mono HB3.o.size));clear p1 hb HS1;go_wp2_with fail;refine (HMK.o V _ HB4.o).mono ?_;rintro e w3 ⟨r2,rfl,p2,hb⟩;have HTH:=zh (Vb (HP1.o.below hb) p2 (Zl _) (Zl _) HLA1.o w3 bR);have HB5:=zh (HB4.o.trans (hb.mono HB4.o.size));have HY2:=zh (HY.o.trans (hb.mono HY.o.size));clear p2 hb;go_wp2_with fail;refine HTH.o.mono ?_;rintro e w4 ⟨r3,rfl,p3,hb⟩;have HP3:=zh p3;have HB6:=zh (HB5.o.trans (hb.mono HB5.o.size));have HY3:=zh (HY2.o.trans (hb.mono HY2.o.size));have HRW:=zh (show Wrt w4 _ (.slice ra q rc) l from (HR.o.below HX.o).below HY3.o);clear p3 hb HTH;go_wp2_with fail;refine (HFN.o _ HB6.o _ _ HRW.o).mono ?_;rintro e w5 ⟨r4,rfl,p4,hb⟩;have HTH:=zh (Vb (HP3.o.below hb) p4 (by rw [ZK4];have:=Zl (cmE off l);omega) (by have:=Zl l;simp [Za];omega) HLA2.o w5 bR);have HB7:=zh (HB6.o.trans (hb.mono HB6.o.size));clear p4 hb;go_wp2_with fail;refine HTH.o.mono ?_;rintro e w6 ⟨r5,rfl,p5,hb⟩;have HP5:=zh (show Prg w6 w.heap.size r5 (Za (cmL off (cmV T l) l)) from by
       rw [<-HVV.o];have e:Za (cmL off V l)=(Zf (cmE off l)++Zf [(off,V)])++Za [l,[(off,0)]]:=by simp [Za,cmL]
       rw [e];exact YJ p5 HB7.o.size)
      have HB8:=zh (HB7.o.trans (hb.mono HB7.o.size));clear p5 hb HTH;go_wp2;go_returns;exact ⟨_,rfl,HP5.o,HB8.o⟩
variable {H:HAd}{lk:Bool}{p p':Nat->Plc}{ex:Nat}{res held:Nat->Option Nat}{ch:Nat->Chk}
theorem ZI5 {T:Nat->Nat}(hT:NTab w T){l:List (Nat×Nat)}(h:l.length < 1000):cmV T l < 18446744073709551616:=by
 unfold cmV;have:=Xu hT (wdn l l.length);exact Nat.or_lt_two_pow (n:=64) (by omega) (by omega)
theorem ZI4 {T:Nat->Nat}{off size L v:Nat}{l:List (Nat×Nat)}(hoff:off % 8=0/\off+size<=64 * L)(hs:64+16 * l.length<=size)(hok:Vp L off size l)(hL:L<=10000)(hv:v < 18446744073709551616):
 ∀ m∈cmL off v l,∀ q∈m,q.1 % 8=0/\q.1 < 64 * L/\q.2 < 18446744073709551616:=by
 intro m hm q hq;simp only [cmL,List.mem_cons,List.not_mem_nil,or_false] at hm;rcases hm with rfl|rfl|rfl|rfl
 ·obtain ⟨i,hi,e⟩:=ZA1 hq
  have hmem:l.getD i (0,0)∈l:=by rw [ZLQ,ZK9 hi];exact ZLF hi
  obtain ⟨a1,a2,a3,a4⟩:=hok.2 _ hmem;rcases e with rfl|rfl
  ·exact ⟨by simp only;omega,by simp only;omega,by simp only;omega⟩
  ·exact ⟨by simp only;omega,by simp only;omega,a4⟩
 ·simp only [ZLL] at hq
  subst hq;exact ⟨by simp only;omega,by simp only;omega,hv⟩
 ·obtain ⟨a1,a2,a3,a4⟩:=hok.2 _ hq
  exact ⟨a1,a2,a4⟩
 ·simp only [ZLL] at hq
  subst hq;exact ⟨by simp only;omega,by simp only;omega,by simp only;omega⟩
theorem ZHo (off v:Nat)(l:List (Nat×Nat)):0 < (Za (cmL off v l)).length:=by
 have:=Zl (cmE off l);simp [cmL,Za];omega
theorem ZEJ (h:HW w A F L T c x H lk p ex res held) {t:Nat} (ht:t < 8) {ls:List (List (Nat×Nat))} {v:Value} {B:Nat} (hp:Prg w B v (Za ls)) (hB:∀ g,B<=g->F g=none) (h0:0 < (Za ls).length)
 (hl:∀ l∈ls,∀ q∈l,q.1 % 8=0/\q.1 < 64 * L/\q.2 < 18446744073709551616)(hn:x+Zn ls<=x')(hx:x'<=1000000):
 Calls prog 76 #[v,.iface 97 (.pointer (some ⟨A.t t,0,none⟩))] w fun e w'=>e=.returned (.int .i64 0)/\ClP w A F L T (wrs c ls.flatten) x' H lk p ex res held w':=by
 obtain ⟨g,cap,rfl,hs,hg⟩:=Zi hp h0;refine (ZBV (k:=cap) h.aq ht hs (hB g hg) hl (by omega)).mono ?_;rintro e w' ⟨rfl,hr⟩;obtain ⟨F',h1,h2⟩:=h.ra hr;refine ⟨rfl,F',{h1 with aq:=h1.aq.mono (by omega)},h2⟩
theorem ZB8 (h:HW w A F L T c x H lk p ex res held){t:Nat}(ht:t < 8){b off size:Nat}(hg:Lg w b A t off size)(hoff:off % 8=0/\off+size<=64 * L)(hsz:size < 1000000)(hz:c (off / 8)=0){v:Value}{l:List (Nat×Nat)}(hv:Wrs w v l)(h1:1<=l.length)(h96:l.length<=96)(hs:64+16 * l.length<=size)(hok:Vp L off size l)(hx1:x+6 * l.length+8<=x')(hx:x'<=1000000):
 Calls prog 66 #[.pointer (some ⟨b,0,none⟩),v] w fun e w'=>e=.returned (.int .i64 0)/\ClP w A F L T (wrs c (cmL off (cmV T l) l).flatten) x' H lk p ex res held w':=by
 have hLL:=h.ar.lines;have HPL:=zh (ZAd h.ar ht hg ⟨hoff.1,by omega⟩ hsz hz hv h1 h96 hok)
 have HRUN:=zh (fun (w1:World) (hb:Bl w w1) (r:Value) (hp:Prg w1 w.heap.size r (Za (cmL off (cmV T l) l)))=>
  ZEJ (x':=x') (h.below hb) ht hp (fun g hg=>h.new (by omega)) (ZHo _ _ _) (ZI4 (T:=T) hoff hs hok (by omega) (ZI5 h.aq.nib (by omega))) (by rw [ZGE];omega) hx)
 obtain ⟨c0,c1,c2,_⟩:=Zb hg;have hsl:∃ a cap,v=.slice a l.length cap:=by
  rcases hv with ⟨rfl,rfl⟩|⟨_,_,cap,rfl,_⟩
  ·exact ⟨none,0,rfl⟩
  ·exact ⟨_,cap,rfl⟩
 obtain ⟨C2,hC2⟩:=xE (wrs c (cmL off (cmV T l) l).flatten);rw [<-hC2] at HRUN ⊢;obtain ⟨PG,hPG⟩:=xE (Za (cmL off (cmV T l) l));rw [<-hPG] at HRUN HPL;have HG:=zh hg;clear ht h hoff hsz hz hv h1 h96 hs hok hx1 hx hLL hC2 hPG hg;go_in;go_wp2_with fail;refine HPL.o.mono ?_;rintro e w1 ⟨r,rfl,hprg,hb⟩;have HB:=zh hb;have HPR:=zh hprg;clear hb hprg HPL c0 c1 c2;obtain ⟨c0,c1,c2,_⟩:=Zb (HG.o.below HB.o);go_wp2_with fail;have HR2:=zh (HRUN.o _ HB.o _ HPR.o);refine HR2.o.mono ?_;rintro e w2 ⟨rfl,F',hw2,hm2⟩;have HE:=zh (show ClP w A F L T C2 x' H lk p ex res held w2 from ⟨F',hw2,(HMv.of_below (F:=F) (H:=H) HB.o).trans hm2⟩);clear hw2 hm2 HR2 HRUN;go_wp2;go_returns;exact ⟨rfl,HE.o⟩
theorem ZHT (w:World):(binOp .eql 78 (.slice none 0 0) (.slice none 0 0)).run prog w=.ok (.bool true) w:=by kernel_rfl
theorem ZIb (a:Addr)(n c:Nat)(w:World):(binOp .eql 78 (.slice (some a) n c) (.slice none 0 0)).run prog w=.ok (.bool false) w:=by kernel_rfl
theorem VC (l:List (Nat×Nat)):∀ u∈ZP l,u.oneCell'=true:=by
 intro u hu;unfold ZP at hu;obtain ⟨p,_,hp⟩:=List.mem_flatMap.1 hu;simp at hp;rcases hp with rfl|rfl <;> rfl
theorem VB (l:List (Nat×Nat)):(ZP l).length=l.length * 2:=by
 unfold ZP
 induction l with
 |nil=>rfl
 |cons p l ih=>rw [List.flatMap_cons,ZK4,ih];simp;omega
theorem Ut {v:Value}{l:List (Nat×Nat)}(hv:Wrs w v l)(h1:1<=l.length)(hn:l.length<=1000):
 Calls prog 67 #[v] w fun e w'=>∃ r,e=.returned r/\Wrt w' w.heap.size r l/\Bl w w':=by
 rcases hv with ⟨rfl,rfl⟩|⟨b,o,cap,rfl,hs⟩
 ·simp at h1
 obtain ⟨W1,hW1⟩:=xE (w.alloc (.cells #[] 155));have hb1:Bl w W1:=by rw [hW1];exact ZA bR
 have hs1:=hs.below hb1 nR
 have hown:W1.ownsRow w.heap.size 155 2 (.slice (some ⟨w.heap.size,0,none⟩) 0 0) 0 []:=
  ⟨rfl,.inr ⟨w.heap.size,0,#[],rfl,nR,by rw [hW1];exact ZB _ _,nR,by unfold maxLen;omega,rfl,rfl⟩⟩
 obtain ⟨g,c2,w2,hrun,how,hgr,hg⟩:=Zm elWrites hown ⟨b,o,none⟩ l.length cap (ZP l) (VB l) (fun j u hj=>by rw [Addr.add_lit];exact hs1 j u hj) (VC l) h1 (by unfold maxLen;omega) (by omega) hb1.size;have hbe:Bl w w2:=hb1.grown hgr hb1.size (fun k hk=>by rw [<-ZK5 hk];exact nR);simp only [ZLI,List.nil_append] at hrun how;have HE:=zh (show Wrt w2 w.heap.size (.slice (some ⟨g,0,none⟩) l.length c2) l/\Bl w w2 from ⟨how,hbe⟩);rw [hW1] at hrun;have HRN:=zh hrun;clear hrun hs hs1 hown how hgr hg hbe hb1 h1 hn hW1;have hq1:=ZHT;have hq2:=ZIb;go_in;go_wp2_with (at_builtin;refine Zg rfl (Operand.tmp 5) (Operand.tmp 6) 78 rfl _ _ _ _ rfl rfl HRN.o ?_);go_returns;exact ⟨_,rfl,HE.o⟩
def Qc (p:Nat->Plc)(j g:Nat):Nat->Plc:=if g=0 then XQ p j ⟨(p j).line,(p j).cl,(p j).ow,false⟩ else p
def Jo (held:Nat->Option Nat)(line g:Nat):Nat->Option Nat:=if g=0 then XV held line else YE held line g
theorem ZAG {α:Type}(f:Nat->Option α)(n:Nat)(a:α):XV (YE f n a) n=XV f n:=by
 funext x;unfold XV YE;by_cases e:x=n <;> simp [e]
theorem ZET (h:HW w A F L T c x H lk p ex res held){w8 w9:World}{res' held':Nat->Option Nat}(ho8:Only (fun k=>k=H.rb) w w8)(hr8:J1 w8 H.rb (ex+1) res')(hg9:w8.grownBy w9 (some H.vb))(hv9:ZBf w9 H.vb (ex+1) held'):
 HW w9 A F L T c x H lk p (ex+1) res' held'/\HMv F F H w w9:=by
 obtain ⟨⟨n1,n2,n3⟩,n4,n5,n6⟩:=h.ne;obtain ⟨hp8,hs8⟩:=h.keep8 ho8 (.inl rfl);have hs9:SetW w9 H.sb H.pb H.t A H.n H.cap p:=hs8.agree (hg9.block _ (heap_lt hs8.set) (fun e=>n4 (ZK5 e).symm)) (hg9.block _ hs8.row.lt (fun e=>n5 (ZK5 e).symm));have hr9:=hr8.kept (hg9.block _ hr8.lt (fun e=>h.rv (ZK5 e)));have ho9:Only H.own w w9:=Only.grown (ho8.mono fun k e=>.inr (.inl e)) hg9 (.inr (.inr rfl));exact h.owns ho9 hs9 hr9 hv9
theorem ZBF (h:HW w A F L T c x H lk p ex res held){P j g:Nat}(hP:P < 72057594037927936)(hj:j < H.n)(hl:∀ m,m < H.n->(p m).line=H.l0+32 * m)(hc:0<=(p j).cl)(h1:64 * (H.l0+32 * j)<=ZM P)(h2:ZM P < 64 * (H.l0+32 * j)+2048)(hg:held (H.l0+32 * j)=some (g+1))(hh:g<=1000000)(hex:ex+1<=1000000):
 Calls prog 128 #[.pointer (some ⟨H.hb,0,none⟩),.int .u64 P] w fun e w'=>e=.returned (.tuple #[])/\HW w' A F L T c x H lk (Qc p j g) (ex+1) (XV res (ZM P)) (Jo held (H.l0+32 * j) g)/\HMv F F H w w':=by
 have hbd:=h.hp.bd;have hjl:H.l0+32 * j<=4096:=by unfold HAd.n at hj;omega
 obtain ⟨line,hln⟩:=xE (H.l0+32 * j);have HHM:=zh (fun (w1:World) (hp1:HpW w1 A H lk)=>QN hp1 hj h1 h2);have hlj:(p j).line=line:=by rw [hl j hj,hln]
 have HLJ:=zh hlj;have hD:∀ m,m < j->(p m).line≠(p j).line:=fun m hm=>by rw [hl m (by omega),hl j hj];omega
 have HD:=zh hD;rw [<-hln] at hg hjl HHM ⊢;obtain ⟨q0,q1,q2,q3,q4,q5,q6,q7,_⟩:=Zz h.hp.hp;have HH:=zh h;have HOF:=zh (fun w1=>YU (w:=w1) (p:=P) (by omega));have hpo:=XT P;obtain ⟨O,hO⟩:=xE (ZM P);rw [<-hO] at HOF HHM hpo ⊢;have HOU:=zh hpo;have HG:=zh hg;have HJ:=zh hj;have HC:=zh hc;have HEX:=zh hex;have HHL:=zh hjl
 have HOFM:=zh (fun (W:World) (hb:Bl w W)=>show Calls prog 35 #[.int .u64 P] W (fun e w'=>e=.returned (.int .u64 O)/\W=w'/\∃ w8,(Builtin.delete_ #[140,29] 0 #[.map (some H.rb),.int .u64 O]).run prog w'=.ok (.tuple #[]) w8/\Hd (J1 w8 H.rb ex (XV res O)/\Only (fun k=>k=H.rb) w w8)) from (HOF.o W).mono (fun e w' ⟨h1,h2⟩=>⟨h1,h2,by
  subst h2;obtain ⟨w8,a1,a2,a3⟩:=(HH.o.rm.kept (hb.block _ HH.o.rm.lt)).del underlying29 underlying140 (n:=O) (wfU (by have:=HOU.o;omega)) 0;exact ⟨w8,a1,zh ⟨a2,Only.grown (Only.of_below hb) a3 rfl⟩⟩⟩))
 have HKP:=zh (fun (w1:World) (hb:Bl w w1)=>(show w1.cell? ⟨H.hb,4,none⟩=some (.map (some H.rb)) from (hb.cell (ZK2 _ _ q4)).trans q4));have HK8:=zh (fun (w1:World) (ho:Only (fun k=>k=H.rb) w w1)=>(show w1.cell? ⟨H.hb,4,none⟩=some (.map (some H.rb)) from (ZK8 (ho.block _ (heap_lt HH.o.hp.hp) (fun e=>HH.o.ne.1.2.2 e.symm))).trans q4));have HR1:=zh (Below.refl w.heap.size w);clear h hP hj hl hc h1 h2 hg hex hbd hjl hln hlj hD hpo hO;go_in;go_upto_region 0 with fail
 go_region_held3 (fun w'=>w'.cell? ⟨H.hb,4,none⟩=some (.map (some H.rb)))
  (first|exact HK8.o _ hinf.o.2|exact HKP.o _ (by repeat (with_reducible first|assumption|exact HR1.o|apply ZA|apply ZD)))
  (first
    |(go_at_call 35;refine (HOFM.o _ (by repeat (with_reducible first|assumption|exact HR1.o|apply ZA|apply ZD))).mono ?_;rintro e V1 ⟨rfl,hww,w8,hput,hinf⟩;subst hww))
 obtain ⟨hrm,ho8⟩:=hinf.o;obtain ⟨hp8,hs8⟩:=HH.o.keep8 ho8 (.inl rfl);have hv8:ZBf w8 H.vb ex held:=HH.o.vm.kept (ho8.block _ HH.o.vm.lt (fun e=>HH.o.rv e.symm));have hwfl:(Lit.int .i64 (line:Int)).wf=true:=wfI (by have:=HHL.o;omega);have hlk:=hv8.look underlying3 underlying141 (ZHh _) hwfl;rw [HG.o] at hlk;obtain ⟨w9,hput2,hv9,hg9⟩:=hv8.put underlying3 underlying141 (by have:=HEX.o;unfold maxLen;omega) hwfl g;have hlk2:=hv9.look underlying3 underlying141 (ZHh _) hwfl;rw [Yv] at hlk2;unfold cInt at hlk hput2 hlk2;simp only [Option.getD_some] at hlk hput2 hlk2;have HRM:=zh (hrm.mono (Nat.le_succ ex));have HO8:=zh ho8;have HV9:=zh hv9;have HG9:=zh hg9;have HS8:=zh hs8;have HP8:=zh hp8;have hgi:((g+1:Nat):Int) - 1=(g:Int):=by omega
 clear hput hrm ho8 hp8 hs8 hv8 hv9 hg9 q0 q1 q2 q3 q4 q5 q6 q7 HOFM HKP HK8;have HP9:=zh (show HpW w9 A H lk from HP8.o.agree (HG9.o.block _ (heap_lt HP8.o.hp) (fun e=>HH.o.ne.2.2.2 (ZK5 e).symm)));obtain ⟨q0,q1,q2,q3,q4,q5,q6,q7,_⟩:=Zz HP8.o.hp;obtain ⟨r0,r1,r2,r3,r4,r5,r6,r7,_⟩:=Zz HP9.o.hp;go_wp2_with fail;refine (HOF.o _).mono ?_;rintro e w' ⟨rfl,rfl⟩;go_wp2_with fail;refine (HHM.o _ HP8.o).mono ?_;rintro e w' ⟨rfl,rfl⟩
 by_cases hg0:g=0
 ·have d1:((g:Int)<=0):=by omega
  have HG0:=zh hg0;clear hg0;obtain ⟨w10,hdl,hv10,hg10⟩:=HV9.o.del underlying3 underlying141 hwfl 0;have hgg:w8.grownBy w10 (some H.vb):=HG9.o.trans hg10;rw [ZAG] at hv10;obtain ⟨G1,G2⟩:=ZET HH.o HO8.o HRM.o hgg hv10;have HHD:=zh (JR G1.set HJ.o HD.o HC.o false);rw [HLJ.o] at HHD;have HGP:=zh (G1.places (p':=XQ p j ⟨(p j).line,(p j).cl,(p j).ow,false⟩) ((Only.refl (fun k=>k=H.pb) _).set rfl _) (G1.set.hold HJ.o false));have HG2:=zh G2;obtain ⟨s0,s1,s2,s3,s4,s5,s6,s7,_⟩:=Zz G1.hp.hp;clear G1 G2 hv10 hg10 hgg;go_wp2_with fail;refine HHD.o.mono ?_;rintro e w' ⟨rfl,hww⟩;rw [<-hww] at HGP;clear hww;go_wp2_with fail
  go_end0
  unfold Qc Jo;rw [ZKv HG0.o,ZKv HG0.o];exact ⟨rfl,HGP.o.1,HG2.o.trans HGP.o.2⟩
 ·have d1:¬ ((g:Int)<=0):=by omega
  have HE:=zh (ZET HH.o HO8.o HRM.o HG9.o HV9.o);go_wp2_with fail
  go_end0
  unfold Qc Jo;rw [ZKu hg0,ZKu hg0];exact ⟨rfl,HE.o.1,HE.o.2⟩
theorem hsettle_nil {hb:Nat}{v2:Value}:
 Calls prog 68 #[.pointer (some ⟨hb,0,none⟩),.slice none 0 0,v2] w fun e w'=>e=.returned (.tuple #[])/\w=w':=by
 go_in;go_wp2_with fail
 go_loop [12] (fun i=>i=.int .i64 0) (fun i=>0)
 case atStart=>rfl
 case round=>
  subst hrel;go_wp2_with fail
  go_end0
  exact ⟨rfl,rfl⟩
theorem ZCA (h:HW w A F L T c x H lk p ex res held){P j g:Nat}(hP:P < 72057594037927936)(hj:j < H.n)(hl:∀ m,m < H.n->(p m).line=H.l0+32 * m)(hc:0<=(p j).cl)(h1:64 * (H.l0+32 * j)<=ZM P)(h2:ZM P < 64 * (H.l0+32 * j)+2048)(hg:held (H.l0+32 * j)=some (g+1))(hh:g<=1000000)(hex:ex+1<=1000000)(hr:res (ZM P)=some P){b o cap:Nat}(hs:w.cell? ⟨b,o,none⟩=some (.int .u64 (P:Nat))){v2:Value}:
 Calls prog 68 #[.pointer (some ⟨H.hb,0,none⟩),.slice (some ⟨b,o,none⟩) 1 cap,v2] w fun e w'=>e=.returned (.tuple #[])/\HW w' A F L T c x H lk (Qc p j g) (ex+1) (XV res (ZM P)) (Jo held (H.l0+32 * j) g)/\HMv F F H w w':=by
 have HHO:=zh (ZAM h.hp h.rm (p:=P) (by omega));rw [ZLG hr] at HHO;have HRL:=zh (fun (w1:World) (hb:Bl w w1)=>ZBF (h.below hb) hP hj hl hc h1 h2 hg hh hex);obtain ⟨O,hO⟩:=xE (ZM P);rw [<-hO] at HRL ⊢;obtain ⟨line,hln⟩:=xE (H.l0+32 * j);rw [<-hln] at HRL ⊢;clear h hP hj hl hc h1 h2 hg hh hex hr hO hln;go_in;go_wp2_with fail
 go_loopw [12] (fun i wr=>(i=.int .i64 0/\wr=w)\/(i=.int .i64 1/\HW wr A F L T c x H lk (Qc p j g) (ex+1) (XV res O) (Jo held line g)/\HMv F F H w wr)) (fun i _=>1 - (intOf i).toNat)
 case atStart=>exact .inl ⟨rfl,rfl⟩
 case round=>
  rcases hrel with ⟨rfl,hww⟩|⟨rfl,hw1,hm1⟩
  ·subst hww
   go_wp2_with fail;refine HHO.o.mono ?_;rintro e w1 ⟨rfl,hb⟩;have HB:=zh hb;clear hb;go_wp2_with fail;refine (HRL.o _ HB.o).mono ?_;rintro e w2 ⟨rfl,hw2,hm2⟩;have HE:=zh (And.intro hw2 ((HMv.of_below (F:=F) (H:=H) HB.o).trans hm2));clear hw2 hm2 HRL;go_wp2_with fail;go_round
   case rel=>exact .inr ⟨rfl,HE.o.1,HE.o.2⟩
   case measure=>simp [intOf]
  ·have HE:=zh (And.intro hw1 hm1)
   clear hw1 hm1;go_wp2_with fail
   go_end0
   exact ⟨rfl,HE.o.1,HE.o.2⟩
end
end Go.Proofs.YteomliechfdhhaaGreatDoor.Dv
