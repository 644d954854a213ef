/- Part 14. -/
import Derived.Test.YteomliechfdhhaaGreatDoorY13
set_option maxHeartbeats 8000000
set_option maxRecDepth 20000
set_option linter.all false
namespace Go.Proofs.YteomliechfdhhaaGreatDoor.Dv
open Tryz
section
open Go.RowKit
structure Qt (s:DSt)(c:Nat->Nat):Prop where
 off:s.off=false
 arm:s.armed=false
 err:∀ t,s.err t=0
 note:∀ t n,s.notes t n=none
 dn:∀ n,s.dn n=(s.H n).length
 cur:∀ x,s.cur x=c x
structure Mid (s0 s:DSt)(t:Nat)(c:Nat->Nat)(D R:List Nat):Prop where
 off:s.off=false
 arm:s.armed=false
 err:∀ u,s.err u=0
 L:s.L=s0.L
 notet:∀ n,s.notes t n=if n∈R then some (s.H n).length else none
 note:∀ u n,u≠t->s.notes u n=none
 dn:∀ n,s.dn n=(s0.H n).length
 H:∀ n,n∉D->s.H n=s0.H n
 len:∀ n,(s0.H n).length<=(s.H n).length
 cur:∀ x,s.cur x=c x
def wrs (c:Nat->Nat)(l:List (Nat×Nat)):Nat->Nat:=l.foldl (fun c p=>upd c (p.1 / 8) p.2) c
theorem VD (c:Nat->Nat):wrs c []=c:=rfl
theorem YO (c:Nat->Nat)(p:Nat×Nat)(l:List (Nat×Nat)):wrs c (p:: l)=wrs (upd c (p.1 / 8) p.2) l:=rfl
theorem YA (c:Nat->Nat)(l m:List (Nat×Nat)):wrs c (l++m)=wrs (wrs c l) m:=List.foldl_append
theorem Z2 {c:Nat->Nat}{x:Nat}:∀ {l:List (Nat×Nat)},(∀ p∈l,p.1 / 8≠x)->wrs c l x=c x:=by
 intro l
 induction l generalizing c with
 |nil=>intro _;rfl
 |cons p l ih=>
  intro h;rw [YO,ih (fun q hq=>h q (List.mem_cons_of_mem _ hq)),ZZ];exact fun e=>h p List.mem_cons_self e.symm
theorem Qt.mid {s:DSt}{c:Nat->Nat}(h:Qt s c)(t:Nat):Mid s s t c [] []:=
 ⟨h.off,h.arm,h.err,rfl,fun n=>by rw [h.note];rfl,fun u n _=>h.note u n,h.dn,fun n _=>rfl,fun n=>nR,h.cur⟩
theorem QF {s:DSt}{t:Nat}(h1:s.off=false)(h2:s.armed=false):s.cnt t true=(s.ctl false false s.left (s.ex+1),true):=by
 unfold DSt.cnt;rw [h1,h2];simp
theorem Mid.store {s0 s:DSt}{t:Nat}{c:Nat->Nat}{D:List Nat}(h:Mid s0 s t c D []){off v:Nat}(ho:s0.word off=true):Mid s0 (s.store t off v) t (upd c (off / 8) v) (D++[off / 64]) []/\(s.store t off v).ex=s.ex+1:=by
 have hw:s.word off=true:=by unfold DSt.word at ho ⊢;rw [h.L];exact ho
 have h8:off % 8=0:=by unfold DSt.word at ho;simp at ho;exact ho.1
 have e:s.store t off v=(s.ctl false false s.left (s.ex+1)).write off v:=by
  unfold DSt.store;rw [hw,QF h.off h.arm];rfl
 rw [e];refine ⟨⟨rfl,rfl,h.err,h.L,h.notet,h.note,h.dn,fun n hn=>?_,fun n=>?_,fun x=>?_⟩,rfl⟩
 ·have h1:n∉D:=fun hm=>hn (List.mem_append_left _ hm)
  have h2:n≠off / 64:=fun hm=>hn (List.mem_append_right _ (by rw [hm];exact ZLL.2 rfl))
  exact (ZZ _ _ h2).trans (h.H n h1)
 ·show _<=(upd s.H (off / 64) (s.H (off / 64)++[(off,v)]) n).length
  unfold upd;split
  ·rename_i e
   have:=h.len n;rw [ZK4,<-e];omega
  ·exact h.len n
 ·rw [DSt.write_cur (s:=s.ctl false false s.left (s.ex+1)) off v x h8]
  show (if x=off / 8 then v else s.cur x)=_;rw [h.cur];rfl
theorem Mid.flush {s0 s:DSt}{t:Nat}{c:Nat->Nat}{D R:List Nat}(h:Mid s0 s t c D R){off:Nat}(ho:off < s0.L * 64):Mid s0 (s.flush t off) t c D (R++[off / 64])/\(s.flush t off).ex=s.ex+1:=by
 have e:s.flush t off=(s.ctl false false s.left (s.ex+1)).flushed t off:=by
  unfold DSt.flush;have:decide (off < s.L * 64)=true:=ZLG (by rw [h.L];exact ho);rw [this,QF h.off h.arm];rfl
 rw [e];refine ⟨⟨rfl,rfl,h.err,h.L,fun n=>?_,fun u n hu=>?_,h.dn,h.H,h.len,h.cur⟩,rfl⟩
 ·show upd s.notes t (upd (s.notes t) (off / 64) (some (s.H (off / 64)).length)) t n=if n∈R++[off / 64] then some (s.H n).length else none
  rw [ZS]
  by_cases en:n=off / 64
  ·rw [en,ZS,ZKv (List.mem_append_right _ (ZLL.2 rfl))]
  ·rw [ZZ _ _ en,h.notet]
   by_cases hm:n∈R
   ·rw [ZKv hm,ZKv (List.mem_append_left _ hm)]
   ·rw [ZKu hm,ZKu (fun hx=>(ZK1.1 hx).elim hm (fun h2=>en (ZLL.1 h2)))]
 ·show upd s.notes t _ u n=none
  rw [ZZ _ _ hu];exact h.note u n hu
theorem Mid.fence {s0 s:DSt}{t:Nat}{c:Nat->Nat}{D R:List Nat}(h:Mid s0 s t c D R)(hd:∀ n,n∈D->n∈R):Qt (s.fence t) c/\(s.fence t).L=s0.L/\(s.fence t).ex=s.ex+1:=by
 have e:s.fence t=(s.ctl false false s.left (s.ex+1)).fenced t:=by
  unfold DSt.fence;rw [QF h.off h.arm];rfl
 rw [e];refine ⟨⟨rfl,rfl,h.err,fun u n=>?_,fun n=>?_,h.cur⟩,h.L,rfl⟩
 ·show upd s.notes t (fun _=>none) u n=none
  by_cases hu:u=t
  ·rw [hu,ZS]
  ·rw [ZZ _ _ hu];exact h.note u n hu
 ·show (match s.notes t n with|some p=>max (s.dn n) p|none=>s.dn n)=(s.H n).length
  rw [h.notet n]
  by_cases hm:n∈R
  ·rw [ZKv hm]
   have:=h.len n;rw [<-h.dn n] at this;exact Nat.max_eq_right this
  ·rw [ZKu hm]
   show s.dn n=_;rw [h.dn,h.H n (fun hx=>hm (hd n hx))]
theorem Mid.sins {s0:DSt}{t:Nat}:∀ {l:List (Nat×Nat)} {s:DSt} {c:Nat->Nat} {D:List Nat},Mid s0 s t c D []->(∀ p∈l,s0.word p.1=true)->Mid s0 (s.runs t (sins l)) t (wrs c l) (D++l.map (fun p=>p.1 / 64)) []/\(s.runs t (sins l)).ex=s.ex+l.length:=by
 intro l
 induction l with
 |nil=>intro s c D h _;exact ⟨by rw [List.map_nil,List.append_nil];exact h,rfl⟩
 |cons p l ih=>
  intro s c D h hw;obtain ⟨h1,e1⟩:=h.store (v:=p.2) (hw p List.mem_cons_self);obtain ⟨h2,e2⟩:=ih h1 (fun q hq=>hw q (List.mem_cons_of_mem _ hq));have e3:s.runs t (Dv.sins (p:: l))=(s.store t p.1 p.2).runs t (Dv.sins l):=rfl;rw [e3,YO];refine ⟨by simpa using h2,?_⟩;rw [e2,e1,List.length_cons];omega
theorem Mid.fins {s0:DSt}{t:Nat}:∀ {l:List Nat} {s:DSt} {c:Nat->Nat} {D R:List Nat},Mid s0 s t c D R->(∀ x∈l,x < s0.L * 64)->Mid s0 (s.runs t (fins l)) t c D (R++l.map (fun x=>x / 64))/\(s.runs t (fins l)).ex=s.ex+l.length:=by
 intro l
 induction l with
 |nil=>intro s c D R h _;exact ⟨by rw [List.map_nil,List.append_nil];exact h,rfl⟩
 |cons p l ih=>
  intro s c D R h hw;obtain ⟨h1,e1⟩:=h.flush (hw p List.mem_cons_self);obtain ⟨h2,e2⟩:=ih h1 (fun q hq=>hw q (List.mem_cons_of_mem _ hq));have e3:s.runs t (Dv.fins (p:: l))=(s.flush t p).runs t (Dv.fins l):=rfl;rw [e3];refine ⟨by simpa using h2,?_⟩;rw [e2,e1,List.length_cons];omega
theorem Jg (s:DSt)(t:Nat)(a b:List Ins):s.runs t (a++b)=(s.runs t a).runs t b:=List.foldl_append
theorem Qt.run {s:DSt}{c:Nat->Nat}{t:Nat}{l:List (Nat×Nat)}{R:List Nat}(h:Qt s c)(hl:∀ p∈l,s.word p.1=true)(hR:∀ x∈R,x < s.L * 64)(hc:∀ p∈l,∃ x∈R,x / 64=p.1 / 64):
 Qt (s.runs t (sins l++fins R++[⟨3,0,0⟩])) (wrs c l)/\(s.runs t (sins l++fins R++[⟨3,0,0⟩])).L=s.L/\(s.runs t (sins l++fins R++[⟨3,0,0⟩])).ex=s.ex+(l.length+R.length+1):=by
 obtain ⟨h1,e1⟩:=(h.mid t).sins hl;obtain ⟨h2,e2⟩:=h1.fins hR;rw [Jg,Jg];obtain ⟨h3,h4,h5⟩:=h2.fence (fun n hn=>by
  rw [List.nil_append] at hn ⊢;obtain ⟨p,hp,rfl⟩:=ZKz.1 hn;obtain ⟨x,hx,e⟩:=hc p hp;exact ZKz.2 ⟨x,hx,e⟩)
 refine ⟨h3,h4,?_⟩;show (DSt.fence _ t).ex=_;rw [h5,e2,e1];omega
def Yp (l:List (Nat×Nat)):List Nat:=srt (l.map (fun p=>line p.1))
def Zf (l:List (Nat×Nat)):List Ins:=sins l++fins (dd (Yp l) (Yp l).length)++[⟨3,0,0⟩]
theorem Xa (l:List (Nat×Nat)):(Yp l).length=l.length:=by unfold Yp;rw [UI,ZK7]
theorem UC {l:List (Nat×Nat)}{x:Nat}:x∈dd (Yp l) (Yp l).length↔∃ p∈l,line p.1=x:=by
 rw [ZJN];unfold Yp;rw [ZIB,ZKz]
theorem Ym (l:List (Nat×Nat)):(Zf l).length<=2 * l.length+1:=by
 unfold Zf;have:=ZGH (Yp l) (Yp l).length;rw [Xa] at this;rw [Xa,ZK4,ZK4,sins,fins,ZK7,ZK7,List.length_singleton];omega
theorem ZG6 {l:List (Nat×Nat)}(h:∀ p∈l,p.1 < 18446744073709551616/\p.2 < 18446744073709551616):∀ x∈Zf l,x.Ok:=by
 intro x hx;unfold Zf at hx;rcases ZK1.1 hx with hx|hx
 ·rcases ZK1.1 hx with hx|hx
  ·obtain ⟨p,hp,rfl⟩:=ZKz.1 hx
   exact ⟨by show 1<=1;omega,by show 1<=3;omega,(h p hp).1,(h p hp).2⟩
  ·obtain ⟨y,hy,rfl⟩:=ZKz.1 hx
   obtain ⟨p,hp,rfl⟩:=UC.1 hy;exact ⟨by show 1<=2;omega,by show 2<=3;omega,by have:=(h p hp).1;show line p.1 < _;unfold line;omega,by show 0 < 18446744073709551616;omega⟩
 ·have e:x=⟨3,0,0⟩:=by simpa using hx
  subst e;exact ⟨by decide,by decide,by decide,by decide⟩
theorem Qt.runS {s:DSt}{c:Nat->Nat}{t:Nat}{l:List (Nat×Nat)}(h:Qt s c)(hl:∀ p∈l,s.word p.1=true):Qt (s.runs t (Zf l)) (wrs c l)/\(s.runs t (Zf l)).L=s.L/\(s.runs t (Zf l)).ex<=s.ex+(2 * l.length+1):=by
 have hlt:∀ p∈l,p.1 < s.L * 64:=fun p hp=>by have:=hl p hp;unfold DSt.word at this;simp at this;exact this.2
 obtain ⟨h1,h2,h3⟩:=h.run (t:=t) (R:=dd (Yp l) (Yp l).length) hl (fun x hx=>by
  obtain ⟨p,hp,rfl⟩:=UC.1 hx;have:=hlt p hp;unfold line;omega) (fun p hp=>⟨line p.1,UC.2 ⟨p,hp,rfl⟩,by unfold line;omega⟩)
 refine ⟨h1,h2,?_⟩;unfold Zf;rw [h3];have:=ZGH (Yp l) (Yp l).length;have:=Xa l;omega
theorem X9 {w:World}{b o c:Nat}{l:List (Nat×Nat)}(hs:Seen w b o (ZP l))(hn:1<=l.length)(hn2:l.length<=1000)(hl:∀ p∈l,p.1 < 18446744073709551616):
 Calls prog 74 #[.slice (some ⟨b,o,none⟩) l.length c] w fun e w'=>∃ g cap,e=.returned (.slice (some ⟨g,0,none⟩) (Zf l).length cap)/\
  w'.ownsRow w.heap.size 260 3 (.slice (some ⟨g,0,none⟩) (Zf l).length cap) (Zf l).length (Zh (Zf l))/\Bl w w':=by
 obtain ⟨i,hi,hz,hsz,hby⟩:=info_parts Vj;obtain ⟨W,hmk,hown0,hgr0⟩:=run_make_own (P:=prog) w w.heap.size 123 29 i _ 1 underlying123 hi hz hsz .i64 .i64 l.length (by rw [hby];omega) (by unfold maxLen;omega) nR
 have hst:ZF4 w l (.slice none 0 0) (.slice (some ⟨w.heap.size,0,none⟩) 0 l.length) (.int .i64 (0:Nat)) W:=
  ⟨0,by omega,rfl,ZLD _ _ _ _,hown0,bR.grown hgr0 nR (fun k h=>by cases h)⟩
 have HS:=zh hs;have HL:=zh hl;have HST:=zh hst;have b1:(1:Int)<=l.length:=by omega
 have b2:(l.length:Int)<=1000:=by omega
 have d1:((l.length:Int) == 0)=false:=beq_eq_false_iff_ne.2 (by omega);clear hs hl hst hown0 hgr0 hi hz hsz hby;go_in;go_wp2_with fail
 go_loopw [3,4,6,17] (fun vp vl _ i wr=>ZF4 w l vp vl i wr) (fun _ _ _ i _=>l.length - (intOf i).toNat)
 case atStart=>exact HST.o
 case round=>
  obtain ⟨k,hk,rfl,hop,hol,hbel⟩:=hrel
  by_cases hlt:k < l.length
  ·have hlt2:(k:Int) < l.length:=by omega
   obtain ⟨p,hp⟩:=xE (l[k]);have hg:l[k]?=some p:=by rw [hp];exact ZK9 hlt
   have hp64:=HL.o p (by rw [hp];exact ZLF hlt);have htk:l.take (k+1)=l.take k++[p]:=by rw [hp];exact ZAl hlt
   have hw0:(ZP l)[2 * k]?=some (u64 p.1)/\(ZP l)[2 * k+1]?=some (u64 p.2):=Ql hg;have hs:=HS.o.below hbel nR;have c1:wr.cell? ⟨b,o+k * 2,none⟩=some (.int .u64 p.1):=by rw [Nat.mul_comm];exact hs _ _ hw0.1
   have c2:wr.cell? ⟨b,o+k * 2+1,none⟩=some (.int .u64 p.2):=by rw [Nat.mul_comm];exact hs _ _ hw0.2
   have HP:=zh htk;have HOP:=zh hop;have HOL:=zh hol;have HB:=zh hbel;have hsz:=hbel.size;have HSZ:=zh hsz;have HST2:=zh (fun w=>ZFm w p.1 hp64);clear htk hop hol hbel hsz hs hw0 hg hp;go_wp2_with (at_builtin;refine ZT QJ rfl _ _ rfl (HOP.o.alloc _) rfl rfl ?c1 rfl ?c2 ?c3 ?c4 ?c5 ?_)
   case c1=>simp
   case c2=>first|rfl|exact ⟨rfl,rfl⟩|exact ⟨rfl,rfl,rfl⟩
   case c3=>unfold maxLen;omega
   case c4=>omega
   case c5=>have:=HSZ.o;simp;omega
   intro g1 cap1 w2 hop2 hgr2 hg2;have hol2:=(HOL.o.alloc (.cells #[.int .u64 p.1,.int .u64 p.2] 155)).kept hgr2 (JD HOL.o HOP.o (by decide));have hne:some wr.heap.size≠u3.ownBlock:=fun e=>by have:=(HOP.o.lt _ e.symm).2;omega
   have c3:w2.cell? ⟨wr.heap.size,0,none⟩=some (.int .u64 p.1):=by
    rw [ZK8 (hgr2.block wr.heap.size (by simp) hne)];exact (ZC (ZB _ _)).trans rfl
   have hs2:w.heap.size<=w2.heap.size:=ZK6 HSZ.o (ZK6 (by simp) hgr2.size);have hb2:Bl w w2:=(ZA HB.o).grown hgr2 (by have:=HSZ.o;simp;omega) (fun b hb=>(HOP.o.lt b hb).1);have HOP2:=zh hop2;have HOL2:=zh hol2;have HB2:=zh hb2;have HS2:=zh hs2;clear hop2 hol2 hb2 hs2 hgr2 hg2 hne c1 c2;unfold u64 at HST2;go_wp2_with fail;refine (HST2.o _).mono ?_;rintro e w' ⟨rfl,rfl⟩;go_wp2_with (at_builtin;refine ZT ZEF rfl _ _ rfl HOL2.o rfl rfl ?c1 rfl ?c2 ?c3 ?c4 ?c5 ?_)
   case c1=>rfl
   case c2=>rfl
   case c3=>unfold maxLen;omega
   case c4=>omega
   case c5=>exact HS2.o
   intro g3 cap3 w3 hol3 hgr3 hg3;have hop3:=HOP2.o.kept hgr3 (JD HOP2.o HOL2.o (by decide));have hb3:Bl w w3:=HB2.o.grown hgr3 HS2.o (fun b hb=>(HOL2.o.lt b hb).1)
   have G:=zh (show ZF4 w l (.slice (some ⟨g1,0,none⟩) (k+1) cap1) (.slice (some ⟨g3,0,none⟩) (k+1) cap3) (.int .i64 ((k+1:Nat):Int)) w3 from ⟨k+1,by omega,rfl,by
    rw [HP.o,ZFf,VU];exact hop3,by rw [HP.o,ZCE];exact hol3,hb3⟩)
   clear hol3 hgr3 hg3 hop3 hb3;go_wp2_with fail;go_roundw
   case rel=>simpa using G.o
   case measure=>simp [intOf];omega
  ·obtain rfl:k=l.length:=by omega
   rw [List.take_length] at hop hol;obtain ⟨gl,lc,rfl⟩:∃ gl lc,u4=.slice (some ⟨gl,0,none⟩) l.length lc:=by
    rcases hol.2 with ⟨_,e⟩|⟨g,cap,cur,e,_⟩
    ·omega
    ·exact ⟨g,cap,e⟩
   obtain ⟨gp,pc,rfl⟩:∃ gp pc,u3=.slice (some ⟨gp,0,none⟩) l.length pc:=by
    rcases hop.2 with ⟨_,e⟩|⟨g,cap,cur,e,_⟩
    ·omega
    ·exact ⟨g,cap,e⟩
   rw [ZFD] at hol;obtain ⟨e1,e2,e3,hrow⟩:=ZFF hol;obtain ⟨L,hL⟩:=xE (l.map (fun p=>line p.1));rw [<-hL] at e1 e2 hrow hol;have hsort:=ZHU (cap:=lc) hrow (by omega);rw [<-e1] at hsort;have HSO:=zh hsort;have HOP:=zh hop;have HOL:=zh hol;have HB:=zh hbel;have HLL:=zh hL;have HE:=zh (And.intro e1 (And.intro e2 e3));clear hop hol hbel hrow hL hsort e1 e2 e3 hlt hk;go_wp2_with fail;refine HSO.o.mono ?_;rintro e w2 ⟨rfl,hrow2,ho2⟩;obtain ⟨e1,e2,e3⟩:=HE.o;have hgl:=(HOL.o.lt gl rfl).1;have hgne:gp≠gl:=by
    have:=JD HOP.o HOL.o (by decide);simpa [Value.ownBlock] using this
   obtain ⟨SL,hSL⟩:=xE (srt L);have hsl:SL.length=l.length:=by rw [hSL,UI];exact e1.symm
   rw [<-hSL] at hrow2;have hcp:=ZBr (c:=lc) (l:=SL) (by rw [hsl];exact hrow2) (by omega) (by omega) (by omega);have hop2:w2.ownsRow w.heap.size 260 3 (.slice (some ⟨gp,0,none⟩) l.length pc) l.length (Zh (sins l)):=HOP.o.kept (row:=some gl) ⟨ho2.os,ho2.tape,ho2.output,ho2.size,fun k hk hne=>ho2.block k hk (fun e=>hne (by rw [e]))⟩ (.inr (by simp [Value.ownBlock,hgne]));have hbw2:Bl w w2:=⟨ho2.os.trans HB.o.os,ho2.tape.trans HB.o.tape,ho2.output.trans HB.o.output,ZK6 HB.o.size ho2.size,fun k hk=>(ho2.block k (ZLC hk HB.o.size) (by omega)).trans (HB.o.block k hk)⟩
   rw [hsl] at hcp;have HCP:=zh hcp;have HOP2:=zh hop2;have HB2:=zh hbw2;have HSL:=zh (And.intro hSL hsl);clear hcp hop2 hbw2 ho2 hrow2 hSL hsl e1 e2 e3;go_wp2_with fail;refine HCP.o.mono ?_;rintro e w3 ⟨rfl,hrow3,ho3⟩;obtain ⟨R,hR⟩:=xE (dd SL l.length);rw [<-hR] at hrow3 ⊢;have hRl:R.length<=1000:=by rw [hR];have:=ZGH SL l.length;omega
   have hRl2:(R.length:Int)<=1000:=by omega
   have hop3:w3.ownsRow w.heap.size 260 3 (.slice (some ⟨gp,0,none⟩) l.length pc) (l.length+0) (Zh (sins l++fins (R.take 0))):=by
    simp only [List.take_zero,fins,List.map_nil,List.append_nil,Nat.add_zero];exact HOP2.o.kept (row:=some gl) ⟨ho3.os,ho3.tape,ho3.output,ho3.size,fun k hk hne=>ho3.block k hk (fun e=>hne (by rw [e]))⟩ (.inr (by simp [Value.ownBlock,hgne]))
   have hb3:Bl w w3:=⟨ho3.os.trans HB2.o.os,ho3.tape.trans HB2.o.tape,ho3.output.trans HB2.o.output,ZK6 HB2.o.size ho3.size,fun k hk=>(ho3.block k (ZLC hk HB2.o.size) (by omega)).trans (HB2.o.block k hk)⟩
   have HST2:=zh (show ZF2 w l R gl (.slice (some ⟨gp,0,none⟩) l.length pc) (.int .i64 (0:Nat)) w3 from ⟨0,by omega,rfl,hop3,hrow3,hb3⟩);have HRR:=zh hR;clear hop3 hb3 hrow3 ho3 hR;go_wp2_with fail
   go_loopw [3,8,41] (fun vp _ i wr=>ZF2 w l R gl vp i wr) (fun _ _ i _=>R.length - (intOf i).toNat)
   case atStart=>exact HST2.o
   case round=>
    obtain ⟨j,hj,rfl,hop,hrow,hbel⟩:=hrel
    by_cases hlt:j < R.length
    ·have hlt2:(j:Int) < R.length:=by omega
     have c1:wr.cell? ⟨gl,j,none⟩=some (.int .u64 (R.getD j 0)):=hrow.cell j hlt;obtain ⟨x,hx⟩:=xE (R.getD j 0);have htk:R.take (j+1)=R.take j++[x]:=by rw [List.take_add_one,ZK9 hlt,hx];simp [List.getD,hlt]
     rw [<-hx] at c1;have HP:=zh htk;have HO:=zh hop;have HR3:=zh hrow;have HB3:=zh hbel;clear hop hrow hbel hx htk;go_wp2_with (at_builtin;refine ZT QJ rfl _ _ rfl HO.o rfl rfl ?c1 rfl ?c2 ?c3 ?c4 ?c5 ?_)
     case c1=>rfl
     case c2=>first|rfl|exact ⟨rfl,rfl⟩|exact ⟨rfl,rfl,rfl⟩
     case c3=>unfold maxLen;omega
     case c4=>omega
     case c5=>exact HB3.o.size
     intro g4 cap4 w4 hop4 hgr4 hg4;have hrow4:=HR3.o.of_block (hgr4.block gl HR3.o.lt (ZDh HO.o HR3.o (by decide)));have hb4:Bl w w4:=HB3.o.grown hgr4 HB3.o.size (fun b hb=>(HO.o.lt b hb).1)
     have G:=zh (show ZF2 w l R gl (.slice (some ⟨g4,0,none⟩) (l.length+j+1) cap4) (.int .i64 ((j+1:Nat):Int)) w4 from ⟨j+1,by omega,rfl,by
      rw [HP.o,ZE4,<-List.append_assoc,VU];exact hop4,hrow4,hb4⟩)
     clear hop4 hgr4 hg4 hrow4 hb4;go_wp2_with fail;go_roundw
     case rel=>simpa using G.o
     case measure=>simp [intOf];omega
    ·obtain rfl:j=R.length:=by omega
     rw [List.take_length] at hop;have HO:=zh hop;have HB3:=zh hbel;clear hop hrow hbel hlt hj;go_wp2_with (at_builtin;refine ZT QJ rfl _ _ rfl HO.o rfl rfl ?c1 rfl ?c2 ?c3 ?c4 ?c5 ?_)
     case c1=>rfl
     case c2=>first|rfl|exact ⟨rfl,rfl⟩|exact ⟨rfl,rfl,rfl⟩
     case c3=>unfold maxLen;omega
     case c4=>omega
     case c5=>exact HB3.o.size
     intro g4 cap4 w4 hop4 hgr4 hg4;have hb4:Bl w w4:=HB3.o.grown hgr4 HB3.o.size (fun b hb=>(HO.o.lt b hb).1);have hpl:Zf l=sins l++fins R++[⟨3,0,0⟩]:=by rw [HRR.o,HSL.o.1,HLL.o];unfold Zf Yp;rw [UI,ZK7]
     have hpn:(Zf l).length=l.length+R.length+1:=by rw [hpl,ZK4,ZK4,sins,fins,ZK7,ZK7];rfl
     have G:=zh (show w4.ownsRow w.heap.size 260 3 (.slice (some ⟨g4,0,none⟩) (Zf l).length cap4) (Zf l).length (Zh (Zf l)) by
      rw [hpn,hpl,VU];exact hop4)
     have HPN:=zh hpn;have HB4:=zh hb4;clear hop4 hgr4 hg4 hb4 hpl hpn;go_wp2;go_returns;exact ⟨g4,cap4,by rw [HPN.o];rfl,G.o,HB4.o⟩
theorem ZKh {w:World}{A:DAd}{s:DSt}{F:Nat->Option ZK}(h:Dev w A s F)(hoff:s.off=false){i:Nat}(hi:i < 8):
 Calls prog 72 #[ptr (A.t i),.bool true] w fun r w'=>r=.returned (.bool true)/\w=w':=by
 have c0:w.cell? ⟨A.t i,0,none⟩=some (.pointer (some ⟨A.d,0,none⟩)):=(h.thr i hi).cell 0 (by omega);have c1:w.cell? ⟨A.d,11,none⟩=some (.bool s.off):=h.dev.cell 11 (by omega);rw [hoff] at c1;clear h;simp only [ptr];go_in;go_wp2;go_returns;exact ⟨rfl,rfl⟩
def ZIw (w:World)(A:DAd)(F:Nat->Option ZK)(L:Nat)(c:Nat->Nat)(x:Nat)(w':World):Prop:=∃ s' F',Dev w' A s' F'/\Qt s' c/\s'.L=L/\s'.ex<=x/\Moved F F' w w'
end
end Go.Proofs.YteomliechfdhhaaGreatDoor.Dv
namespace Go.Proofs.YteomliechfdhhaaGreatDoor.Size
open Tryz
section
open Go.RowKit
def wds (c:Int):Int:=if c=0 then 3 else if c=1 then 7 else if c=2 then 15 else if c=3 then 31 else if c=4 then 60 else 0
theorem wds_cases (c:Int):(c < 0\/5<=c)/\wds c=0\/c=0/\wds c=3\/c=1/\wds c=7\/c=2/\wds c=15\/c=3/\wds c=31\/c=4/\wds c=60:=by
 unfold wds
 repeat' split
 all_goals omega
def per (c:Int):Int:=if c=0 then 62 else if c=1 then 31 else if c=2 then 15 else if c=3 then 7 else if c=4 then 4 else 0
def cls (n:Int):Int×Int:=if n < 1 then (0,1) else if n<=3 then (0,0) else if n<=7 then (1,0) else if n<=15 then (2,0) else if n<=31 then (3,0) else if n<=60 then (4,0) else (0,9)
structure Tab (w:World):Prop where
 c0:w.cell? ⟨0,0,none⟩=some (.int .i64 3)
 c1:w.cell? ⟨0,1,none⟩=some (.int .i64 7)
 c2:w.cell? ⟨0,2,none⟩=some (.int .i64 15)
 c3:w.cell? ⟨0,3,none⟩=some (.int .i64 31)
 c4:w.cell? ⟨0,4,none⟩=some (.int .i64 60)
theorem words_any (c:Int)(w:World)(T:Tab w):
 Calls prog 170 #[.int .i64 c] w fun e w'=>e=.returned (.int .i64 (wds c))/\w=w':=by
 obtain ⟨h0,h1,h2,h3,h4⟩:=T;rcases (show c < 0\/5<=c\/c=0\/c=1\/c=2\/c=3\/c=4 by omega) with h|h|rfl|rfl|rfl|rfl|rfl
 ·have hw:wds c=0:=by have:=wds_cases c;omega
  rw [hw];clear hw;go_in;go_wp2
  go_ret
  exact ⟨rfl,rfl⟩
 ·have hw:wds c=0:=by have:=wds_cases c;omega
  rw [hw];clear hw;go_in;go_wp2
  go_ret
  exact ⟨rfl,rfl⟩
 all_goals
  go_in;go_wp2
  go_ret
  exact ⟨rfl,rfl⟩
theorem per_any (c:Int)(w:World)(T:Tab w):
 Calls prog 203 #[.int .i64 c] w fun e w'=>e=.returned (.int .i64 (per c))/\w=w':=by
 rcases wds_cases c with ⟨h,hw⟩|⟨rfl,hw⟩|⟨rfl,hw⟩|⟨rfl,hw⟩|⟨rfl,hw⟩|⟨rfl,hw⟩
 ·have hp:per c=0:=by unfold per;repeat (rw [if_neg (by omega)])
  rw [hp];clear hp;have HW:=Lib.hid hw;clear hw;go_in;go_wp2_with fail;refine (words_any c _ T).mono ?_;rintro e w' ⟨rfl,rfl⟩;rw [HW.out];go_wp2
  go_ret
  exact ⟨rfl,rfl⟩
 all_goals
  have HW:=Lib.hid hw;clear hw;go_in;go_wp2_with fail;refine (words_any _ _ T).mono ?_;rintro e w' ⟨rfl,rfl⟩;rw [HW.out];go_wp2
  go_ret
  exact ⟨rfl,rfl⟩
theorem class_any (n:Int)(w:World)(T:Tab w):
 Calls prog 105 #[.int .i64 n] w fun e w'=>e=.returned (.tuple #[.int .i64 (cls n).1,.int .i64 (cls n).2])/\w=w':=by
 obtain ⟨h0,h1,h2,h3,h4⟩:=T;rcases (show n < 1\/(1<=n/\n<=3)\/(3 < n/\n<=7)\/(7 < n/\n<=15)\/(15 < n/\n<=31)\/(31 < n/\n<=60)\/60 < n by omega) with h|h|h|h|h|h|h
 all_goals
  first
  |have hc:cls n=(0,1):=by simp [cls,h]
  |have hc:cls n=(0,9):=by unfold cls;repeat (rw [if_neg (by omega)])
  |have hc:cls n=(0,0):=by unfold cls;repeat (first|rw [if_pos (by omega)]|rw [if_neg (by omega)])
  |have hc:cls n=(1,0):=by unfold cls;repeat (first|rw [if_pos (by omega)]|rw [if_neg (by omega)])
  |have hc:cls n=(2,0):=by unfold cls;repeat (first|rw [if_pos (by omega)]|rw [if_neg (by omega)])
  |have hc:cls n=(3,0):=by unfold cls;repeat (first|rw [if_pos (by omega)]|rw [if_neg (by omega)])
  |have hc:cls n=(4,0):=by unfold cls;repeat (first|rw [if_pos (by omega)]|rw [if_neg (by omega)])
 all_goals
  rw [hc];clear hc;go_in;go_wp2
 ·go_ret2
  exact ⟨rfl,rfl⟩
 all_goals
  go_rounds 6
  go_ret2
  exact ⟨rfl,rfl⟩
def off (c i:Int):Int×Int:=if per c=0 then (0,1) else if i < 0\/per c<=i then (0,2) else (8+i * (wds c+1),0)
theorem Tab.cell {w:World}(T:Tab w)(k:Nat)(hk:k < 5):w.cell? ⟨0,k,none⟩=some (.int .i64 (wds k)):=by
 rcases (show k=0\/k=1\/k=2\/k=3\/k=4 by omega) with rfl|rfl|rfl|rfl|rfl
 ·exact T.c0
 ·exact T.c1
 ·exact T.c2
 ·exact T.c3
 ·exact T.c4
theorem ZDf (k:Nat)(s p i:Int)(w:World)(T:Tab w)(hk:k < 5)(hc:w.cell? ⟨0,k,none⟩=some (.int .i64 s))(hp:per k=p)(s0:1<=s)(s1:s<=60)(p0:1<=p)(p1:p<=62):
 Calls prog 209 #[.int .i64 k,.int .i64 i] w fun e w'=>e=.returned (.tuple #[.int .i64 (if i < 0\/p<=i then (0,2) else (8+i * (s+1),0):Int×Int).1,.int .i64 (if i < 0\/p<=i then (0,2) else (8+i * (s+1),0):Int×Int).2])/\w=w':=by
 have HP:=Lib.hid hp;clear hp;have hne:(p == 0)=false:=by simp;omega
 rcases (show i < 0\/(0<=i/\p<=i)\/(0<=i/\i < p) from by omega) with h|⟨hi,h⟩|⟨hi,h⟩
 ·rw [if_pos (.inl h)]
  go_in;go_wp2_with fail;refine (per_any _ _ T).mono ?_;rintro e w' ⟨rfl,rfl⟩;rw [HP.out];go_wp2_with fail
  go_ret2
  exact ⟨rfl,rfl⟩
 ·rw [if_pos (.inr h)]
  go_in;go_wp2_with fail;refine (per_any _ _ T).mono ?_;rintro e w' ⟨rfl,rfl⟩;rw [HP.out];go_wp2_with fail
  go_ret2
  exact ⟨rfl,rfl⟩
 ·rw [if_neg (by omega)]
  have hn0:0<=i * (s+1):=Int.mul_nonneg (by omega) (by omega);have hn1:i * (s+1)<=62 * 61:=Int.mul_le_mul (by omega) (by omega) (by omega) (by omega);go_in;go_wp2_with fail;refine (per_any _ _ T).mono ?_;rintro e w' ⟨rfl,rfl⟩;rw [HP.out];go_wp2_with fail
  go_ret2
  exact ⟨rfl,rfl⟩
theorem offset_any (c i:Int)(w:World)(T:Tab w):
 Calls prog 209 #[.int .i64 c,.int .i64 i] w fun e w'=>e=.returned (.tuple #[.int .i64 (off c i).1,.int .i64 (off c i).2])/\w=w':=by
 rcases wds_cases c with ⟨h,hw⟩|⟨rfl,hw⟩|⟨rfl,hw⟩|⟨rfl,hw⟩|⟨rfl,hw⟩|⟨rfl,hw⟩
 ·have hp:per c=0:=by unfold per;repeat (rw [if_neg (by omega)])
  have ho:off c i=(0,1):=by unfold off;rw [if_pos hp]
  rw [ho];clear ho;have HP:=Lib.hid hp;clear hp hw;go_in;go_wp2_with fail;refine (per_any c _ T).mono ?_;rintro e w' ⟨rfl,rfl⟩;rw [HP.out];go_wp2_with fail
  go_ret2
  exact ⟨rfl,rfl⟩
 all_goals
  refine ZDf _ _ _ i w T (by decide) (Tab.cell T _ (by decide)) rfl (by decide) (by decide) (by decide) (by decide)
def fnd (c x:Int):Int×Bool:=if per c=0\/x<=8\/256<=x then (0,false) else if ¬ (x - 8 - 1) % (wds c+1)=0\/per c<=(x - 8 - 1) / (wds c+1) then (0,false) else ((x - 8 - 1) / (wds c+1),true)
theorem ZHs (c x:Int)(w:World)(T:Tab w)(h:per c=0\/x<=8\/256<=x)(p0:0<=per c)(p1:per c<=62):
 Calls prog 176 #[.int .i64 c,.int .i64 x] w fun e w'=>e=.returned (.tuple #[.int .i64 0,.bool false])/\w=w':=by
 generalize hp:per c=p at *;have HP:=Lib.hid hp;clear hp
 by_cases hz:p=0
 ·subst hz;clear h
  go_in;go_wp2_with fail;refine (per_any _ _ T).mono ?_;rintro e w' ⟨rfl,rfl⟩;rw [HP.out];go_wp2_with fail
  go_ret2
  exact ⟨rfl,rfl⟩
 ·have hne:(p == 0)=false:=by simp;omega
  rcases (show x<=8\/(8 < x/\256<=x) by omega) with h'|⟨h8,h'⟩
  all_goals
   clear h hz;go_in;go_wp2_with fail;refine (per_any _ _ T).mono ?_;rintro e w' ⟨rfl,rfl⟩;rw [HP.out];go_wp2_with fail
   go_ret2
   exact ⟨rfl,rfl⟩
theorem VR (k:Nat) (s p x:Int) (w:World) (T:Tab w) (hk:k < 5) (hc:w.cell? ⟨0,k,none⟩=some (.int .i64 s)) (hp:per k=p) (s0:1<=s) (s1:s<=60) (p0:1<=p) (p1:p<=62) (hi:8 < x) (h:x < 256) (r:Int×Bool)
 (hr:r=if ¬ (x - 8 - 1) % (s+1)=0\/p<=(x - 8 - 1) / (s+1) then (0,false) else ((x - 8 - 1) / (s+1),true)):
 Calls prog 176 #[.int .i64 k,.int .i64 x] w fun e w'=>e=.returned (.tuple #[.int .i64 r.1,.bool r.2])/\w=w':=by
 have HP:=Lib.hid hp;clear hp;have hne:(p == 0)=false:=by simp;omega
 by_cases hm:(x - 8 - 1) % (s+1)=0
 ·by_cases hq:p<=(x - 8 - 1) / (s+1)
  ·rw [if_pos (.inr hq)] at hr
   subst hr;go_in;go_wp2_with fail;refine (per_any _ _ T).mono ?_;rintro e w' ⟨rfl,rfl⟩;rw [HP.out];go_wp2_with fail
   go_ret2
   exact ⟨rfl,rfl⟩
  ·rw [if_neg (by rintro (a|a);exact a hm;exact hq a)] at hr
   subst hr;go_in;go_wp2_with fail;refine (per_any _ _ T).mono ?_;rintro e w' ⟨rfl,rfl⟩;rw [HP.out];go_wp2_with fail
   go_ret2
   exact ⟨rfl,rfl⟩
 ·rw [if_pos (.inl hm)] at hr
  subst hr;have hmb:((x - 8 - 1) % (s+1) != 0)=true:=by simpa using hm
  go_in;go_wp2_with fail;refine (per_any _ _ T).mono ?_;rintro e w' ⟨rfl,rfl⟩;rw [HP.out];go_wp2_with fail
  go_ret2
  exact ⟨rfl,rfl⟩
theorem ZGz (c:Int):0<=per c/\per c<=62:=by unfold per;repeat' split
                                            all_goals omega
theorem find_any (c x:Int)(w:World)(T:Tab w):
 Calls prog 176 #[.int .i64 c,.int .i64 x] w fun e w'=>e=.returned (.tuple #[.int .i64 (fnd c x).1,.bool (fnd c x).2])/\w=w':=by
 by_cases h:per c=0\/x<=8\/256<=x
 ·have:fnd c x=(0,false):=by unfold fnd;rw [if_pos h]
  rw [this];exact ZHs c x w T h (ZGz c).1 (ZGz c).2
 ·have hx:8 < x/\x < 256:=by omega
  have hp:per c≠0:=by omega
  have hr:fnd c x=if ¬ (x - 8 - 1) % (wds c+1)=0\/per c<=(x - 8 - 1) / (wds c+1) then (0,false) else ((x - 8 - 1) / (wds c+1),true):=by unfold fnd;rw [if_neg h]
  rcases wds_cases c with ⟨h',_⟩|⟨rfl,hw⟩|⟨rfl,hw⟩|⟨rfl,hw⟩|⟨rfl,hw⟩|⟨rfl,hw⟩
  ·exact absurd (by unfold per;repeat (rw [if_neg (by omega)])) hp
  ·exact VR 0 _ _ x w T (by decide) (Tab.cell T _ (by decide)) rfl (by decide) (by decide) (by decide) (by decide) hx.1 hx.2 _ hr
  ·exact VR 1 _ _ x w T (by decide) (Tab.cell T _ (by decide)) rfl (by decide) (by decide) (by decide) (by decide) hx.1 hx.2 _ hr
  ·exact VR 2 _ _ x w T (by decide) (Tab.cell T _ (by decide)) rfl (by decide) (by decide) (by decide) (by decide) hx.1 hx.2 _ hr
  ·exact VR 3 _ _ x w T (by decide) (Tab.cell T _ (by decide)) rfl (by decide) (by decide) (by decide) (by decide) hx.1 hx.2 _ hr
  ·exact VR 4 _ _ x w T (by decide) (Tab.cell T _ (by decide)) rfl (by decide) (by decide) (by decide) (by decide) hx.1 hx.2 _ hr
end
end Go.Proofs.YteomliechfdhhaaGreatDoor.Size
namespace Go.Proofs.YteomliechfdhhaaGreatDoor.Dv
open Tryz
section
open Go.RowKit
def u8v (n:Nat):Value:=.int .u8 n
def Y7 (T:Nat->Nat)(r:Nat)(l:List Nat):Nat:=l.foldl (Vt T) r
def ZEt (T:Nat->Nat)(l:List Nat):Nat:=4294967295 ^^^ Y7 T 4294967295 l
theorem ZBm (T:Nat->Nat)(r:Nat)(l:List Nat)(x:Nat):Y7 T r (l++[x])=Vt T (Y7 T r l) x:=by simp [Y7]
theorem Ve {w:World}{T:Nat->Nat}(hT:NTab w T):∀ (l:List Nat) {r:Nat},r < 4294967296->(∀ x∈l,x < 256)->Y7 T r l < 4294967296
 |[],r,h,_=>h
 |a:: l,r,h,hl=>Ve hT l (ZBs hT h (hl a List.mem_cons_self)) (fun x hx=>hl x (List.mem_cons_of_mem _ hx))
theorem ZA4 {w:World}{T:Nat->Nat}(hT:NTab w T){l:List Nat}(hl:∀ x∈l,x < 256):ZEt T l < 4294967296:=Nat.xor_lt_two_pow (n:=32) (by omega) (Ve hT l (by omega) hl)
def ZKV (T:Nat->Nat)(l:List Nat)(r i:Value):Prop:=∃ k:Nat,k<=l.length/\i=.int .i64 (k:Nat)/\r=.int .u32 (Y7 T 4294967295 (l.take k))
theorem ZD3 {w:World}{T:Nat->Nat}(hT:NTab w T){b o c:Nat}{l:List Nat}(hs:Seen w b o (l.map u8v))(hl:∀ x∈l,x < 256)(hn:l.length<=1000000):
 Calls prog 275 #[.int .u32 0,.slice (some ⟨b,o,none⟩) l.length c] w fun e w'=>e=.returned (.int .u32 (ZEt T l))/\w=w':=by
 have HT:=zh hT;have HS:=zh hs;have HL:=zh hl;have hn2:(l.length:Int)<=1000000:=by omega
 have HST:=zh (fun (r b:Nat) (hr:r < 4294967296) (hb:b < 256)=>ZCn hT r b hr hb);have hun0:=JT 0 (by omega);rw [show (4294967295 ^^^ 0:Nat)=4294967295 from rfl,show ((0:Nat):Int)=0 from rfl] at hun0;clear hT hs hl;go_in;go_wp2_with fail
 go_loop [5,7,12] (fun r _ i=>ZKV T l r i) (fun _ _ i=>l.length - (intOf i).toNat)
 case atStart=>exact ⟨0,by omega,rfl,rfl⟩
 case round=>
  obtain ⟨k,hk,rfl,rfl⟩:=hrel
  by_cases hlt:k < l.length
  ·have hlt2:(k:Int) < l.length:=by omega
   obtain ⟨x,hx⟩:=xE (l[k]);have c1:w.cell? ⟨b,o+k,none⟩=some (.int .u8 x):=HS.o k _ (by rw [List.getElem?_map,ZK9 hlt,hx];rfl);have hx8:x < 256:=HL.o x (by rw [hx];exact ZLF hlt);have hsn:Y7 T 4294967295 (l.take (k+1))=Vt T (Y7 T 4294967295 (l.take k)) x:=by rw [List.take_add_one,ZK9 hlt,<-hx];exact ZBm _ _ _ _
   have hR:=Ve HT.o (l.take k) (r:=4294967295) (by omega) (fun y hy=>HL.o y (List.mem_of_mem_take hy));obtain ⟨R,hRR⟩:=xE (Y7 T 4294967295 (l.take k));rw [<-hRR] at hsn hR ⊢;have HSN:=zh hsn;have HS2:=zh (HST.o R x hR hx8);clear hsn hx hRR;go_wp2_with fail;refine HS2.o.mono ?_;rintro e w' ⟨rfl,rfl⟩;go_wp2_with fail;go_round
   case rel=>exact ⟨k+1,by omega,by go_num,by rw [HSN.o]⟩
   case measure=>simp [intOf];omega
  ·obtain rfl:k=l.length:=by omega
   rw [List.take_length];have hR:=Ve HT.o l (r:=4294967295) (by omega) HL.o;have hun:=JT (Y7 T 4294967295 l) hR;rw [show (4294967295 ^^^ Y7 T 4294967295 l:Nat)=ZEt T l from rfl] at hun;generalize Y7 T 4294967295 l=R at hR hun ⊢;have hR2:(R:Int) < 4294967296:=by omega
   clear hlt;go_wp2;go_returns;exact ⟨rfl,rfl⟩
theorem ZIe {w:World}{T:Nat->Nat}(hT:NTab w T){b o c:Nat}{l:List Nat}(hs:Seen w b o (l.map u8v))(hl:∀ x∈l,x < 256)(hn:l.length<=1000000):
 Calls prog 260 #[.slice (some ⟨b,o,none⟩) l.length c] w fun e w'=>e=.returned (.int .u32 (ZEt T l))/\w=w':=by
 have HU:=zh (ZD3 (c:=c) hT hs hl hn);clear hT hs hl;go_in;go_wp2_with fail;refine HU.o.mono ?_;rintro e w' ⟨rfl,rfl⟩;go_wp2;go_returns;exact ⟨rfl,rfl⟩
def ZFz (w w':World):Prop:=(∀ b o,b < w.heap.size->w'.cell? ⟨b,o,none⟩=w.cell? ⟨b,o,none⟩)/\(∀ b o,b < w.heap.size->w'.frozen? ⟨b,o,none⟩=w.frozen? ⟨b,o,none⟩)/\(∀ b,b < w.heap.size->b < w'.heap.size)/\Hd (Bl w w')
theorem ZJ4 {w w':World}(hb:Bl w w'):ZFz w w':=
 ⟨fun b o h=>hb.cell (p:=⟨b,o,none⟩) h,fun b o h=>hb.frozen (p:=⟨b,o,none⟩) h,fun b h=>ZLC h hb.size,zh hb⟩
theorem ZE {a w:World}{b i:Nat}{v:Value}(h:Bl a w)(hb:a.heap.size<=b):Bl a (w.setCell ⟨b,i,none⟩ v):=h.setCell (p:=⟨b,i,none⟩) hb v
theorem Yk {a:World}{b:Nat}(vs:List Value):∀ {w:World} {i:Nat},Bl a w->a.heap.size<=b->Bl a (w.setCells b i vs):=by
 induction vs with
 |nil=>exact fun h _=>h
 |cons v vs ih=>exact fun h hb=>ih (ZE h hb) hb
theorem Xs {P:Program}{f:FuncId}{args:Array Value}{a w:World}{R:Ending->Prop}(h:Calls P f args w fun e w'=>R e/\Bl w w')(hb:Bl a w):
 Calls P f args w fun e w'=>R e/\Bl a w'/\ZFz w w':=
 h.mono (fun e w' h=>⟨h.1,hb.trans (h.2.mono hb.size),ZJ4 h.2⟩)
end
end Go.Proofs.YteomliechfdhhaaGreatDoor.Dv
