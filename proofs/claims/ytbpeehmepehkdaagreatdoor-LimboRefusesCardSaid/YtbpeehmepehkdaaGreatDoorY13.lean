/- Part 13. -/
import Derived.Test.YtbpeehmepehkdaaGreatDoorY12
set_option maxHeartbeats 8000000
set_option maxRecDepth 20000
set_option linter.all false
namespace Go.Proofs.YtbpeehmepehkdaaGreatDoor.Dv
open Tryz
section
open Go.RowKit
def Yv (l:List (Nat×Nat)):List Nat:=srt (l.map (fun p=>line p.1))
def Zk (l:List (Nat×Nat)):List Ins:=sins l++fins (dd (Yv l) (Yv l).length)++[⟨3,0,0⟩]
theorem Xq (l:List (Nat×Nat)):(Yv l).length=l.length:=by unfold Yv;rw [Ub,ZLj]
theorem UU {l:List (Nat×Nat)}{x:Nat}:x∈dd (Yv l) (Yv l).length↔∃ p∈l,line p.1=x:=by
 rw [ZJ8];unfold Yv;rw [ZI2,ZLb]
theorem Ys (l:List (Nat×Nat)):(Zk l).length<=2 * l.length+1:=by
 unfold Zk;have:=ZG9 (Yv l) (Yv l).length;rw [Xq] at this;rw [Xq,ZLc,ZLc,sins,fins,ZLj,ZLj,List.length_singleton];omega
theorem ZHu {l:List (Nat×Nat)}(h:∀ p∈l,p.1 < 18446744073709551616/\p.2 < 18446744073709551616):∀ x∈Zk l,x.Ok:=by
 intro x hx;unfold Zk at hx;rcases ZLZ.1 hx with hx|hx
 ·rcases ZLZ.1 hx with hx|hx
  ·obtain ⟨p,hp,rfl⟩:=ZLb.1 hx
   exact ⟨by show 1<=1;omega,by show 1<=3;omega,(h p hp).1,(h p hp).2⟩
  ·obtain ⟨y,hy,rfl⟩:=ZLb.1 hx
   obtain ⟨p,hp,rfl⟩:=UU.1 hy;exact ⟨by show 1<=2;omega,by show 2<=3;omega,by have:=(h p hp).1;show line p.1 < _;unfold line;omega,by show 0 < 18446744073709551616;omega⟩
 ·have e:x=⟨3,0,0⟩:=by simpa using hx
  subst e;exact ⟨by decide,by decide,by decide,by decide⟩
theorem Qt.runS {s:DSt}{c:Nat->Nat}{t:Nat}{l:List (Nat×Nat)}(h:Qt s c)(hl:∀ p∈l,s.word p.1=true):Qt (s.runs t (Zk l)) (wrs c l)/\(s.runs t (Zk l)).L=s.L/\(s.runs t (Zk l)).ex<=s.ex+(2 * l.length+1):=by
 have hlt:∀ p∈l,p.1 < s.L * 64:=fun p hp=>by have:=hl p hp;unfold DSt.word at this;simp at this;exact this.2
 obtain ⟨h1,h2,h3⟩:=h.run (t:=t) (R:=dd (Yv l) (Yv l).length) hl (fun x hx=>by
  obtain ⟨p,hp,rfl⟩:=UU.1 hx;have:=hlt p hp;unfold line;omega) (fun p hp=>⟨line p.1,UU.2 ⟨p,hp,rfl⟩,by unfold line;omega⟩)
 refine ⟨h1,h2,?_⟩;unfold Zk;rw [h3];have:=ZG9 (Yv l) (Yv l).length;have:=Xq l;omega
theorem Uc {w:World}{b o c:Nat}{l:List (Nat×Nat)}(hs:Seen w b o (ZT l))(hn:1<=l.length)(hn2:l.length<=1000)(hl:∀ p∈l,p.1 < 18446744073709551616):
 Calls prog 111 #[.slice (some ⟨b,o,none⟩) l.length c] w fun e w'=>∃ g cap,e=.returned (.slice (some ⟨g,0,none⟩) (Zk l).length cap)/\
  w'.ownsRow w.heap.size 298 3 (.slice (some ⟨g,0,none⟩) (Zk l).length cap) (Zk l).length (Zn (Zk l))/\Bl w w':=by
 obtain ⟨i,hi,hz,hsz,hby⟩:=info_parts UA;obtain ⟨W,hmk,hown0,hgr0⟩:=run_make_own (P:=prog) w w.heap.size 166 31 i _ 1 underlying166 hi hz hsz .i64 .i64 l.length (by rw [hby];omega) (by unfold maxLen;omega) nR
 have hst:ZGt w l (.slice none 0 0) (.slice (some ⟨w.heap.size,0,none⟩) 0 l.length) (.int .i64 (0:Nat)) W:=
  ⟨0,by omega,rfl,ZLn _ _ _ _,hown0,bR.grown hgr0 nR (fun k h=>by cases h)⟩
 have HS:=zh hs;have HL:=zh hl;have HST:=zh hst;have b1:(1:Int)<=l.length:=by omega
 have b2:(l.length:Int)<=1000:=by omega
 have d1:((l.length:Int) == 0)=false:=beq_eq_false_iff_ne.2 (by omega);clear hs hl hst hown0 hgr0 hi hz hsz hby;go_in;go_wp2_with fail
 go_loopw [3,4,6,17] (fun vp vl _ i wr=>ZGt w l vp vl i wr) (fun _ _ _ i _=>l.length - (intOf i).toNat)
 case atStart=>exact HST.o
 case round=>
  obtain ⟨k,hk,rfl,hop,hol,hbel⟩:=hrel
  by_cases hlt:k < l.length
  ·have hlt2:(k:Int) < l.length:=by omega
   obtain ⟨p,hp⟩:=xE (l[k]);have hg:l[k]?=some p:=by rw [hp];exact ZLg hlt
   have hp64:=HL.o p (by rw [hp];exact ZLl hlt);have htk:l.take (k+1)=l.take k++[p]:=by rw [hp];exact ZA7 hlt
   have hw0:(ZT l)[2 * k]?=some (u64 p.1)/\(ZT l)[2 * k+1]?=some (u64 p.2):=Q9 hg;have hs:=HS.o.below hbel nR;have c1:wr.cell? ⟨b,o+k * 2,none⟩=some (.int .u64 p.1):=by rw [Nat.mul_comm];exact hs _ _ hw0.1
   have c2:wr.cell? ⟨b,o+k * 2+1,none⟩=some (.int .u64 p.2):=by rw [Nat.mul_comm];exact hs _ _ hw0.2
   have HP:=zh htk;have HOP:=zh hop;have HOL:=zh hol;have HB:=zh hbel;have hsz:=hbel.size;have HSZ:=zh hsz;have HST2:=zh (fun w=>ZGY w p.1 hp64);clear htk hop hol hbel hsz hs hw0 hg hp;go_wp2_with (at_builtin;refine ZS Qb rfl _ _ rfl (HOP.o.alloc _) rfl rfl ?c1 rfl ?c2 ?c3 ?c4 ?c5 ?_)
   case c1=>simp
   case c2=>first|rfl|exact ⟨rfl,rfl⟩|exact ⟨rfl,rfl,rfl⟩
   case c3=>unfold maxLen;omega
   case c4=>omega
   case c5=>have:=HSZ.o;simp;omega
   intro g1 cap1 w2 hop2 hgr2 hg2;have hol2:=(HOL.o.alloc (.cells #[.int .u64 p.1,.int .u64 p.2] 138)).kept hgr2 (JQ HOL.o HOP.o (by decide));have hne:some wr.heap.size≠u3.ownBlock:=fun e=>by have:=(HOP.o.lt _ e.symm).2;omega
   have c3:w2.cell? ⟨wr.heap.size,0,none⟩=some (.int .u64 p.1):=by
    rw [ZLo (hgr2.block wr.heap.size (by simp) hne)];exact (ZD (ZC _ _)).trans rfl
   have hs2:w.heap.size<=w2.heap.size:=ZLi HSZ.o (ZLi (by simp) hgr2.size);have hb2:Bl w w2:=(ZA HB.o).grown hgr2 (by have:=HSZ.o;simp;omega) (fun b hb=>(HOP.o.lt b hb).1);have HOP2:=zh hop2;have HOL2:=zh hol2;have HB2:=zh hb2;have HS2:=zh hs2;clear hop2 hol2 hb2 hs2 hgr2 hg2 hne c1 c2;unfold u64 at HST2;go_wp2_with fail;refine (HST2.o _).mono ?_;rintro e w' ⟨rfl,rfl⟩;go_wp2_with (at_builtin;refine ZS ZEo rfl _ _ rfl HOL2.o rfl rfl ?c1 rfl ?c2 ?c3 ?c4 ?c5 ?_)
   case c1=>rfl
   case c2=>rfl
   case c3=>unfold maxLen;omega
   case c4=>omega
   case c5=>exact HS2.o
   intro g3 cap3 w3 hol3 hgr3 hg3;have hop3:=HOP2.o.kept hgr3 (JQ HOP2.o HOL2.o (by decide));have hb3:Bl w w3:=HB2.o.grown hgr3 HS2.o (fun b hb=>(HOL2.o.lt b hb).1)
   have G:=zh (show ZGt w l (.slice (some ⟨g1,0,none⟩) (k+1) cap1) (.slice (some ⟨g3,0,none⟩) (k+1) cap3) (.int .i64 ((k+1:Nat):Int)) w3 from ⟨k+1,by omega,rfl,by
    rw [HP.o,ZGQ,Vl];exact hop3,by rw [HP.o,ZCa];exact hol3,hb3⟩)
   clear hol3 hgr3 hg3 hop3 hb3;go_wp2_with fail;go_roundw
   case rel=>simpa using G.o
   case measure=>simp [intOf];omega
  ·obtain rfl:k=l.length:=by omega
   rw [List.take_length] at hop hol;obtain ⟨gl,lc,rfl⟩:∃ gl lc,u4=.slice (some ⟨gl,0,none⟩) l.length lc:=by
    rcases hol.2 with ⟨_,e⟩|⟨g,cap,cur,e,_⟩
    ·omega
    ·exact ⟨g,cap,e⟩
   obtain ⟨gp,pc,rfl⟩:∃ gp pc,u3=.slice (some ⟨gp,0,none⟩) l.length pc:=by
    rcases hop.2 with ⟨_,e⟩|⟨g,cap,cur,e,_⟩
    ·omega
    ·exact ⟨g,cap,e⟩
   rw [ZFu] at hol;obtain ⟨e1,e2,e3,hrow⟩:=ZFw hol;obtain ⟨L,hL⟩:=xE (l.map (fun p=>line p.1));rw [<-hL] at e1 e2 hrow hol;have hsort:=ZIF (cap:=lc) hrow (by omega);rw [<-e1] at hsort;have HSO:=zh hsort;have HOP:=zh hop;have HOL:=zh hol;have HB:=zh hbel;have HLL:=zh hL;have HE:=zh (And.intro e1 (And.intro e2 e3));clear hop hol hbel hrow hL hsort e1 e2 e3 hlt hk;go_wp2_with fail;refine HSO.o.mono ?_;rintro e w2 ⟨rfl,hrow2,ho2⟩;obtain ⟨e1,e2,e3⟩:=HE.o;have hgl:=(HOL.o.lt gl rfl).1;have hgne:gp≠gl:=by
    have:=JQ HOP.o HOL.o (by decide);simpa [Value.ownBlock] using this
   obtain ⟨SL,hSL⟩:=xE (srt L);have hsl:SL.length=l.length:=by rw [hSL,Ub];exact e1.symm
   rw [<-hSL] at hrow2;have hcp:=ZCC (c:=lc) (l:=SL) (by rw [hsl];exact hrow2) (by omega) (by omega) (by omega);have hop2:w2.ownsRow w.heap.size 298 3 (.slice (some ⟨gp,0,none⟩) l.length pc) l.length (Zn (sins l)):=HOP.o.kept (row:=some gl) ⟨ho2.os,ho2.tape,ho2.output,ho2.size,fun k hk hne=>ho2.block k hk (fun e=>hne (by rw [e]))⟩ (.inr (by simp [Value.ownBlock,hgne]));have hbw2:Bl w w2:=⟨ho2.os.trans HB.o.os,ho2.tape.trans HB.o.tape,ho2.output.trans HB.o.output,ZLi HB.o.size ho2.size,fun k hk=>(ho2.block k (ZLq hk HB.o.size) (by omega)).trans (HB.o.block k hk)⟩
   rw [hsl] at hcp;have HCP:=zh hcp;have HOP2:=zh hop2;have HB2:=zh hbw2;have HSL:=zh (And.intro hSL hsl);clear hcp hop2 hbw2 ho2 hrow2 hSL hsl e1 e2 e3;go_wp2_with fail;refine HCP.o.mono ?_;rintro e w3 ⟨rfl,hrow3,ho3⟩;obtain ⟨R,hR⟩:=xE (dd SL l.length);rw [<-hR] at hrow3 ⊢;have hRl:R.length<=1000:=by rw [hR];have:=ZG9 SL l.length;omega
   have hRl2:(R.length:Int)<=1000:=by omega
   have hop3:w3.ownsRow w.heap.size 298 3 (.slice (some ⟨gp,0,none⟩) l.length pc) (l.length+0) (Zn (sins l++fins (R.take 0))):=by
    simp only [List.take_zero,fins,List.map_nil,List.append_nil,Nat.add_zero];exact HOP2.o.kept (row:=some gl) ⟨ho3.os,ho3.tape,ho3.output,ho3.size,fun k hk hne=>ho3.block k hk (fun e=>hne (by rw [e]))⟩ (.inr (by simp [Value.ownBlock,hgne]))
   have hb3:Bl w w3:=⟨ho3.os.trans HB2.o.os,ho3.tape.trans HB2.o.tape,ho3.output.trans HB2.o.output,ZLi HB2.o.size ho3.size,fun k hk=>(ho3.block k (ZLq hk HB2.o.size) (by omega)).trans (HB2.o.block k hk)⟩
   have HST2:=zh (show ZGr w l R gl (.slice (some ⟨gp,0,none⟩) l.length pc) (.int .i64 (0:Nat)) w3 from ⟨0,by omega,rfl,hop3,hrow3,hb3⟩);have HRR:=zh hR;clear hop3 hb3 hrow3 ho3 hR;go_wp2_with fail
   go_loopw [3,8,41] (fun vp _ i wr=>ZGr w l R gl vp i wr) (fun _ _ i _=>R.length - (intOf i).toNat)
   case atStart=>exact HST2.o
   case round=>
    obtain ⟨j,hj,rfl,hop,hrow,hbel⟩:=hrel
    by_cases hlt:j < R.length
    ·have hlt2:(j:Int) < R.length:=by omega
     have c1:wr.cell? ⟨gl,j,none⟩=some (.int .u64 (R.getD j 0)):=hrow.cell j hlt;obtain ⟨x,hx⟩:=xE (R.getD j 0);have htk:R.take (j+1)=R.take j++[x]:=by rw [List.take_add_one,ZLg hlt,hx];simp [List.getD,hlt]
     rw [<-hx] at c1;have HP:=zh htk;have HO:=zh hop;have HR3:=zh hrow;have HB3:=zh hbel;clear hop hrow hbel hx htk;go_wp2_with (at_builtin;refine ZS Qb rfl _ _ rfl HO.o rfl rfl ?c1 rfl ?c2 ?c3 ?c4 ?c5 ?_)
     case c1=>rfl
     case c2=>first|rfl|exact ⟨rfl,rfl⟩|exact ⟨rfl,rfl,rfl⟩
     case c3=>unfold maxLen;omega
     case c4=>omega
     case c5=>exact HB3.o.size
     intro g4 cap4 w4 hop4 hgr4 hg4;have hrow4:=HR3.o.of_block (hgr4.block gl HR3.o.lt (ZEC HO.o HR3.o (by decide)));have hb4:Bl w w4:=HB3.o.grown hgr4 HB3.o.size (fun b hb=>(HO.o.lt b hb).1)
     have G:=zh (show ZGr w l R gl (.slice (some ⟨g4,0,none⟩) (l.length+j+1) cap4) (.int .i64 ((j+1:Nat):Int)) w4 from ⟨j+1,by omega,rfl,by
      rw [HP.o,ZFf,<-List.append_assoc,Vl];exact hop4,hrow4,hb4⟩)
     clear hop4 hgr4 hg4 hrow4 hb4;go_wp2_with fail;go_roundw
     case rel=>simpa using G.o
     case measure=>simp [intOf];omega
    ·obtain rfl:j=R.length:=by omega
     rw [List.take_length] at hop;have HO:=zh hop;have HB3:=zh hbel;clear hop hrow hbel hlt hj;go_wp2_with (at_builtin;refine ZS Qb rfl _ _ rfl HO.o rfl rfl ?c1 rfl ?c2 ?c3 ?c4 ?c5 ?_)
     case c1=>rfl
     case c2=>first|rfl|exact ⟨rfl,rfl⟩|exact ⟨rfl,rfl,rfl⟩
     case c3=>unfold maxLen;omega
     case c4=>omega
     case c5=>exact HB3.o.size
     intro g4 cap4 w4 hop4 hgr4 hg4;have hb4:Bl w w4:=HB3.o.grown hgr4 HB3.o.size (fun b hb=>(HO.o.lt b hb).1);have hpl:Zk l=sins l++fins R++[⟨3,0,0⟩]:=by rw [HRR.o,HSL.o.1,HLL.o];unfold Zk Yv;rw [Ub,ZLj]
     have hpn:(Zk l).length=l.length+R.length+1:=by rw [hpl,ZLc,ZLc,sins,fins,ZLj,ZLj];rfl
     have G:=zh (show w4.ownsRow w.heap.size 298 3 (.slice (some ⟨g4,0,none⟩) (Zk l).length cap4) (Zk l).length (Zn (Zk l)) by
      rw [hpn,hpl,Vl];exact hop4)
     have HPN:=zh hpn;have HB4:=zh hb4;clear hop4 hgr4 hg4 hb4 hpl hpn;go_wp2;go_returns;exact ⟨g4,cap4,by rw [HPN.o];rfl,G.o,HB4.o⟩
theorem ZLM {w:World}{A:DAd}{s:DSt}{F:Nat->Option ZM}(h:Dev w A s F)(hoff:s.off=false){i:Nat}(hi:i < 8):
 Calls prog 107 #[ptr (A.t i),.bool true] w fun r w'=>r=.returned (.bool true)/\w=w':=by
 have c0:w.cell? ⟨A.t i,0,none⟩=some (.pointer (some ⟨A.d,0,none⟩)):=(h.thr i hi).cell 0 (by omega);have c1:w.cell? ⟨A.d,11,none⟩=some (.bool s.off):=h.dev.cell 11 (by omega);rw [hoff] at c1;clear h;simp only [ptr];go_in;go_wp2;go_returns;exact ⟨rfl,rfl⟩
def ZKe (w:World)(A:DAd)(F:Nat->Option ZM)(L:Nat)(c:Nat->Nat)(x:Nat)(w':World):Prop:=∃ s' F',Dev w' A s' F'/\Qt s' c/\s'.L=L/\s'.ex<=x/\Moved F F' w w'
end
end Go.Proofs.YtbpeehmepehkdaaGreatDoor.Dv
namespace Go.Proofs.YtbpeehmepehkdaaGreatDoor.Size
open Tryz
section
open Go.RowKit
def wds (c:Int):Int:=if c=0 then 3 else if c=1 then 7 else if c=2 then 15 else if c=3 then 31 else if c=4 then 60 else 0
theorem wds_cases (c:Int):(c < 0\/5<=c)/\wds c=0\/c=0/\wds c=3\/c=1/\wds c=7\/c=2/\wds c=15\/c=3/\wds c=31\/c=4/\wds c=60:=by
 unfold wds
 repeat' split
 all_goals omega
def per (c:Int):Int:=if c=0 then 62 else if c=1 then 31 else if c=2 then 15 else if c=3 then 7 else if c=4 then 4 else 0
def cls (n:Int):Int×Int:=if n < 1 then (0,1) else if n<=3 then (0,0) else if n<=7 then (1,0) else if n<=15 then (2,0) else if n<=31 then (3,0) else if n<=60 then (4,0) else (0,9)
structure Tab (w:World):Prop where
 c0:w.cell? ⟨0,0,none⟩=some (.int .i64 3)
 c1:w.cell? ⟨0,1,none⟩=some (.int .i64 7)
 c2:w.cell? ⟨0,2,none⟩=some (.int .i64 15)
 c3:w.cell? ⟨0,3,none⟩=some (.int .i64 31)
 c4:w.cell? ⟨0,4,none⟩=some (.int .i64 60)
theorem words_any (c:Int)(w:World)(T:Tab w):
 Calls prog 123 #[.int .i64 c] w fun e w'=>e=.returned (.int .i64 (wds c))/\w=w':=by
 obtain ⟨h0,h1,h2,h3,h4⟩:=T;rcases (show c < 0\/5<=c\/c=0\/c=1\/c=2\/c=3\/c=4 by omega) with h|h|rfl|rfl|rfl|rfl|rfl
 ·have hw:wds c=0:=by have:=wds_cases c;omega
  rw [hw];clear hw;go_in;go_wp2
  go_ret
  exact ⟨rfl,rfl⟩
 ·have hw:wds c=0:=by have:=wds_cases c;omega
  rw [hw];clear hw;go_in;go_wp2
  go_ret
  exact ⟨rfl,rfl⟩
 all_goals
  go_in;go_wp2
  go_ret
  exact ⟨rfl,rfl⟩
theorem per_any (c:Int)(w:World)(T:Tab w):
 Calls prog 117 #[.int .i64 c] w fun e w'=>e=.returned (.int .i64 (per c))/\w=w':=by
 rcases wds_cases c with ⟨h,hw⟩|⟨rfl,hw⟩|⟨rfl,hw⟩|⟨rfl,hw⟩|⟨rfl,hw⟩|⟨rfl,hw⟩
 ·have hp:per c=0:=by unfold per;repeat (rw [if_neg (by omega)])
  rw [hp];clear hp;have HW:=Lib.hid hw;clear hw;go_in;go_wp2_with fail;refine (words_any c _ T).mono ?_;rintro e w' ⟨rfl,rfl⟩;rw [HW.out];go_wp2
  go_ret
  exact ⟨rfl,rfl⟩
 all_goals
  have HW:=Lib.hid hw;clear hw;go_in;go_wp2_with fail;refine (words_any _ _ T).mono ?_;rintro e w' ⟨rfl,rfl⟩;rw [HW.out];go_wp2
  go_ret
  exact ⟨rfl,rfl⟩
theorem class_any (n:Int)(w:World)(T:Tab w):
 Calls prog 142 #[.int .i64 n] w fun e w'=>e=.returned (.tuple #[.int .i64 (cls n).1,.int .i64 (cls n).2])/\w=w':=by
 obtain ⟨h0,h1,h2,h3,h4⟩:=T;rcases (show n < 1\/(1<=n/\n<=3)\/(3 < n/\n<=7)\/(7 < n/\n<=15)\/(15 < n/\n<=31)\/(31 < n/\n<=60)\/60 < n by omega) with h|h|h|h|h|h|h
 all_goals
  first
  |have hc:cls n=(0,1):=by simp [cls,h]
  |have hc:cls n=(0,9):=by unfold cls;repeat (rw [if_neg (by omega)])
  |have hc:cls n=(0,0):=by unfold cls;repeat (first|rw [if_pos (by omega)]|rw [if_neg (by omega)])
  |have hc:cls n=(1,0):=by unfold cls;repeat (first|rw [if_pos (by omega)]|rw [if_neg (by omega)])
  |have hc:cls n=(2,0):=by unfold cls;repeat (first|rw [if_pos (by omega)]|rw [if_neg (by omega)])
  |have hc:cls n=(3,0):=by unfold cls;repeat (first|rw [if_pos (by omega)]|rw [if_neg (by omega)])
  |have hc:cls n=(4,0):=by unfold cls;repeat (first|rw [if_pos (by omega)]|rw [if_neg (by omega)])
 all_goals
  rw [hc];clear hc;go_in;go_wp2
 ·go_ret2
  exact ⟨rfl,rfl⟩
 all_goals
  go_rounds 6
  go_ret2
  exact ⟨rfl,rfl⟩
def off (c i:Int):Int×Int:=if per c=0 then (0,1) else if i < 0\/per c<=i then (0,2) else (8+i * (wds c+1),0)
theorem Tab.cell {w:World}(T:Tab w)(k:Nat)(hk:k < 5):w.cell? ⟨0,k,none⟩=some (.int .i64 (wds k)):=by
 rcases (show k=0\/k=1\/k=2\/k=3\/k=4 by omega) with rfl|rfl|rfl|rfl|rfl
 ·exact T.c0
 ·exact T.c1
 ·exact T.c2
 ·exact T.c3
 ·exact T.c4
theorem ZEA (k:Nat)(s p i:Int)(w:World)(T:Tab w)(hk:k < 5)(hc:w.cell? ⟨0,k,none⟩=some (.int .i64 s))(hp:per k=p)(s0:1<=s)(s1:s<=60)(p0:1<=p)(p1:p<=62):
 Calls prog 241 #[.int .i64 k,.int .i64 i] w fun e w'=>e=.returned (.tuple #[.int .i64 (if i < 0\/p<=i then (0,2) else (8+i * (s+1),0):Int×Int).1,.int .i64 (if i < 0\/p<=i then (0,2) else (8+i * (s+1),0):Int×Int).2])/\w=w':=by
 have HP:=Lib.hid hp;clear hp;have hne:(p == 0)=false:=by simp;omega
 rcases (show i < 0\/(0<=i/\p<=i)\/(0<=i/\i < p) from by omega) with h|⟨hi,h⟩|⟨hi,h⟩
 ·rw [if_pos (.inl h)]
  go_in;go_wp2_with fail;refine (per_any _ _ T).mono ?_;rintro e w' ⟨rfl,rfl⟩;rw [HP.out];go_wp2_with fail
  go_ret2
  exact ⟨rfl,rfl⟩
 ·rw [if_pos (.inr h)]
  go_in;go_wp2_with fail;refine (per_any _ _ T).mono ?_;rintro e w' ⟨rfl,rfl⟩;rw [HP.out];go_wp2_with fail
  go_ret2
  exact ⟨rfl,rfl⟩
 ·rw [if_neg (by omega)]
  have hn0:0<=i * (s+1):=Int.mul_nonneg (by omega) (by omega);have hn1:i * (s+1)<=62 * 61:=Int.mul_le_mul (by omega) (by omega) (by omega) (by omega);go_in;go_wp2_with fail;refine (per_any _ _ T).mono ?_;rintro e w' ⟨rfl,rfl⟩;rw [HP.out];go_wp2_with fail
  go_ret2
  exact ⟨rfl,rfl⟩
theorem offset_any (c i:Int)(w:World)(T:Tab w):
 Calls prog 241 #[.int .i64 c,.int .i64 i] w fun e w'=>e=.returned (.tuple #[.int .i64 (off c i).1,.int .i64 (off c i).2])/\w=w':=by
 rcases wds_cases c with ⟨h,hw⟩|⟨rfl,hw⟩|⟨rfl,hw⟩|⟨rfl,hw⟩|⟨rfl,hw⟩|⟨rfl,hw⟩
 ·have hp:per c=0:=by unfold per;repeat (rw [if_neg (by omega)])
  have ho:off c i=(0,1):=by unfold off;rw [if_pos hp]
  rw [ho];clear ho;have HP:=Lib.hid hp;clear hp hw;go_in;go_wp2_with fail;refine (per_any c _ T).mono ?_;rintro e w' ⟨rfl,rfl⟩;rw [HP.out];go_wp2_with fail
  go_ret2
  exact ⟨rfl,rfl⟩
 all_goals
  refine ZEA _ _ _ i w T (by decide) (Tab.cell T _ (by decide)) rfl (by decide) (by decide) (by decide) (by decide)
def fnd (c x:Int):Int×Bool:=if per c=0\/x<=8\/256<=x then (0,false) else if ¬ (x - 8 - 1) % (wds c+1)=0\/per c<=(x - 8 - 1) / (wds c+1) then (0,false) else ((x - 8 - 1) / (wds c+1),true)
theorem ZIj (c x:Int)(w:World)(T:Tab w)(h:per c=0\/x<=8\/256<=x)(p0:0<=per c)(p1:per c<=62):
 Calls prog 192 #[.int .i64 c,.int .i64 x] w fun e w'=>e=.returned (.tuple #[.int .i64 0,.bool false])/\w=w':=by
 generalize hp:per c=p at *;have HP:=Lib.hid hp;clear hp
 by_cases hz:p=0
 ·subst hz;clear h
  go_in;go_wp2_with fail;refine (per_any _ _ T).mono ?_;rintro e w' ⟨rfl,rfl⟩;rw [HP.out];go_wp2_with fail
  go_ret2
  exact ⟨rfl,rfl⟩
 ·have hne:(p == 0)=false:=by simp;omega
  rcases (show x<=8\/(8 < x/\256<=x) by omega) with h'|⟨h8,h'⟩
  all_goals
   clear h hz;go_in;go_wp2_with fail;refine (per_any _ _ T).mono ?_;rintro e w' ⟨rfl,rfl⟩;rw [HP.out];go_wp2_with fail
   go_ret2
   exact ⟨rfl,rfl⟩
theorem Vi (k:Nat) (s p x:Int) (w:World) (T:Tab w) (hk:k < 5) (hc:w.cell? ⟨0,k,none⟩=some (.int .i64 s)) (hp:per k=p) (s0:1<=s) (s1:s<=60) (p0:1<=p) (p1:p<=62) (hi:8 < x) (h:x < 256) (r:Int×Bool)
 (hr:r=if ¬ (x - 8 - 1) % (s+1)=0\/p<=(x - 8 - 1) / (s+1) then (0,false) else ((x - 8 - 1) / (s+1),true)):
 Calls prog 192 #[.int .i64 k,.int .i64 x] w fun e w'=>e=.returned (.tuple #[.int .i64 r.1,.bool r.2])/\w=w':=by
 have HP:=Lib.hid hp;clear hp;have hne:(p == 0)=false:=by simp;omega
 by_cases hm:(x - 8 - 1) % (s+1)=0
 ·by_cases hq:p<=(x - 8 - 1) / (s+1)
  ·rw [if_pos (.inr hq)] at hr
   subst hr;go_in;go_wp2_with fail;refine (per_any _ _ T).mono ?_;rintro e w' ⟨rfl,rfl⟩;rw [HP.out];go_wp2_with fail
   go_ret2
   exact ⟨rfl,rfl⟩
  ·rw [if_neg (by rintro (a|a);exact a hm;exact hq a)] at hr
   subst hr;go_in;go_wp2_with fail;refine (per_any _ _ T).mono ?_;rintro e w' ⟨rfl,rfl⟩;rw [HP.out];go_wp2_with fail
   go_ret2
   exact ⟨rfl,rfl⟩
 ·rw [if_pos (.inl hm)] at hr
  subst hr;have hmb:((x - 8 - 1) % (s+1) != 0)=true:=by simpa using hm
  go_in;go_wp2_with fail;refine (per_any _ _ T).mono ?_;rintro e w' ⟨rfl,rfl⟩;rw [HP.out];go_wp2_with fail
  go_ret2
  exact ⟨rfl,rfl⟩
theorem ZHm (c:Int):0<=per c/\per c<=62:=by unfold per;repeat' split
                                            all_goals omega
theorem find_any (c x:Int)(w:World)(T:Tab w):
 Calls prog 192 #[.int .i64 c,.int .i64 x] w fun e w'=>e=.returned (.tuple #[.int .i64 (fnd c x).1,.bool (fnd c x).2])/\w=w':=by
 by_cases h:per c=0\/x<=8\/256<=x
 ·have:fnd c x=(0,false):=by unfold fnd;rw [if_pos h]
  rw [this];exact ZIj c x w T h (ZHm c).1 (ZHm c).2
 ·have hx:8 < x/\x < 256:=by omega
  have hp:per c≠0:=by omega
  have hr:fnd c x=if ¬ (x - 8 - 1) % (wds c+1)=0\/per c<=(x - 8 - 1) / (wds c+1) then (0,false) else ((x - 8 - 1) / (wds c+1),true):=by unfold fnd;rw [if_neg h]
  rcases wds_cases c with ⟨h',_⟩|⟨rfl,hw⟩|⟨rfl,hw⟩|⟨rfl,hw⟩|⟨rfl,hw⟩|⟨rfl,hw⟩
  ·exact absurd (by unfold per;repeat (rw [if_neg (by omega)])) hp
  ·exact Vi 0 _ _ x w T (by decide) (Tab.cell T _ (by decide)) rfl (by decide) (by decide) (by decide) (by decide) hx.1 hx.2 _ hr
  ·exact Vi 1 _ _ x w T (by decide) (Tab.cell T _ (by decide)) rfl (by decide) (by decide) (by decide) (by decide) hx.1 hx.2 _ hr
  ·exact Vi 2 _ _ x w T (by decide) (Tab.cell T _ (by decide)) rfl (by decide) (by decide) (by decide) (by decide) hx.1 hx.2 _ hr
  ·exact Vi 3 _ _ x w T (by decide) (Tab.cell T _ (by decide)) rfl (by decide) (by decide) (by decide) (by decide) hx.1 hx.2 _ hr
  ·exact Vi 4 _ _ x w T (by decide) (Tab.cell T _ (by decide)) rfl (by decide) (by decide) (by decide) (by decide) hx.1 hx.2 _ hr
end
end Go.Proofs.YtbpeehmepehkdaaGreatDoor.Size
namespace Go.Proofs.YtbpeehmepehkdaaGreatDoor.Dv
open Tryz
section
open Go.RowKit
def u8v (n:Nat):Value:=.int .u8 n
def XJ (T:Nat->Nat)(r:Nat)(l:List Nat):Nat:=l.foldl (UH T) r
def ZFU (T:Nat->Nat)(l:List Nat):Nat:=4294967295 ^^^ XJ T 4294967295 l
theorem ZB8 (T:Nat->Nat)(r:Nat)(l:List Nat)(x:Nat):XJ T r (l++[x])=UH T (XJ T r l) x:=by simp [XJ]
theorem Vz {w:World}{T:Nat->Nat}(hT:NTab w T):∀ (l:List Nat) {r:Nat},r < 4294967296->(∀ x∈l,x < 256)->XJ T r l < 4294967296
 |[],r,h,_=>h
 |a:: l,r,h,hl=>Vz hT l (ZCE hT h (hl a List.mem_cons_self)) (fun x hx=>hl x (List.mem_cons_of_mem _ hx))
theorem ZBR {w:World}{T:Nat->Nat}(hT:NTab w T){l:List Nat}(hl:∀ x∈l,x < 256):ZFU T l < 4294967296:=Nat.xor_lt_two_pow (n:=32) (by omega) (Vz hT l (by omega) hl)
def ZLE (T:Nat->Nat)(l:List Nat)(r i:Value):Prop:=∃ k:Nat,k<=l.length/\i=.int .i64 (k:Nat)/\r=.int .u32 (XJ T 4294967295 (l.take k))
theorem ZEY {w:World}{T:Nat->Nat}(hT:NTab w T){b o c:Nat}{l:List Nat}(hs:Seen w b o (l.map u8v))(hl:∀ x∈l,x < 256)(hn:l.length<=1000000):
 Calls prog 316 #[.int .u32 0,.slice (some ⟨b,o,none⟩) l.length c] w fun e w'=>e=.returned (.int .u32 (ZFU T l))/\w=w':=by
 have HT:=zh hT;have HS:=zh hs;have HL:=zh hl;have hn2:(l.length:Int)<=1000000:=by omega
 have HST:=zh (fun (r b:Nat) (hr:r < 4294967296) (hb:b < 256)=>ZDG hT r b hr hb);have hun0:=Jg 0 (by omega);rw [show (4294967295 ^^^ 0:Nat)=4294967295 from rfl,show ((0:Nat):Int)=0 from rfl] at hun0;clear hT hs hl;go_in;go_wp2_with fail
 go_loop [5,7,12] (fun r _ i=>ZLE T l r i) (fun _ _ i=>l.length - (intOf i).toNat)
 case atStart=>exact ⟨0,by omega,rfl,rfl⟩
 case round=>
  obtain ⟨k,hk,rfl,rfl⟩:=hrel
  by_cases hlt:k < l.length
  ·have hlt2:(k:Int) < l.length:=by omega
   obtain ⟨x,hx⟩:=xE (l[k]);have c1:w.cell? ⟨b,o+k,none⟩=some (.int .u8 x):=HS.o k _ (by rw [List.getElem?_map,ZLg hlt,hx];rfl);have hx8:x < 256:=HL.o x (by rw [hx];exact ZLl hlt);have hsn:XJ T 4294967295 (l.take (k+1))=UH T (XJ T 4294967295 (l.take k)) x:=by rw [List.take_add_one,ZLg hlt,<-hx];exact ZB8 _ _ _ _
   have hR:=Vz HT.o (l.take k) (r:=4294967295) (by omega) (fun y hy=>HL.o y (List.mem_of_mem_take hy));obtain ⟨R,hRR⟩:=xE (XJ T 4294967295 (l.take k));rw [<-hRR] at hsn hR ⊢;have HSN:=zh hsn;have HS2:=zh (HST.o R x hR hx8);clear hsn hx hRR;go_wp2_with fail;refine HS2.o.mono ?_;rintro e w' ⟨rfl,rfl⟩;go_wp2_with fail;go_round
   case rel=>exact ⟨k+1,by omega,by go_num,by rw [HSN.o]⟩
   case measure=>simp [intOf];omega
  ·obtain rfl:k=l.length:=by omega
   rw [List.take_length];have hR:=Vz HT.o l (r:=4294967295) (by omega) HL.o;have hun:=Jg (XJ T 4294967295 l) hR;rw [show (4294967295 ^^^ XJ T 4294967295 l:Nat)=ZFU T l from rfl] at hun;generalize XJ T 4294967295 l=R at hR hun ⊢;have hR2:(R:Int) < 4294967296:=by omega
   clear hlt;go_wp2;go_returns;exact ⟨rfl,rfl⟩
theorem ZJQ {w:World}{T:Nat->Nat}(hT:NTab w T){b o c:Nat}{l:List Nat}(hs:Seen w b o (l.map u8v))(hl:∀ x∈l,x < 256)(hn:l.length<=1000000):
 Calls prog 299 #[.slice (some ⟨b,o,none⟩) l.length c] w fun e w'=>e=.returned (.int .u32 (ZFU T l))/\w=w':=by
 have HU:=zh (ZEY (c:=c) hT hs hl hn);clear hT hs hl;go_in;go_wp2_with fail;refine HU.o.mono ?_;rintro e w' ⟨rfl,rfl⟩;go_wp2;go_returns;exact ⟨rfl,rfl⟩
def ZGn (w w':World):Prop:=(∀ b o,b < w.heap.size->w'.cell? ⟨b,o,none⟩=w.cell? ⟨b,o,none⟩)/\(∀ b o,b < w.heap.size->w'.frozen? ⟨b,o,none⟩=w.frozen? ⟨b,o,none⟩)/\(∀ b,b < w.heap.size->b < w'.heap.size)/\Hd (Bl w w')
theorem ZKs {w w':World}(hb:Bl w w'):ZGn w w':=
 ⟨fun b o h=>hb.cell (p:=⟨b,o,none⟩) h,fun b o h=>hb.frozen (p:=⟨b,o,none⟩) h,fun b h=>ZLq h hb.size,zh hb⟩
theorem ZE {a w:World}{b i:Nat}{v:Value}(h:Bl a w)(hb:a.heap.size<=b):Bl a (w.setCell ⟨b,i,none⟩ v):=h.setCell (p:=⟨b,i,none⟩) hb v
theorem ZJ {a:World}{b:Nat}(vs:List Value):∀ {w:World} {i:Nat},Bl a w->a.heap.size<=b->Bl a (w.setCells b i vs):=by
 induction vs with
 |nil=>exact fun h _=>h
 |cons v vs ih=>exact fun h hb=>ih (ZE h hb) hb
theorem VA {P:Program}{f:FuncId}{args:Array Value}{a w:World}{R:Ending->Prop}(h:Calls P f args w fun e w'=>R e/\Bl w w')(hb:Bl a w):
 Calls P f args w fun e w'=>R e/\Bl a w'/\ZGn w w':=
 h.mono (fun e w' h=>⟨h.1,hb.trans (h.2.mono hb.size),ZKs h.2⟩)
end
end Go.Proofs.YtbpeehmepehkdaaGreatDoor.Dv
namespace Go.Proofs.YtbpeehmepehkdaaGreatDoor.Size
open Tryz
section
open Go.RowKit
variable {w w':World}
theorem Tab.lt (h:Tab w):0 < w.heap.size:=ZLf _ _ h.c0
theorem Tab.of_block (h:Tab w)(hb:w'.heap[(0:Nat)]?=w.heap[(0:Nat)]?):Tab w':=
 ⟨(ZLo hb).trans h.c0,(ZLo hb).trans h.c1,(ZLo hb).trans h.c2,(ZLo hb).trans h.c3,(ZLo hb).trans h.c4⟩
theorem Tab.below (h:Tab w)(hb:Bl w w'):Tab w':=h.of_block (hb.block _ h.lt)
end
end Go.Proofs.YtbpeehmepehkdaaGreatDoor.Size
namespace Go.Proofs.YtbpeehmepehkdaaGreatDoor.Dv
open Tryz
section
open Go.RowKit Go.Proofs.YtbpeehmepehkdaaGreatDoor.Size
structure On (s:DSt)(c:Nat->Nat):Prop where
 off:s.off=false
 err:∀ i,s.err i=0
 cur:∀ x,s.cur x=c x
theorem Qt.on {s:DSt}{c:Nat->Nat}(h:Qt s c):On s c:=⟨h.off,h.err,h.cur⟩
structure Ar (w:World)(A:DAd)(F:Nat->Option ZM)(L:Nat)(T c:Nat->Nat):Prop where
 dev:∃ s,Dev w A s F/\On s c/\s.L=L
 nib:NTab w T
 tab:Tab w
 fn:F 1=none
 fp:F 0=none
structure Aq (w:World)(A:DAd)(F:Nat->Option ZM)(L:Nat)(T c:Nat->Nat)(x:Nat):Prop where
 dev:∃ s,Dev w A s F/\Qt s c/\s.L=L/\s.ex<=x
 nib:NTab w T
 tab:Tab w
 fn:F 1=none
 fp:F 0=none
variable {w w':World}{A:DAd}{F F':Nat->Option ZM}{L:Nat}{T c c':Nat->Nat}{x x':Nat}
theorem Aq.ar (h:Aq w A F L T c x):Ar w A F L T c:=by
 obtain ⟨s,h1,h2,h3,_⟩:=h.dev;exact ⟨⟨s,h1,h2.on,h3⟩,h.nib,h.tab,h.fn,h.fp⟩
theorem Ar.below (h:Ar w A F L T c)(hb:Bl w w'):Ar w' A F L T c:=by
 obtain ⟨s,h1,h2⟩:=h.dev;exact ⟨⟨s,h1.below hb,h2⟩,h.nib.below hb nR,h.tab.of_block (hb.block _ h.tab.lt),h.fn,h.fp⟩
theorem Aq.below (h:Aq w A F L T c x)(hb:Bl w w'):Aq w' A F L T c x:=by
 obtain ⟨s,h1,h2⟩:=h.dev;exact ⟨⟨s,h1.below hb,h2⟩,h.nib.below hb nR,h.tab.of_block (hb.block _ h.tab.lt),h.fn,h.fp⟩
theorem Aq.agree (h:Aq w A F L T c x)(hag:∀ k,(F k≠none\/k=1\/k=0)->w'.heap[k]?=w.heap[k]?)(hs:w.heap.size<=w'.heap.size):Aq w' A F L T c x:=by
 obtain ⟨s,h1,h2⟩:=h.dev;exact ⟨⟨s,h1.of_agree (fun k hk=>hag k (.inl hk)) hs,h2⟩,h.nib.of_block (hag _ (.inr (.inl rfl))),h.tab.of_block (hag _ (.inr (.inr rfl))),h.fn,h.fp⟩
theorem Ar.agree (h:Ar w A F L T c)(hag:∀ k,(F k≠none\/k=1\/k=0)->w'.heap[k]?=w.heap[k]?)(hs:w.heap.size<=w'.heap.size):Ar w' A F L T c:=by
 obtain ⟨s,h1,h2⟩:=h.dev;exact ⟨⟨s,h1.of_agree (fun k hk=>hag k (.inl hk)) hs,h2⟩,h.nib.of_block (hag _ (.inr (.inl rfl))),h.tab.of_block (hag _ (.inr (.inr rfl))),h.fn,h.fp⟩
theorem Ar.lines (h:Ar w A F L T c):1<=L/\L<=4096:=by
 obtain ⟨s,h1,h2,rfl⟩:=h.dev;exact h1.ok.lines
theorem Ar.word_lt (h:Ar w A F L T c)(k:Nat):c k < 18446744073709551616:=by
 obtain ⟨s,h1,h2,rfl⟩:=h.dev;rw [<-h2.cur];exact ZG8 h1.ok k
theorem Aq.mono (h:Aq w A F L T c x)(hx:x<=x'):Aq w A F L T c x':=by
 obtain ⟨s,h1,h2,h3,h4⟩:=h.dev;exact ⟨⟨s,h1,h2,h3,by omega⟩,h.nib,h.tab,h.fn,h.fp⟩
theorem Aq.congr (h:Aq w A F L T c x)(hc:∀ k,c' k=c k):Aq w A F L T c' x:=by
 obtain rfl:c'=c:=funext hc;exact h
theorem ZI0 (h:Ar w A F L T c){i:Nat}(hi:i < 8){off:Nat}(h8:off % 8=0)(hL:off < 64 * L):
 Calls prog 52 #[ptr (A.t i),.int .u64 off] w fun r w'=>r=.returned (u64 (c (off / 8)))/\w=w':=by
 obtain ⟨s,hd,q,rfl⟩:=h.dev;clear h;have h:=hd;clear hd;have hL':=h.ok.lines;have hlt:off / 8 < 8 * s.L:=by omega
 have c0:w.cell? ⟨A.t i,0,none⟩=some (.pointer (some ⟨A.d,0,none⟩)):=(h.thr i hi).cell 0 (by omega);have c1:w.cell? ⟨A.d,1,none⟩=some (.slice (some ⟨A.cur,0,none⟩) (8 * s.L) A.cap):=h.dev.cell 1 (by omega);have c2:w.cell? ⟨A.cur,off / 8,none⟩=some (.int .u64 (c (off / 8))):=by rw [<-q.cur];exact h.cur.cell _ hlt
 have hw2:=ZDS h hi off (by omega);have hw:s.word off=true:=by unfold DSt.word;simp;omega
 rw [hw] at hw2;have HW:=zh hw2;have HO:=zh (ZLM h q.off hi);have hlt2:(off:Int) / 8 < ((8 * s.L:Nat):Int):=by omega
 have ho2:(off:Int) < 18446744073709551616:=by omega
 clear h hw2 hw hL hL' h8;unfold u64;simp only [ptr];go_in;go_wp2_with fail;refine HW.o.mono ?_;rintro e w' ⟨rfl,rfl⟩;go_wp2_with fail;refine HO.o.mono ?_;rintro e w' ⟨rfl,rfl⟩;go_wp2;go_returns;exact ⟨rfl,rfl⟩
theorem ZJz (h:Ar w A F L T c){i:Nat}(hi:i < 8):
 Calls prog 78 #[ptr (A.t i)] w fun r w'=>r=.returned (.int .i64 (0:Nat))/\w=w':=by
 obtain ⟨s,h1,h2,rfl⟩:=h.dev;have:=ZEp h1 hi;rw [h2.err i] at this;exact this
theorem ZJM (h:Ar w A F L T c){i:Nat}(hi:i < 8):
 Calls prog 354 #[ptr (A.t i)] w fun r w'=>r=.returned (u64 (L * 64:Nat))/\w=w':=by
 obtain ⟨s,h1,h2,rfl⟩:=h.dev;exact ZA9 h1 hi
def Ra (w:World)(A:DAd)(F:Nat->Option ZM)(L:Nat)(T c:Nat->Nat)(x:Nat)(w':World):Prop:=∃ F',Aq w' A F' L T c x/\Moved F F' w w'
theorem ZJC (h:Aq w A F L T c x)(hr:ZKe w A F L c' x' w'):Ra w A F L T c' x' w':=by
 obtain ⟨s',F',h1,h2,h3,h4,hm⟩:=hr;refine ⟨F',⟨⟨s',h1,h2,h3,h4⟩,h.nib.of_block (hm.only.block _ h.nib.lt (by simp [h.fn])),h.tab.of_block (hm.only.block _ h.tab.lt (by simp [h.fp])),?_,?_⟩,hm⟩
 ·rw [hm.same _ h.nib.lt];exact h.fn
 ·rw [hm.same _ h.tab.lt];exact h.fp
theorem Y4 (h:Ar w A F L T c){i:Nat}(hi:i < 8)(w1:World)(hb:Bl w w1)(off:Nat)(h8:off % 8=0)(hL:off < 64 * L):
 Calls prog 52 #[.pointer (some ⟨A.t i,0,none⟩),.int .u64 off] w1 fun r w'=>r=.returned (.int .u64 (c (off / 8)))/\w1=w':=ZI0 (h.below hb) hi h8 hL
theorem Zs (h:Ar w A F L T c){i:Nat}(hi:i < 8)(w1:World)(hb:Bl w w1):
 Calls prog 78 #[.pointer (some ⟨A.t i,0,none⟩)] w1 fun r w'=>r=.returned (.int .i64 0)/\w1=w':=ZJz (h.below hb) hi
theorem Xp (h:Ar w A F L T c){i:Nat}(hi:i < 8)(w1:World)(hb:Bl w w1):
 Calls prog 354 #[.pointer (some ⟨A.t i,0,none⟩)] w1 fun r w'=>r=.returned (.int .u64 (L * 64:Nat))/\w1=w':=ZJM (h.below hb) hi
theorem Y5 (w:World)(v:Value)(k:Nat):(nilAhead (k+1) 116 v "Load").run prog w=.ok (some false) w:=by kernel_rfl
theorem Xi {P:Program}{f:FuncId}{args:Array Value}{a b:World}{R:Ending->Prop}(hab:Bl a b)(h:∀ V,Bl a V->Calls P f args V fun e w'=>R e/\Bl V w'):
 ∀ V,Bl b V->Calls P f args V fun e w'=>R e/\Bl b w':=
 fun V hb=>(h V (hab.trans (hb.mono hab.size))).mono fun _ _ k=>⟨k.1,hb.trans (k.2.mono hb.size)⟩
theorem ZBJ {P:Program}{f:FuncId}{args:Array Value}{a b:World}{R:Ending->Prop}(hab:Bl a b)(h:∀ V,Bl a V->Calls P f args V fun e w'=>R e/\V=w'):
 ∀ V,Bl b V->Calls P f args V fun e w'=>R e/\V=w':=
 fun V hb=>h V (hab.trans (hb.mono hab.size))
theorem Uu {w:World}{b:Nat}{e:TypeId}{a0:Value}(h:w.heap[b]?=some (.cells #[a0] e (0,0))):w.cell? ⟨b,0,none⟩=some a0/\w.frozen? ⟨b,0,none⟩=false:=
 ⟨(ZD h).trans rfl,ZH h⟩
theorem Yd {w:World}{b:Nat}{e:TypeId}{a0 a1:Value}(h:w.heap[b]?=some (.cells #[a0,a1] e (0,0))):w.cell? ⟨b,0,none⟩=some a0/\w.cell? ⟨b,1,none⟩=some a1/\w.frozen? ⟨b,0,none⟩=false/\w.frozen? ⟨b,1,none⟩=false:=
 ⟨(ZD h).trans rfl,(ZD h).trans rfl,ZH h,ZH h⟩
theorem ZY {w:World}{b:Nat}{e:TypeId}{a0 a1 a2:Value}(h:w.heap[b]?=some (.cells #[a0,a1,a2] e (0,0))):w.cell? ⟨b,0,none⟩=some a0/\w.cell? ⟨b,1,none⟩=some a1/\w.cell? ⟨b,2,none⟩=some a2/\w.frozen? ⟨b,0,none⟩=false/\w.frozen? ⟨b,1,none⟩=false/\w.frozen? ⟨b,2,none⟩=false:=
 ⟨(ZD h).trans rfl,(ZD h).trans rfl,(ZD h).trans rfl,ZH h,ZH h,ZH h⟩
theorem Ya {w:World}{b:Nat}{e:TypeId}{a0 a1 a2 a3:Value}(h:w.heap[b]?=some (.cells #[a0,a1,a2,a3] e (0,0))):w.cell? ⟨b,0,none⟩=some a0/\w.cell? ⟨b,1,none⟩=some a1/\w.cell? ⟨b,2,none⟩=some a2/\w.cell? ⟨b,3,none⟩=some a3/\w.frozen? ⟨b,0,none⟩=false/\w.frozen? ⟨b,1,none⟩=false/\w.frozen? ⟨b,2,none⟩=false/\w.frozen? ⟨b,3,none⟩=false:=
 ⟨(ZD h).trans rfl,(ZD h).trans rfl,(ZD h).trans rfl,(ZD h).trans rfl,ZH h,ZH h,ZH h,ZH h⟩
theorem ZCp {w:World}{b:Nat}{e:TypeId}{a0 a1 a2 a3 a4:Value}(h:w.heap[b]?=some (.cells #[a0,a1,a2,a3,a4] e (0,0))):w.cell? ⟨b,0,none⟩=some a0/\w.cell? ⟨b,1,none⟩=some a1/\w.cell? ⟨b,2,none⟩=some a2/\w.cell? ⟨b,3,none⟩=some a3/\w.cell? ⟨b,4,none⟩=some a4/\w.frozen? ⟨b,0,none⟩=false/\w.frozen? ⟨b,1,none⟩=false/\w.frozen? ⟨b,2,none⟩=false/\w.frozen? ⟨b,3,none⟩=false/\w.frozen? ⟨b,4,none⟩=false:=
 ⟨(ZD h).trans rfl,(ZD h).trans rfl,(ZD h).trans rfl,(ZD h).trans rfl,(ZD h).trans rfl,ZH h,ZH h,ZH h,ZH h,ZH h⟩
theorem ZI6 {w:World}{b:Nat}{e:TypeId}{a0 a1 a2 a3 a4 a5:Value}(h:w.heap[b]?=some (.cells #[a0,a1,a2,a3,a4,a5] e (0,0))):w.cell? ⟨b,0,none⟩=some a0/\w.cell? ⟨b,1,none⟩=some a1/\w.cell? ⟨b,2,none⟩=some a2/\w.cell? ⟨b,3,none⟩=some a3/\w.cell? ⟨b,4,none⟩=some a4/\w.cell? ⟨b,5,none⟩=some a5/\w.frozen? ⟨b,0,none⟩=false/\w.frozen? ⟨b,1,none⟩=false/\w.frozen? ⟨b,2,none⟩=false/\w.frozen? ⟨b,3,none⟩=false/\w.frozen? ⟨b,4,none⟩=false/\w.frozen? ⟨b,5,none⟩=false:=
 ⟨(ZD h).trans rfl,(ZD h).trans rfl,(ZD h).trans rfl,(ZD h).trans rfl,(ZD h).trans rfl,(ZD h).trans rfl,ZH h,ZH h,ZH h,ZH h,ZH h,ZH h⟩
theorem Z5 {w:World}{b:Nat}{e:TypeId}{a0 a1 a2 a3 a4 a5 a6 a7:Value}(h:w.heap[b]?=some (.cells #[a0,a1,a2,a3,a4,a5,a6,a7] e (0,0))):w.cell? ⟨b,0,none⟩=some a0/\w.cell? ⟨b,1,none⟩=some a1/\w.cell? ⟨b,2,none⟩=some a2/\w.cell? ⟨b,3,none⟩=some a3/\w.cell? ⟨b,4,none⟩=some a4/\w.cell? ⟨b,5,none⟩=some a5/\w.cell? ⟨b,6,none⟩=some a6/\w.cell? ⟨b,7,none⟩=some a7/\w.frozen? ⟨b,0,none⟩=false/\w.frozen? ⟨b,1,none⟩=false/\w.frozen? ⟨b,2,none⟩=false/\w.frozen? ⟨b,3,none⟩=false/\w.frozen? ⟨b,4,none⟩=false/\w.frozen? ⟨b,5,none⟩=false/\w.frozen? ⟨b,6,none⟩=false/\w.frozen? ⟨b,7,none⟩=false:=
 ⟨(ZD h).trans rfl,(ZD h).trans rfl,(ZD h).trans rfl,(ZD h).trans rfl,(ZD h).trans rfl,(ZD h).trans rfl,(ZD h).trans rfl,(ZD h).trans rfl,ZH h,ZH h,ZH h,ZH h,ZH h,ZH h,ZH h,ZH h⟩
end
end Go.Proofs.YtbpeehmepehkdaaGreatDoor.Dv
