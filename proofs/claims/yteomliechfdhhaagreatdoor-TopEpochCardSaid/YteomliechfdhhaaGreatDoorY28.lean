/- Part 28. -/
import Derived.Test.YteomliechfdhhaaGreatDoorY27
import Derived.Lib.LaidTab
set_option maxHeartbeats 8000000
set_option maxRecDepth 20000
set_option linter.all false
namespace Go.Proofs.YteomliechfdhhaaGreatDoor.Dv
open Tryz
section
open Go.RowKit Go.Proofs.YteomliechfdhhaaGreatDoor.Size
variable {w:World}{A:DAd}{F:Nat->Option ZK}{L:Nat}{T c:Nat->Nat}
theorem Yi (w:World)(x y:Value)(t:TypeId):Seen (w.alloc (.cells #[x,y] t)) w.heap.size 0 [x,y]:=by
 intro j v hj;rw [ZLI,ZC (ZB w _)];simpa using hj
theorem UP (h:Ar w A F L T c) {i:Nat} (hi:i < 8) {line:Nat} (hl:line+32<=L) {k:Chk} (hR:CRep T c (8 * line) k) (hk:0<=k.cl) {tk:List (Nat×Nat)} {dr:List Nat} (hc:k.Can tk dr) (hne:0 < tk.length+dr.length) (hlt:tk.length<=100/\dr.length<=100)
 {v1 v2 v3:Value} (h1:Nats w v1 (tk.map (·.1))) (h2:U8s w v2 (tk.map (·.2))) (h3:Nats w v3 dr):
 Calls prog 127 #[chV A i line k,v1,v2,v3] w fun e w'=>∃ v,e=.returned (.tuple #[v,.int .i64 0])/\Wrt w' w.heap.size v (ZO T line k tk dr)/\Bl w w':=by
 have HER:=zh (fun w1 hb=>Zq h hi w1 hb)
 have HON:=zh (fun (b:Nat) w1 (hb:Bl w w1) (hs:Seen w1 b 0 [v1,v3])=>ZEr (A:=A) (i:=i) (line:=line) (h.below hb).tab hR.head (ls:=fun j=>if j=0 then tk.map (·.1) else dr) (vs:=fun j=>if j=0 then v1 else v3) (by
  intro j hj
  by_cases e:j=0
  ·simp only [e,if_true];exact h1.below hb
  ·simp only [e,if_false];exact h3.below hb) (by simpa using hc.nodup) (by simpa using hc.lt) (by
  intro j
  by_cases e:j=0
  ·simp only [e,if_true,ZK7];omega
  ·simp only [e,if_false];omega) hs)
 have HCH:=zh (fun w1 (hb:Bl w w1)=>ZA0 (h.below hb) hi hl hR hk hc hne hlt (h1.below hb) (h2.below hb) (h3.below hb));have HN2:=zh h2;have HCAN:=zh hc;obtain ⟨a1,q1,e1⟩:=h1.len;obtain ⟨a2,q2,e2⟩:=h2.len;obtain ⟨a3,q3,e3⟩:=h3.len;rw [ZK7] at e1 e2;have HB:=zh (ZA (o:=.cells #[.iface 97 (.pointer (some ⟨A.t i,0,none⟩)),.int .i64 line,.int .i64 k.cl,.int .i64 k.ow,.int .u16 k.gen] 195) (Below.refl w.heap.size w));have HC:=zh (CBox.new (w:=w) (A:=A) (i:=i) (line:=line) (k:=k));subst e1;subst e2;subst e3;obtain ⟨NT,hNT⟩:=xE tk.length;obtain ⟨ND,hND⟩:=xE dr.length;have b9:NT<=100:=by omega
 have HNT:=zh hNT;rw [<-hNT] at HON HCH HN2 ⊢;rw [<-hND] at HON HCH ⊢;unfold chV at *;clear h hR hl hi hk hc h1 h2 h3 hlt hNT hND hne;go_in;obtain ⟨W0,hW0⟩:=xE (w.alloc (.cells #[.iface 97 (.pointer (some ⟨A.t i,0,none⟩)),.int .i64 line,.int .i64 k.cl,.int .i64 k.ow,.int .u16 k.gen] 195));rw [<-hW0] at HB HC;go_upto_region 3 with fail;rw [<-hW0];clear hW0;go_wp2_with fail
 go_loop [23] (fun j=>∃ n:Nat,n<=NT/\j=.int .i64 (n:Nat)) (fun j=>NT - (intOf j).toNat)
 case atStart=>exact ⟨0,by omega,rfl⟩
 case round=>
  obtain ⟨n,hn,rfl⟩:=hrel
  by_cases hlt:n < NT
  ·have hlt2:(n:Int) < NT:=by omega
   have hlt3:n < tk.length:=by have:=HNT.o;omega
   obtain ⟨b2,o2,r2,g2,k2⟩:=(HN2.o.below HB.o).at (n:=n) (by rw [ZK7];exact hlt3)
   rw [ZK7,<-HNT.o] at g2;cases g2;rw [List.getElem_map] at k2;obtain ⟨kd,hkd⟩:=xE (tk[n].2);have hkk:=HCAN.o.kind tk[n] (ZLF _);rw [<-hkd] at hkk k2;have d3:((kd:Int) == 0)=false:=by simp;omega
   have d4:¬ (kd:Int) > 127:=by omega
   clear hkd hkk;go_wp2_with fail;go_round
   case rel=>exact ⟨n+1,by omega,by go_num⟩
   case measure=>simp [intOf];omega
  ·obtain rfl:n=NT:=by omega
   have d1:¬ ((n:Int) < n):=by omega
   clear hlt hn
   (try clear c0 c1 c2 c3 c4)
   obtain ⟨c0,c1,c2,c3,c4⟩:=id HC.o;go_wp2_with fail;refine (HON.o _ _ (ZA HB.o) (Yi _ _ _ _)).mono ?_;rintro e v1 ⟨rfl,hb⟩;have hb0:=(ZA (o:=.cells #[.slice a1 n q1,.slice a3 ND q3] 241) (Below.refl W0.heap.size W0)).trans (hb.mono (by simp));replace HC:=zh (HC.o.below hb0);replace HB:=zh (HB.o.trans (hb0.mono HB.o.size));clear hb hb0 HON
   (try clear c0 c1 c2 c3 c4)
   obtain ⟨c0,c1,c2,c3,c4⟩:=id HC.o;go_wp2_with fail;refine (HER.o _ HB.o).mono ?_;rintro e w' ⟨rfl,rfl⟩;go_wp2_with fail;refine (HCH.o _ HB.o).mono ?_;rintro e v2 ⟨rv,rfl,hwr,hb⟩;have HW:=zh hwr;have HB1:=HB;replace HC:=zh (HC.o.below hb);replace HB:=zh (HB.o.trans (hb.mono HB.o.size));clear hb hwr HCH
   (try clear c0 c1 c2 c3 c4)
   obtain ⟨c0,c1,c2,c3,c4⟩:=id HC.o;go_wp2_with fail;refine (HER.o _ HB.o).mono ?_;rintro e w' ⟨rfl,rfl⟩;go_wp2;go_returns;exact ⟨_,rfl,ZAX HW.o HB1.o.size,HB.o⟩
def ZJy (md:Region.Mode)(ops:Array Oper)(z i:Nat)(L:Array Bool):Bool:=(i != z) && ZAq md ops z i && Region.noSelect ops && Region.free md ops L i && (Region.ready md ops L).contains i && !(L.getD z true)
theorem Yr {P:Program} {md:Region.Mode} {ops:Array Oper} {Q:Exit->Act->World->Prop} {S0:World->Prop} {i z:Nat} {oi:Oper} {v:Value} {n:Nat} {L:Array Bool} {a:Act} {w:World} (hi:ops[i]?=some oi) (hc:ZJy md ops z i L=true)
 (hQ:∀ c a w,Q (.panic c) (a.put oi.dst v) w->Q (.panic c) a w) (hS:S0 w) (hg:Region.wanted oi (yielded ops a.tmps)=true) (hy:∀ w',S0 w'->(execOp a.eval oi).run P w'=.ok (.value v) w')
 (h:AnyL P md ops Q (SL z S0) n (L.setIfInBounds i true) (a.put oi.dst v) w):AnyL P md ops Q (SL z S0) (n+1) L a w:=by
 unfold ZJy at hc;simp only [Bool.and_eq_true,bne_iff_ne,ne_eq,Bool.not_eq_true'] at hc;obtain ⟨⟨⟨⟨⟨a1,a2⟩,a3⟩,a4⟩,a5⟩,a6⟩:=hc;exact YC a1 hi a2 a3 a4 a5 a6 hQ hS (Or.inl ⟨hg,hy⟩) h
theorem ZCg {w:World}{B g n cap:Nat}{e:TypeId}{z:Nat}{xs:List Value}(h:w.ownsRow B e z (.slice (some ⟨g,0,none⟩) n cap) n xs):Seen w g 0 xs:=fun j u hj=>by
 have:=h.cells (g:=g) rfl j u hj;rw [Addr.add_lit] at this;exact this
def RtB (w:World)(A:DAd)(rb:Nat):Prop:=w.heap[rb]?=some (.cells #[.iface 97 (.pointer (some ⟨A.t 0,0,none⟩)),.int .u64 (128:Nat)] 148 (0,0))
theorem Yo {P:Program} (w:World) (g o:Nat) (ty:TypeId) (cs:Array Value) (d:TypeDesc) (hc:∀ j v,cs.toList[j]?=some v->w.cell? ⟨g,o+j,none⟩=some v)
 (hu:P.underlying ty=some d)(hd:(match d with|.struct _|.array _ _=>true|_=>false)=true)(hi:(P.info? ty).map (·.size)=some cs.size):
 (loadVar ty ⟨g,o,none⟩).run P w=.ok (.agg cs) w:=by
 have hl:(loadCells ⟨g,o,none⟩ cs.toList.length).run P w=.ok cs.toList.toArray w:=
  run_loadCells_list (P:=P) w ⟨g,o,none⟩ cs.toList (fun j v hv=>by
   rw [Addr.add_lit];exact hc j v hv)
 cases hq:P.info? ty with
 |none=>simp [hq] at hi
 |some i=>
  have hs:i.size=cs.size:=by simpa [hq] using hi
  have hagg:(isAgg ty).run P w=.ok true w:=by
   unfold isAgg;rw [Sem.run_bind,run_underlying hu w];cases d <;> simp_all
  simp only [Array.length_toList,Array.toArray_toList] at hl;simp [loadVar,Sem.run_bind,hagg,sizeOf,typeInfo,hq,hs,hl]
theorem Qn {P:Program} {ops:Array Oper} {rest:List Oper} {o:Oper} {a:Act} {w:World} {Q:Exit->Act->World->Prop} (hgd:o.guard=none) (ty:TypeId) (x:Operand) (ho:o.op=.load ty x)
 (g k:Nat) (hx:a.eval x=.pointer (some ⟨g,k,none⟩)) (cs:Array Value) (d:TypeDesc) (hg:∀ j v,cs.toList[j]?=some v->w.cell? ⟨g,k+j,none⟩=some v)
 (hu:P.underlying ty=some d) (hd:(match d with|.struct _|.array _ _=>true|_=>false)=true) (hi:(P.info? ty).map (·.size)=some cs.size)
 (h:wpList P ops Q rest (a.put o.dst (.agg cs)) w):wpList P ops Q (o:: rest) a w:=
 wpList_plain hgd fun K hK=>by
  unfold Oper.wp execOp;simp only [ho,hx,Instr.loadAt,Instr.sureAddr,Sem.run_bind,Sem.run_pure,Result.andThen_ok,Yo w g k ty cs d hg hu hd hi];exact hK _ _ h
variable {w':World}{F':Nat->Option ZK}{c' c0:Nat->Nat}{x x' ex n:Nat}{H:HAd}
theorem HW.newf {L:Nat}{lk:Bool}{p:Nat->Plc}{res held:Nat->Option Nat}(h:HW w A F L T c x H lk p ex res held){b:Nat}(hb:w.heap.size<=b):Frn F H b:=by
 obtain ⟨q,h1,_⟩:=h.aq.dev;have ne:∀ {k},k < w.heap.size->b≠k:=fun {k} hk e=>by omega
 refine ⟨?_,?_,⟨ne (heap_lt h.hp.hp),ne (heap_lt h.set.set)⟩,⟨ne h.aq.nib.lt,ne h.aq.tab.lt⟩⟩
 ·cases e:F b with
  |none=>rfl
  |some r=>exact absurd (h1.lt b (by rw [e];simp)) (by omega)
 ·rintro (e|e|e)
  ·exact ne h.set.row.lt e
  ·exact ne h.rm.lt e
  ·exact ne h.vm.lt e
def DrB (w:World)(A:DAd)(F:Nat->Option ZK)(db t:Nat):Prop:=∃ a0 a2,w.heap[db]?=some (.cells #[a0,.pointer (some ⟨A.t t,0,none⟩),a2] 109 (0,0))/\F db=none
theorem DrB.below {db t:Nat}(h:DrB w A F db t)(hb:Bl w w'):DrB w' A F db t:=by
 obtain ⟨a0,a2,h1,h2⟩:=h;exact ⟨a0,a2,(hb.block _ (heap_lt h1)).trans h1,h2⟩
theorem DrB.moved {db t:Nat}(h:DrB w A F db t)(hm:Moved F F' w w'):DrB w' A F' db t:=by
 obtain ⟨a0,a2,h1,h2⟩:=h;have hl:=heap_lt h1;exact ⟨a0,a2,(hm.only.block _ hl (by rw [h2];simp)).trans h1,by rw [hm.same _ hl];exact h2⟩
theorem DrB.cell {db t:Nat}(h:DrB w A F db t):w.cell? ⟨db,1,none⟩=some (.pointer (some ⟨A.t t,0,none⟩)):=by
 obtain ⟨a0,a2,h1,h2⟩:=h;exact (Zb h1).2.1
theorem DrW.drb {H:HAd}{t db lb off size:Nat}(h:DrW w A F H t db lb off size):DrB w A F db t:=⟨_,_,h.dr,h.fd.1⟩
theorem ZDR {s:DSt}(h:Dev w A s F){db i:Nat}(hd:DrB w A F db i)(hi:i < 8){off v:Nat}(ho:off < 18446744073709551616)(hvv:v < 18446744073709551616)(hx:s.ex < 1000000):
 Calls prog 308 #[.pointer (some ⟨db,0,none⟩),.int .u64 off,.int .u64 v] w fun r w'=>r=.returned (.tuple #[])/\∃ F',Dev w' A (s.store i off v) F'/\Moved F F' w w':=by
 have HS:=zh (ZAj h hi ho hvv hx);have c1:=hd.cell;clear h hd;unfold ptr u64 at HS;go_in;go_wp2_with fail;refine HS.o.mono ?_;rintro e w' ⟨rfl,hq⟩;have HQ:=zh hq;clear hq;go_wp2_with fail
 all_goals first
  |(go_returns;exact ⟨rfl,HQ.o⟩)
  |(go_end0;exact ⟨rfl,HQ.o⟩)
theorem ZDP {s:DSt}(h:Dev w A s F){db i:Nat}(hd:DrB w A F db i)(hi:i < 8){off:Nat}(ho:off < 18446744073709551616)(hx:s.ex < 1000000):
 Calls prog 306 #[.pointer (some ⟨db,0,none⟩),.int .u64 off] w fun r w'=>r=.returned (.tuple #[])/\Dev w' A (s.flush i off) F/\Moved F F w w':=by
 have HS:=zh (ZAK h hi ho hx);have c1:=hd.cell;clear h hd;unfold ptr u64 at HS;go_in;go_wp2_with fail;refine HS.o.mono ?_;rintro e w' ⟨rfl,hq⟩;have HQ:=zh hq;clear hq;go_wp2_with fail
 all_goals first
  |(go_returns;exact ⟨rfl,HQ.o⟩)
  |(go_end0;exact ⟨rfl,HQ.o⟩)
theorem ZDO {s:DSt}(h:Dev w A s F){db i:Nat}(hd:DrB w A F db i)(hi:i < 8)(hx:s.ex < 1000000):
 Calls prog 305 #[.pointer (some ⟨db,0,none⟩)] w fun r w'=>r=.returned (.tuple #[])/\Dev w' A (s.fence i) F/\Moved F F w w':=by
 have HS:=zh (ZAJ h hi hx);have c1:=hd.cell;clear h hd;unfold ptr ZD9 at HS;go_in;go_wp2_with fail;refine HS.o.mono ?_;rintro e w' ⟨rfl,hq⟩;have HQ:=zh hq;clear hq;go_wp2_with fail
 all_goals first
  |(go_returns;exact ⟨rfl,HQ.o⟩)
  |(go_end0;exact ⟨rfl,HQ.o⟩)
theorem ZGI {s:DSt}(h:Dev w A s F){db i:Nat}(hd:DrB w A F db i)(hi:i < 8):
 Calls prog 304 #[.pointer (some ⟨db,0,none⟩)] w fun r w'=>r=.returned (.int .i64 (s.err i))/\w=w':=by
 have HS:=zh (ZBA h hi);have c1:=hd.cell;clear h hd;unfold ptr at HS;go_in;go_wp2_with fail;refine HS.o.mono ?_;rintro e w' ⟨rfl,rfl⟩;go_wp2;go_returns;exact ⟨rfl,rfl⟩
def ZB2 (b:Nat):Value:=.iface 27 (.pointer (some ⟨b,0,none⟩))
theorem ZA8 {s:DSt}(h:Dev w A s F){db i:Nat}(hd:DrB w A F db i)(hi:i < 8){x:Ins}(hx:x.Ok)(hex:s.ex < 1000000):
 Calls prog 136 #[.agg #[.int .u8 x.op,u64 x.off,u64 x.val],ZB2 db] w fun r w'=>r=.returned (.tuple #[])/\J3 w A F (s.exec i x) w':=by
 obtain ⟨op,off,v⟩:=x;obtain ⟨h1,h2,ho,hv⟩:=hx;dsimp only at h1 h2 ho hv;have hop:op=1\/op=2\/op=3:=by omega
 rcases hop with rfl|rfl|rfl
 ·have HS:=zh (ZDR (h.alloc (.cells #[.int .u8 1,u64 off,u64 v] 260)) (hd.moved (Moved.alloc w _)) hi ho hv hex)
  clear h hd;unfold ZB2 u64 at *;go_in;go_wp2_with fail;refine HS.o.mono ?_;rintro e w' ⟨rfl,F',g1,g2⟩;have G:=zh (show J3 w A F (s.exec i ⟨1,off,v⟩) w' from ⟨F',g1,(Moved.alloc w _).trans g2⟩);clear g1 g2;go_wp2;go_returns;exact ⟨rfl,G.o⟩
 ·have HS:=zh (ZDP (h.alloc (.cells #[.int .u8 2,u64 off,u64 v] 260)) (hd.moved (Moved.alloc w _)) hi ho hex)
  clear h hd;unfold ZB2 u64 at *;go_in;go_wp2_with fail;refine HS.o.mono ?_;rintro e w' ⟨rfl,g1,g2⟩;have G:=zh (show J3 w A F (s.exec i ⟨2,off,v⟩) w' from ⟨F,g1,(Moved.alloc w _).trans g2⟩);clear g1 g2;go_wp2;go_returns;exact ⟨rfl,G.o⟩
 ·have HS:=zh (ZDO (h.alloc (.cells #[.int .u8 3,u64 off,u64 v] 260)) (hd.moved (Moved.alloc w _)) hi hex)
  clear h hd;unfold ZB2 u64 at *;go_in;go_wp2_with fail;refine HS.o.mono ?_;rintro e w' ⟨rfl,g1,g2⟩;have G:=zh (show J3 w A F (s.exec i ⟨3,off,v⟩) w' from ⟨F,g1,(Moved.alloc w _).trans g2⟩);clear g1 g2;go_wp2;go_returns;exact ⟨rfl,G.o⟩
theorem ZGL {s:DSt}(h:Dev w A s F){db t:Nat}(hd:DrB w A F db t)(ht:t < 8){b o c:Nat}{l:List Ins}(hs:Seen w b o (Zh l))(hF:F b=none)(hl:∀ x∈l,x.Ok)(hn:s.ex+l.length<=1000000):
 Calls prog 76 #[.slice (some ⟨b,o,none⟩) l.length c,ZB2 db] w fun e w'=>e=.returned (i64 ((s.runs t l).err t))/\J3 w A F (s.runs t l) w':=by
 have HV:=zh (ZAp (c:=c) hs hl (by omega));have HS:=zh hs;have HL:=zh hl;have HH:=zh h;have HD0:=zh hd;have hn2:(l.length:Int)<=1000000:=by omega
 have HF:=zh hF;clear hs hl h hF hd;unfold ZB2 at *;go_in;go_wp2_with fail;refine HV.o.mono ?_;rintro e w1 ⟨rfl,hb1⟩;have HST:=zh (show Q6 w A F s t l (.int .i64 (0:Nat)) w1 from ⟨0,by omega,rfl,F,HH.o.below hb1,⟨Only.of_below hb1,fun _ _=>rfl⟩⟩);clear hb1;go_wp2_with fail
 go_loopw [6,16] (fun _ i wr=>Q6 w A F s t l i wr) (fun _ i _=>l.length - (intOf i).toNat)
 case atStart=>exact HST.o
 case round=>
  obtain ⟨k,hk,rfl,F1,hd,hm⟩:=hrel
  by_cases hlt:k < l.length
  ·have hlt2:(k:Int) < l.length:=by omega
   obtain ⟨x,hx⟩:=xE (l[k]);have hg0:l[k]?=some x:=by rw [hx];exact ZK9 hlt
   have hg:=Xz hg0;have hxo:=HL.o x (by rw [hx];exact ZLF hlt);have htk:l.take (k+1)=l.take k++[x]:=by rw [List.take_add_one,hg0];rfl
   have hbl:b < w.heap.size:=ZK2 _ _ (HS.o _ _ hg.1);have hs:=HS.o.of_block (hm.only.block b hbl (by rw [HF.o];simp));have c1:wr.cell? ⟨b,o+k * 3,none⟩=some (.int .u8 x.op):=by rw [Nat.mul_comm];exact hs _ _ hg.1
   have c2:wr.cell? ⟨b,o+k * 3+1,none⟩=some (.int .u64 x.off):=by rw [Nat.mul_comm];exact hs _ _ hg.2.1
   have c3:wr.cell? ⟨b,o+k * 3+2,none⟩=some (.int .u64 x.val):=by rw [Nat.mul_comm];exact hs _ _ hg.2.2
   have hex:=ZEU (l.take k) s t;rw [List.length_take] at hex;have he:=ZA8 (hd.alloc (.cells #[.int .u8 x.op,.int .u64 x.off,.int .u64 x.val] 260)) ((HD0.o.moved hm).moved (Moved.alloc wr (.cells #[.int .u8 x.op,.int .u64 x.off,.int .u64 x.val] 260))) ht hxo (by omega);rw [<-ZAe,<-htk] at he;have HE:=zh he;have HM:=zh (hm.trans (Moved.alloc wr (.cells #[.int .u8 x.op,.int .u64 x.off,.int .u64 x.val] 260)));clear he hex hs hg hg0 htk hxo hd hm hx;unfold ZB2 u64 at HE;go_wp2_with fail;refine HE.o.mono ?_;rintro e w2 ⟨rfl,F2,g1,g2⟩;have G:=zh (show Q6 w A F s t l (.int .i64 ((k+1:Nat):Int)) w2 from ⟨k+1,by omega,rfl,F2,g1,HM.o.trans g2⟩);clear g1 g2;go_wp2_with fail;go_roundw
   case rel=>simpa using G.o
   case measure=>simp [intOf];omega
  ·obtain rfl:k=l.length:=by omega
   rw [List.take_length] at hd;have HE:=zh (ZGI hd (HD0.o.moved hm) ht);have HD:=zh hd;have HM:=zh hm;clear hd hm hlt hk;go_wp2_with fail;refine HE.o.mono ?_;rintro e w2 ⟨rfl,rfl⟩;go_wp2;go_returns;exact ⟨rfl,F1,HD.o,HM.o⟩
variable {L:Nat}{T c c':Nat->Nat}{x x':Nat}{H:HAd}{lk:Bool}{p p':Nat->Plc}{ex:Nat}{res held:Nat->Option Nat}
theorem ZGK (h:Aq w A F L T c x) {db t:Nat} (hd:DrB w A F db t) (ht:t < 8) {b o k:Nat} {ls:List (List (Nat×Nat))} (hs:Seen w b o (Zh (Za ls))) (hF:F b=none)
 (hl:∀ l∈ls,∀ p∈l,p.1 % 8=0/\p.1 < 64 * L/\p.2 < 18446744073709551616)(hn:x+Zn ls<=1000000):
 Calls prog 76 #[.slice (some ⟨b,o,none⟩) (Za ls).length k,ZB2 db] w fun e w'=>e=.returned (i64 (0:Nat))/\Ra w A F L T (wrs c ls.flatten) (x+Zn ls) w':=by
 obtain ⟨s,h1,h2,rfl,h4⟩:=h.dev;have hLL:=h1.ok.lines;have hle:=Ue ls;refine (ZGL (c:=k) h1 hd ht hs hF (ZCV (fun l hl2 p hp=>⟨?_,(hl l hl2 p hp).2.2⟩)) (by omega)).mono ?_
 ·have:=hl l hl2 p hp;omega
 ·rintro e w' ⟨rfl,F',hd,hm⟩
  obtain ⟨q1,q2,q3⟩:=h2.runL (t:=t) (ls:=ls) (fun l hl2 p hp=>by
   have:=hl l hl2 p hp;unfold DSt.word;simp;omega)
  refine ⟨by rw [q1.err],?_⟩;obtain ⟨F'',h5,h6⟩:=ZES (x':=x+Zn ls) h (show ZIw _ A F s.L (wrs c ls.flatten) (x+Zn ls) w' from ⟨_,F',hd,q1,q2,by omega,hm⟩);exact ⟨F'',h5,h6⟩
theorem ZGW (h:HW w A F L T c x H lk p ex res held) {db t:Nat} (hd:DrB w A F db t) (ht:t < 8) {ls:List (List (Nat×Nat))} {v:Value} {B:Nat} (hp:Prg w B v (Za ls)) (hB:∀ g,B<=g->F g=none) (h0:0 < (Za ls).length)
 (hl:∀ l∈ls,∀ q∈l,q.1 % 8=0/\q.1 < 64 * L/\q.2 < 18446744073709551616)(hn:x+Zn ls<=x')(hx:x'<=1000000):
 Calls prog 76 #[v,.iface 27 (.pointer (some ⟨db,0,none⟩))] w fun e w'=>e=.returned (.int .i64 0)/\ClP w A F L T (wrs c ls.flatten) x' H lk p ex res held w':=by
 obtain ⟨g,cap,rfl,hs,hg⟩:=Zi hp h0;refine (ZGK (k:=cap) h.aq hd ht hs (hB g hg) hl (by omega)).mono ?_;rintro e w' ⟨rfl,hr⟩;obtain ⟨F',h1,h2⟩:=h.ra hr;refine ⟨rfl,F',{h1 with aq:=h1.aq.mono (by omega)},h2⟩
theorem Jr {P:Program} {ops:Array Oper} {o:Oper} {a:Act} {K:Act->World->Prop} {Q:Exit->Act->World->Prop} {B:Prop} {W:World} {t e:TypeId} {size bytes:Nat} (E:El P t e size bytes) (hgd:o.guard=none) (s x:Operand)
 (ho:o.op=.call {callee:=.builtin .append,args:=#[s,x],argTypes:=#[t,t]}) {base:Nat} {v:Value} {n m cp:Nat} {xs:List Value} (cs:List Value) (hown:W.ownsRow base e size v n xs)
 {N:Nat} (hs:a.eval s=v) (hx:a.eval x=.slice (some ⟨N,0,none⟩) m cp) (hm:0 < m) (hcs:cs.length=m * size) (hc:∀ j u,cs[j]?=some u->W.cell? ⟨N,j,none⟩=some u) (h1:∀ u∈cs,u.oneCell'=true) (h63:n+m<=maxLen) (hbytes:(n+m) * bytes<=140737488355328) (hbase:base<=W.heap.size)
 (h:∀ g cap w',w'.ownsRow base e size (.slice (some ⟨g,0,none⟩) (n+m) cap) (n+m) (xs++cs)->W.grownBy w' v.ownBlock->K (a.put o.dst (.slice (some ⟨g,0,none⟩) (n+m) cap)) w'):
 if Region.wanted o (yielded ops a.tmps)=true then Oper.wp P o a W K Q else B:=by
 have hw:Region.wanted o (yielded ops a.tmps)=true:=by simp [Region.wanted,hgd]
 rw [ZKv hw];obtain ⟨g,cap,w',hrun,how,hgr,hg⟩:=Zm (w:=W) E hown ⟨N,0,none⟩ m cp cs hcs (fun j u hj=>by
  rw [Addr.add_lit,ZLI];exact hc j u hj) h1 hm h63 hbytes hbase
 have hK:=h g cap w' how hgr;have hr:=hrun o.type;unfold Oper.wp;simp [execOp,ho,resolve,invoke,builtin,hs,hx,hr,Result.andThen];exact hK
def Kp (w w1 w':World):Prop:=w1.heap.size<=w'.heap.size/\∀ k,w.heap.size<=k->k < w1.heap.size->w'.heap[k]?=w1.heap[k]?
theorem Kp.of_below {w w1:World}(hb:Bl w1 w'):Kp w w1 w':=⟨hb.size,fun k _ h=>hb.block k h⟩
theorem Kp.trans {w w1 w2 w3:World}(h:Kp w w1 w2)(k:Kp w w2 w3):Kp w w1 w3:=
 ⟨ZK6 h.1 k.1,fun i h1 h2=>(k.2 i h1 (ZLC h2 h.1)).trans (h.2 i h1 h2)⟩
theorem Kp.of_moved {F F':Nat->Option ZK}{H:HAd}{w1 w2:World}(hk:Kp w w1 w2)(hm:HMv F F' H w2 w')(hn:∀ k,w.heap.size<=k->k < w1.heap.size->F k=none/\¬ H.own k):Kp w w1 w':=
 ⟨ZK6 hk.1 hm.only.size,fun k h1 h2=>(hm.only.block k (ZLC h2 hk.1) (fun q=>q.elim (fun q=>q (hn k h1 h2).1) (hn k h1 h2).2)).trans (hk.2 k h1 h2)⟩
theorem ZCo {b:World}{M0 M1 M2 M3 S2 S3:Nat}(h0:M0 < 18446744073709551616)(h1:M1 < 18446744073709551616)(h2:M2 < 18446744073709551616)(h3:M3 < 18446744073709551616):
 ∀ V,Bl b V->Calls prog 74 #[.slice (some ⟨V.heap.size,0,none⟩) 4 4] (V.alloc (.cells #[.int .u64 M0,.int .u64 0,.int .u64 M1,.int .u64 1,.int .u64 M2,.int .u64 S2,.int .u64 M3,.int .u64 S3] 155)) fun e w'=>∃ r,e=.returned r/\Prg w' b.heap.size r (Zf [(M0,0),(M1,1),(M2,S2),(M3,S3)])/\Bl b w':=by
 intro V hb;have hs:Seen (V.alloc (.cells #[.int .u64 M0,.int .u64 0,.int .u64 M1,.int .u64 1,.int .u64 M2,.int .u64 S2,.int .u64 M3,.int .u64 S3] 155)) V.heap.size 0 (ZP [(M0,0),(M1,1),(M2,S2),(M3,S3)]):=fun j u hu=>by
  rw [ZLI,ZC (ZB _ _)];simpa [ZP,u64] using hu
 refine (X9 (c:=4) hs (by simp) (by simp) (fun p hp=>by simp at hp;rcases hp with rfl|rfl|rfl|rfl <;> assumption)).mono ?_;rintro e w' ⟨g,cap,rfl,h1,h2⟩;have hz:b.heap.size<=(V.alloc (.cells #[.int .u64 M0,.int .u64 0,.int .u64 M1,.int .u64 1,.int .u64 M2,.int .u64 S2,.int .u64 M3,.int .u64 S3] 155)).heap.size:=by have:=hb.size;simp;omega
 exact ⟨_,rfl,h1.mono hz,(ZA hb).trans (h2.mono hz)⟩
theorem ZBM {db lib P Q now b nx:Nat} {cnt iq:Int} {iv v:Value} {lw:List (Nat×Nat)} {S1 S2 S3:World->Prop}
 (hP:P≠0/\P < 18446744073709551616) (hb:b≠0/\b < 18446744073709551616) (hlw:1<=lw.length/\lw.length<=80)
 {w1:World} (hw1:w1=(w.alloc (.cells #[.int .u64 P,.int .u64 nx,.int .i64 cnt,iv] 184)).alloc (.cells #[.int .i64 iq,.int .u64 Q,.int .u64 now] 115))
 (hal:Calls prog 24 #[.pointer (some ⟨db,0,none⟩),.int .i64 60,.int .u8 12] w1 fun e w'=>e=.returned (.tuple #[.int .u64 b,.int .i64 0])/\S1 w'/\Kp w w1 w')
 (hrun:∀ wA,S1 wA->∀ wx,Bl wA wx->∀ r,Prg wx wA.heap.size r (Zf [(ZM b+8 * 0,0),(ZM b+8 * 1,1),(ZM b+8 * 2,Q),(ZM b+8 * 3,now)])->Calls prog 76 #[r,.iface 27 (.pointer (some ⟨db,0,none⟩))] wx fun e w'=>e=.returned (.int .i64 0)/\S2 w'/\Kp w w1 w')
 (hv:∀ w2,S2 w2->Wrs w2 v lw)
 (hpub:∀ w2,S2 w2->∀ wx,Bl w2 wx->∀ v',Wrs wx v' (lw++[(ZM P+8 * 0,b)])->∀ tb,wx.cell? ⟨tb,0,none⟩=some (.int .u64 b)->w2.heap.size<=tb->Calls prog 26 #[.pointer (some ⟨db,0,none⟩),v',.slice (some ⟨tb,0,none⟩) 1 1,.slice none 0 0] wx fun e w'=>e=.returned (.int .i64 0)/\S3 w'):
 Calls prog 81 #[.pointer (some ⟨lib,0,none⟩),.iface 27 (.pointer (some ⟨db,0,none⟩)),.agg #[.int .u64 P,.int .u64 nx,.int .i64 cnt,iv],.agg #[.int .i64 iq,.int .u64 Q,.int .u64 now],v] w fun e w'=>e=.returned (.int .i64 0)/\S3 w':=by
 obtain ⟨B0,hB0⟩:=xE (ZM b+8 * 0);obtain ⟨B1,hB1⟩:=xE (ZM b+8 * 1);obtain ⟨B2,hB2⟩:=xE (ZM b+8 * 2);obtain ⟨B3,hB3⟩:=xE (ZM b+8 * 3);obtain ⟨AN,hAN⟩:=xE (ZM P+8 * 0);have hpo:=XT b;have HA0:=zh (fun (w1:World)=>show Calls prog 13 #[.int .u64 b,.int .i64 0] w1 (fun e w'=>e=.returned (.int .u64 B0)/\w'=w1) from by
  rw [hB0];exact (YK (w:=w1) (p:=b) (k:=0) hb.2 hb.1 (by omega)).mono (fun e w' h=>⟨h.1,h.2.symm⟩))
 have HA1:=zh (fun (w1:World)=>show Calls prog 13 #[.int .u64 b,.int .i64 1] w1 (fun e w'=>e=.returned (.int .u64 B1)/\w'=w1) from by
  rw [hB1];exact (YK (w:=w1) (p:=b) (k:=1) hb.2 hb.1 (by omega)).mono (fun e w' h=>⟨h.1,h.2.symm⟩))
 have HA2:=zh (fun (w1:World)=>show Calls prog 13 #[.int .u64 b,.int .i64 2] w1 (fun e w'=>e=.returned (.int .u64 B2)/\w'=w1) from by
  rw [hB2];exact (YK (w:=w1) (p:=b) (k:=2) hb.2 hb.1 (by omega)).mono (fun e w' h=>⟨h.1,h.2.symm⟩))
 have HA3:=zh (fun (w1:World)=>show Calls prog 13 #[.int .u64 b,.int .i64 3] w1 (fun e w'=>e=.returned (.int .u64 B3)/\w'=w1) from by
  rw [hB3];exact (YK (w:=w1) (p:=b) (k:=3) hb.2 hb.1 (by omega)).mono (fun e w' h=>⟨h.1,h.2.symm⟩))
 have HAP:=zh (fun (w1:World)=>show Calls prog 13 #[.int .u64 P,.int .i64 0] w1 (fun e w'=>e=.returned (.int .u64 AN)/\w'=w1) from by
  rw [hAN];exact (YK (w:=w1) (p:=P) (k:=0) hP.2 hP.1 (by omega)).mono (fun e w' h=>⟨h.1,h.2.symm⟩))
 have HPA:=zh (fun (w1:World)=>show Calls prog 77 #[.int .i64 0] w1 (fun e w'=>e=.returned (.int .i64 2)/\w'=w1) from (Vn (w:=w1) (i:=0) (by omega)).mono (fun e w' h=>⟨h.1,h.2.symm⟩));have HEA:=zh (fun (w1:World)=>show Calls prog 80 #[.int .i64 0] w1 (fun e w'=>e=.returned (.int .i64 3)/\w'=w1) from (VP (w:=w1) (i:=0) (by omega)).mono (fun e w' h=>⟨h.1,h.2.symm⟩));have HAL:=zh hal;have HV:=zh hv;have HLW:=zh hlw;have HRUN:=zh (fun (wA:World) (h1:S1 wA) (wx:World) (hbx:Bl wA wx) (r:Value) (hr:Prg wx wA.heap.size r (Zf [(B0,0),(B1,1),(B2,Q),(B3,now)]))=>hrun wA h1 wx hbx r (by rw [<-hB0,<-hB1,<-hB2,<-hB3];exact hr));have HST:=zh (fun (w1:World)=>ZCo (b:=w1) (M0:=B0) (M1:=B1) (M2:=B2) (M3:=B3) (S2:=Q) (S3:=now) (by omega) (by omega) (by omega) (by omega));have HPUB:=zh (fun (w2:World) (h2:S2 w2) (wx:World) (hbx:Bl w2 wx) (v':Value) (hv':Wrs wx v' (lw++[(AN,b)]))=>hpub w2 h2 wx hbx v' (by rw [<-hAN];exact hv'));obtain ⟨wn,hwn⟩:=xE (w.alloc (.cells #[.int .u64 P,.int .u64 nx,.int .i64 cnt,iv] 184));rw [<-hwn] at hw1;obtain ⟨NB,hNB⟩:=xE w.heap.size;have hIN:wn.heap.size=NB+1:=by rw [hwn,hNB];simp
 have hsz:w1.heap.size=NB+2:=by rw [hw1,World.size_alloc,hwn,World.size_alloc,hNB]
 have hb1:Bl w w1:=by rw [hw1,hwn];exact ZA (ZA bR)
 have hxi:w1.heap[NB+1]?=some (.cells #[.int .i64 iq,.int .u64 Q,.int .u64 now] 115 (0,0)):=by rw [hw1,<-hIN];exact ZB _ _
 have hxn:w1.heap[NB]?=some (.cells #[.int .u64 P,.int .u64 nx,.int .i64 cnt,iv] 184 (0,0)):=by
  have h0:wn.heap[NB]?=some (.cells #[.int .u64 P,.int .u64 nx,.int .i64 cnt,iv] 184 (0,0)):=by rw [hwn,hNB];exact ZB _ _
  rw [hw1];exact (ZI (heap_lt h0)).trans h0
 have HBX:=zh (fun (wx:World) (hk:Kp w w1 wx)=>show (wx.cell? ⟨NB+1,1,none⟩=some (.int .u64 Q)/\wx.cell? ⟨NB+1,2,none⟩=some (.int .u64 now))/\wx.cell? ⟨NB,0,none⟩=some (.int .u64 P) from by
  have e1:=(hk.2 (NB+1) (by omega) (by omega)).trans hxi;have e2:=(hk.2 NB (by omega) (by omega)).trans hxn;exact ⟨⟨(Zb e1).2.1,(Zb e1).2.2.1⟩,(YS e2).1⟩)
 have HB1:=zh hb1;clear hP hb hlw hal hrun hv hpub hB0 hB1 hB2 hB3 hAN hpo hIN hsz hb1 hxi hxn;go_in;go_wp2_with fail;rw [<-hwn,<-hw1,<-hNB];clear hwn hw1 hNB;refine HAL.o.mono ?_;rintro e' wA ⟨rfl,hs1,hkA⟩;have HKA:=zh hkA;have HS1:=zh hs1;have HRA:=zh (Below.refl wA.heap.size wA);have HXA:=zh (fun (wx:World) (hb:Bl wA wx)=>(HBX.o wx (HKA.o.trans (Kp.of_below hb))).1);clear hs1 hkA HAL;go_upto_region 4 with fail
 go_cut [12] (fun v wc=>v=.int .i64 0/\S2 wc/\Kp w w1 wc)
 case first=>
  go_region_held3 (fun wx=>wx.cell? ⟨NB+1,1,none⟩=some (.int .u64 Q)/\wx.cell? ⟨NB+1,2,none⟩=some (.int .u64 now))
   (first|exact (HBX.o _ hk2).1|exact HXA.o _ (by repeat (with_reducible first|assumption|exact HRA.o|apply ZA|apply ZD)))
   (first
     |(refine ZJ rfl func13 rfl rfl rfl (HA0.o _) (by first|(simp [Act.eval];done)|(simp [Act.eval];rfl)) ?_;rintro e' V2 ⟨rfl,rfl⟩;refine ⟨_,rfl,?_⟩)
     |(refine ZJ rfl func13 rfl rfl rfl (HA1.o _) (by first|(simp [Act.eval];done)|(simp [Act.eval];rfl)) ?_;rintro e' V2 ⟨rfl,rfl⟩;refine ⟨_,rfl,?_⟩)
     |(refine ZJ rfl func13 rfl rfl rfl (HA2.o _) (by first|(simp [Act.eval];done)|(simp [Act.eval];rfl)) ?_;rintro e' V2 ⟨rfl,rfl⟩;refine ⟨_,rfl,?_⟩)
     |(refine ZJ rfl func13 rfl rfl rfl (HA3.o _) (by first|(simp [Act.eval];done)|(simp [Act.eval];rfl)) ?_;rintro e' V2 ⟨rfl,rfl⟩;refine ⟨_,rfl,?_⟩)
     |(refine ZJ rfl func77 rfl rfl rfl (HPA.o _) (by first|(simp [Act.eval];done)|(simp [Act.eval];rfl)) ?_;rintro e' V2 ⟨rfl,rfl⟩;refine ⟨_,rfl,?_⟩)
     |(refine ZJ rfl func80 rfl rfl rfl (HEA.o _) (by first|(simp [Act.eval];done)|(simp [Act.eval];rfl)) ?_;rintro e' V2 ⟨rfl,rfl⟩;refine ⟨_,rfl,?_⟩)
     |(go_at_call 74;(first|refine (HST.o wA _ (by repeat (with_reducible first|assumption|exact HRA.o|apply ZA|apply ZD))).mono ?_|refine (HST.o wA wA.drew (by repeat (with_reducible first|assumption|exact HRA.o|apply ZA|apply ZD))).mono ?_);rintro e' V1 ⟨r,rfl,hpr,hbz⟩)
     |(go_at_call 76;refine (HRUN.o _ HS1.o _ hbz _ hpr).mono ?_;rintro e' V3 ⟨rfl,hs2,hk2⟩))
  all_goals first|(go_meet;exact ⟨rfl,hs2,hk2⟩)|(go_wp2_with fail;go_meet;exact ⟨rfl,hs2,hk2⟩)
 obtain ⟨hv0,hs2,hk2⟩:=hcut;subst hv0;have HS2:=zh hs2;have HK2:=zh hk2;have HR2:=zh (Below.refl wc.heap.size wc);have HXN:=zh (fun (wx:World) (hb:Bl wc wx)=>(HBX.o wx (HK2.o.trans (Kp.of_below hb))).2);have HV2:=zh (fun (wx:World) (hb:Bl wc wx)=>Ut ((HV.o _ HS2.o).below hb) HLW.o.1 (by have:=HLW.o;omega));have HPB:=zh (HPUB.o _ HS2.o);clear hs2 hk2 HA0 HA1 HA2 HA3 HPA HEA HRUN HST HKA HS1 HRA HXA HBX HB1 HV HPUB HK2 HS2;go_upto_region 6 with fail
 go_region_held3 (fun wx=>wx.cell? ⟨NB,0,none⟩=some (.int .u64 P))
  (first|exact HXN.o _ (by repeat (with_reducible first|assumption|exact HR2.o|apply ZA|apply ZD)))
  (first
    |(refine ZJ rfl func67 rfl rfl rfl (HV2.o _ (by repeat (with_reducible first|assumption|exact HR2.o|apply ZA|apply ZD))) (by first|(simp [Act.eval];done)|(simp [Act.eval];rfl)) ?_;rintro e' V1 ⟨r,rfl,hwr,hbv⟩;have hbz:Bl wc V1:=(show Bl wc _ from by repeat (with_reducible first|exact HR2.o|apply ZA|apply ZD)).trans (hbv.mono nR);clear hbv;refine ⟨_,rfl,?_⟩)
    |(refine ZJ rfl func13 rfl rfl rfl (HAP.o _) (by first|(simp [Act.eval];done)|(simp [Act.eval];rfl)) ?_;rintro e' V2 ⟨rfl,rfl⟩;refine ⟨_,rfl,?_⟩)
    |(refine Jr elWrites rfl _ _ rfl [.int .u64 AN,.int .u64 b] (World.ownsRow.alloc hwr _) rfl rfl (by omega) rfl (fun j u hj=>Yh hj) (by intro u hu;simp at hu;rcases hu with rfl|rfl <;> rfl) (by have:=HLW.o;unfold maxLen;omega) (by have:=HLW.o;omega) (by have:=hbz.size;simp;omega) ?_;intro g8 cap8 w8 how hgr;have hbx:Bl wc w8:=ZN (by repeat (with_reducible first|assumption|exact HR2.o|apply ZA|apply ZD)) hgr (by have:=hbz.size;simp;omega) (fun k hk=>(World.ownsRow.lt hwr k hk).1)))
 have HB8:=zh hbx;have HV8:=zh (show Wrs w8 (.slice (some ⟨g8,0,none⟩) (lw.length+1) cap8) (lw++[(AN,b)]) from by
  have e5:ZP lw++[.int .u64 AN,.int .u64 b]=ZP (lw++[(AN,b)]):=by simp [ZP,Dv.u64]
  rw [e5] at how;refine VE (B:=wc.drew.heap.size) (show Wrt w8 _ _ (lw++[(AN,b)]) from ?_);unfold Wrt;rw [show (lw++[(AN,b)]).length=lw.length+1 by simp];exact how)
 clear how hgr hbx hwr hbz HV2;go_wp2_with fail;have htb:(w8.alloc (.cells #[.int .u64 b] 30)).cell? ⟨w8.heap.size,0,none⟩=some (.int .u64 b):=(ZC (ZB _ _)).trans rfl;refine (HPB.o _ (ZA HB8.o) _ (HV8.o.below (ZA bR)) _ htb HB8.o.size).mono ?_;rintro e w9 ⟨rfl,hs3⟩;have HS3:=zh hs3;clear hs3 htb;go_wp2;go_returns;exact ⟨rfl,HS3.o⟩
end
end Go.Proofs.YteomliechfdhhaaGreatDoor.Dv
namespace Go.Proofs.YteomliechfdhhaaGreatDoor.Ev
open Tryz
section
open Go Go.RowKit
def Gn:Nat:=4
def ZKk:List Value:=[.int .i64 3,.int .i64 7,.int .i64 15,.int .i64 31,.int .i64 60]
def nibN:List Nat:=[0,274646895,549293790,820201905,1098587580,1361435347,1640403810,1905808397,2197175160,2460548119,2722870694,2987750089,3280807620,3553878443,3811616794,4084100981]
def ZKe:List Value:=nibN.map fun n=>.int .u32 (n:Nat)
def ZFy (w:World)(g t:Nat)(l:List Value):Prop:=∃ arr:Array Value,w.heap[g]?=some (.cells arr t (0,0))/\arr.toList=l
structure GOk (w:World)(t u:TypeId):Prop where
 size:Gn<=w.heap.size
 pay:ZFy w 0 t ZKk
 nib:ZFy w 1 u ZKe
theorem QR {P:Program}{w:World}:∀ {l:List (String×DataW Unit)} {ps:List MemPlace},DataW.LaidVars P w l ps->∀ n d,(n,d)∈l->
 ∃ g cs,P.globalNamed n=some g/\w.var? P n=some cs/\∀ i,i < cs.size->MemPlace.cell g i∈ps
 |[],_,_,_,_,hm=>by cases hm
 |(n',d'):: r,ps,h,n,d,hm=>by
  obtain ⟨g,t,cs,fuel,p,q,h1,h2,h3,h4,h5,h6⟩:=h;rcases List.mem_cons.1 hm with e|e
  ·cases e
   refine ⟨g,cs,h1,h3,fun i hi=>?_⟩;rw [h6];refine ZK1.2 (.inl (ZK1.2 (.inl ?_)));simp [MemPlace.row,hi]
  ·obtain ⟨g',cs',a,b,c⟩:=QR h5 n d e
   exact ⟨g',cs',a,b,fun i hi=>by rw [h6];exact ZK1.2 (.inr (c i hi))⟩
theorem holds_of {P:Program}{W:World}{l:List (String×DataW Unit)}(h:laidMet P l W){name:String}{g:Nat}{d:DataW Unit}(hg:P.globalNamed name=some g)(hm:(name,d)∈l):
 ∃ cs,W.var? P name=some cs/\g < W.heap.size/\(0 < cs.size->∃ t,W.heap[g]?=some (.cells cs t (0,0))):=by
 obtain ⟨ps,hv,_,hc⟩:=h;obtain ⟨g',cs,h1,h2,h3⟩:=QR hv name d hm;rw [hg] at h1;cases h1;have h4:=h2;unfold World.var? at h4;rw [hg] at h4;simp only [Option.bind_some] at h4;split at h4
 case h_2=>cases h4
 rename_i cs' t' fr' hb;cases h4;refine ⟨cs,h2,Dv.heap_lt hb,fun hpos=>?_⟩;obtain ⟨⟨c,t,hh⟩,_⟩:=hc g 0 (h3 0 hpos);rw [hb] at hh;cases hh;exact ⟨_,hb⟩
end
end Go.Proofs.YteomliechfdhhaaGreatDoor.Ev
namespace Go.Proofs.YteomliechfdhhaaGreatDoor.Dv
open Tryz
section
open Go.RowKit Go.Proofs.YteomliechfdhhaaGreatDoor.Size
def T0 (i:Nat):Nat:=Ev.nibN.getD i 0
theorem ZHu {w:World}{t u:TypeId}(h:Ev.GOk w t u):NTab w T0:=by
 obtain ⟨arr,h1,h2⟩:=h.nib;intro i hi;rw [ZC h1,<-ZLS,h2];rcases (show i=0\/i=1\/i=2\/i=3\/i=4\/i=5\/i=6\/i=7\/i=8\/i=9\/i=10\/i=11\/i=12\/i=13\/i=14\/i=15 by omega) with rfl|rfl|rfl|rfl|rfl|rfl|rfl|rfl|rfl|rfl|rfl|rfl|rfl|rfl|rfl|rfl <;> exact ⟨by decide,rfl⟩
theorem ZHv {w:World}{t u:TypeId}(h:Ev.GOk w t u):Tab w:=by
 obtain ⟨arr,h1,h2⟩:=h.pay;refine ⟨?_,?_,?_,?_,?_⟩ <;> (rw [ZC h1,<-ZLS,h2];rfl)
theorem ZJQ {a b k:Nat}(ha:a < 2 ^ k):a ||| b * 2 ^ k=a+b * 2 ^ k:=by
 rw [Nat.or_comm,Nat.mul_comm,<-Nat.two_pow_add_eq_or_of_lt ha,Nat.add_comm]
theorem ZD1 {a b k:Nat}(ha:a < 2 ^ k)(hab:a+b * 2 ^ k < 18446744073709551616):bits .or .u64 (a:Int) ((b * 2 ^ k:Nat):Int)=((a+b * 2 ^ k:Nat):Int):=by
 rw [u64_or_nat a (b * 2 ^ k) (by omega) (by omega),ZJQ ha]
theorem Xp {a b x k:Nat}{z:Int}(ha:a < 2 ^ k)(hx:x=a+b * 2 ^ k)(hz:z=((b * 2 ^ k:Nat):Int))(hlt:x < 18446744073709551616):bits .or .u64 (a:Int) z=(x:Int):=by
 subst hz;subst hx;exact ZD1 ha hlt
def JM:Nat:=7738151121853964849
def Sup.w2 (s:Sup):Nat:=s.V+s.L * 65536+s.R * 4294967296+s.U * 281474976710656
def Sup.w3 (s:Sup):Nat:=s.D+s.Q * 65536+s.T * 4294967296
def Sup.front (s:Sup):List Nat:=[JM,s.G,s.w2,s.w3,0,0,0]
def Sup.words (T:Nat->Nat)(s:Sup):List Nat:=s.front++[4294967296+Vq T s.front]
theorem Sup.Ok.w2_lt {s:Sup}(h:s.Ok):s.w2 < 18446744073709551616:=by
 have h1:=h.v;have h2:=h.l;have h3:=h.h;unfold Sup.w2;unfold Sup.hl at h3;omega
theorem Sup.Ok.w3_lt {s:Sup}(h:s.Ok):s.w3 < 18446744073709551616:=by
 have h2:=h.l;have h3:=h.h;unfold Sup.w3;unfold Sup.hl at h3;omega
theorem Sup.Ok.front_lt {s:Sup}(h:s.Ok):∀ x∈s.front,x < 18446744073709551616:=by
 intro x hx;have a:=h.w2_lt;have b:=h.w3_lt;have c:=h.g;unfold Sup.front at hx;simp only [List.mem_cons,List.not_mem_nil,or_false] at hx;rcases hx with rfl|rfl|rfl|rfl|rfl|rfl|rfl
 ·decide
 ·exact c
 ·exact a
 ·exact b
 all_goals decide
theorem ZCf (w:World)(c:Array Value)(e:TypeId){xs:List Value}(h:∀ (j:Nat)(u:Value),xs[j]?=some u->c[j]?=some u):Seen (w.alloc (.cells c e)) w.heap.size 0 xs:=fun j u hu=>by
 rw [ZLI,ZC (ZB w _)];exact h j u hu
theorem QK {w:World}{T:Nat->Nat}{s:Sup}(hT:NTab w T)(h:s.Ok):Calls prog 153 #[s.val] w fun e w'=>e=.returned (.agg ((s.words T).map u64).toArray)/\Bl w w':=by
 have hc:=Xu hT s.front;have HT:=zh hT;have HF:=zh h.front_lt;have h1:=h.v;have h2:=h.l;have h3:=h.h;have h4:=h.g;obtain ⟨V,L,R,U,D,Q,P,G⟩:=s;unfold Sup.val Sup.hl at *;dsimp only at *;clear h hT;obtain ⟨x1,hx1⟩:=xE (V+L * 65536);obtain ⟨x2,hx2⟩:=xE (x1+R * 4294967296);obtain ⟨x3,hx3⟩:=xE (x2+U * 281474976710656);obtain ⟨y1,hy1⟩:=xE (D+Q * 65536);obtain ⟨y2,hy2⟩:=xE (y1+P * 4294967296);have o1:bits .or .u64 (V:Int) ((L:Int) * 65536)=(x1:Int):=Xp (k:=16) (b:=L) (by omega) (by omega) (by omega) (by omega);have o2:bits .or .u64 (x1:Int) ((R:Int) * 4294967296)=(x2:Int):=Xp (k:=32) (b:=R) (by omega) (by omega) (by omega) (by omega);have o3:bits .or .u64 (x2:Int) ((U:Int) * 281474976710656)=(x3:Int):=Xp (k:=48) (b:=U) (by omega) (by omega) (by omega) (by omega);have p1:bits .or .u64 (D:Int) ((Q:Int) * 65536)=(y1:Int):=Xp (k:=16) (b:=Q) (by omega) (by omega) (by omega) (by omega);have p2:bits .or .u64 (y1:Int) ((P:Int) * 4294967296)=(y2:Int):=Xp (k:=32) (b:=P) (by omega) (by omega) (by omega) (by omega);have hfr:Sup.front ⟨V,L,R,U,D,Q,P,G⟩=[JM,G,x3,y2,0,0,0]:=by
  unfold Sup.front Sup.w2 Sup.w3;rw [hx3,hx2,hx1,hy2,hy1]
 unfold Sup.words;rw [hfr] at HF hc ⊢;obtain ⟨K,hK⟩:=xE (Vq T [JM,G,x3,y2,0,0,0]);rw [<-hK] at hc ⊢;have b1:(L:Int)<=4096:=by omega
 have b2:(R:Int)<=4096:=by omega
 have b3:(U:Int)<=4096:=by omega
 have b4:(D:Int)<=4096:=by omega
 have b5:(Q:Int)<=4096:=by omega
 have b6:(P:Int)<=4096:=by omega
 have b7:(V:Int)<=65535:=by omega
 have b8:(K:Int) < 4294967296:=by omega
 have b9:(G:Int) < 18446744073709551616:=by omega
 have HK:=zh hK;clear hx1 hx2 hx3 hy1 hy2 h1 h2 h3 h4 hfr hK hc;go_in;go_wp2_with fail;have hsz:((w.alloc (.cells #[.int .i64 V,.int .i64 L,.int .i64 R,.int .i64 U,.int .i64 D,.int .i64 Q,.int .i64 P,.int .u64 G] 86)).alloc (.cells #[.int .u64 0,.int .u64 0,.int .u64 0,.int .u64 0,.int .u64 0,.int .u64 0,.int .u64 0,.int .u64 0] 285)).heap.size=w.heap.size+1+1:=by simp
 have hb3:Bl w (((w.alloc (.cells #[.int .i64 V,.int .i64 L,.int .i64 R,.int .i64 U,.int .i64 D,.int .i64 Q,.int .i64 P,.int .u64 G] 86)).alloc (.cells #[.int .u64 0,.int .u64 0,.int .u64 0,.int .u64 0,.int .u64 0,.int .u64 0,.int .u64 0,.int .u64 0] 285)).alloc (.cells #[.int .u64 7738151121853964849,.int .u64 G,.int .u64 x3,.int .u64 y2,.int .u64 0,.int .u64 0,.int .u64 0,.int .u64 0] 285)):=ZA (ZA (ZA (Below.refl _ w)));have hs:Seen (((w.alloc (.cells #[.int .i64 V,.int .i64 L,.int .i64 R,.int .i64 U,.int .i64 D,.int .i64 Q,.int .i64 P,.int .u64 G] 86)).alloc (.cells #[.int .u64 0,.int .u64 0,.int .u64 0,.int .u64 0,.int .u64 0,.int .u64 0,.int .u64 0,.int .u64 0] 285)).alloc (.cells #[.int .u64 7738151121853964849,.int .u64 G,.int .u64 x3,.int .u64 y2,.int .u64 0,.int .u64 0,.int .u64 0,.int .u64 0] 285)) (w.heap.size+1+1) 0 ([JM,G,x3,y2,0,0,0].map u64):=by
  rw [<-hsz];exact ZCf _ _ _ (fun j u hj=>by
   have hj7:j=0\/j=1\/j=2\/j=3\/j=4\/j=5\/j=6:=by
    have:=(List.getElem?_eq_some_iff.1 hj).1;simp at this;omega
   rcases hj7 with rfl|rfl|rfl|rfl|rfl|rfl|rfl <;> exact hj)
 refine (words_any (c:=8) (HT.o.below hb3 nR) hs HF.o (by simp)).mono ?_;rintro e w1 ⟨rfl,rfl⟩;rw [<-HK.o];have HB:=zh hb3;clear hs hb3;go_wp2;go_returns;exact ⟨by rw [show ((4294967296:Int)+(K:Int))=((4294967296+K:Nat):Int) by omega];rfl,ZA (ZA (ZA (Below.refl _ w)))⟩
end
end Go.Proofs.YteomliechfdhhaaGreatDoor.Dv
