/- Part 26. -/
import Derived.Test.YteomliechfdhhaaGreatDoorY25
import Derived.OrdersHeld
set_option maxHeartbeats 8000000
set_option maxRecDepth 20000
set_option linter.all false
namespace Go.Proofs.YteomliechfdhhaaGreatDoor.Dv
open Tryz
section
open Go.RowKit Go.Proofs.YteomliechfdhhaaGreatDoor.Size
variable {w:World}{A:DAd}{F:Nat->Option ZK}{L:Nat}{T c:Nat->Nat}
def U8s (w:World)(v:Value)(l:List Nat):Prop:=v=.slice none 0 0/\l=[]\/∃ b o cap,v=.slice (some ⟨b,o,none⟩) l.length cap/\Seen w b o (l.map fun (n:Nat)=>Value.int .u8 (n:Int))
theorem U8s.below {w w':World}{v:Value}{l:List Nat}(h:U8s w v l)(hb:Bl w w'):U8s w' v l:=by
 rcases h with h|⟨b,o,cap,h1,h2⟩
 ·exact .inl h
 ·exact .inr ⟨b,o,cap,h1,h2.below hb nR⟩
theorem U8s.len {w:World}{v:Value}{l:List Nat}(h:U8s w v l):∃ a cap,v=.slice a l.length cap:=by
 rcases h with ⟨h,rfl⟩|⟨b,o,cap,h1,h2⟩
 ·exact ⟨none,0,h⟩
 ·exact ⟨_,cap,h1⟩
theorem U8s.at {w:World}{v:Value}{l:List Nat}(h:U8s w v l){n:Nat}(hn:n < l.length):∃ b o cap,v=.slice (some ⟨b,o,none⟩) l.length cap/\w.cell? ⟨b,o+n,none⟩=some (.int .u8 (l[n]:Nat)):=by
 rcases h with ⟨h,rfl⟩|⟨b,o,cap,h1,h2⟩
 ·simp at hn
 ·exact ⟨b,o,cap,h1,h2 n _ (by simp [hn])⟩
theorem ZD0 (T:Nat->Nat)(line:Nat)(k:Chk)(l:List (Nat×Nat))(p:Nat×Nat):YN T line k (l++[p])=YN T line k l++[hdW T line k p.1 ⟨(k.blk p.1).gen,p.2,177⟩]:=by
 unfold YN;rw [ZLH];rfl
theorem ZDQ (T:Nat->Nat)(line:Nat)(k:Chk)(l:List Nat)(i:Nat):Yc T line k (l++[i])=Yc T line k l++[hdW T line k i (k.blk i).freed]:=by
 unfold Yc;rw [ZLH];rfl
theorem Zc {w:World}{B z n b:Nat}{e t:TypeId}{v:Value}{xs:List Value}{cs:Array Value}(h:w.ownsRow B e z v n xs)(hb:w.heap[b]?=some (.cells cs t (0,0)))(ht:e≠t):v.ownBlock≠some b:=by
 rcases h.2 with ⟨rfl,_⟩|⟨g,cap,cur,rfl,_,hg,_⟩
 ·simp [Value.ownBlock]
 ·intro e1
  have e2:g=b:=ZK5 e1;rw [e2,hb] at hg;simp only [Option.some.injEq,Obj.cells.injEq] at hg;exact ht hg.2.1.symm
theorem VM {w w':World}{b b2:Nat}{A:DAd}{i line:Nat}{k:Chk}{x y z:Value}{t:TypeId}(h:CBox w b A i line k)(h2:w.heap[b2]?=some (.cells #[x,y,z] t (0,0)))(hb:Bl w w'):
 w'.cell? ⟨b,0,none⟩=some (.iface 97 (.pointer (some ⟨A.t i,0,none⟩)))/\w'.cell? ⟨b,1,none⟩=some (.int .i64 line)/\w'.cell? ⟨b,2,none⟩=some (.int .i64 k.cl)/\w'.cell? ⟨b,3,none⟩=some (.int .i64 k.ow)/\w'.cell? ⟨b,4,none⟩=some (.int .u16 k.gen)/\w'.cell? ⟨b2,0,none⟩=some x/\w'.cell? ⟨b2,1,none⟩=some y/\w'.cell? ⟨b2,2,none⟩=some z:=by
 obtain ⟨a0,a1,a2,a3,a4⟩:=h.below hb;obtain ⟨c0,c1,c2,_⟩:=Zb ((hb.block _ (heap_lt h2)).trans h2);exact ⟨a0,a1,a2,a3,a4,c0,c1,c2⟩
theorem ZAX {w:World}{B B':Nat}{e:TypeId}{z n:Nat}{v:Value}{xs:List Value}(h:w.ownsRow B e z v n xs)(hB:B'<=B):w.ownsRow B' e z v n xs:=by
 refine ⟨h.1,?_⟩;rcases h.2 with hn|⟨g,cap,cur,hv,h1,rest⟩
 ·exact .inl hn
 ·exact .inr ⟨g,cap,cur,hv,ZK6 hB h1,rest⟩
theorem ZC6 {x:Nat}(h:x < 62):IntKind.u64.wrap ((2:Int) ^ x)=((2 ^ x:Nat):Int):=by
 have h2x:2 ^ x < 4611686018427387904:=Nat.pow_lt_pow_right (by omega) h;rw [show ((2 ^ x:Nat):Int)=(2:Int) ^ x by simp];have p0:(0:Int)<=(2:Int) ^ x:=Int.pow_nonneg (by decide);have p1:=Int.ofNat_lt.2 h2x;rw [show ((2 ^ x:Nat):Int)=(2:Int) ^ x by simp,show ((4611686018427387904:Nat):Int)=4611686018427387904 from rfl] at p1;rw [IntWalk.u64_in] <;> omega
def CgT (W:World)(T:Nat->Nat)(line:Nat)(k:Chk)(tk:List (Nat×Nat))(v s j:Value)(wr:World):Prop:=
 ∃ n:Nat,n<=tk.length/\j=.int .i64 (n:Nat)/\wr.ownsRow W.heap.size 155 2 v n (ZP (YN T line k (tk.take n)))/\s=.int .u64 (Ze (k.tooks (tk.take n)).used (perN k):Nat)/\Bl W wr
def CgD (W:World)(T:Nat->Nat)(line:Nat)(k:Chk)(tk:List (Nat×Nat))(dr:List Nat)(v s j:Value)(wr:World):Prop:=
 ∃ n:Nat,n<=dr.length/\j=.int .i64 (n:Nat)/\wr.ownsRow W.heap.size 155 2 v (tk.length+n) (ZP (YN T line k tk++Yc T line k (dr.take n)))/\s=.int .u64 (Ze ((k.tooks tk).drops (dr.take n)).used (perN k):Nat)/\Bl W wr
theorem ZA0 (h:Ar w A F L T c) {i:Nat} (hi:i < 8) {line:Nat} (hl:line+32<=L) {k:Chk} (hR:CRep T c (8 * line) k) (hk:0<=k.cl) {tk:List (Nat×Nat)} {dr:List Nat} (hc:k.Can tk dr) (hne:0 < tk.length+dr.length) (hlt:tk.length<=100/\dr.length<=100)
 {v1 v2 v3:Value} (h1:Nats w v1 (tk.map (·.1))) (h2:U8s w v2 (tk.map (·.2))) (h3:Nats w v3 dr):
 Calls prog 182 #[chV A i line k,v1,v2,v3] w fun e w'=>∃ v,e=.returned (.tuple #[v,.bool true])/\Wrt w' w.heap.size v (ZO T line k tk dr)/\Bl w w':=by
 have hL:=h.lines;have hp62:=hR.head.sizes.2.2.1;have HRD:=zh (fun (j:Nat) (hj:j < perN k) w1 (hb:Bl w w1)=>Uv (h.below hb) hi hl hR hk hj);have HAT:=zh (fun (j:Nat) (hj:j < perN k) (w1:World) (hb:Bl w w1)=>ZAz (i:=i) (h.below hb) hl hR.head hj);have HGD:=zh (fun (j:Nat) (hj:j < perN k)=>hR.good hk j hj);have HBI:=zh (fun w1 (hb:Bl w w1)=>Us (h.below hb) hi hl (k:=k));rw [hR.bits hk] at HBI;have HST:=zh (fun w1=>Yf (w:=w1) (line:=line) (by omega));have HBW:=zh (fun (b:Blk) (hb:b.Good) w1 (hx:Bl w w1)=>ZAA (T:=T) (h.below hx).nib hb);have HCAN:=zh hc;have HN1:=zh h1;have HN2:=zh h2;have HN3:=zh h3;have HHD:=zh hR.head;obtain ⟨a1,q1,e1⟩:=h1.len;obtain ⟨a2,q2,e2⟩:=h2.len;obtain ⟨a3,q3,e3⟩:=h3.len;rw [ZK7] at e1 e2;have HLI:=zh (show line<=4064 by omega);have HB:=zh (ZA (o:=.cells #[.iface 97 (.pointer (some ⟨A.t i,0,none⟩)),.int .i64 line,.int .i64 k.cl,.int .i64 k.ow,.int .u16 k.gen] 195) (Below.refl w.heap.size w));have HC:=zh (CBox.new (w:=w) (A:=A) (i:=i) (line:=line) (k:=k));subst e1;subst e2;subst e3;obtain ⟨NT,hNT⟩:=xE tk.length;obtain ⟨ND,hND⟩:=xE dr.length;rw [<-hNT,<-hND] at hne;have HNT:=zh hNT;have HND:=zh hND;have HLT:=zh hlt;have HP:=zh hp62;rw [<-hNT,<-hND];unfold chV bkV at *;clear h hR hl hi hk hc h1 h2 h3 hL hlt hNT hND hp62;go_in;obtain ⟨W0,hW0⟩:=xE (w.alloc (.cells #[.iface 97 (.pointer (some ⟨A.t i,0,none⟩)),.int .i64 line,.int .i64 k.cl,.int .i64 k.ow,.int .u16 k.gen] 195));rw [<-hW0] at HB HC;go_upto_region 1 with fail;rw [<-hW0];clear hW0
 go_cut [29] (fun v wx=>v=.bool false/\wx=W0)
 ·by_cases hz:NT=0
  ·have d1:((NT:Int) == 0)=true:=by simp [hz]
   have d2:((ND:Int) == 0)=false:=by simp;omega
   clear hz hne;go_wp2_with fail;go_meet;exact ⟨rfl,rfl⟩
  ·have d1:((NT:Int) == 0)=false:=by simp [hz]
   clear hz hne;go_wp2_with fail;go_meet;exact ⟨rfl,rfl⟩
 ·obtain ⟨rfl,hwc⟩:=hcut
  subst hwc
  (try clear c0 c1 c2 c3 c4)
  obtain ⟨c0,c1,c2,c3,c4⟩:=id HC.o;go_wp2_with fail;refine (HBI.o _ HB.o).mono ?_;rintro e v1 ⟨rfl,hb⟩;replace HC:=zh (HC.o.below hb);replace HB:=zh (HB.o.trans (hb.mono HB.o.size));clear hb;go_wp2_with fail;clear HBI c0 c1 c2 c3 c4
  go_loopw [10,11,34] (fun v s j wr=>CgT v1 T line k tk v s j wr) (fun _ _ j _=>NT - (intOf j).toNat)
  case atStart=>exact ⟨0,by omega,rfl,ZLD _ _ _ _,rfl,bR⟩
  case round=>
   obtain ⟨n,hn,rfl,hown,rfl,hbel⟩:=hrel;have HBB:=zh hbel;have HO:=zh hown;have HCC:=zh (HC.o.below hbel);have HBW2:=zh (HB.o.trans (hbel.mono HB.o.size));rw [<-HNT.o] at hn
   by_cases hlt:n < NT
   ·have hlt2:(n:Int) < NT:=by omega
    have hlt3:n < tk.length:=by have:=HNT.o;omega
    obtain ⟨b1,o1,r1,g1,k1⟩:=(HN1.o.below HBW2.o).at (n:=n) (by rw [ZK7];exact hlt3)
    obtain ⟨b2,o2,r2,g2,k2⟩:=(HN2.o.below HBW2.o).at (n:=n) (by rw [ZK7];exact hlt3)
    rw [ZK7] at g1 g2;cases g1;cases g2;rw [List.getElem_map] at k1 k2;obtain ⟨p,hp⟩:=xE (tk[n]);rw [<-hp] at k1 k2;have hpm:p∈tk:=by rw [hp];exact ZLF _
    have hplt:p.1 < perN k:=HCAN.o.lt _ (ZK1.2 (.inl (ZKz.2 ⟨p,hpm,rfl⟩)));have hfr:=HCAN.o.free p hpm;have hkd:=HCAN.o.kind p hpm;have hgd:=HGD.o _ hplt;have HR1:=zh (HRD.o _ hplt);have HP1:=zh hp;have hu:k.used p.1=false:=by unfold Chk.used;rw [hfr];rfl
    have hk0:(k.blk p.1).kind=0:=by have:=hgd.st;omega
    rw [hu,hfr,hk0] at HR1;obtain ⟨ra,rc,hv⟩:=ZR hown;subst hv;obtain ⟨x,hx⟩:=xE p.1;obtain ⟨kd,hkdd⟩:=xE p.2;obtain ⟨g,hg⟩:=xE ((k.blk p.1).gen);rw [<-hx] at k1 HR1;rw [<-hkdd] at k2;rw [<-hx,] at hg;rw [<-hg] at HR1;have HX:=zh hx;have HKD:=zh hkdd;have HG:=zh hg;clear hown hbel hp hpm hx hkdd hg hu;have HB1:=HB;have HC1:=HC;replace HB:=HBW2;replace HC:=HCC;clear HBW2 HCC;have HGOOD:=zh (fun w1=>show Calls prog 213 #[.agg #[.int .u16 g,.int .u8 0,.int .u8 176]] w1 _ from by
     have:=ZAC (w:=w1) (b:=⟨g,0,176⟩) ⟨by rw [HG.o,HX.o];exact hgd.gen,.inl ⟨rfl,rfl⟩⟩;unfold bkV at this;exact this)
    (try clear c0 c1 c2 c3 c4)
    obtain ⟨c0,c1,c2,c3,c4⟩:=id HC.o;go_wp2_with fail;refine (HR1.o _ HB.o).mono ?_;rintro e v2 ⟨rfl,hb⟩;replace HC:=zh (HC.o.below hb);replace HBB:=zh (HBB.o.trans (hb.mono HBB.o.size));replace HO:=zh (ZQ HO.o hb);replace HB:=zh (HB.o.trans (hb.mono HB.o.size));clear hb;go_wp2_with fail;have hz:=HBB.o.size;have hz0:w.heap.size < v2.heap.size:=ZK2 _ _ HC.o.1;obtain ⟨v3,hv3⟩:∃ v:World,v=v2.alloc (.cells #[.int .u16 g,.int .u8 0,.int .u8 176] 268):=⟨_,rfl⟩
    have HN:=zh (show v3.heap[v2.heap.size]?=some (.cells #[.int .u16 g,.int .u8 0,.int .u8 176] 268) by rw [hv3];exact ZB v2 _);have hb:Bl v2 v3:=by rw [hv3];exact ZA bR
    replace HC:=zh (HC.o.below hb);replace HBB:=zh (HBB.o.trans (hb.mono HBB.o.size));replace HO:=zh (ZQ HO.o hb);replace HB:=zh (HB.o.trans (hb.mono HB.o.size));rw [<-hv3];clear hb hv3;refine (HGOOD.o _).mono ?_;rintro e v4 ⟨rfl,hb⟩;replace HN:=zh ((hb.block _ (heap_lt HN.o)).trans HN.o);replace HC:=zh (HC.o.below hb);replace HO:=zh (ZQ HO.o hb);replace HBB:=zh (HBB.o.trans (hb.mono HBB.o.size));replace HB:=zh (HB.o.trans (hb.mono HB.o.size));clear hb HGOOD k1 k2;obtain ⟨b2',o2',r2',g2,k2⟩:=(HN2.o.below HB.o).at (n:=n) (by rw [ZK7];exact hlt3)
    rw [ZK7] at g2;cases g2;rw [List.getElem_map,<-HP1.o,<-HKD.o] at k2
    (try clear c0 c1 c2 c3 c4)
    obtain ⟨c0,c1,c2,c3,c4⟩:=id HC.o;obtain ⟨b0,b1',b2',f0,f1,f2⟩:=Zb HN.o;go_upto_region 12 with fail;obtain ⟨W5,hW5⟩:=xE ((v4.setCell ⟨v2.heap.size,1,none⟩ (.int .u8 kd)).setCell ⟨v2.heap.size,2,none⟩ (.int .u8 177));have hap:=Zc HO.o HN.o (by decide);have HN5:=zh (show W5.heap[v2.heap.size]?=some (.cells #[.int .u16 g,.int .u8 kd,.int .u8 177] 268 (0,0)) by rw [hW5];exact ZH (ZH HN.o));have HC5:=zh (show CBox W5 w.heap.size A i line k by rw [hW5];exact (HC.o.setc (by omega)).setc (by omega));have HO5:=zh (show W5.ownsRow v1.heap.size 155 2 (.slice ra n rc) n (ZP (YN T line k (tk.take n))) by rw [hW5];exact ownsRow_setCell_other (ownsRow_setCell_other HO.o hap _) hap _);have HBB5:=zh (show Bl v1 W5 by rw [hW5];exact ZE (ZE HBB.o hz) hz);have HB5:=zh (show Bl w W5 by rw [hW5];exact ZE (ZE HB.o (by omega)) (by omega));rw [<-hW5];clear hW5 hap c0 c1 c2 c3 c4 b0 b1' b2' f0 f1 f2 HC HO HBB HN k2 HB;have hxlt:x < perN k:=by rw [HX.o];exact hplt
    have HAT5:=zh (XR HB5.o (HAT.o x hxlt));have HBW5:=zh (XR HB5.o (HBW.o ⟨g,kd,177⟩ ⟨by rw [HG.o,HX.o];exact hgd.gen,.inr (.inl ⟨rfl,by rw [HKD.o];exact hkd⟩)⟩));have HR0:=zh (Below.refl W5.heap.size W5);obtain ⟨N,hN⟩:=xE ((8 * line+hdN k x) * 8);rw [<-hN] at HAT5;have HNN:=zh hN;clear hN;obtain ⟨S,hS⟩:=xE (ZX T (Blk.info ⟨g,kd,177⟩));rw [<-hS] at HBW5;have HSS:=zh hS;clear hS;simp only at HBW5;have HTK:=zh (show YN T line k (tk.take (n+1))=YN T line k (tk.take n)++[(N,S)] by
     rw [ZLE hlt3,ZD0,<-HP1.o,HNN.o,HSS.o,HG.o,HKD.o,HX.o];rfl)
    have hcaps:n+1<=101:=by have:=HLT.o.1;omega
    go_cut [10] (fun v wx=>wx.ownsRow v1.heap.size 155 2 v (n+1) (ZP (YN T line k (tk.take (n+1))))/\Bl v1 wx)
    ·obtain ⟨c0,c1,c2,c3,c4,b0,b1',b2'⟩:=VM HC5.o HN5.o HR0.o
     go_region_law (first
      |(refine ZJ rfl func189 rfl rfl rfl (HAT5.o _ (by repeat (with_reducible first|assumption|exact HR0.o|apply ZA|apply ZD))) (by first|(simp [Act.eval];done)|(simp [Act.eval];rfl)) ?_;rintro e V1 ⟨rfl,hb1⟩;refine ⟨_,rfl,?_⟩;obtain ⟨x0,x1,x2,x3,x4,y0,y1,y2⟩:=VM HC5.o HN5.o hb1)
      |(refine ZJ rfl func208 rfl rfl rfl (HBW5.o _ (by repeat (with_reducible first|assumption|exact HR0.o|apply ZA|apply ZD))) (by first|(simp [Act.eval];done)|(simp [Act.eval];rfl)) ?_;rintro e V2 ⟨rfl,hb2⟩;refine ⟨_,rfl,?_⟩)
      |(refine Y8 elWrites rfl _ _ rfl (ZQ HO5.o (by repeat (with_reducible first|assumption|exact HR0.o|apply ZA|apply ZD))) (by rfl) (by rfl) (by rfl) (by rfl) (by intro u hu;simp at hu;rcases hu with rfl|rfl <;> rfl) (by unfold maxLen;omega) (by omega) (by have:=HBB5.o.size;have:=hb2.size;omega) ?_;intro g4 cap4 w5 hop5 hgr5))
     all_goals
      (try go_simp)
      (try go_wp2_with fail)
      go_meet;refine ⟨?_,ZN (HBB5.o.trans (hb2.mono HBB5.o.size)) hgr5 (by have:=HBB5.o.size;have:=hb2.size;omega) (fun b hb=>(HO5.o.lt b hb).1)⟩;rw [HTK.o,Zk];exact hop5
    ·obtain ⟨hown6,hbel6⟩:=hcut
     have G6:=zh hown6;have GB:=zh hbel6;clear hown6 hbel6;have hnd:x∉(tk.take n).map (·.1):=by
      obtain ⟨n1,_⟩:=Xi HCAN.o.nodup;have hm:=(ZLY.1 (List.nodup_iff_pairwise_ne.1 n1))
      intro hin;obtain ⟨m,hm1,hm2⟩:=List.getElem_of_mem hin;rw [ZK7,List.length_take] at hm1;rw [List.getElem_map,List.getElem_take] at hm2;have:=hm m n (by rw [ZK7];omega) (by rw [ZK7];exact hlt3) (by omega);rw [List.getElem_map,List.getElem_map,hm2,<-HP1.o] at this;exact this HX.o
     have hused:(k.tooks (tk.take n)).used x=false:=by
      unfold Chk.used;rw [Chk.tooks_other k hnd,HX.o,hfr];rfl
     obtain ⟨X,hX⟩:=xE (Ze (k.tooks (tk.take n)).used (perN k));have hat:=Ys (k.tooks (tk.take n)).used hxlt;have hblt:=YW (k.tooks (tk.take n)).used (perN k);have hnew:Ze (k.tooks (tk.take (n+1))).used (perN k)=X+2 ^ x:=by
      rw [ZLE hlt3,Chk.tooks_snoc,<-HP1.o,<-HX.o,hX];exact ZAw hxlt hused (by show 177≠176;omega)
     rw [hused,ZKu (by simp)] at hat;rw [<-hX] at hat hblt ⊢;have hp62:=HP.o;have hx62:x < 62:=by omega
     have h2x:2 ^ x < 4611686018427387904:=Nat.pow_lt_pow_right (by omega) hx62;have hXl:X < 4611686018427387904:=ZLC hblt (Nat.pow_le_pow_right (by omega) hp62);have e2:=u64_or_nat X (2 ^ x) (by omega) (by omega);rw [ZDg hat] at e2;have E2:=zh e2;have HNW:=zh hnew;have d2:(x:Int) < 64:=by omega
     clear hnd hused hat hblt hnew hX hXl e2 hfr hkd hgd hplt HAT5 HBW5 HN5 HC5 HO5;go_wp2_with fail;have w2:IntKind.u64.wrap ((2:Int) ^ x)=((2 ^ x:Nat):Int):=ZC6 hx62;rw [w2,E2.o];refine ⟨⟨n+1,by have:=HNT.o;omega,by simp,G6.o,by rw [HNW.o],GB.o⟩,?_⟩;simp only [intOf];omega
   ·obtain rfl:n=NT:=by omega
    have hall:tk.take n=tk:=ZLV (by rw [HNT.o];exact nR);rw [hall] at hown ⊢;obtain ⟨ra,rc,hv⟩:=ZR hown;subst hv;have HO2:=zh hown;have d1:¬ ((n:Int) < n):=by omega
    have HB2:=HBW2;have HC2:=HCC;have HBL2:=HBB;clear hown hbel HBB HO HCC HBW2 hall hlt;go_wp2_with fail
    go_loopw [10,11,84] (fun v s j wr2=>CgD v1 T line k tk dr v s j wr2) (fun _ _ j _=>ND - (intOf j).toNat)
    case atStart=>exact ⟨0,by omega,rfl,by rw [<-HNT.o];simpa [Yc] using HO2.o,rfl,HBL2.o⟩
    case round=>
     obtain ⟨m,hm,rfl,hown,rfl,hbel⟩:=hrel;have HBB:=zh hbel;have HO:=zh hown;have HCC:=zh (HC.o.below hbel);have HBW2:=zh (HB.o.trans (hbel.mono HB.o.size));rw [<-HND.o] at hm
     by_cases hlt:m < ND
     ·have hlt2:(m:Int) < ND:=by omega
      have hlt3:m < dr.length:=by have:=HND.o;omega
      obtain ⟨b1,o1,r1,g1,k1⟩:=(HN3.o.below HBW2.o).at hlt3;cases g1;obtain ⟨x,hx⟩:=xE (dr[m]);rw [<-hx] at k1;have hxm:x∈dr:=by rw [hx];exact ZLF _
      have hxlt:x < perN k:=HCAN.o.lt _ (ZK1.2 (.inr hxm));have hal:=HCAN.o.all x hxm;have hgd:=HGD.o _ hxlt;have HR1:=zh (HRD.o _ hxlt);have HX:=zh hx;have hu:k.used x=true:=by unfold Chk.used;rw [hal];rfl
      rw [hu,hal] at HR1;obtain ⟨rb,rcc,hv⟩:=ZR hown;subst hv;obtain ⟨fb,hfb⟩:=xE ((k.blk x).freed);have HFB:=zh hfb;have hfg:fb.Good:=by rw [hfb];exact Blk.freed_good hgd
      have HFR:=zh (fun w1=>show Calls prog 222 #[.agg #[.int .u16 (k.blk x).gen,.int .u8 (k.blk x).kind,.int .u8 177]] w1 _ from by
       have:=ZDC (w:=w1) (b:=k.blk x) hgd.gen.2;rw [<-hfb] at this;unfold bkV at this;rw [hal] at this;exact this)
      obtain ⟨g,hg⟩:=xE ((k.blk x).gen);obtain ⟨kd,hkd⟩:=xE ((k.blk x).kind);rw [<-hg,<-hkd] at HR1 HFR;have HB1:=HB;have HC1:=HC;replace HB:=HBW2;replace HC:=HCC;clear hown hbel hx hu hfb hg hkd HBW2 HCC
      (try clear c0 c1 c2 c3 c4)
      obtain ⟨c0,c1,c2,c3,c4⟩:=id HC.o;go_wp2_with fail;refine (HR1.o _ HB.o).mono ?_;rintro e v4 ⟨rfl,hb⟩;replace HC:=zh (HC.o.below hb);replace HBB:=zh (HBB.o.trans (hb.mono HBB.o.size));replace HO:=zh (ZQ HO.o hb);replace HB:=zh (HB.o.trans (hb.mono HB.o.size));clear hb;go_wp2_with fail;have hz:=HBB.o.size;have hz0:w.heap.size < v4.heap.size:=ZK2 _ _ HC.o.1;obtain ⟨v5,hv5⟩:∃ v:World,v=v4.alloc (.cells #[.int .u16 g,.int .u8 kd,.int .u8 177] 268):=⟨_,rfl⟩
      have HN:=zh (show v5.heap[v4.heap.size]?=some (.cells #[.int .u16 g,.int .u8 kd,.int .u8 177] 268) by rw [hv5];exact ZB v4 _);have hb:Bl v4 v5:=by rw [hv5];exact ZA bR
      replace HC:=zh (HC.o.below hb);replace HBB:=zh (HBB.o.trans (hb.mono HBB.o.size));replace HO:=zh (ZQ HO.o hb);replace HB:=zh (HB.o.trans (hb.mono HB.o.size));rw [<-hv5];clear hb hv5;refine (HFR.o _).mono ?_;rintro e v7 ⟨rfl,hb⟩;replace HN:=zh ((hb.block _ (heap_lt HN.o)).trans HN.o);replace HC:=zh (HC.o.below hb);replace HO:=zh (ZQ HO.o hb);replace HBB:=zh (HBB.o.trans (hb.mono HBB.o.size));replace HB:=zh (HB.o.trans (hb.mono HB.o.size));clear hb HFR k1
      (try clear c0 c1 c2 c3 c4)
      obtain ⟨c0,c1,c2,c3,c4⟩:=id HC.o;obtain ⟨b0,b1',b2',f0,f1,f2⟩:=Zb HN.o;go_upto_region 22 with fail;obtain ⟨W5,hW5⟩:=xE (((v7.setCell ⟨v4.heap.size,0,none⟩ (.int .u16 fb.gen)).setCell ⟨v4.heap.size,1,none⟩ (.int .u8 fb.kind)).setCell ⟨v4.heap.size,2,none⟩ (.int .u8 fb.st));have hap:=Zc HO.o HN.o (by decide);have HN5:=zh (show W5.heap[v4.heap.size]?=some (.cells #[.int .u16 fb.gen,.int .u8 fb.kind,.int .u8 fb.st] 268 (0,0)) by rw [hW5];exact ZH (ZH (ZH HN.o)));have HC5:=zh (show CBox W5 w.heap.size A i line k by rw [hW5];exact ((HC.o.setc (by omega)).setc (by omega)).setc (by omega));have HO5:=zh (show W5.ownsRow v1.heap.size 155 2 (.slice rb (tk.length+m) rcc) (tk.length+m) (ZP (YN T line k tk++Yc T line k (dr.take m))) by rw [hW5];exact ownsRow_setCell_other (ownsRow_setCell_other (ownsRow_setCell_other HO.o hap _) hap _) hap _);have HBB5:=zh (show Bl v1 W5 by rw [hW5];exact ZE (ZE (ZE HBB.o hz) hz) hz);have HB5:=zh (show Bl w W5 by rw [hW5];exact ZE (ZE (ZE HB.o (by omega)) (by omega)) (by omega));rw [<-hW5];clear hW5 hap c0 c1 c2 c3 c4 b0 b1' b2' f0 f1 f2 HC HO HBB HN HB;have HAT5:=zh (XR HB5.o (HAT.o x hxlt));have HBW5:=zh (XR HB5.o (HBW.o fb hfg));have HR0:=zh (Below.refl W5.heap.size W5);obtain ⟨N,hN⟩:=xE ((8 * line+hdN k x) * 8);rw [<-hN] at HAT5;have HNN:=zh hN;clear hN;obtain ⟨S,hS⟩:=xE (ZX T fb.info);rw [<-hS] at HBW5;have HSS:=zh hS;clear hS;have HTK:=zh (show YN T line k tk++Yc T line k (dr.take (m+1))=(YN T line k tk++Yc T line k (dr.take m))++[(N,S)] by
       rw [ZLE hlt3,ZDQ,<-HX.o,HNN.o,HSS.o,HFB.o,List.append_assoc];rfl)
      have hcaps:tk.length+m+1<=201:=by have:=HLT.o;omega
      go_cut [10] (fun v wx=>wx.ownsRow v1.heap.size 155 2 v (tk.length+m+1) (ZP (YN T line k tk++Yc T line k (dr.take (m+1))))/\Bl v1 wx/\wx.cell? ⟨v4.heap.size,2,none⟩=some (.int .u8 fb.st))
      ·obtain ⟨c0,c1,c2,c3,c4,b0,b1',b2'⟩:=VM HC5.o HN5.o HR0.o
       go_region_law (first
        |(refine ZJ rfl func189 rfl rfl rfl (HAT5.o _ (by repeat (with_reducible first|assumption|exact HR0.o|apply ZA|apply ZD))) (by first|(simp [Act.eval];done)|(simp [Act.eval];rfl)) ?_;rintro e V1 ⟨rfl,hb1⟩;refine ⟨_,rfl,?_⟩;obtain ⟨x0,x1,x2,x3,x4,y0,y1,y2⟩:=VM HC5.o HN5.o hb1)
        |(refine ZJ rfl func208 rfl rfl rfl (HBW5.o _ (by repeat (with_reducible first|assumption|exact HR0.o|apply ZA|apply ZD))) (by first|(simp [Act.eval];done)|(simp [Act.eval];rfl)) ?_;rintro e V2 ⟨rfl,hb2⟩;refine ⟨_,rfl,?_⟩)
        |(refine Y8 elWrites rfl _ _ rfl (ZQ HO5.o (by repeat (with_reducible first|assumption|exact HR0.o|apply ZA|apply ZD))) (by rfl) (by rfl) (by rfl) (by rfl) (by intro u hu;simp at hu;rcases hu with rfl|rfl <;> rfl) (by unfold maxLen;omega) (by omega) (by have:=HBB5.o.size;have:=hb2.size;omega) ?_;intro g4 cap4 w5 hop5 hgr5))
       all_goals
        (try go_simp)
        (try go_wp2_with fail)
        go_meet;refine ⟨?_,ZN (HBB5.o.trans (hb2.mono HBB5.o.size)) hgr5 (by have:=HBB5.o.size;have:=hb2.size;omega) (fun b hb=>(HO5.o.lt b hb).1),?_⟩
        ·rw [HTK.o,Zk]
         exact hop5
        ·have hcell:=(VM HC5.o HN5.o hb2).2.2.2.2.2.2.2
         exact (ZK8 (hgr5.block _ (ZK2 _ _ hcell) (fun e=>Zc HO5.o HN5.o (by decide) (by first|exact e|exact e.symm)))).trans hcell
      ·obtain ⟨hown6,hbel6,k6⟩:=hcut
       have G6:=zh hown6;have GB:=zh hbel6;clear hown6 hbel6;have hnd:x∉dr.take m:=by
        obtain ⟨_,n2,_⟩:=Xi HCAN.o.nodup;have hmm:=(ZLY.1 (List.nodup_iff_pairwise_ne.1 n2))
        intro hin;obtain ⟨q,hq1,hq2⟩:=List.getElem_of_mem hin;rw [List.length_take] at hq1;rw [List.getElem_take] at hq2;have:=hmm q m (by omega) hlt3 (by omega);rw [hq2,<-HX.o] at this;exact this rfl
       have hnt:x∉tk.map (·.1):=by
        obtain ⟨_,_,_,n4⟩:=Xi HCAN.o.nodup;exact n4 x hxm
       have hblk:((k.tooks tk).drops (dr.take m)).blk x=k.blk x:=by rw [Chk.drops_other _ hnd,Chk.tooks_other _ hnt]
       have hused:((k.tooks tk).drops (dr.take m)).used x=true:=by unfold Chk.used;rw [hblk,hal];rfl
       have hsn:(k.tooks tk).drops (dr.take (m+1))=((k.tooks tk).drops (dr.take m)).put x fb:=by
        rw [ZLE hlt3,Chk.drops_snoc,<-HX.o];unfold Chk.drop;rw [hblk,HFB.o]
       by_cases hst:fb.st=176
       ·have e1:((fb.st:Int) == 176)=true:=by simp [hst]
        have hnew:=J7 (n:=perN k) (b:=fb) hxlt hused hst;rw [<-hsn] at hnew;have hu2:((k.tooks tk).drops (dr.take (m+1))).used x=false:=by
         rw [hsn];unfold Chk.used;rw [Chk.put_same,hst];rfl
        have hat:=Ys ((k.tooks tk).drops (dr.take (m+1))).used hxlt;rw [hu2,ZKu (by simp)] at hat;have hblt:=YW ((k.tooks tk).drops (dr.take m)).used (perN k);have hp62:=HP.o;have hx62:x < 62:=by omega
        have hlt62:Ze ((k.tooks tk).drops (dr.take m)).used (perN k) < 4611686018427387904:=ZLC hblt (Nat.pow_le_pow_right (by omega) hp62);rw [<-hnew] at hlt62 ⊢;obtain ⟨Y,hY⟩:=xE (Ze ((k.tooks tk).drops (dr.take (m+1))).used (perN k));rw [<-hY] at hat hlt62 ⊢;have E2:=zh (Qj (y:=Y) (x:=x) (by omega) (by omega) hat);have HY:=zh hY;have d2:(x:Int) < 64:=by omega
        obtain ⟨Z,hZ⟩:=xE (Y+2 ^ x);rw [<-hZ] at E2 ⊢;clear hnew hsn hused hblk hnt hnd hu2 hat hblt hlt62 hY hZ;go_wp2_with fail;rw [ZC6 hx62,E2.o];refine ⟨⟨m+1,by have:=HND.o;omega,by simp,G6.o,by rw [HY.o],GB.o⟩,?_⟩;simp only [intOf];omega
       ·have e1:((fb.st:Int) == 176)=false:=by simp;omega
        have hnew:=Qq (n:=perN k) (b:=fb) hused hst;rw [<-hsn] at hnew;have HNW:=zh hnew;clear hnew hsn hused hblk hnt hnd;go_wp2_with fail;refine ⟨⟨m+1,by have:=HND.o;omega,by simp,G6.o,by rw [HNW.o],GB.o⟩,?_⟩;simp only [intOf];omega
     ·obtain rfl:m=ND:=by omega
      have hall:dr.take m=dr:=ZLV (by rw [HND.o];exact nR);rw [hall] at hown ⊢;obtain ⟨rb,rcc,hv⟩:=ZR hown;subst hv;have HO2:=zh hown;have HBB2:=zh hbel;have d1:¬ ((m:Int) < m):=by omega
      have hbase:=HB.o.size;have hb5:=hbel.size;replace HC:=HCC;replace HB:=HBW2;obtain ⟨X,hX⟩:=xE (Ze ((k.tooks tk).drops dr).used (perN k));rw [<-hX];obtain ⟨M,hM⟩:∃ M:Nat,M=line * 64:=⟨_,rfl⟩
      rw [<-hM] at HST;have b1:(M:Int)<=262144:=by have:=HLI.o;omega
      have HX:=zh hX;have HM:=zh hM;clear hown hbel hall hlt hX hM HO HBB HCC HBW2 HRD HAT HGD HBW
      (try clear c0 c1 c2 c3 c4)
      obtain ⟨c0,c1,c2,c3,c4⟩:=id HC.o;go_wp2_with fail;refine (HST.o _).mono ?_;rintro e w' ⟨rfl,rfl⟩;have e1:=zh (show ((M:Int)+8)=((M+8:Nat):Int) by omega);have hcaps:tk.length+m+1<=201:=by have:=HLT.o;have:=HND.o;omega
      go_wp2_with (at_builtin;refine ZT elWrites rfl _ _ rfl HO2.o rfl rfl ?c1 rfl ?c2 ?c3 ?c4 ?c5 ?_)
      case c1=>rfl
      case c2=>exact ⟨rfl,rfl⟩
      case c3=>unfold maxLen;omega
      case c4=>omega
      case c5=>exact hb5
      intro g4 cap4 w5 hop5 hgr5 hg5;have G:=zh (show Wrt w5 w.heap.size (.slice (some ⟨g4,0,none⟩) (tk.length+m+1) cap4) (ZO T line k tk dr)/\Bl w w5 from by
       refine ⟨?_,ZN HB.o hgr5 HB.o.size (fun b hb=>by have:=(HO2.o.lt b hb).1;omega)⟩;unfold Wrt;have e3:ZO T line k tk dr=YN T line k tk++Yc T line k dr++[(M+8,X)]:=by
        unfold ZO Qp;rw [(Chk.same_after k tk dr).perN,HX.o,HM.o,show (8 * line+1) * 8=line * 64+8 by omega];rfl
       have e4:(ZO T line k tk dr).length=tk.length+m+1:=by
        rw [e3];simp only [ZK4,YN,Yc,ZK7,List.length_cons,List.length_nil,HND.o]
       rw [e4,e3,Zk];rw [e1.o] at hop5;exact ZAX hop5 hbase)
      clear hop5 hgr5 hg5;go_wp2;go_returns;exact ⟨_,rfl,G.o.1,G.o.2⟩
section
variable {P:Program}{md:Region.Mode}{ops:Array Oper}{Q:Exit->Act->World->Prop}{S:Array Bool->World->Prop}
def AnyL (P:Program)(md:Region.Mode)(ops:Array Oper)(Q:Exit->Act->World->Prop)(S:Array Bool->World->Prop):Nat->Array Bool->Act->World->Prop
 |0,L,a,w=>Region.ready md ops L=[]/\Q .normal a w
 |n+1,L,a,w=>(Region.ready md ops L=[]->Q .normal a w)/\
  ∀ i∈Region.ready md ops L,wpOp P ops Q i (fun a' w'=>S (L.setIfInBounds i true) w'/\AnyL P md ops Q S n (L.setIfInBounds i true) a' w') a w
theorem AnyL.any:∀ {n:Nat} {L:Array Bool} {a:Act} {w:World},AnyL P md ops Q S n L a w->wpAny P md ops Q n L a w
 |0,_,_,_,h=>h
 |_+1,_,_,_,h=>⟨h.1,fun i hi=>wpOp_mono (fun _ _ h'=>AnyL.any h'.2) (h.2 i hi)⟩
def ZAq (md:Region.Mode)(ops:Array Oper)(d i:Nat):Bool:=
 match ops[d]? with
 |some od=>od.after.any (fun e=>Region.binds md e && e.on == i)
 |none=>false
theorem Jt {d i:Nat}{L:Array Bool}(h:ZAq md ops d i=true)(hi:L.getD i false=false):d∉Region.ready md ops L:=by
 intro hd;obtain ⟨_,od,hod,hall⟩:=mem_ready.1 hd;unfold ZAq at h;rw [hod] at h;obtain ⟨e,he,hb⟩:=Array.any_eq_true'.1 h;simp only [Bool.and_eq_true,beq_iff_eq] at hb;have:=hall e he hb.1;rw [hb.2,hi] at this;cases this
theorem AnyL.first {i d:Nat} {oi:Oper} {v:Value} {S0:World->Prop} (hi:ops[i]?=some oi) (hw:ZAq md ops d i=true) (hsel:∀ (j:Nat) (o:Oper) cs b,ops[j]?=some o->o.op≠.select cs b)
 (hQ:∀ c a w,Q (.panic c) (a.put oi.dst v) w->Q (.panic c) a w)(hSi:∀ L w,S (L.setIfInBounds i true) w->S L w)(hS0:∀ L w,S L w->L.getD d true=false->S0 w):
 ∀ (n:Nat) (L:Array Bool) (a:Act) (w:World),
  (∀ j oj,ops[j]?=some oj->j≠i->L.getD j true=false->(∀ e∈oj.after,Region.binds md e=true->e.on≠i)->oi.apart ops oj=true)->
  i∈Region.ready md ops L->L.getD d true=false->YieldsIf P ops S0 oi v a->S L w->
  AnyL P md ops Q S n (L.setIfInBounds i true) (a.put oi.dst v) w->S (L.setIfInBounds i true) w->AnyL P md ops Q S (n+1) L a w:=by
 intro n
 induction n with
 |zero=>
  intro L a w _ hr hd hy hS H hS';refine ⟨fun h=>(by rw [h] at hr;cases hr),fun j hj=>?_⟩
  by_cases hji:j=i
  ·subst hji;exact hy.wpOp hi (hS0 L w hS hd) ⟨hS',H⟩
  ·have:=ready_mono hj hji
   rw [H.1] at this;cases this
 |succ n ih=>
  intro L a w hfree hr hd hy hS H hS';refine ⟨fun h=>(by rw [h] at hr;cases hr),fun j hj=>?_⟩
  by_cases hji:j=i
  ·subst hji;exact hy.wpOp hi (hS0 L w hS hd) ⟨hS',H⟩
  ·have h1:=H.2 j (ready_mono hj hji)
   obtain ⟨hjun,oj,hoj,hall⟩:=mem_ready.1 hj;have hiun:L.getD i false=false:=by
    have h0:=(mem_ready.1 hr).1;rcases Nat.lt_or_ge i L.size with h'|h'
    ·simp [h'] at h0 ⊢;exact h0
    ·simp [Array.getElem?_eq_none h']
   have hnot:∀ e∈oj.after,Region.binds md e=true->e.on≠i:=fun e he hb heq=>by
    have h1:=hall e he hb;rw [heq,hiun] at h1;cases h1
   have hjd:j≠d:=fun e=>Jt hw hiun (e▸hj)
   have h2:=wpOp_putIf hoj (hfree j oj hoj hji hjun hnot) (fun cs b=>hsel i oi cs b hi) (fun cs b=>hsel j oj cs b hoj) hQ hy h1;refine wpOp_mono (fun a' w' h3=>?_) h2;have e1:(L.setIfInBounds i true).setIfInBounds j true=(L.setIfInBounds j true).setIfInBounds i true:=Array.setIfInBounds_comm _ _ (Ne.symm hji);have hSj:S ((L.setIfInBounds j true).setIfInBounds i true) w':=e1▸h3.2.1;refine ⟨hSi _ _ hSj,ih (L.setIfInBounds j true) a' w' (fun k ok hk hki hun hno=>?_) (ready_mono hr (Ne.symm hji)) ?_ h3.1 (hSi _ _ hSj) (e1▸h3.2.2) hSj⟩
   ·refine hfree k ok hk hki ?_ hno
    by_cases hjk:j=k
    ·subst hjk;exact hjun
    ·rw [getD_set_ne true hjk] at hun;exact hun
   ·rw [getD_set_ne true hjd];exact hd
theorem AnyL.take {i:Nat} (d:Nat) {oi:Oper} {v:Value} {S0:World->Prop} {n:Nat} {L:Array Bool} {a:Act} {w:World} (hi:ops[i]?=some oi) (hw:ZAq md ops d i=true)
 (hs:Region.noSelect ops=true) (hf:Region.free md ops L i=true) (hr:(Region.ready md ops L).contains i=true) (hd:L.getD d true=false)
 (hQ:∀ c a w,Q (.panic c) (a.put oi.dst v) w->Q (.panic c) a w) (hSi:∀ L w,S (L.setIfInBounds i true) w->S L w) (hS0:∀ L w,S L w->L.getD d true=false->S0 w)
 (hy:YieldsIf P ops S0 oi v a)(hS:S (L.setIfInBounds i true) w)(h:AnyL P md ops Q S n (L.setIfInBounds i true) (a.put oi.dst v) w):AnyL P md ops Q S (n+1) L a w:=
 AnyL.first hi hw (Region.noSelect_spec hs) hQ hSi hS0 n L a w (Region.free_spec hi hf) (by simpa using hr) hd hy (hSi _ _ hS) h hS
theorem AnyL.one {j:Nat} {n:Nat} {L:Array Bool} {a:Act} {w:World} (hr:Region.ready md ops L=[j])
 (h:wpOp P ops Q j (fun a' w'=>S (L.setIfInBounds j true) w'/\AnyL P md ops Q S n (L.setIfInBounds j true) a' w') a w):AnyL P md ops Q S (n+1) L a w:=
 ⟨fun h0=>(by rw [hr] at h0;cases h0),fun i hi=>(by rw [hr] at hi;simp at hi;rw [hi];exact h)⟩
theorem AnyL.step {j:Nat} {o:Oper} {n:Nat} {L:Array Bool} {a:Act} {w:World} (hr:Region.ready md ops L=[j]) (ho:ops[j]?=some o)
 (h:∀ K:Act->World->Prop,(∀ a' w',S (L.setIfInBounds j true) w'->AnyL P md ops Q S n (L.setIfInBounds j true) a' w'->K a' w')->if Region.wanted o (yielded ops a.tmps)=true then Oper.wp P o a w K Q else K (a.put o.dst undef) w):
 AnyL P md ops Q S (n+1) L a w:=by
 refine AnyL.one hr ?_;have h1:=h (fun a' w'=>S (L.setIfInBounds j true) w'/\AnyL P md ops Q S n (L.setIfInBounds j true) a' w') (fun _ _ h2 h3=>⟨h2,h3⟩);unfold wpOp;rw [ho];dsimp only;split
 ·rename_i hw;rw [ZKv hw] at h1;exact .inl h1
 ·rename_i hw;rw [ZKu hw] at h1;exact h1
theorem AnyL.done {n:Nat}{L:Array Bool}{a:Act}{w:World}(hr:Region.ready md ops L=[])(h:Q .normal a w):AnyL P md ops Q S n L a w:=by
 cases n with
 |zero=>exact ⟨hr,h⟩
 |succ n=>exact ⟨fun _=>h,by rw [hr];simp⟩
theorem ZC5 {id:Nat}{a:Act}{w:World}(S:Array Bool->World->Prop)(hm:P.follows .mixedOrders=true)(h:AnyL P .any ops Q S ops.size (Array.replicate ops.size false) a w.drew):(Code.region id ops true).wp P Q a w:=
 wp_region_any hm h.any
end
theorem XN {P:Program} {ops:Array Oper} {o:Oper} {a:Act} {w:World} {K:Act->World->Prop} {Q:Exit->Act->World->Prop} {B:Prop} (hgd:o.guard=none) {f:FuncId} {vs:Array Value} {R:Ending->World->Prop} (hC:Calls P f vs w R) (hr:(execOp a.eval o).run P w=.ok (.enter f vs) w)
 (hK:∀ e w',R e w'->∃ v,e=.returned v/\K (a.put o.dst v) w'):
 if Region.wanted o (yielded ops a.tmps)=true then Oper.wp P o a w K Q else B:=by
 have hw:Region.wanted o (yielded ops a.tmps)=true:=by simp [Region.wanted,hgd]
 rw [ZKv hw];unfold Oper.wp;rw [hr,Oper.upon_enter];refine hC.mono ?_;intro e w' hr;obtain ⟨v,rfl,hk⟩:=hK e w' hr;exact hk
section
variable {P:Program}{md:Region.Mode}{ops:Array Oper}{Q:Exit->Act->World->Prop}{S0:World->Prop}
def SL (z:Nat)(S0:World->Prop):Array Bool->World->Prop:=fun L w=>L.getD z true=false->S0 w
theorem SL.inn {z i:Nat}(h:i≠z)(L:Array Bool)(w:World)(hs:SL z S0 (L.setIfInBounds i true) w):SL z S0 L w:=fun g=>hs (by rw [getD_set_ne true h];exact g)
theorem YC {i z:Nat} {oi:Oper} {v:Value} {n:Nat} {L:Array Bool} {a:Act} {w:World} (hne:i≠z) (hi:ops[i]?=some oi) (hw:ZAq md ops z i=true)
 (hs:Region.noSelect ops=true) (hf:Region.free md ops L i=true) (hr:(Region.ready md ops L).contains i=true) (hd:L.getD z true=false)
 (hQ:∀ c a w,Q (.panic c) (a.put oi.dst v) w->Q (.panic c) a w) (hS:S0 w) (hy:YieldsIf P ops S0 oi v a)
 (h:AnyL P md ops Q (SL z S0) n (L.setIfInBounds i true) (a.put oi.dst v) w):AnyL P md ops Q (SL z S0) (n+1) L a w:=
 AnyL.take z hi hw hs hf hr hd hQ (SL.inn hne) (fun _ _ h g=>h g) hy (fun _=>hS) h
theorem YZ {j z:Nat} {o:Oper} {n:Nat} {L:Array Bool} {a:Act} {w:World} (hr:Region.ready md ops L=[j]) (ho:ops[j]?=some o)
 (h:∀ K:Act->World->Prop,(∀ a' w',S0 w'->AnyL P md ops Q (SL z S0) n (L.setIfInBounds j true) a' w'->K a' w')->if Region.wanted o (yielded ops a.tmps)=true then Oper.wp P o a w K Q else K (a.put o.dst undef) w):
 AnyL P md ops Q (SL z S0) (n+1) L a w:=
 AnyL.step hr ho fun K hK=>h K fun a' w' h1 h2=>hK a' w' (fun _=>h1) h2
theorem UY {z:Nat} {o:Oper} {n:Nat} {L:Array Bool} {a:Act} {w:World} (hr:Region.ready md ops L=[z]) (ho:ops[z]?=some o) (he:Region.ready md ops (L.setIfInBounds z true)=[]) (hz:(L.setIfInBounds z true).getD z true=true)
 (h:∀ K:Act->World->Prop,(∀ a' w',Q .normal a' w'->K a' w')->if Region.wanted o (yielded ops a.tmps)=true then Oper.wp P o a w K Q else K (a.put o.dst undef) w):
 AnyL P md ops Q (SL z S0) (n+1) L a w:=
 AnyL.step hr ho fun K hK=>h K fun a' w' h1=>hK a' w' (fun g=>by rw [hz] at g;cases g) (AnyL.done he h1)
theorem Z8 {id:Nat}{a:Act}{w:World}(z:Nat)(S0:World->Prop)(hm:P.follows .mixedOrders=true)(h:AnyL P .any ops Q (SL z S0) ops.size (Array.replicate ops.size false) a w.drew):(Code.region id ops true).wp P Q a w:=
 ZC5 (SL z S0) hm h
end
end
end Go.Proofs.YteomliechfdhhaaGreatDoor.Dv
