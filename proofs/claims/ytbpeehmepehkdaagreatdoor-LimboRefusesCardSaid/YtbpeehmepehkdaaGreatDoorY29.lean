/- Part 29. -/
import Derived.Test.YtbpeehmepehkdaaGreatDoorY27
import Derived.Test.YtbpeehmepehkdaaGreatDoorY1
import Derived.Laws.IdiomStrings
import Derived.ChangeKeysEq
import Derived.Laws.StructEq
set_option maxHeartbeats 8000000
set_option maxRecDepth 20000
set_option linter.all false
namespace Go.Proofs.YtbpeehmepehkdaaGreatDoor.Dv
open Tryz
section
open Go.RowKit Go.Proofs.YtbpeehmepehkdaaGreatDoor.Size
variable {w w':World}{A:DAd}{F F':Nat->Option ZM}{T c c' c0:Nat->Nat}{x x':Nat}{H:HAd}{ex n L:Nat}
theorem RtB.below {rb:Nat}(h:RtB w A rb)(hb:Bl w w'):RtB w' A rb:=(hb.block _ (heap_lt h)).trans h
theorem ZAz {rb:Nat}(h:RtB w A rb):Calls prog 89 #[.pointer (some ⟨rb,0,none⟩)] w fun e w'=>e=.returned (.bool false)/\w=w':=by
 obtain ⟨c0,c1,_⟩:=Yd h;clear h;go_in;go_wp2;go_returns;exact ⟨rfl,rfl⟩
theorem ZBp {rb:Nat}(h:RtB w A rb){i j:Nat}(hi:i < 16)(hj:j < 4):Calls prog 94 #[.pointer (some ⟨rb,0,none⟩),.int .i64 i,.int .i64 j] w fun e w'=>e=.returned (.int .u64 (8 * (16+(i * 4+j)):Nat))/\w=w':=by
 obtain ⟨c0,c1,_⟩:=Yd h;have e1:((i:Int) * 4+j)=((i * 4+j:Nat):Int):=by simp
 obtain ⟨k,hk⟩:=xE (i * 4+j);have hk64:k < 64:=by omega
 rw [<-hk] at e1 ⊢;have b1:(i:Int) < 16:=by omega
 have b2:(j:Int) < 4:=by omega
 have b3:(k:Int) < 64:=by omega
 clear h hk;go_in;go_wp2;go_returns;refine ⟨by rw [show ((8 * (16+k):Nat):Int)=128+(k:Int) * 8 by omega];rfl,rfl⟩
theorem YT (w:World)(v:Value)(k:Nat):(nilAhead (k+1) 116 v "Err").run prog w=.ok (some false) w:=by kernel_rfl
def rdC (c:Nat->Nat)(k:Nat):Nat->Value:=fun y=>if y < k then .int .u64 (c (16+y):Nat) else .int .u64 0
theorem Xg {P:Program} {ops:Array Oper} {o:Oper} {a:Act} {w:World} {K:Act->World->Prop} {Q:Exit->Act->World->Prop} {B:Prop} (hgd:o.guard=none) (ty:TypeId) (x y:Operand) (ho:o.op=.store ty x y)
 (g:Nat) (cells:Array Value) (hx:a.eval x=.pointer (some ⟨g,0,none⟩)) (hy:a.eval y=.agg cells) (t:TypeId) (old:Array Value) (hg:w.heap[g]?=some (.cells old t (0,0))) (hi:(P.info? ty).map (·.size)=some cells.size)
 (hold:old.size=cells.size)(h1:cells.all (·.oneCell')=true)(h:K (a.put o.dst undef) (w.setRow g cells)):
 if Region.wanted o (yielded ops a.tmps)=true then Oper.wp P o a w K Q else B:=by
 rw [ZLX (by simp [Region.wanted,hgd])];exact wp_store_row ty x y ho g cells hx hy t old hg hi hold h1 h
theorem Yi {n g:Nat}{w0:World}(hb:Below n w0 w)(hn:n<=g)(cs:Array Value):Below n w0 (w.setRow g cs):=
 hb.trans ⟨rfl,rfl,rfl,by simp,fun k hk=>setRow_other _ _ _ _ (by omega)⟩
theorem VQ {P:Program} {fn:Func} {p q:Tmp} {ty:TypeId} (h:fn.results=#[.cell p ty,.tmp q]) (tmps:Array Value) (w:World) (g:Nat) (t:TypeId) (cs:Array Value) (fr:Nat×Nat) (d:TypeDesc)
 (hp:tmps.getD p undef=.pointer (some ⟨g,0,none⟩)) (hg:w.heap[g]?=some (.cells cs t fr))
 (hu:P.underlying ty=some d)(hd:(match d with|.struct _|.array _ _=>true|_=>false)=true)(hi:(P.info? ty).map (·.size)=some cs.size):
 (results fn tmps).run P w=.ok (.tuple #[.agg cs,tmps.getD q undef]) w:=by
 have hp':tmps[p]?.getD undef=.pointer (some ⟨g,0,none⟩):=by simpa using hp
 simp [results,h,hp',asAddr,run_loadVar_row w g t ty cs fr d hg hu hd hi]
theorem JW (h:Ar w A F L T c)(hL:80<=8 * L){rb:Nat}(hr:RtB w A rb):
 Calls prog 92 #[.pointer (some ⟨rb,0,none⟩)] w fun e w'=>∃ CS:Array Value,e=.returned (.tuple #[.agg CS,.int .i64 0])/\CS.size=64/\(∀ y,y < 64->CS[y]?=some (.int .u64 (c (16+y):Nat)))/\Bl w w':=by
 have HER:=zh (fun (w1:World) (hb:Bl w w1)=>Zs h (i:=0) (by omega) w1 hb);have HLD:=zh (fun (w1:World) (hb:Bl w w1) (k:Nat) (hk:k < 64)=>show Calls prog 52 #[.pointer (some ⟨A.t 0,0,none⟩),.int .u64 (8 * (16+k):Nat)] w1 (fun r w'=>r=.returned (.int .u64 (c (16+k):Nat))/\w1=w') from by
  have:=Y4 h (i:=0) (by omega) w1 hb (8 * (16+k)) (by omega) (by omega);rw [show 8 * (16+k) / 8=16+k by omega] at this;exact this)
 have HAT:=zh (fun (w1:World) (hb:Bl w w1) (i j:Nat) (hi:i < 16) (hj:j < 4)=>ZBp (hr.below hb) hi hj);have HRT:=zh hr;obtain ⟨c0,c1,_⟩:=Yd hr;have HB0:=zh (Below.refl w.heap.size w);clear h hr hL;go_in;go_upto_region 2 with fail;obtain ⟨w1,hw1⟩:=xE ((w.alloc (.cells #[.int .u64 0,.int .u64 0,.int .u64 0,.int .u64 0,.int .u64 0,.int .u64 0,.int .u64 0,.int .u64 0,.int .u64 0,.int .u64 0,.int .u64 0,.int .u64 0,.int .u64 0,.int .u64 0,.int .u64 0,.int .u64 0,.int .u64 0,.int .u64 0,.int .u64 0,.int .u64 0,.int .u64 0,.int .u64 0,.int .u64 0,.int .u64 0,.int .u64 0,.int .u64 0,.int .u64 0,.int .u64 0,.int .u64 0,.int .u64 0,.int .u64 0,.int .u64 0,.int .u64 0,.int .u64 0,.int .u64 0,.int .u64 0,.int .u64 0,.int .u64 0,.int .u64 0,.int .u64 0,.int .u64 0,.int .u64 0,.int .u64 0,.int .u64 0,.int .u64 0,.int .u64 0,.int .u64 0,.int .u64 0,.int .u64 0,.int .u64 0,.int .u64 0,.int .u64 0,.int .u64 0,.int .u64 0,.int .u64 0,.int .u64 0,.int .u64 0,.int .u64 0,.int .u64 0,.int .u64 0,.int .u64 0,.int .u64 0,.int .u64 0,.int .u64 0] 184)).alloc (.cells #[.int .u64 0,.int .u64 0,.int .u64 0,.int .u64 0,.int .u64 0,.int .u64 0,.int .u64 0,.int .u64 0,.int .u64 0,.int .u64 0,.int .u64 0,.int .u64 0,.int .u64 0,.int .u64 0,.int .u64 0,.int .u64 0,.int .u64 0,.int .u64 0,.int .u64 0,.int .u64 0,.int .u64 0,.int .u64 0,.int .u64 0,.int .u64 0,.int .u64 0,.int .u64 0,.int .u64 0,.int .u64 0,.int .u64 0,.int .u64 0,.int .u64 0,.int .u64 0,.int .u64 0,.int .u64 0,.int .u64 0,.int .u64 0,.int .u64 0,.int .u64 0,.int .u64 0,.int .u64 0,.int .u64 0,.int .u64 0,.int .u64 0,.int .u64 0,.int .u64 0,.int .u64 0,.int .u64 0,.int .u64 0,.int .u64 0,.int .u64 0,.int .u64 0,.int .u64 0,.int .u64 0,.int .u64 0,.int .u64 0,.int .u64 0,.int .u64 0,.int .u64 0,.int .u64 0,.int .u64 0,.int .u64 0,.int .u64 0,.int .u64 0,.int .u64 0] 184));obtain ⟨b2,hb2⟩:=xE w.heap.size;obtain ⟨b4,hb4⟩:=xE (w.heap.size+1);have HW1:=zh (show Bl w w1 by rw [hw1];exact ZA (ZA bR));have HR4:=zh (show Row w1 b4 184 64 (rdC c 0) from by
  rw [hw1,hb4];refine ⟨#[.int .u64 0,.int .u64 0,.int .u64 0,.int .u64 0,.int .u64 0,.int .u64 0,.int .u64 0,.int .u64 0,.int .u64 0,.int .u64 0,.int .u64 0,.int .u64 0,.int .u64 0,.int .u64 0,.int .u64 0,.int .u64 0,.int .u64 0,.int .u64 0,.int .u64 0,.int .u64 0,.int .u64 0,.int .u64 0,.int .u64 0,.int .u64 0,.int .u64 0,.int .u64 0,.int .u64 0,.int .u64 0,.int .u64 0,.int .u64 0,.int .u64 0,.int .u64 0,.int .u64 0,.int .u64 0,.int .u64 0,.int .u64 0,.int .u64 0,.int .u64 0,.int .u64 0,.int .u64 0,.int .u64 0,.int .u64 0,.int .u64 0,.int .u64 0,.int .u64 0,.int .u64 0,.int .u64 0,.int .u64 0,.int .u64 0,.int .u64 0,.int .u64 0,.int .u64 0,.int .u64 0,.int .u64 0,.int .u64 0,.int .u64 0,.int .u64 0,.int .u64 0,.int .u64 0,.int .u64 0,.int .u64 0,.int .u64 0,.int .u64 0,.int .u64 0],by have:=ZC (w.alloc (.cells #[.int .u64 0,.int .u64 0,.int .u64 0,.int .u64 0,.int .u64 0,.int .u64 0,.int .u64 0,.int .u64 0,.int .u64 0,.int .u64 0,.int .u64 0,.int .u64 0,.int .u64 0,.int .u64 0,.int .u64 0,.int .u64 0,.int .u64 0,.int .u64 0,.int .u64 0,.int .u64 0,.int .u64 0,.int .u64 0,.int .u64 0,.int .u64 0,.int .u64 0,.int .u64 0,.int .u64 0,.int .u64 0,.int .u64 0,.int .u64 0,.int .u64 0,.int .u64 0,.int .u64 0,.int .u64 0,.int .u64 0,.int .u64 0,.int .u64 0,.int .u64 0,.int .u64 0,.int .u64 0,.int .u64 0,.int .u64 0,.int .u64 0,.int .u64 0,.int .u64 0,.int .u64 0,.int .u64 0,.int .u64 0,.int .u64 0,.int .u64 0,.int .u64 0,.int .u64 0,.int .u64 0,.int .u64 0,.int .u64 0,.int .u64 0,.int .u64 0,.int .u64 0,.int .u64 0,.int .u64 0,.int .u64 0,.int .u64 0,.int .u64 0,.int .u64 0] 184)) (.cells #[.int .u64 0,.int .u64 0,.int .u64 0,.int .u64 0,.int .u64 0,.int .u64 0,.int .u64 0,.int .u64 0,.int .u64 0,.int .u64 0,.int .u64 0,.int .u64 0,.int .u64 0,.int .u64 0,.int .u64 0,.int .u64 0,.int .u64 0,.int .u64 0,.int .u64 0,.int .u64 0,.int .u64 0,.int .u64 0,.int .u64 0,.int .u64 0,.int .u64 0,.int .u64 0,.int .u64 0,.int .u64 0,.int .u64 0,.int .u64 0,.int .u64 0,.int .u64 0,.int .u64 0,.int .u64 0,.int .u64 0,.int .u64 0,.int .u64 0,.int .u64 0,.int .u64 0,.int .u64 0,.int .u64 0,.int .u64 0,.int .u64 0,.int .u64 0,.int .u64 0,.int .u64 0,.int .u64 0,.int .u64 0,.int .u64 0,.int .u64 0,.int .u64 0,.int .u64 0,.int .u64 0,.int .u64 0,.int .u64 0,.int .u64 0,.int .u64 0,.int .u64 0,.int .u64 0,.int .u64 0,.int .u64 0,.int .u64 0,.int .u64 0,.int .u64 0] 184);simpa using this,Nat.le_of_eq rfl,fun y hy=>?_⟩;rw [show (#[.int .u64 0,.int .u64 0,.int .u64 0,.int .u64 0,.int .u64 0,.int .u64 0,.int .u64 0,.int .u64 0,.int .u64 0,.int .u64 0,.int .u64 0,.int .u64 0,.int .u64 0,.int .u64 0,.int .u64 0,.int .u64 0,.int .u64 0,.int .u64 0,.int .u64 0,.int .u64 0,.int .u64 0,.int .u64 0,.int .u64 0,.int .u64 0,.int .u64 0,.int .u64 0,.int .u64 0,.int .u64 0,.int .u64 0,.int .u64 0,.int .u64 0,.int .u64 0,.int .u64 0,.int .u64 0,.int .u64 0,.int .u64 0,.int .u64 0,.int .u64 0,.int .u64 0,.int .u64 0,.int .u64 0,.int .u64 0,.int .u64 0,.int .u64 0,.int .u64 0,.int .u64 0,.int .u64 0,.int .u64 0,.int .u64 0,.int .u64 0,.int .u64 0,.int .u64 0,.int .u64 0,.int .u64 0,.int .u64 0,.int .u64 0,.int .u64 0,.int .u64 0,.int .u64 0,.int .u64 0,.int .u64 0,.int .u64 0,.int .u64 0,.int .u64 0]:Array Value)=Array.replicate 64 (.int .u64 0) from rfl];simp [hy,rdC])
 have HR2:=zh (show w1.heap[b2]?=some (.cells (Array.replicate 64 (.int .u64 0)) 184 (0,0)) from by
  rw [hw1,hb2,ZK (by simp)];exact ZC w _)
 rw [<-hw1,<-hb4,<-hb2];have HBB:=zh (show w.heap.size<=b2/\b2≠b4/\w.heap.size<=b4 by omega);clear hw1 hb2 hb4 c0 c1;obtain ⟨c0,c1,_⟩:=Yd (HRT.o.below HW1.o);have hne:=YT;go_wp2_with fail;refine (HER.o _ HW1.o).mono ?_;rintro e w' ⟨rfl,rfl⟩;go_wp2_with fail
 go_loopw [17] (fun i wr=>∃ k:Nat,k<=16/\i=.int .i64 k/\Bl w wr/\Row wr b4 184 64 (rdC c (4 * k))/\wr.heap[b2]?=some (.cells (Array.replicate 64 (.int .u64 0)) 184 (0,0))) (fun i _=>16 - (intOf i).toNat)
 case atStart=>exact ⟨0,by omega,rfl,HW1.o,HR4.o,HR2.o⟩
 case round=>
 obtain ⟨k,hk,rfl,hb,hr4,hr2⟩:=hrel
 by_cases hlt:k < 16
 ·have b1:(k:Int) < 16:=by omega
  have HB1:=zh hb;have HK:=zh hlt;have HX4:=zh hr4;have HX2:=zh hr2;clear hb hr4 hr2 hlt hk c0 c1;go_wp2_with fail
  go_loopw [20] (fun j wr=>∃ m:Nat,m<=4/\j=.int .i64 m/\Bl w wr/\Row wr b4 184 64 (rdC c (4 * k+m))/\wr.heap[b2]?=some (.cells (Array.replicate 64 (.int .u64 0)) 184 (0,0))) (fun j _=>4 - (intOf j).toNat)
  case atStart=>exact ⟨0,by omega,rfl,HB1.o,HX4.o,HX2.o⟩
  case round=>
  obtain ⟨m,hm,rfl,hb,hr4,hr2⟩:=hrel
  by_cases hlt:m < 4
  ·have b2m:(m:Int) < 4:=by omega
   have HB2:=zh hb;have HM:=zh hlt;have HY4:=zh hr4;have HY2:=zh hr2;obtain ⟨q,hq⟩:=xE (k * 4+m);have hq64:q < 64:=by have:=HK.o;omega
   have z4:=hr4.cell q hq64;have f4:=hr4.free q;have HA2:=zh (fun w1 hb=>HAT.o w1 hb k m HK.o hlt);have HL2:=zh (fun w1 hb=>HLD.o w1 hb q hq64);rw [<-hq] at HA2;obtain ⟨O,hO⟩:∃ O:Nat,O=8 * (16+q):=⟨_,rfl⟩
   rw [<-hO] at HA2 HL2;have HQ:=zh hq;have HQ6:=zh hq64;obtain ⟨V,hV⟩:=xE (c (16+q));have HV:=zh hV;rw [<-hV] at HL2;rw [hq] at z4 f4;clear hb hr4 hr2 hlt hm hO hV hq hq64;have HD:=zh (fun (wx:World) (hb:Bl w wx)=>(Yd (HRT.o.below hb)).1);go_upto_region 11 with fail;have hnl:=Y5
   go_region_held3 (fun wx=>wx.cell? ⟨rb,0,none⟩=some (.iface 116 (.pointer (some ⟨A.t 0,0,none⟩))))
    (first|exact HD.o _ (by repeat (with_reducible first|assumption|exact HB2.o|apply ZA|apply ZB|refine ZE ?_ HBB.o.2.2)))
    (first
      |(rw [Y5];exact ⟨rfl,rfl⟩)
      |(go_at_call 94;refine (HA2.o _ (by repeat (with_reducible first|exact HB2.o|apply ZB))).mono ?_;rintro e' V1 ⟨rfl,rfl⟩)
      |(go_invoke;go_simp;go_at_call 52;refine (HL2.o _ (by repeat (with_reducible first|exact HB2.o|apply ZB))).mono ?_;rintro e' V1 ⟨rfl,rfl⟩))
   have HE:=zh (show Bl w ((wr.drew).setCell ⟨b4,k * 4+m,none⟩ (.int .u64 (V:Nat)))/\Row ((wr.drew).setCell ⟨b4,k * 4+m,none⟩ (.int .u64 (V:Nat))) b4 184 64 (rdC c (4 * k+(m+1)))/\((wr.drew).setCell ⟨b4,k * 4+m,none⟩ (.int .u64 (V:Nat))).heap[b2]?=some (.cells (Array.replicate 64 (.int .u64 0)) 184 (0,0)) from by
    have h4:Row wr.drew b4 184 64 (rdC c (4 * k+m)):=HY4.o.of_block rfl;have h2:wr.drew.heap[b2]?=some (.cells (Array.replicate 64 (.int .u64 0)) 184 (0,0)):=HY2.o;refine ⟨ZE (ZB HB2.o) HBB.o.2.2,(h4.set _ _).congr fun y hy=>?_,(ZG HBB.o.2.1).trans h2⟩;unfold rdC
    by_cases e:y=k * 4+m
    ·rw [ZLX e,ZLX (by omega),HV.o,HQ.o,e]
    ·rw [ZLU e]
     by_cases e2:y < 4 * k+m
     ·rw [ZLX (by omega),ZLX e2]
     ·rw [ZLU (by omega),ZLU e2])
   clear z4 f4;go_wp2_with fail;exact ⟨⟨m+1,by have:=HM.o;omega,rfl,HE.o.1,HE.o.2.1,HE.o.2.2⟩,by have:=HM.o;simp [intOf];omega⟩
  ·obtain rfl:m=4:=by omega
   have HE:=zh (show Row wr b4 184 64 (rdC c (4 * (k+1))) from by rw [show 4 * (k+1)=4 * k+4 by omega];exact hr4);have HE2:=zh hb;have HE3:=zh hr2;clear hb hr4 hr2 hlt hm;go_wp2_with fail;exact ⟨⟨k+1,by have:=HK.o;omega,rfl,HE2.o,HE.o,HE3.o⟩,by have:=HK.o;simp [intOf];omega⟩
 ·obtain rfl:k=16:=by omega
  have HE:=zh hb;have HE4:=zh hr4;have HE2:=zh hr2;clear hb hr4 hr2 hlt hk;go_upto_region 14 with fail;obtain ⟨CS,hcs,hcg⟩:∃ CS:Array Value,CS.size=64/\∀ y,y < 64->CS[y]?=some (.int .u64 (c (16+y):Nat)):=⟨Array.ofFn (n:=64) fun i=>.int .u64 (c (16+i):Nat),by simp,fun j hj=>by simp [hj]⟩
  have HCG:=zh hcg;have HCZ:=zh hcs;have HS0:=zh (show Bl w wr.drew/\∀ j v,CS.toList[j]?=some v->wr.drew.cell? ⟨b4,0+j,none⟩=some v from ⟨ZB HE.o,fun j v hj=>by
   have hj64:j < 64:=by
    rw [<-hcs];have:=(List.getElem?_eq_some_iff.1 hj).1;simpa using this
   have e:=hcg j hj64;rw [ZLx,e] at hj;cases hj;have:=HE4.o.cell j hj64;unfold rdC at this;rw [ZLX (by omega)] at this;rw [ZLu];exact this⟩)
  clear hcs hcg;refine Zy 7 (fun wx=>Bl w wx/\∀ j v,CS.toList[j]?=some v->wx.cell? ⟨b4,0+j,none⟩=some v) (by kernel_rfl) ?_;refine Zj (i:=0) (z:=7) (v:=.agg CS) (by decide) rfl (by kernel_rfl) (by kernel_rfl) (by kernel_rfl) (by kernel_rfl) (by kernel_rfl) (fun _ _ _ h=>h) HS0.o (Or.inl ⟨by rfl,fun w' hc=>?_⟩) ?_
  ·have hl:=Yu (P:=prog) w' b4 0 184 CS _ hc.2 underlying184 rfl (by rw [HCZ.o];kernel_rfl);simp [execOp,Act.eval,Instr.loadAt,Instr.sureAddr,hl]
  (try simp only [Act.put,ZLe,ZLY,ZLa,ZLT,ZLV,ZLW])
  refine Zj (i:=1) (z:=7) (v:=.pointer (some ⟨rb,0,none⟩)) (by decide) rfl (by kernel_rfl) (by kernel_rfl) (by kernel_rfl) (by kernel_rfl) (by kernel_rfl) (fun _ _ _ h=>h) HS0.o (Or.inl ⟨by rfl,fun w' hc=>?_⟩) ?_
  ·go_simp
  (try simp only [Act.put,ZLe,ZLY,ZLa,ZLT,ZLV,ZLW])
  refine Zj (i:=2) (z:=7) (v:=.pointer (some ⟨rb,0,none⟩)) (by decide) rfl (by kernel_rfl) (by kernel_rfl) (by kernel_rfl) (by kernel_rfl) (by kernel_rfl) (fun _ _ _ h=>h) HS0.o (Or.inl ⟨by rfl,fun w' hc=>?_⟩) ?_
  ·go_simp
  (try simp only [Act.put,ZLe,ZLY,ZLa,ZLT,ZLV,ZLW])
  refine Zj (i:=3) (z:=7) (v:=.pointer (some ⟨rb,0,none⟩)) (by decide) rfl (by kernel_rfl) (by kernel_rfl) (by kernel_rfl) (by kernel_rfl) (by kernel_rfl) (fun _ _ _ h=>h) HS0.o (Or.inl ⟨by rfl,fun w' hc=>?_⟩) ?_
  ·go_simp
  (try simp only [Act.put,ZLe,ZLY,ZLa,ZLT,ZLV,ZLW])
  refine Zj (i:=4) (z:=7) (v:=.iface 116 (.pointer (some ⟨A.t 0,0,none⟩))) (by decide) rfl (by kernel_rfl) (by kernel_rfl) (by kernel_rfl) (by kernel_rfl) (by kernel_rfl) (fun _ _ _ h=>h) HS0.o (Or.inl ⟨by rfl,fun w' hc=>?_⟩) ?_
  ·have z:=(Yd (HRT.o.below hc.1)).1;go_simp
  (try simp only [Act.put,ZLe,ZLY,ZLa,ZLT,ZLV,ZLW])
  refine YA (j:=5) (z:=7) (by kernel_rfl) rfl (fun K hK=>?_);refine Yw rfl (HER.o _ HS0.o.1) (by kernel_rfl) ?_;rintro e6 w6 ⟨rfl,rfl⟩;refine ⟨_,rfl,hK _ _ HS0.o ?_⟩;clear hK K
  (try simp only [Act.put,ZLe,ZLY,ZLa,ZLT,ZLV,ZLW])
  refine YA (j:=6) (z:=7) (by kernel_rfl) rfl (fun K hK=>?_);have hall:CS.all (·.oneCell')=true:=by
   refine Array.all_eq_true_iff_forall_mem.2 fun v hv=>?_
   obtain ⟨j,hj,e⟩:=Array.getElem_of_mem hv;have hj64:j < 64:=by rw [HCZ.o] at hj;exact hj
   have:=HCG.o j hj64;rw [ZL8 hj,e] at this;cases this;rfl
  refine Xg rfl 184 (.tmp 2) (.tmp 40) rfl b2 CS rfl rfl 184 (Array.replicate 64 (.int .u64 0)) HE2.o (by rw [HCZ.o];kernel_rfl) (by rw [HCZ.o];simp) hall ?_;have hgg:wr.drew.heap[b2]?=some (.cells (Array.replicate 64 (.int .u64 0)) 184 (0,0)):=HE2.o;have HW9:=zh (show Bl w (wr.drew.setRow b2 CS)/\(wr.drew.setRow b2 CS).heap[b2]?=some (.cells CS 184 (0,0)) from ⟨Yi HS0.o.1 HBB.o.1 CS,setRow_heap _ _ _ _ _ _ hgg⟩);refine hK _ _ ⟨HW9.o.1,fun j v hj=>?_⟩ ?_
  ·have hne:b4≠b2:=fun e=>HBB.o.2.1 e.symm
   rw [cell_setRow_other _ _ _ _ hne];exact HS0.o.2 j v hj
  clear hK K hgg;obtain ⟨w9,hw9⟩:=xE (wr.drew.setRow b2 CS);rw [<-hw9] at HW9 ⊢;clear hw9 HS0
  (try simp only [Act.put,ZLe,ZLY,ZLa,ZLT,ZLV,ZLW])
  refine Vm (z:=7) (by kernel_rfl) rfl (by kernel_rfl) (by kernel_rfl) (fun K hK=>?_);go_simp;refine hK _ _ ?_;clear hK K;go_wp2_with fail;refine bodyPost_ret (VQ rfl _ _ b2 184 CS (0,0) _ rfl HW9.o.2 underlying184 rfl (by rw [HCZ.o];kernel_rfl)) rfl ?_;exact ⟨CS,rfl,HCZ.o,HCG.o,HW9.o.1⟩
theorem ZH5 {w:World}{e:TypeId}{v:Value}{n:Nat}{f:Nat->Value}(hv:v.cells=#[v])(hf:∀ x,x < n->f x=v):Row (w.alloc (.cells (madeCells v.cells n) e)) w.heap.size e n f:=by
 refine ⟨_,ZC _ _,?_,fun x hx=>?_⟩
 ·unfold madeCells;simp [hv]
 ·unfold madeCells
  rw [Array.getElem?_map,Array.getElem?_range,ZLX (by simpa [hv] using hx),hf x hx];simp [hv,Nat.mod_one]
theorem ZDT (N:Nat)(w:World)(h:N<=100000):
 Calls prog 261 #[.int .i64 ((8 * N:Nat):Int)] w fun e w'=>e=.returned (.int .i64 (N:Int))/\w=w':=by
 obtain ⟨M,hM⟩:∃ M:Int,M=((8 * N:Nat):Int):=⟨_,rfl⟩
 rw [<-hM];have h1:M<=800000:=by omega
 have h2:0<=M:=by omega
 have d:(M % 8 != 0)=false:=by simp;omega
 have d':(M.tmod 8 != 0)=false:=by rw [Int.tmod_eq_emod_of_nonneg h2];exact d
 have e:M / 8=(N:Int):=by omega
 have H:=zh e;clear hM h e;go_in;go_wp2;go_returns;exact ⟨by rw [H.o];rfl,rfl⟩
theorem ZEX {w:World}{b o N cap:Nat}{g:Nat->Nat}(hb:b < w.heap.size)(hrow:∀ x,x < N->w.cell? ⟨b,o+x,none⟩=some (.int .u64 (g x:Nat)))(hN:N<=100000)(hN1:1<=N)(hg:∀ x,g x < 18446744073709551616):
 Calls prog 220 #[.slice (some ⟨b,o,none⟩) N cap,.int .i64 ((8 * N:Nat):Int)] w fun r w'=>∃ B,w.heap.size<=B/\r=.returned (.tuple #[.slice (some ⟨B,0,none⟩) (8 * N) (8 * N),.int .i64 0])/\Row w' B 5 (8 * N) (fun x=>.int .u8 (Z3 g x:Nat))/\Below w.heap.size w w':=by
 obtain ⟨i,hi,hz,hsz,hby⟩:=info_parts ZCV;have hmk:=run_make (P:=prog) w 277 5 i _ underlying277 hi hz .i64 .i64 (((8 * N:Nat):Int)) (((8 * N:Nat):Int)) (by omega) (Int.le_refl _) (by rw [hby];omega) (by omega);have e:((8 * N:Nat):Int).toNat=8 * N:=by omega
 rw [e,hsz,Nat.mul_one] at hmk;obtain ⟨W,hW⟩:=xE (w.alloc (.cells (madeCells (Value.int .u8 0).cells (8 * N)) 5));have hst:U9 w N g w.heap.size (.int .i64 (0:Nat)) W:=by
  refine ⟨0,by omega,rfl,?_,by rw [hW];exact bR.alloc nR _⟩;rw [hW];exact ZH5 rfl (fun x hx=>by simp)
 rw [<-hW] at hmk;have HS:=zh hst;have HR:=zh hrow;have HG:=zh hg;have HL:=zh hb;have HWO:=zh (ZDT N w hN);have b1:(N:Int)<=100000:=by omega
 have b3:1<=(N:Int):=by omega
 have hne:((N:Int) != (N:Int))=false:=by simp
 obtain ⟨B,hB⟩:=xE w.heap.size;rw [<-hB] at HS hmk ⊢;have HB:=zh hB;obtain ⟨M,hM⟩:=xE (8 * N);rw [<-hM] at hmk HWO ⊢;have HM:=zh hM;have b2:(M:Int)<=800000:=by omega
 have dneg:decide ((M:Int) < 0)=false:=by simp
 have d8:((M:Int) % 8 != 0)=false:=by simp;omega
 clear hst hrow hg hW e hi hz hsz hby hB hM hb;go_in;go_wp2_with fail;refine HWO.o.mono ?_;rintro e w' ⟨rfl,rfl⟩;go_wp2_with fail
 go_loopw [36] (fun i wr=>U9 w N g B i wr) (fun i _=>M - (intOf i).toNat)
 case atStart=>exact HS.o
 case round=>
  obtain ⟨k,hk,rfl,hr,hbel⟩:=hrel
  by_cases hlt:k < M
  ·have hlt2:(k:Int) < M:=by omega
   have hk8:k / 8 < N:=by have:=HM.o;omega
   have c1:wr.cell? ⟨b,o+k / 8,none⟩=some (.int .u64 (g (k / 8))):=by
    rw [hbel.cell HL.o];exact HR.o _ hk8
   have c2:=hr.cell k (by have:=HM.o;omega);have f2:=hr.free k;have bk:(k:Int) / 8 < N:=by omega
   have hgk:=HG.o (k / 8);have G:=zh (show U9 w N g B (.int .i64 ((k+1:Nat):Int)) (wr.setCell ⟨B,k,none⟩ (.int .u8 (Z3 g k))) from ⟨k+1,by have:=HM.o;omega,rfl,(hr.set k (.int .u8 (Z3 g k))).congr (fun x hx=>by
    by_cases e:x=k
    ·rw [ZLX e,ZLX (by omega),e]
    ·rw [ZLU e]
     by_cases e2:x < k
     ·rw [ZLX e2,ZLX (by omega)]
     ·rw [ZLU e2,ZLU (by omega)]),hbel.setCell (by rw [<-HB.o];exact nR) _⟩)
   clear hr hbel hk;obtain ⟨x,hx⟩:=xE (g (k / 8));rw [<-hx] at c1 hgk;have HX:=zh hx;clear hx;go_wp2_with fail;go_roundw
   case rel=>
    have h:=G.o;have e:((Z3 g k:Nat):Int)=(x:Int) / 2 ^ (k % 8 * 8) % 256:=by
     unfold Z3;rw [<-HX.o,Nat.mul_comm 8];simp
    rw [e] at h;simpa using h
   case measure=>simp [intOf];omega
  ·obtain rfl:k=M:=by have:=HM.o;omega
   have G:=zh (show Row wr B 5 k (fun x=>.int .u8 (Z3 g x:Nat)) from by
    have hr':=hr;rw [<-HM.o] at hr';exact hr'.congr (fun x hx=>by rw [ZLX hx]))
   have G2:=zh hbel;have hBB:w.heap.size<=B:=by rw [<-HB.o];exact nR
   have G3:=zh hBB;rw [<-HB.o] at G2 G3;clear hr hbel hk hlt hBB;go_wp2;go_returns;exact ⟨B,G3.o,rfl,G.o,G2.o⟩
def g2 (a b:Nat):Nat->Nat:=fun x=>if x=0 then a else if x=1 then b else 0
def nmB (a b:Nat):List UInt8:=(List.range 16).map fun i=>UInt8.ofNat (Z3 (g2 a b) i)
def nmS (a b:Nat):ByteArray:=⟨(Lib.trimRightB (nmB a b) 0).toArray⟩
theorem ZBk (a b:Nat):(nmB a b).length=16:=by simp [nmB]
theorem ZBA {b cap x y:Nat}(hb:b < w.heap.size)(h0:w.cell? ⟨b,0,none⟩=some (.int .u64 (x:Nat)))(h1:w.cell? ⟨b,1,none⟩=some (.int .u64 (y:Nat)))(hx:x < 18446744073709551616)(hy:y < 18446744073709551616):
 Calls prog 220 #[.slice (some ⟨b,0,none⟩) 2 cap,.int .i64 16] w fun r w'=>∃ B,r=.returned (.tuple #[.slice (some ⟨B,0,none⟩) 16 16,.int .i64 0])/\Row w' B 5 16 (fun z=>.int .u8 (Z3 (g2 x y) z:Nat))/\Bl w w':=by
 refine (ZEX (w:=w) (b:=b) (o:=0) (N:=2) (cap:=cap) (g:=g2 x y) hb (fun z hz=>?_) (by omega) (by omega) (fun z=>?_)).mono ?_
 ·rcases (show z=0\/z=1 by omega) with rfl|rfl
  ·exact h0
  ·exact h1
 ·unfold g2;split
  ·exact hx
  ·split
   ·exact hy
   ·omega
 ·rintro e w' ⟨B,hB,rfl,hr,hbel⟩
  exact ⟨B,rfl,hr,hbel⟩
theorem ZJR (s:ByteArray)(hs:s.size<=1000):Calls prog 221 #[.string s,.string {data:=#[0]}] w fun e w'=>e=.returned (.string ⟨(Lib.trimRightB s.data.toList 0).toArray⟩)/\w'=w:=
 Any.strings_TrimRight_one lays162 s 0 (by decide) w (by omega)
theorem ZIM {x y p:Nat}(hx:x < 18446744073709551616)(hy:y < 18446744073709551616):
 Calls prog 150 #[.agg #[.int .u64 x,.int .u64 y,.int .u64 p,.int .u64 0]] w fun e w'=>e=.returned (.tuple #[.string .empty,.bool false])/\Bl w w':=by
 obtain ⟨w1,hw1⟩:=xE (w.alloc (.cells #[.int .u64 x,.int .u64 y,.int .u64 p,.int .u64 0] 113));have HX:=zh (show w1.heap[w.heap.size]?=some (.cells #[.int .u64 x,.int .u64 y,.int .u64 p,.int .u64 0] 113 (0,0)) by rw [hw1];exact ZC _ _);have HB1:=zh (show Bl w w1 by rw [hw1];exact ZA bR);have HU:=zh (fun (cap:Nat)=>ZBA (w:=w1) (cap:=cap) (heap_lt HX.o) (Ya HX.o).1 (Ya HX.o).2.1 hx hy);clear hx hy;go_in;go_upto_region 1 with fail;rw [<-hw1];clear hw1;go_wp2_with fail;refine (HU.o _).mono ?_;rintro e w2 ⟨B,rfl,hr,hb2⟩;have HB2:=zh (HB1.o.trans (hb2.mono HB1.o.size));obtain ⟨c0,c1,c2,c3,_⟩:=Ya ((hb2.block _ (heap_lt HX.o)).trans HX.o);clear hr hb2;go_wp2;go_returns;exact ⟨rfl,HB2.o⟩
theorem ZGg {x y p t:Nat}(hx:x < 18446744073709551616)(hy:y < 18446744073709551616)(ht:t≠0):
 Calls prog 150 #[.agg #[.int .u64 x,.int .u64 y,.int .u64 p,.int .u64 t]] w fun e w'=>e=.returned (.tuple #[.string (nmS x y),.bool true])/\Bl w w':=by
 obtain ⟨w1,hw1⟩:=xE (w.alloc (.cells #[.int .u64 x,.int .u64 y,.int .u64 p,.int .u64 t] 113));have HX:=zh (show w1.heap[w.heap.size]?=some (.cells #[.int .u64 x,.int .u64 y,.int .u64 p,.int .u64 t] 113 (0,0)) by rw [hw1];exact ZC _ _);have HB1:=zh (show Bl w w1 by rw [hw1];exact ZA bR);have HU:=zh (fun (cap:Nat)=>ZBA (w:=w1) (cap:=cap) (heap_lt HX.o) (Ya HX.o).1 (Ya HX.o).2.1 hx hy);have HT:=zh (fun (wx:World)=>ZJR (w:=wx) ⟨(nmB x y).toArray⟩ (by show (nmB x y).toArray.size<=1000;simp [nmB]));have d0:((t:Int) == 0)=false:=by simp;exact ht
 have d1:¬ (t:Int)=0:=by omega
 clear hx hy ht;go_in;go_upto_region 1 with fail;rw [<-hw1];clear hw1;go_wp2_with fail;refine (HU.o _).mono ?_;rintro e w2 ⟨B,rfl,hr,hb2⟩;have HB2:=zh (HB1.o.trans (hb2.mono HB1.o.size));obtain ⟨c0,c1,c2,c3,_⟩:=Ya ((hb2.block _ (heap_lt HX.o)).trans HX.o);have hcv:=run_convert_bytes_back (P:=prog) w2 277 9 5 ⟨B,0,none⟩ 16 (nmB x y) underlying277 underlying5 underlying9 (fun j hj=>by
  rw [ZBk] at hj;rw [Addr.add_lit,ZLu,hr.cell j hj];have e:(nmB x y)[j]'(by rw [ZBk];exact hj)=UInt8.ofNat (Z3 (g2 x y) j):=by unfold nmB;simp
  rw [e,UInt8.toNat_ofNat_of_lt' (ZFG _ _)])
 rw [ZBk] at hcv;clear hr hb2;go_wp2_with fail;refine (HT.o _).mono ?_;rintro e w' ⟨rfl,rfl⟩;go_wp2;go_returns;exact ⟨rfl,HB2.o⟩
theorem ZKB {a b k:Nat}(ha:a < 2 ^ k):a ||| b * 2 ^ k=a+b * 2 ^ k:=by
 rw [Nat.or_comm,Nat.mul_comm,<-Nat.two_pow_add_eq_or_of_lt ha,Nat.add_comm]
theorem ZEW {a b k:Nat}(ha:a < 2 ^ k)(hab:a+b * 2 ^ k < 18446744073709551616):bits .or .u64 (a:Int) ((b * 2 ^ k:Nat):Int)=((a+b * 2 ^ k:Nat):Int):=by
 rw [u64_or_nat a (b * 2 ^ k) (by omega) (by omega),ZKB ha]
theorem X7 {a b x k:Nat}{z:Int}(ha:a < 2 ^ k)(hx:x=a+b * 2 ^ k)(hz:z=((b * 2 ^ k:Nat):Int))(hlt:x < 18446744073709551616):bits .or .u64 (a:Int) z=(x:Int):=by
 subst hz;subst hx;exact ZEW ha hlt
def JZ:Nat:=7738151121853964849
def Sup.w2 (s:Sup):Nat:=s.V+s.L * 65536+s.R * 4294967296+s.U * 281474976710656
def Sup.w3 (s:Sup):Nat:=s.D+s.Q * 65536+s.T * 4294967296
def Sup.front (s:Sup):List Nat:=[JZ,s.G,s.w2,s.w3,0,0,0]
def Sup.words (T:Nat->Nat)(s:Sup):List Nat:=s.front++[4294967296+UE T s.front]
theorem Sup.Ok.w2_lt {s:Sup}(h:s.Ok):s.w2 < 18446744073709551616:=by
 have h1:=h.v;have h2:=h.l;have h3:=h.h;unfold Sup.w2;unfold Sup.hl at h3;omega
theorem Sup.Ok.w3_lt {s:Sup}(h:s.Ok):s.w3 < 18446744073709551616:=by
 have h2:=h.l;have h3:=h.h;unfold Sup.w3;unfold Sup.hl at h3;omega
theorem Sup.Ok.front_lt {s:Sup}(h:s.Ok):∀ x∈s.front,x < 18446744073709551616:=by
 intro x hx;have a:=h.w2_lt;have b:=h.w3_lt;have c:=h.g;unfold Sup.front at hx;simp only [List.mem_cons,List.not_mem_nil,or_false] at hx;rcases hx with rfl|rfl|rfl|rfl|rfl|rfl|rfl
 ·decide
 ·exact c
 ·exact a
 ·exact b
 all_goals decide
theorem ZC8 (w:World)(c:Array Value)(e:TypeId){xs:List Value}(h:∀ (j:Nat)(u:Value),xs[j]?=some u->c[j]?=some u):Seen (w.alloc (.cells c e)) w.heap.size 0 xs:=fun j u hu=>by
 rw [ZLu,ZD (ZC w _)];exact h j u hu
theorem Qc {w:World}{T:Nat->Nat}{s:Sup}(hT:NTab w T)(h:s.Ok):Calls prog 204 #[s.val] w fun e w'=>e=.returned (.agg ((s.words T).map u64).toArray)/\Bl w w':=by
 have hc:=VB hT s.front;have HT:=zh hT;have HF:=zh h.front_lt;have h1:=h.v;have h2:=h.l;have h3:=h.h;have h4:=h.g;obtain ⟨V,L,R,U,D,Q,P,G⟩:=s;unfold Sup.val Sup.hl at *;dsimp only at *;clear h hT;obtain ⟨x1,hx1⟩:=xE (V+L * 65536);obtain ⟨x2,hx2⟩:=xE (x1+R * 4294967296);obtain ⟨x3,hx3⟩:=xE (x2+U * 281474976710656);obtain ⟨y1,hy1⟩:=xE (D+Q * 65536);obtain ⟨y2,hy2⟩:=xE (y1+P * 4294967296);have o1:bits .or .u64 (V:Int) ((L:Int) * 65536)=(x1:Int):=X7 (k:=16) (b:=L) (by omega) (by omega) (by omega) (by omega);have o2:bits .or .u64 (x1:Int) ((R:Int) * 4294967296)=(x2:Int):=X7 (k:=32) (b:=R) (by omega) (by omega) (by omega) (by omega);have o3:bits .or .u64 (x2:Int) ((U:Int) * 281474976710656)=(x3:Int):=X7 (k:=48) (b:=U) (by omega) (by omega) (by omega) (by omega);have p1:bits .or .u64 (D:Int) ((Q:Int) * 65536)=(y1:Int):=X7 (k:=16) (b:=Q) (by omega) (by omega) (by omega) (by omega);have p2:bits .or .u64 (y1:Int) ((P:Int) * 4294967296)=(y2:Int):=X7 (k:=32) (b:=P) (by omega) (by omega) (by omega) (by omega);have hfr:Sup.front ⟨V,L,R,U,D,Q,P,G⟩=[JZ,G,x3,y2,0,0,0]:=by
  unfold Sup.front Sup.w2 Sup.w3;rw [hx3,hx2,hx1,hy2,hy1]
 unfold Sup.words;rw [hfr] at HF hc ⊢;obtain ⟨K,hK⟩:=xE (UE T [JZ,G,x3,y2,0,0,0]);rw [<-hK] at hc ⊢;have b1:(L:Int)<=4096:=by omega
 have b2:(R:Int)<=4096:=by omega
 have b3:(U:Int)<=4096:=by omega
 have b4:(D:Int)<=4096:=by omega
 have b5:(Q:Int)<=4096:=by omega
 have b6:(P:Int)<=4096:=by omega
 have b7:(V:Int)<=65535:=by omega
 have b8:(K:Int) < 4294967296:=by omega
 have b9:(G:Int) < 18446744073709551616:=by omega
 have HK:=zh hK;clear hx1 hx2 hx3 hy1 hy2 h1 h2 h3 h4 hfr hK hc;go_in;go_wp2_with fail;have hsz:((w.alloc (.cells #[.int .i64 V,.int .i64 L,.int .i64 R,.int .i64 U,.int .i64 D,.int .i64 Q,.int .i64 P,.int .u64 G] 106)).alloc (.cells #[.int .u64 0,.int .u64 0,.int .u64 0,.int .u64 0,.int .u64 0,.int .u64 0,.int .u64 0,.int .u64 0] 328)).heap.size=w.heap.size+1+1:=by simp
 have hb3:Bl w (((w.alloc (.cells #[.int .i64 V,.int .i64 L,.int .i64 R,.int .i64 U,.int .i64 D,.int .i64 Q,.int .i64 P,.int .u64 G] 106)).alloc (.cells #[.int .u64 0,.int .u64 0,.int .u64 0,.int .u64 0,.int .u64 0,.int .u64 0,.int .u64 0,.int .u64 0] 328)).alloc (.cells #[.int .u64 7738151121853964849,.int .u64 G,.int .u64 x3,.int .u64 y2,.int .u64 0,.int .u64 0,.int .u64 0,.int .u64 0] 328)):=ZA (ZA (ZA (Below.refl _ w)));have hs:Seen (((w.alloc (.cells #[.int .i64 V,.int .i64 L,.int .i64 R,.int .i64 U,.int .i64 D,.int .i64 Q,.int .i64 P,.int .u64 G] 106)).alloc (.cells #[.int .u64 0,.int .u64 0,.int .u64 0,.int .u64 0,.int .u64 0,.int .u64 0,.int .u64 0,.int .u64 0] 328)).alloc (.cells #[.int .u64 7738151121853964849,.int .u64 G,.int .u64 x3,.int .u64 y2,.int .u64 0,.int .u64 0,.int .u64 0,.int .u64 0] 328)) (w.heap.size+1+1) 0 ([JZ,G,x3,y2,0,0,0].map u64):=by
  rw [<-hsz];exact ZC8 _ _ _ (fun j u hj=>by
   have hj7:j=0\/j=1\/j=2\/j=3\/j=4\/j=5\/j=6:=by
    have:=(List.getElem?_eq_some_iff.1 hj).1;simp at this;omega
   rcases hj7 with rfl|rfl|rfl|rfl|rfl|rfl|rfl <;> exact hj)
 refine (words_any (c:=8) (HT.o.below hb3 nR) hs HF.o (by simp)).mono ?_;rintro e w1 ⟨rfl,rfl⟩;rw [<-HK.o];have HB:=zh hb3;clear hs hb3;go_wp2;go_returns;exact ⟨by rw [show ((4294967296:Int)+(K:Int))=((4294967296+K:Nat):Int) by omega];rfl,ZA (ZA (ZA (Below.refl _ w)))⟩
theorem Jm (xs ys:List Int)(w:World):∀ (n k:Nat),k+n=xs.length->k+n=ys.length->
 (Op.eqItems 9999 31 1 ((xs.map (Value.int .u64)).toArray) ((ys.map (Value.int .u64)).toArray) (List.range' k n)).run prog w=.ok (decide (xs.drop k=ys.drop k)) w
 |0,k,h1,h2=>by
  rw [List.drop_of_length_le (by omega),List.drop_of_length_le (by omega)];simp [Op.eqItems]
 |n+1,k,h1,h2=>by
  have hx:k < xs.length:=by omega
  have hy:k < ys.length:=by omega
  have p:∀ (zs:List Int) (h:k < zs.length),(part 31 ((zs.map (Value.int .u64)).toArray) (k * 1)).run prog w=.ok (.int .u64 zs[k]) w:=fun zs h=>by
   refine run_part_plain w (by kernel_rfl) ?_;simp [h]
  have he:∀ (w:World) (a b:Int),(Op.equalIn 9999 31 (.int .u64 a) (.int .u64 b)).run prog w=.ok (a == b) w:=fun w a b=>run_equalIn_int w 9998 _ _ .u64 a b (by kernel_rfl)
  have ih:=Jm xs ys w n (k+1) (by omega) (by omega);rw [List.range'_succ,Op.eqItems];simp only [Sem.run_bind,p xs hx,p ys hy,Result.andThen_ok,he];rw [List.drop_eq_getElem_cons hx,List.drop_eq_getElem_cons hy]
  by_cases hab:xs[k]=ys[k]
  ·simp only [hab,beq_self_eq_true,Bool.not_true,Bool.false_eq_true,if_false,List.cons.injEq,true_and]
   exact ih
  ·have hb:(xs[k] == ys[k])=false:=by simp [hab]
   simp only [hb,Bool.not_false,if_true,Sem.run_pure,List.cons.injEq,hab,false_and,decide_false]
theorem ZGh {w:World}(xs ys:List Int)(hx:xs.length=8)(hy:ys.length=8):
 (binOp .neq 328 (.agg ((xs.map (Value.int .u64)).toArray)) (.agg ((ys.map (Value.int .u64)).toArray))).run prog w=.ok (.bool (!decide (xs=ys))) w:=by
 obtain ⟨i,hi⟩:∃ i,prog.info? 31=some i:=Option.isSome_iff_exists.1 (by kernel_rfl);have hu:prog.underlying 328=some (.array 8 31):=by kernel_rfl
 have hc:prog.cellsOf 31=1:=by kernel_rfl
 rw [run_neq_struct,run_equalIn_array w 9999 _ _ hu hi,hc,List.range_eq_range',Jm xs ys w 8 0 (by omega) (by omega)];rfl
end
end Go.Proofs.YtbpeehmepehkdaaGreatDoor.Dv
