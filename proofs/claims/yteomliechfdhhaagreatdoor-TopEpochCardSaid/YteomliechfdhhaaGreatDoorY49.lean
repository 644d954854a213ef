/-
  The law TopEpoch holds for every argument: no block that a reader has found between its entering and its exit is freed before the exit, whatever a writer retires and collects and however often epochs advance. The listed package-level variables are tied to the program's text.
-/
import Derived.Test.YteomliechfdhhaaGreatDoorY48
import Derived.Test.YteomliechfdhhaaGreatDoorY3
import Derived.Test.YteomliechfdhhaaGreatDoorY4
import Derived.OpenShut
import Derived.ShutString
import Derived.ChangeOld
import Derived.Laws.IdiomArrays
set_option maxHeartbeats 8000000
set_option maxRecDepth 20000
set_option linter.all false
namespace Go.Proofs.YteomliechfdhhaaGreatDoor.topEpochDone
open Go.Proofs.Tryz Tryz
section
open Go.ChangeShapes Go.WideShapes Go.ChangeAt Go.RowKit
open Go.ChangeMaps (open_string shut_string)
theorem own:ownKnob prog.godebug=none:=by kernel_rfl
theorem ZH7:laidOutB prog=true:=by kernel_rfl
theorem g0:prog.globalNamed "bedrock/crc.nibbles"=some 1:=by kernel_rfl
theorem gt0:(prog.globals[1]?).map (·.type)=some 372:=by kernel_rfl
theorem gc0:prog.cellsOf 372=16:=by kernel_rfl
theorem ge0:prog.cellsOf 178=1:=by kernel_rfl
theorem ZKp {W:World}(h:laidMetH prog Rows.topEpochRow.laid W):Lib.TabIs prog W "bedrock/crc.nibbles" .u32 [0,274646895,549293790,820201905,1098587580,1361435347,1640403810,1905808397,2197175160,2460548119,2722870694,2987750089,3280807620,3553878443,3811616794,4084100981]:=
 Lib.tabIs_of_head g0 gt0 underlying372 underlying178 ge0 gc0 h
theorem g1:prog.globalNamed "bedrock/sizeclass.payload"=some 0:=by kernel_rfl
theorem gt1:(prog.globals[0]?).map (·.type)=some 298:=by kernel_rfl
theorem gc1:prog.cellsOf 298=5:=by kernel_rfl
theorem ge1:prog.cellsOf 3=1:=by kernel_rfl
theorem ZC0 {P:Program}{w:World}:∀ {l:List (String×DataW Unit)} {ps:List MemPlace},DataW.LaidVars P w l ps->∀ n d,(n,d)∈l->
 ∃ g t cs fuel p,P.globalNamed n=some g/\(P.globals[g]?).map (·.type)=some t/\w.var? P n=some cs/\DataW.trod (fun _=>()) P w 0 (fun _=>true) false fuel t cs.toList=some (d,p)
 |[],_,_,_,_,hm=>by cases hm
 |(n',d'):: r,ps,h,n,d,hm=>by
  obtain ⟨g,t,cs,fuel,p,q,h1,h2,h3,h4,h5,_⟩:=h;rcases List.mem_cons.1 hm with e|e
  ·cases e
   exact ⟨g,t,cs,fuel,p,h1,h2,h3,h4⟩
  ·exact ZC0 h5 n d e
theorem ZKN {P:Program} {W:World} {name:String} {k:IntKind} {zs:List Int} {l:List (String×DataW Unit)} {g:Nat} {t e:TypeId} {n:Nat}
 (hg:P.globalNamed name=some g) (hty:(P.globals[g]?).map (·.type)=some t) (ht:P.underlying t=some (.array n e)) (he:P.underlying e=some (.int k)) (hce:P.cellsOf e=1) (hct:P.cellsOf t=n)
 (h:laidMet P l W)(hm:(name,Lib.tabData k zs)∈l):Lib.TabIs P W name k zs:=by
 obtain ⟨_,hv,_⟩:=h;obtain ⟨g',t',cs,fuel,p,hg',ht',hvar,hd⟩:=ZC0 hv _ _ hm;obtain rfl:=ZK5 (hg.symm.trans hg');obtain rfl:=ZK5 (hty.symm.trans ht');unfold Lib.TabIs;rw [hvar,<-Lib.cells_of_tab ht he hce hct hd]
theorem ZKq {W:World}(h:laidMetH prog Rows.topEpochRow.laid W):Lib.TabIs prog W "bedrock/sizeclass.payload" .i64 [3,7,15,31,60]:=
 ZKN g1 gt1 underlying298 underlying3 ge1 gc1 h (.tail _ (.head _))
theorem g2:prog.globalNamed "unicode/utf8.acceptRanges"=some 3:=by kernel_rfl
theorem gok {W:World}(hL:laidMetH prog Rows.topEpochRow.laid W):∃ pt nt,Ev.GOk W pt nt:=by
 have hM:laidMet prog Rows.topEpochRow.laid W:=hL;obtain ⟨c0,v0,l0,b0⟩:=Ev.holds_of hM g0 (.head _);obtain ⟨c1,v1,l1,b1⟩:=Ev.holds_of hM g1 (.tail _ (.head _));obtain ⟨c2,v2,l2,_⟩:=Ev.holds_of hM g2 (.tail _ (.tail _ (.head _)));have t0:W.var? prog "bedrock/crc.nibbles"=_:=ZKp hL;have t1:W.var? prog "bedrock/sizeclass.payload"=_:=ZKq hL;rw [v0] at t0;cases t0;rw [v1] at t1;cases t1;obtain ⟨nt,h0⟩:=b0 (by simp);obtain ⟨pt,h1⟩:=b1 (by simp);refine ⟨pt,nt,⟨?_,⟨_,h1,rfl⟩,⟨_,h0,rfl⟩⟩⟩;have e:Ev.Gn=3+1:=by decide
 rw [e];exact l2
theorem ZGF (H:Type) (enc:TypeId×Value->H) (W:World) (base:Nat) (args:Array Value) (ds gs:List (DataW H)) (before:List MemPlace)
 (hval:∀ (j:Nat) t v,Tryz.f3.params[j]?=some t->args[j]?=some v->Value.okWide prog W .any base t v)
 (hW:DataW.Whole enc prog Tryz.f3.params.toList Rows.topEpochSpec.vars false W args.toList ds gs before)
 (hcond:∀ k,(OpenSpec.ofChange Rows.topEpochSpec).cond=some k->k H (ds++gs)=true)
 (hsz0:(DataW.weightsEach prog (Tryz.f3.params.toList++(OpenSpec.ofChange Rows.topEpochSpec).bare.plain.varTypes prog) (ds++gs)).all (·<=reachBytes)=true)
 (hL:laidMetH prog Rows.topEpochRow.laid W):
 Calls prog 3 args W fun e W'=>∃ v,e=.returned v/\Rows.topEpochSpec.post enc prog Tryz.f3 false true false false W args v W':=by
 have hW':=hW;obtain ⟨p,q,hA0,hV,rfl,hfz,hnd⟩:=hW;have hA:DataW.TrodAll enc prog W 0 (fun _=>true) true Tryz.f3.params.toList args.toList ds p:=hA0;have hsz:(DataW.weightsEach prog (Tryz.f3.params.toList++(OpenSpec.ofChange Rows.topEpochSpec).bare.plain.varTypes prog) (ds++gs)).all (·<=reachBytes)=true:=hsz0;rw [params3] at hA hval hsz;obtain ⟨v0,vs0,d0,ds0,p0,q0,hargs,rfl,rfl,h0,r0⟩:=trodAll_cons hA;obtain ⟨rfl,rfl,rfl⟩:=trodAll_nil r0;obtain rfl:args=#[v0]:=by cases args;simp_all
 obtain ⟨rfl,rfl⟩:=trodVars_none hV;have k0:=h0;have lt0:∀ x∈p0,x.block < W.heap.size:=by obtain ⟨m,hm⟩:=k0;exact DataW.trod_lt m _ _ _ hm
 obtain ⟨a0,len0,cap0,rfl⟩:=okWide_slice underlying22 (hval 0 22 v0 rfl rfl);obtain ⟨fuel0,hf0⟩:=h0;obtain ⟨sa0,sl0,sc0,rc0,hv0,hh0,hl0,hm0,hn0⟩:=Dv.acts_of hf0;simp only [Value.slice.injEq] at hv0;obtain ⟨rfl,rfl,rfl⟩:=hv0;clear hA0;have walk:Calls prog 3 #[.slice a0 len0 cap0] W (fun e w'=>e=.returned (.bool true)/\Bl W w'):=by
  obtain ⟨pt,nt,hg⟩:=gok hL;exact Dv.epoch_any hg hh0 hl0 hm0 hn0
 refine walk.mono fun e W' ⟨he,bel⟩=>?_
 subst he;exact ⟨_,rfl,_,_,_,[],_,[],hW',trodAll_cons_mk (shut_bool underlying4 _) trodAll_mk0,(trodAll_cons_mk (Below.trod ZH7 (by kernel_rfl) (of_decide_eq_true (by kernel_rfl)) k0 bel lt0) trodAll_mk0),rfl,bel.frame _,fun h=>by cases h⟩
noncomputable def JA (os:Os):World:=
 {World.holding prog os ⟨#[],#[],[]⟩ with heap:=(((((World.holding prog os ⟨#[],#[],[]⟩).heap.modify 1 (fun|.cells _ t frozen=>.cells #[.int .u32 0,.int .u32 274646895,.int .u32 549293790,.int .u32 820201905,.int .u32 1098587580,.int .u32 1361435347,.int .u32 1640403810,.int .u32 1905808397,.int .u32 2197175160,.int .u32 2460548119,.int .u32 2722870694,.int .u32 2987750089,.int .u32 3280807620,.int .u32 3553878443,.int .u32 3811616794,.int .u32 4084100981] t frozen|o=>o)).modify 0 (fun|.cells _ t frozen=>.cells #[.int .i64 3,.int .i64 7,.int .i64 15,.int .i64 31,.int .i64 60] t frozen|o=>o)).modify 3 (fun|.cells _ t frozen=>.cells (List.map (Value.int .u8) ([128,191,160,191,128,159,144,191,128,143]++List.replicate 22 0)).toArray t frozen|o=>o)).modify 2 (fun|.cells _ t frozen=>.cells (List.map (Value.int .u8) (List.replicate 128 240++List.replicate 66 241++List.replicate 30 2++[19]++List.replicate 12 3++[35,3,3,52,4,4,4,68]++List.replicate 11 241)).toArray t frozen|o=>o))}
theorem ZGf (os:Os):laidMet prog Rows.topEpochRow.laid ((JA os).forCall (fun _ _=>0) ⟨#[],#[.slice none 0 0],[]⟩).memory:=
 laidMet_of_run' 8 (by kernel_rfl) (by kernel_rfl)
theorem ZKM (os:Os){H:Type}(enc:TypeId×Value->H):∃ places,DataW.whole enc prog ((JA os).forCall (fun _ _=>0) ⟨#[],#[.slice none 0 0],[]⟩).memory Tryz.f3.params.toList Rows.topEpochSpec.vars false #[Value.slice none 0 0].toList 8=some ([.nil],[],places):=
 ⟨[],by kernel_rfl⟩
theorem ZJM (os:Os)(started:os.Started)(H:Type)(enc:TypeId×Value->H)(F:Stop.Interp):
 ReturnsInHanded {} checked os 3 .any ((OpenSpec.ofChange Rows.topEpochSpec).preRow enc prog Tryz.f3 Rows.topEpochRow.domain false Rows.topEpochRow.laid) (((OpenSpec.ofChange Rows.topEpochSpec).at F).post enc prog Tryz.f3 false true false false):=by
 obtain ⟨places,hx⟩:=ZKM os enc
 refine returnsInHanded_of_row (C:=checked) (s:=OpenSpec.ofChange Rows.topEpochSpec) own started (by kernel_rfl) func3
  (witness_row_at (enc:=enc) (C:=checked) false (JA os) #[.slice none 0 0] rfl (by kernel_rfl) (by kernel_rfl) (by kernel_rfl)
    (OpenSpec.preRow_of_cond 8 hx (by kernel_rfl) (fun k hk=>by cases hk) (by kernel_rfl) (ZGf os))) ?_
 intro W base args ds gs before hval hW _ hcond hsz hL _ _;exact ZGF H enc W base args ds gs before hval hW hcond hsz hL
theorem ZKo:Rows.TopEpochSaid:=
 OpenClaim.holds_of_cond 3 Tryz.f3 rfl rfl rfl rfl rfl rfl rfl ⟨rfl,rfl,rfl,rfl,rfl⟩ rfl rfl rfl rfl rfl (by kernel_rfl) func3 ZI3
  (of_decide_eq_true (by kernel_rfl)) (by unfold Func.isWrapper;first|(rw [ZKv (by decide+kernel)];kernel_rfl)|(rw [ZKu (by decide+kernel)];exact ⟨rfl,rfl⟩))
  (fun os started H enc _ F=>by rw [OpenClaim.pre_eq_preRow];exact ZJM os started H enc F)
theorem plain (f:FuncId)(fn:Func)(hf:pinned.checked.prog.funcNamed "bedrock/bedrocktop.TopEpoch"=some f)(hfn:pinned.checked.prog.funcs[f]?=some fn):
 false=pinned.checked.prog.looks []/\∀ (j:Nat) t,fn.params[j]?=some t->pinned.checked.prog.wantsStandIn t=false:=by
 obtain rfl:f=3:=ZK5 ((show prog.funcNamed "bedrock/bedrocktop.TopEpoch"=some 3 by kernel_rfl).symm.trans hf) |>.symm;obtain rfl:fn=Tryz.f3:=(ZK5 (func3.symm.trans hfn)).symm;refine ⟨by kernel_rfl,fun j t ht=>?_⟩;rw [params3] at ht;have hm:t∈[22]:=by simpa using Array.mem_of_getElem? ht
 have hall:([22].all fun u=>!prog.wantsStandIn u)=true:=by kernel_rfl
 exact (show prog.wantsStandIn t=false by simpa using List.all_eq_true.1 hall t hm)
theorem card:Rows.TopEpochCardSaid:=
 Claim7.holds_tied_plain_at .later [] _ _ _ _ ZKo (fun _ h=>by cases h) (by kernel_rfl) (fun _ h=>by cases h) topEpoch_row_tie rfl ⟨rfl,rfl⟩ (by kernel_rfl) rfl plain ZJx
end
end Go.Proofs.YteomliechfdhhaaGreatDoor.topEpochDone
namespace Go.Proofs.YteomliechfdhhaaGreatDoor
open Go.Proofs.Tryz Tryz
section
theorem topEpoch_holds:Rows.TopEpochCardSaid:=topEpochDone.card
#print axioms topEpoch_holds
end
end Go.Proofs.YteomliechfdhhaaGreatDoor
