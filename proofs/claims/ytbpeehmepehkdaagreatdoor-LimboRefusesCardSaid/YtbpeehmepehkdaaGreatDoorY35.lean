/- Part 35. -/
import Derived.Test.YtbpeehmepehkdaaGreatDoorY31
import Derived.Lib.SmallJoins
import Derived.Deep.Slices
import Derived.ChangeSlices
import Derived.SizedLaws
set_option maxHeartbeats 8000000
set_option maxRecDepth 20000
set_option linter.all false
namespace Go.Proofs.YtbpeehmepehkdaaGreatDoor.Dv
open Tryz
section
open Go.RowKit Go.ChangeShapes Go.WideShapes
theorem ZKt {α:Type}{l:List α}(h:l.length=3):∃ a b c,l=[a,b,c]:=match l,h with|[a,b,c],_=>⟨a,b,c,rfl⟩
theorem ZGW {w:World}{a:Addr}{v:Value}(h:w.cell? a=some v):a=⟨a.block,a.off,none⟩:=by
 obtain ⟨b,o,s⟩:=a;cases s with
 |none=>rfl
 |some x=>unfold World.cell? at h;split at h <;> simp at h
def AArg (W:World)(a:Option Addr)(len:Nat)(rc:Nat->Int×Int×Int):Prop:=
 ∀ i,i < len->∃ b o,a=some ⟨b,o,none⟩/\W.cell? ⟨b,o+i * 3,none⟩=some (.int .i64 (rc i).1)/\W.cell? ⟨b,o+i * 3+1,none⟩=some (.int .i64 (rc i).2.1)/\W.cell? ⟨b,o+i * 3+2,none⟩=some (.int .i64 (rc i).2.2)
section
variable {H:Type}{enc:TypeId×Value->H}{W:World}{base:Nat}{held:Bool}
theorem acts_of {fuel:Nat}{v:Value}{y:DataW H×List MemPlace}(h:DataW.trod enc prog W base (fun _=>true) held fuel 22 [v]=some y):
 ∃ a len cap rc,v=.slice a len cap/\AArg W a len rc/\len<=cap/\cap<=maxLen/\(a=none->cap=0):=by
 rcases Go.Deep.open_slice underlying22 h with ⟨hcs,_⟩|⟨a,len,cap,m,n,D,Pl,hcs,_,hl,hcm,hmm,hx,hi⟩
 ·simp only [List.cons.injEq,and_true] at hcs
  exact ⟨none,0,0,fun _=>(0,0,0),hcs,fun i hi=>absurd hi (by omega),nR,by unfold maxLen;omega,fun _=>rfl⟩
 ·simp only [List.cons.injEq,and_true] at hcs
  have hm:m=cap:=by simpa using hmm
  have hc3:prog.cellsOf 28=3:=by kernel_rfl
  have el:∀ i,∃ c:Int×Int×Int,i < len->W.cell? (a.add (i * 3))=some (.int .i64 c.1)/\W.cell? ((a.add (i * 3)).add 1)=some (.int .i64 c.2.1)/\W.cell? ((a.add (i * 3)).add 2)=some (.int .i64 c.2.2):=by
   intro i
   by_cases hil:i < len
   ·obtain ⟨cs',hc,ht'⟩:=hi i (by omega)
    rw [hc3] at hc;obtain ⟨ys,n',_,hy,_,hyl,hf⟩:=DataW.trod_struct underlying28 ht';obtain ⟨_,hcl,hat⟩:=World.cells?_some hc;obtain ⟨c0,c1,c2,rfl⟩:=ZKt hcl;obtain ⟨y0,y1,y2,rfl⟩:=ZKt hyl;have k0:prog.cellsOf 3=1:=by kernel_rfl
    have f0:=hf 0 {name:= "Kind",type:=3,offset:=0,embedded:=false,tag:= "",pkgPath:= "",byteOffset:=0} rfl;dsimp only at f0;have f1:=hf 1 {name:= "Slot",type:=3,offset:=1,embedded:=false,tag:= "",pkgPath:= "",byteOffset:=8} rfl;dsimp only at f1;have f2:=hf 2 {name:= "Thread",type:=3,offset:=2,embedded:=false,tag:= "",pkgPath:= "",byteOffset:=16} rfl;dsimp only at f2;rw [k0] at f0 f1 f2;obtain ⟨z0,e0,_,_⟩:=DataW.trod_int underlying3 f0;obtain ⟨z1,e1,_,_⟩:=DataW.trod_int underlying3 f1;obtain ⟨z2,e2,_,_⟩:=DataW.trod_int underlying3 f2;have q0:=hat 0 (by omega);have q1:=hat 1 (by omega);have q2:=hat 2 (by omega);have g0:c0=.int .i64 z0:=by simpa using e0
    have g1:c1=.int .i64 z1:=by simpa using e1
    have g2:c2=.int .i64 z2:=by simpa using e2
    clear e0 e1 e2;subst g0 g1 g2;exact ⟨(z0,z1,z2),fun _=>⟨q0,q1,q2⟩⟩
   ·exact ⟨(0,0,0),fun q=>absurd q hil⟩
  obtain ⟨rc,hrc⟩:∃ rc:Nat->Int×Int×Int,∀ i,i < len->W.cell? (a.add (i * 3))=some (.int .i64 (rc i).1)/\W.cell? ((a.add (i * 3)).add 1)=some (.int .i64 (rc i).2.1)/\W.cell? ((a.add (i * 3)).add 2)=some (.int .i64 (rc i).2.2):=
   ⟨fun i=>Classical.choose (el i),fun i=>Classical.choose_spec (el i)⟩
  clear el hi;refine ⟨some a,len,cap,rc,hcs,fun i hil=>?_,hl,hcm,fun e=>(by cases e)⟩;obtain ⟨q0,q1,q2⟩:=hrc i hil;have ha:a=⟨a.block,a.off,none⟩:=by
   have p0:=(hrc 0 (by omega)).1;rw [show 0 * 3=0 from rfl,show a.add 0=a from rfl] at p0;exact ZGW p0
  rw [ha,Addr.add_lit] at q0 q1 q2;rw [Addr.add_lit] at q1 q2;exact ⟨a.block,a.off,congrArg some ha,q0,q1,q2⟩
end
end
end Go.Proofs.YtbpeehmepehkdaaGreatDoor.Dv
