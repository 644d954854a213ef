/- Part 51. -/
import Derived.Test.YtbpeehmepehkdaaGreatDoorY48
set_option maxHeartbeats 8000000
set_option maxRecDepth 20000
set_option linter.all false
namespace Go.Proofs.YtbpeehmepehkdaaGreatDoor.Dv
open Tryz
section
open Go.RowKit Go.Proofs.YtbpeehmepehkdaaGreatDoor.Size
variable {w w':World}{A:DAd}{F F':Nat->Option ZM}{T c c' c0:Nat->Nat}{x x':Nat}{H:HAd}{ex n:Nat}{s:LS}{B:WAd}{fv iv:Value}
theorem plays_any {w0:World}{t u:TypeId}(hg:Ev.GOk w0 t u){a:Option Addr}{len cap:Nat}{rc:Nat->Int×Int×Int}(ha:AArg w0 a len rc)(hl:len<=cap)(hc:cap<=maxLen)(hn:a=none->cap=0):
 Calls prog 3 #[.slice a len cap] w0 fun e w'=>e=.returned (.bool true)/\Bl w0 w':=by
 have HBG:=zh (Ui hg);have HAW:=zh (fun (wx:World) (hb:Bl w0 wx)=>Vy (V9 hg hb));have HFW:=zh (fun (wx:World)=>QB (w:=wx) (a:=a) (n:=len) (c:=cap) (m:=45) hl hc (by omega) (fun e=>by have:=hn e;omega));have HA:=zh ha;clear hg ha hl hc hn;go_in;go_wp2_with fail;refine HBG.o.mono ?_;rintro e w1 ⟨wb,rfl,hst,hb1⟩;have HS1:=zh hst;have HB1:=zh hb1;clear hst hb1 HBG;go_wp2_with fail;refine (HAW.o _ HB1.o).mono ?_;rintro e w2 ⟨rfl,hb2⟩;have HS2:=zh (HS1.o.below hb2);clear hb2 HS1 HB1 HAW;go_wp2_with fail;refine (HFW.o _).mono ?_;rintro e w' ⟨c',rfl,hc1,hc2,hww⟩;subst hww;obtain ⟨M,hM⟩:=xE (min len 45);have HM:=zh (show M<=len/\M<=45 by omega);rw [<-hM];clear hc1 hc2 hM HFW;go_wp2_with fail
 go_loopw [16] (fun i wr=>∃ k:Nat,k<=M/\i=.int .i64 k/\StS w0 wb [] k (runS rc k) wr) (fun i _=>M - (intOf i).toNat)
 case atStart=>exact ⟨0,by omega,rfl,HS2.o⟩
 case round=>
 obtain ⟨k,hk,rfl,hst⟩:=hrel
 by_cases hlt:k < M
 ·have d1:(k:Int) < M:=by omega
  have d45:(k:Int) < 45:=by have:=HM.o;omega
  obtain ⟨b,o,rfl,q0,q1,q2⟩:=(HA.o.below (hst.base)) k (by have:=HM.o;omega);have HS:=zh hst;have HK:=zh hlt;clear hst hk hlt;go_upto_region 7 with fail;obtain ⟨w3,hw3⟩:=xE (wr.alloc (.cells #[.int .i64 (rc k).1,.int .i64 (rc k).2.1,.int .i64 (rc k).2.2] 28));have hb3:Bl wr w3:=by rw [hw3];exact ZA bR
  have hx3:w3.heap[wr.heap.size]?=some (.cells #[.int .i64 (rc k).1,.int .i64 (rc k).2.1,.int .i64 (rc k).2.2] 28 (0,0)):=by rw [hw3];exact ZC _ _
  rw [<-hw3];obtain ⟨a0,a1,a2,_⟩:=ZY hx3;have HD:=zh (ZEn (HS.o.below hb3) (by have:=HK.o;have:=HM.o;omega) (rc k));clear hw3 hb3 hx3 HS q0 q1 q2;go_wp2_with fail;refine HD.o.mono ?_;rintro e w4 ⟨rfl,hs4⟩;have HS4:=zh (show StS w0 wb [] (k+1) (runS rc (k+1)) w4 from hs4);have HSM:=zh (ZJJ HS4.o (by have:=HK.o;have:=HM.o;omega));clear hs4 a0 a1 a2 HD;go_wp2_with fail;refine HSM.o.mono ?_;rintro e w5 ⟨rfl,hb5⟩;have HS5:=zh (HS4.o.below hb5);clear hb5 HS4 HSM;go_wp2_with fail;exact ⟨⟨k+1,by have:=HK.o;omega,rfl,HS5.o⟩,by have:=HK.o;simp [intOf];omega⟩
 ·obtain rfl:k=M:=by omega
  have HE:=zh hst.base;clear hst hk hlt;go_wp2;go_returns;exact ⟨rfl,HE.o⟩
end
end Go.Proofs.YtbpeehmepehkdaaGreatDoor.Dv
