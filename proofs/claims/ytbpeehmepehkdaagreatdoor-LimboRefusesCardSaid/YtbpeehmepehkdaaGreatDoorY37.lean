/- Part 37. -/
import Derived.Shelf.Sort.Plain
import Derived.Ground.Names2Prog
import Derived.Shelf.Slices.In.SortNone
import Derived.Test.YtbpeehmepehkdaaGreatDoorProg
set_option maxHeartbeats 8000000
set_option maxRecDepth 20000
set_option linter.all false
namespace Go.Proofs
open Tryz
section
open Go.Shelf
def lays189_ren:Go.Shelf.Ren:=⟨fun|189=>225|125=>114|257=>267|128=>185|129=>186|294=>289|295=>290|296=>291|297=>292|298=>293|299=>294|216=>295|300=>296|301=>297|328=>312|329=>236|330=>237|331=>313|332=>314|215=>315|343=>325|n=>n,fun|28=>150|3=>3|46=>120|0=>0|51=>218|53=>31|4=>4|183=>303|182=>302|131=>205|5=>5|9=>9|218=>365|222=>368|228=>421|229=>422|n=>n,fun|n=>n⟩
theorem lays189:Go.Proofs.Lays.n189 prog lays189_ren:={
 mixed:=by kernel_rfl
 f125:=func114.trans (congrArg some (by kernel_rfl))
 f128:=func185.trans (congrArg some (by kernel_rfl))
 f129:=func186.trans (congrArg some (by kernel_rfl))
 f189:=func225.trans (congrArg some (by kernel_rfl))
 f215:=func315.trans (congrArg some (by kernel_rfl))
 f216:=func295.trans (congrArg some (by kernel_rfl))
 f257:=func267.trans (congrArg some (by kernel_rfl))
 f294:=func289.trans (congrArg some (by kernel_rfl))
 f295:=func290.trans (congrArg some (by kernel_rfl))
 f296:=func291.trans (congrArg some (by kernel_rfl))
 f297:=func292.trans (congrArg some (by kernel_rfl))
 f298:=func293.trans (congrArg some (by kernel_rfl))
 f299:=func294.trans (congrArg some (by kernel_rfl))
 f300:=func296.trans (congrArg some (by kernel_rfl))
 f301:=func297.trans (congrArg some (by kernel_rfl))
 f328:=func312.trans (congrArg some (by kernel_rfl))
 f329:=func236.trans (congrArg some (by kernel_rfl))
 f330:=func237.trans (congrArg some (by kernel_rfl))
 f331:=func313.trans (congrArg some (by kernel_rfl))
 f332:=func314.trans (congrArg some (by kernel_rfl))
 f343:=func325.trans (congrArg some (by kernel_rfl))
 t0:=underlying0
 a0:=isAgg0
 z0:=sizeOf0
 v0:=zeroValue0
 t3:=underlying3
 a3:=isAgg3
 z3:=sizeOf3
 v3:=zeroValue3
 t4:=underlying4
 a4:=isAgg4
 z4:=sizeOf4
 v4:=zeroValue4
 t5:=underlying5
 a5:=isAgg5
 z5:=sizeOf5
 v5:=zeroValue5
 t9:=underlying9
 a9:=isAgg9
 z9:=sizeOf9
 v9:=zeroValue9
 t28:=underlying150
 a28:=isAgg150
 z28:=sizeOf150
 v28:=zeroValue150
 t46:=underlying120
 a46:=isAgg120
 z46:=sizeOf120
 v46:=zeroValue120
 t51:=underlying218
 a51:=isAgg218
 z51:=sizeOf218
 v51:=zeroValue218
 t53:=underlying31
 a53:=isAgg31
 z53:=sizeOf31
 v53:=zeroValue31
 t131:=underlying205
 a131:=isAgg205
 z131:=sizeOf205
 v131:=zeroValue205
 t182:=underlying302
 a182:=isAgg302
 z182:=sizeOf302
 v182:=zeroValue302
 t183:=underlying303
 a183:=isAgg303
 z183:=sizeOf303
 v183:=zeroValue303
 t218:=underlying365
 a218:=isAgg365
 z218:=sizeOf365
 v218:=zeroValue365
 t222:=underlying368
 a222:=isAgg368
 z222:=sizeOf368
 v222:=zeroValue368
 t228:=underlying421
 a228:=isAgg421
 z228:=sizeOf421
 v228:=zeroValue421
 t229:=underlying422
 a229:=isAgg422
 z229:=sizeOf422
 v229:=zeroValue422}
open Go.Sort Go.RowKit in
theorem slices_Sort_int (blk off cap:Nat)(zs:List Int)(w:World)(hH:Holds (Value.int .i64) w blk off zs.toArray)(hblk:blk < w.heap.size)(hsz:zs.length < 4611686018427387904):
 Calls prog 225 #[.slice (some ⟨blk,off,none⟩) zs.length cap] w fun e w'=>
  e=.returned (.tuple #[])/\∃ n os,w'=grow (putRow (Value.int .i64) (Sort.ahead w n) blk off (zs.mergeSort fun x y=>decide (x<=y)).toArray) os:=Any.slices_Sort_int lays189 blk off cap zs w hH hblk hsz
open Go.RowKit Go.Sort in
theorem slices_Sort_int_none (p:Option Addr)(cap:Nat)(w:World):
 Calls prog 225 #[.slice p 0 cap] w fun e w'=>e=.returned (.tuple #[])/\w'=w:=Any.slices_Sort_int_none lays189 p cap w
end
end Go.Proofs
