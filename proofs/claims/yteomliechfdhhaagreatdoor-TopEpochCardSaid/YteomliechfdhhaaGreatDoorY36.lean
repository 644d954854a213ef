/- Part 36. -/
import Derived.Shelf.Sort.Plain
import Derived.Ground.Names2Prog
import Derived.Shelf.Slices.In.SortNone
import Derived.Test.YteomliechfdhhaaGreatDoorProg
set_option maxHeartbeats 8000000
set_option maxRecDepth 20000
set_option linter.all false
namespace Go.Proofs
open Tryz
section
open Go.Shelf
def lays189_ren:Go.Shelf.Ren:=⟨fun|189=>179|125=>184|257=>221|128=>232|129=>233|294=>244|295=>245|296=>246|297=>247|298=>248|299=>249|216=>250|300=>251|301=>252|328=>270|329=>255|330=>256|331=>271|332=>272|215=>273|343=>283|n=>n,fun|28=>241|3=>3|46=>190|0=>0|51=>178|53=>29|4=>4|183=>379|182=>378|131=>188|5=>5|9=>9|218=>405|222=>408|228=>418|229=>419|n=>n,fun|n=>n⟩
theorem lays189:Go.Proofs.Lays.n189 prog lays189_ren:={
 mixed:=by kernel_rfl
 f125:=func184.trans (congrArg some (by kernel_rfl))
 f128:=func232.trans (congrArg some (by kernel_rfl))
 f129:=func233.trans (congrArg some (by kernel_rfl))
 f189:=func179.trans (congrArg some (by kernel_rfl))
 f215:=func273.trans (congrArg some (by kernel_rfl))
 f216:=func250.trans (congrArg some (by kernel_rfl))
 f257:=func221.trans (congrArg some (by kernel_rfl))
 f294:=func244.trans (congrArg some (by kernel_rfl))
 f295:=func245.trans (congrArg some (by kernel_rfl))
 f296:=func246.trans (congrArg some (by kernel_rfl))
 f297:=func247.trans (congrArg some (by kernel_rfl))
 f298:=func248.trans (congrArg some (by kernel_rfl))
 f299:=func249.trans (congrArg some (by kernel_rfl))
 f300:=func251.trans (congrArg some (by kernel_rfl))
 f301:=func252.trans (congrArg some (by kernel_rfl))
 f328:=func270.trans (congrArg some (by kernel_rfl))
 f329:=func255.trans (congrArg some (by kernel_rfl))
 f330:=func256.trans (congrArg some (by kernel_rfl))
 f331:=func271.trans (congrArg some (by kernel_rfl))
 f332:=func272.trans (congrArg some (by kernel_rfl))
 f343:=func283.trans (congrArg some (by kernel_rfl))
 t0:=underlying0
 a0:=isAgg0
 z0:=sizeOf0
 v0:=zeroValue0
 t3:=underlying3
 a3:=isAgg3
 z3:=sizeOf3
 v3:=zeroValue3
 t4:=underlying4
 a4:=isAgg4
 z4:=sizeOf4
 v4:=zeroValue4
 t5:=underlying5
 a5:=isAgg5
 z5:=sizeOf5
 v5:=zeroValue5
 t9:=underlying9
 a9:=isAgg9
 z9:=sizeOf9
 v9:=zeroValue9
 t28:=underlying241
 a28:=isAgg241
 z28:=sizeOf241
 v28:=zeroValue241
 t46:=underlying190
 a46:=isAgg190
 z46:=sizeOf190
 v46:=zeroValue190
 t51:=underlying178
 a51:=isAgg178
 z51:=sizeOf178
 v51:=zeroValue178
 t53:=underlying29
 a53:=isAgg29
 z53:=sizeOf29
 v53:=zeroValue29
 t131:=underlying188
 a131:=isAgg188
 z131:=sizeOf188
 v131:=zeroValue188
 t182:=underlying378
 a182:=isAgg378
 z182:=sizeOf378
 v182:=zeroValue378
 t183:=underlying379
 a183:=isAgg379
 z183:=sizeOf379
 v183:=zeroValue379
 t218:=underlying405
 a218:=isAgg405
 z218:=sizeOf405
 v218:=zeroValue405
 t222:=underlying408
 a222:=isAgg408
 z222:=sizeOf408
 v222:=zeroValue408
 t228:=underlying418
 a228:=isAgg418
 z228:=sizeOf418
 v228:=zeroValue418
 t229:=underlying419
 a229:=isAgg419
 z229:=sizeOf419
 v229:=zeroValue419}
open Go.Sort Go.RowKit in
theorem slices_Sort_int (blk off cap:Nat)(zs:List Int)(w:World)(hH:Holds (Value.int .i64) w blk off zs.toArray)(hblk:blk < w.heap.size)(hsz:zs.length < 4611686018427387904):
 Calls prog 179 #[.slice (some ⟨blk,off,none⟩) zs.length cap] w fun e w'=>
  e=.returned (.tuple #[])/\∃ n os,w'=grow (putRow (Value.int .i64) (Sort.ahead w n) blk off (zs.mergeSort fun x y=>decide (x<=y)).toArray) os:=Any.slices_Sort_int lays189 blk off cap zs w hH hblk hsz
open Go.RowKit Go.Sort in
theorem slices_Sort_int_none (p:Option Addr)(cap:Nat)(w:World):
 Calls prog 179 #[.slice p 0 cap] w fun e w'=>e=.returned (.tuple #[])/\w'=w:=Any.slices_Sort_int_none lays189 p cap w
end
end Go.Proofs
