/- Part 8. -/
import Derived.Shelf.SlSortCmp.NoneTotal
import Derived.Ground.SlsfProg
import Derived.Test.YtbpeehmepehkdaaGreatDoorProg
set_option maxHeartbeats 8000000
set_option maxRecDepth 20000
set_option linter.all false
namespace Go.Proofs
open Tryz
section
open Go.Shelf
def sortf_ren:Go.Shelf.Ren:=⟨fun|6=>65|15=>114|14=>113|28=>185|29=>186|20=>177|21=>178|22=>179|23=>180|24=>181|25=>182|26=>183|27=>184|46=>235|47=>236|48=>237|49=>238|50=>239|57=>279|n=>n,fun|22=>127|24=>132|25=>147|3=>3|39=>120|0=>0|53=>218|55=>31|4=>4|46=>303|45=>302|50=>205|5=>5|9=>9|66=>365|70=>368|76=>421|77=>422|n=>n,fun|n=>n⟩
theorem sortf:Go.Proofs.SlLaysF0.n6 prog sortf_ren:={
 mixed:=by kernel_rfl
 f6:=⟨Tryz.f65.name,by decide,func65.trans (congrArg some (by kernel_rfl))⟩
 f14:=⟨Tryz.f113.name,by decide,func113.trans (congrArg some (by kernel_rfl))⟩
 f15:=func114.trans (congrArg some (by kernel_rfl))
 f20:=⟨Tryz.f177.name,by decide,func177.trans (congrArg some (by kernel_rfl))⟩
 f21:=⟨Tryz.f178.name,by decide,func178.trans (congrArg some (by kernel_rfl))⟩
 f22:=⟨Tryz.f179.name,by decide,func179.trans (congrArg some (by kernel_rfl))⟩
 f23:=⟨Tryz.f180.name,by decide,func180.trans (congrArg some (by kernel_rfl))⟩
 f24:=⟨Tryz.f181.name,by decide,func181.trans (congrArg some (by kernel_rfl))⟩
 f25:=⟨Tryz.f182.name,by decide,func182.trans (congrArg some (by kernel_rfl))⟩
 f26:=⟨Tryz.f183.name,by decide,func183.trans (congrArg some (by kernel_rfl))⟩
 f27:=⟨Tryz.f184.name,by decide,func184.trans (congrArg some (by kernel_rfl))⟩
 f28:=func185.trans (congrArg some (by kernel_rfl))
 f29:=func186.trans (congrArg some (by kernel_rfl))
 f46:=⟨Tryz.f235.name,by decide,func235.trans (congrArg some (by kernel_rfl))⟩
 f47:=func236.trans (congrArg some (by kernel_rfl))
 f48:=func237.trans (congrArg some (by kernel_rfl))
 f49:=⟨Tryz.f238.name,by decide,func238.trans (congrArg some (by kernel_rfl))⟩
 f50:=⟨Tryz.f239.name,by decide,func239.trans (congrArg some (by kernel_rfl))⟩
 f57:=⟨Tryz.f279.name,by decide,func279.trans (congrArg some (by kernel_rfl))⟩
 t0:=underlying0
 a0:=isAgg0
 z0:=sizeOf0
 v0:=zeroValue0
 t3:=underlying3
 a3:=isAgg3
 z3:=sizeOf3
 v3:=zeroValue3
 t4:=underlying4
 a4:=isAgg4
 z4:=sizeOf4
 v4:=zeroValue4
 t5:=underlying5
 a5:=isAgg5
 z5:=sizeOf5
 v5:=zeroValue5
 t9:=underlying9
 a9:=isAgg9
 z9:=sizeOf9
 v9:=zeroValue9
 t22:=underlying127
 a22:=isAgg127
 z22:=sizeOf127
 v22:=zeroValue127
 t25:=underlying147
 a25:=isAgg147
 z25:=sizeOf147
 v25:=zeroValue147
 t39:=underlying120
 a39:=isAgg120
 z39:=sizeOf120
 v39:=zeroValue120
 t45:=underlying302
 a45:=isAgg302
 z45:=sizeOf302
 v45:=zeroValue302
 t46:=underlying303
 a46:=isAgg303
 z46:=sizeOf303
 v46:=zeroValue303
 t50:=underlying205
 a50:=isAgg205
 z50:=sizeOf205
 v50:=zeroValue205
 t53:=underlying218
 a53:=isAgg218
 z53:=sizeOf218
 v53:=zeroValue218
 t55:=underlying31
 a55:=isAgg31
 z55:=sizeOf31
 v55:=zeroValue31
 t66:=underlying365
 a66:=isAgg365
 z66:=sizeOf365
 v66:=zeroValue365
 t70:=underlying368
 a70:=isAgg368
 z70:=sizeOf368
 v70:=zeroValue368
 t76:=underlying421
 a76:=isAgg421
 z76:=sizeOf421
 v76:=zeroValue421
 t77:=underlying422
 a77:=isAgg422
 z77:=sizeOf422
 v77:=zeroValue422}
end
end Go.Proofs
