/- Part 1. -/
import Derived.Shelf.Strings.Trim
import Derived.Test.YteomliechfdhhaaGreatDoorProg
set_option maxHeartbeats 8000000
set_option maxRecDepth 20000
set_option linter.all false
namespace Go.Proofs
open Tryz
section
open Go.Shelf
def lays162_ren:Go.Shelf.Ren:=⟨fun|162=>173|232=>216|227=>217|234=>218|236=>219|228=>241|271=>242|151=>243|120=>267|197=>268|152=>269|260=>278|137=>279|119=>280|224=>281|225=>282|217=>284|266=>285|n=>n,fun|9=>9|4=>4|3=>3|5=>5|117=>368|116=>367|0=>0|124=>371|21=>21|105=>395|46=>190|119=>426|139=>429|138=>428|n=>n,fun|3=>2|4=>3|n=>n⟩
theorem lays162:Go.Proofs.Lays.n162 prog lays162_ren:={
 mixed:=by kernel_rfl
 f119:=func280.trans (congrArg some (by kernel_rfl))
 f120:=func267.trans (congrArg some (by kernel_rfl))
 f137:=func279.trans (congrArg some (by kernel_rfl))
 f151:=func243.trans (congrArg some (by kernel_rfl))
 f152:=func269.trans (congrArg some (by kernel_rfl))
 f162:=func173.trans (congrArg some (by kernel_rfl))
 f197:=func268.trans (congrArg some (by kernel_rfl))
 f217:=func284.trans (congrArg some (by kernel_rfl))
 f224:=func281.trans (congrArg some (by kernel_rfl))
 f225:=func282.trans (congrArg some (by kernel_rfl))
 f227:=func217.trans (congrArg some (by kernel_rfl))
 f228:=func241.trans (congrArg some (by kernel_rfl))
 f232:=func216.trans (congrArg some (by kernel_rfl))
 f234:=func218.trans (congrArg some (by kernel_rfl))
 f236:=func219.trans (congrArg some (by kernel_rfl))
 f260:=func278.trans (congrArg some (by kernel_rfl))
 f266:=func285.trans (congrArg some (by kernel_rfl))
 f271:=func242.trans (congrArg some (by kernel_rfl))
 t0:=underlying0
 a0:=isAgg0
 z0:=sizeOf0
 v0:=zeroValue0
 t3:=underlying3
 a3:=isAgg3
 z3:=sizeOf3
 v3:=zeroValue3
 t4:=underlying4
 a4:=isAgg4
 z4:=sizeOf4
 v4:=zeroValue4
 t5:=underlying5
 a5:=isAgg5
 z5:=sizeOf5
 v5:=zeroValue5
 t9:=underlying9
 a9:=isAgg9
 z9:=sizeOf9
 v9:=zeroValue9
 t21:=underlying21
 a21:=isAgg21
 z21:=sizeOf21
 v21:=zeroValue21
 t46:=underlying190
 a46:=isAgg190
 z46:=sizeOf190
 v46:=zeroValue190
 t105:=underlying395
 a105:=isAgg395
 z105:=sizeOf395
 v105:=zeroValue395
 t116:=underlying367
 a116:=isAgg367
 z116:=sizeOf367
 t117:=underlying368
 a117:=isAgg368
 z117:=sizeOf368
 v117:=zeroValue368
 t119:=underlying426
 a119:=isAgg426
 z119:=sizeOf426
 t124:=underlying371
 a124:=isAgg371
 z124:=sizeOf371
 v124:=zeroValue371
 t138:=underlying428
 a138:=isAgg428
 z138:=sizeOf428
 v138:=zeroValue428
 t139:=underlying429
 a139:=isAgg429
 z139:=sizeOf429
 v139:=zeroValue429
 g3:=by kernel_rfl
 g4:=by kernel_rfl}
open Go.RowKit in
theorem strings_TrimRight_one (s:ByteArray)(c:UInt8)(hc:c.toNat < 128)(w:World)(hs:s.size<=9223372036854775807):
 Calls prog 173 #[.string s,.string ⟨#[c]⟩] w fun e w'=>e=.returned (.string ⟨(Lib.trimRightB s.data.toList c).toArray⟩)/\w'=w:=Any.strings_TrimRight_one lays162 s c hc w hs
end
end Go.Proofs
