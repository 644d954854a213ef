/- Part 1. -/
import Derived.Shelf.Strings.Trim
import Derived.Test.YtbpeehmepehkdaaGreatDoorProg
set_option maxHeartbeats 8000000
set_option maxRecDepth 20000
set_option linter.all false
namespace Go.Proofs
open Tryz
section
open Go.Shelf
def lays162_ren:Go.Shelf.Ren:=⟨fun|162=>221|232=>262|227=>263|234=>264|236=>265|228=>286|271=>287|151=>288|120=>309|197=>310|152=>311|260=>320|137=>321|119=>322|224=>323|225=>324|217=>326|266=>327|n=>n,fun|9=>9|4=>4|3=>3|5=>5|117=>405|116=>404|0=>0|124=>408|21=>21|105=>431|46=>120|119=>456|139=>459|138=>458|n=>n,fun|3=>2|4=>3|n=>n⟩
theorem lays162:Go.Proofs.Lays.n162 prog lays162_ren:={
 mixed:=by kernel_rfl
 f119:=func322.trans (congrArg some (by kernel_rfl))
 f120:=func309.trans (congrArg some (by kernel_rfl))
 f137:=func321.trans (congrArg some (by kernel_rfl))
 f151:=func288.trans (congrArg some (by kernel_rfl))
 f152:=func311.trans (congrArg some (by kernel_rfl))
 f162:=func221.trans (congrArg some (by kernel_rfl))
 f197:=func310.trans (congrArg some (by kernel_rfl))
 f217:=func326.trans (congrArg some (by kernel_rfl))
 f224:=func323.trans (congrArg some (by kernel_rfl))
 f225:=func324.trans (congrArg some (by kernel_rfl))
 f227:=func263.trans (congrArg some (by kernel_rfl))
 f228:=func286.trans (congrArg some (by kernel_rfl))
 f232:=func262.trans (congrArg some (by kernel_rfl))
 f234:=func264.trans (congrArg some (by kernel_rfl))
 f236:=func265.trans (congrArg some (by kernel_rfl))
 f260:=func320.trans (congrArg some (by kernel_rfl))
 f266:=func327.trans (congrArg some (by kernel_rfl))
 f271:=func287.trans (congrArg some (by kernel_rfl))
 t0:=underlying0
 a0:=isAgg0
 z0:=sizeOf0
 v0:=zeroValue0
 t3:=underlying3
 a3:=isAgg3
 z3:=sizeOf3
 v3:=zeroValue3
 t4:=underlying4
 a4:=isAgg4
 z4:=sizeOf4
 v4:=zeroValue4
 t5:=underlying5
 a5:=isAgg5
 z5:=sizeOf5
 v5:=zeroValue5
 t9:=underlying9
 a9:=isAgg9
 z9:=sizeOf9
 v9:=zeroValue9
 t21:=underlying21
 a21:=isAgg21
 z21:=sizeOf21
 v21:=zeroValue21
 t46:=underlying120
 a46:=isAgg120
 z46:=sizeOf120
 v46:=zeroValue120
 t105:=underlying431
 a105:=isAgg431
 z105:=sizeOf431
 v105:=zeroValue431
 t116:=underlying404
 a116:=isAgg404
 z116:=sizeOf404
 t117:=underlying405
 a117:=isAgg405
 z117:=sizeOf405
 v117:=zeroValue405
 t119:=underlying456
 a119:=isAgg456
 z119:=sizeOf456
 t124:=underlying408
 a124:=isAgg408
 z124:=sizeOf408
 v124:=zeroValue408
 t138:=underlying458
 a138:=isAgg458
 z138:=sizeOf458
 v138:=zeroValue458
 t139:=underlying459
 a139:=isAgg459
 z139:=sizeOf459
 v139:=zeroValue459
 g3:=by kernel_rfl
 g4:=by kernel_rfl}
open Go.RowKit in
theorem strings_TrimRight_one (s:ByteArray)(c:UInt8)(hc:c.toNat < 128)(w:World)(hs:s.size<=9223372036854775807):
 Calls prog 221 #[.string s,.string ⟨#[c]⟩] w fun e w'=>e=.returned (.string ⟨(Lib.trimRightB s.data.toList c).toArray⟩)/\w'=w:=Any.strings_TrimRight_one lays162 s c hc w hs
end
end Go.Proofs
