/- DERIVED -/
import Derived.Test.YtjnhnlabpccgjaaGreatDoorM01
import Derived.Test.YtjnhnlabpccgjaaGreatDoorProg
import Derived.Shelf.SlMaps.Clone
import Derived.Ground.SlmcProg
set_option maxRecDepth 100000
set_option maxHeartbeats 64000000
set_option linter.all false
namespace Go.Proofs
open Go.Shelf
def Tryz.L8:Go.Shelf.Ren:=⟨fun|5=>163|7=>200|n=>n,fun|23=>136|25=>9|3=>3|4=>4|20=>20|n=>n,fun|n=>n⟩
theorem Tryz.TV:Go.Proofs.SlLaysW.n5 Tryz.prog Tryz.L8:={
 mixed:=by kernel_rfl
 f5:=⟨Tryz.f163.name,by decide,Tryz.func163.trans (congrArg some (by kernel_rfl))⟩
 f7:=Tryz.func200.trans (congrArg some (by kernel_rfl))
 t4:=Tryz.underlying4
 a4:=Tryz.isAgg4
 z4:=Tryz.sizeOf4
 v4:=Tryz.zeroValue4
 t20:=Tryz.underlying20
 a20:=Tryz.isAgg20
 z20:=Tryz.sizeOf20
 v20:=Tryz.zeroValue20
 t23:=Tryz.underlying136
 a23:=Tryz.isAgg136
 z23:=Tryz.sizeOf136
 v23:=Tryz.zeroValue136}
end Go.Proofs
