/- DERIVED -/
import Derived.Test.YtmflaonodghbcaaGreatDoorM01
import Derived.Test.YtmflaonodghbcaaGreatDoorProg
import Derived.Shelf.SlMaps.Clone
import Derived.Ground.SlmcProg
set_option maxRecDepth 100000
set_option maxHeartbeats 64000000
set_option linter.all false
namespace Go.Proofs
open Go.Shelf
def Tryz.Oc:Go.Shelf.Ren:=⟨fun|5=>112|7=>184|n=>n,fun|23=>190|25=>9|3=>3|4=>4|20=>20|n=>n,fun|n=>n⟩
theorem Tryz.Wo:Go.Proofs.SlLaysW.n5 Tryz.prog Tryz.Oc:={
 mixed:=by kernel_rfl
 f5:=⟨Tryz.f112.name,by decide,Tryz.func112.trans (congrArg some (by kernel_rfl))⟩
 f7:=Tryz.func184.trans (congrArg some (by kernel_rfl))
 t4:=Tryz.underlying4
 a4:=Tryz.isAgg4
 z4:=Tryz.sizeOf4
 v4:=Tryz.zeroValue4
 t20:=Tryz.underlying20
 a20:=Tryz.isAgg20
 z20:=Tryz.sizeOf20
 v20:=Tryz.zeroValue20
 t23:=Tryz.underlying190
 a23:=Tryz.isAgg190
 z23:=Tryz.sizeOf190
 v23:=Tryz.zeroValue190}
end Go.Proofs
