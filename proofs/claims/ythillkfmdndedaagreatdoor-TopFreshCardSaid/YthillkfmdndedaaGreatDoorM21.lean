/- DERIVED -/
import Derived.Test.YthillkfmdndedaaGreatDoorM01
import Derived.Test.YthillkfmdndedaaGreatDoorProg
import Derived.Shelf.SlMaps.Clone
import Derived.Ground.SlmcProg
set_option maxRecDepth 100000
set_option maxHeartbeats 64000000
set_option linter.all false
namespace Go.Proofs
open Go.Shelf
def Tryz.OD:Go.Shelf.Ren:=⟨λ|5=>118|7=>186|n=>n,λ|23=>194|25=>9|3=>3|4=>4|20=>20|n=>n,λ|n=>n⟩
theorem Tryz.WR:Go.Proofs.SlLaysW.n5 Tryz.prog Tryz.OD:={
 mixed:=by kernel_rfl
 f5:=⟨Tryz.f118.name,by decide,FR Tryz.func118 (by kernel_rfl)⟩
 f7:=FR Tryz.func186 (by kernel_rfl)
 t4:=Tryz.underlying4
 a4:=Tryz.isAgg4
 z4:=Tryz.sizeOf4
 v4:=Tryz.zeroValue4
 t20:=Tryz.underlying20
 a20:=Tryz.isAgg20
 z20:=Tryz.sizeOf20
 v20:=Tryz.zeroValue20
 t23:=Tryz.underlying194
 a23:=Tryz.isAgg194
 z23:=Tryz.sizeOf194
 v23:=Tryz.zeroValue194}
end Go.Proofs
