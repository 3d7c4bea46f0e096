/- DERIVED -/
import Derived.Test.YtmflaonodghbcaaGreatDoorM01
import Derived.Test.YtmflaonodghbcaaGreatDoorProg
import Derived.Shelf.Small.Utf8
import Derived.Shelf.Small.Bits
import Derived.Shelf.Small.Wraps
import Derived.Shelf.Strconv.Itoa0
import Derived.Shelf.Strings.Search1
import Derived.Shelf.Strings.Search2
import Derived.Shelf.Strings.Search3
import Derived.Shelf.Strings.Count
import Derived.Shelf.LaysM
import Derived.Shelf.Strings.Shaped
import Derived.Shelf.Strings.Prefix
import Derived.Shelf.Strings.Split
import Derived.Shelf.Strings.SplitShaped
import Derived.Shelf.Unicode.DecodeSlow
import Derived.Shelf.Slices.Equal
import Derived.Ground.Names2Prog
import Derived.Shelf.Slices.Clone
import Derived.Shelf.Slices.Empties2
import Derived.Ground.SlgmProg
import Derived.Shelf.SortM.Plain
import Derived.Shelf.SortM.SortNone
set_option maxRecDepth 100000
set_option maxHeartbeats 64000000
set_option linter.all false
namespace Go.Proofs
open Go.Shelf
def Tryz.Ky:Go.Shelf.Ren:=⟨fun|103=>185|210=>233|206=>264|n=>n,fun|9=>9|4=>4|24=>275|3=>3|n=>n,fun|n=>n⟩
theorem Tryz.Y2:Go.Proofs.Lays.n103 Tryz.prog Tryz.Ky:={
 mixed:=by kernel_rfl
 f103:=Tryz.func185.trans (congrArg some (by kernel_rfl))
 f206:=Tryz.func264.trans (congrArg some (by kernel_rfl))
 f210:=Tryz.func233.trans (congrArg some (by kernel_rfl))
 t3:=Tryz.underlying3
 a3:=Tryz.isAgg3
 z3:=Tryz.sizeOf3
 v3:=Tryz.zeroValue3
 t4:=Tryz.underlying4
 a4:=Tryz.isAgg4
 z4:=Tryz.sizeOf4
 v4:=Tryz.zeroValue4
 t9:=Tryz.underlying9
 a9:=Tryz.isAgg9
 z9:=Tryz.sizeOf9
 v9:=Tryz.zeroValue9
 t24:=Tryz.underlying275
 a24:=Tryz.isAgg275
 z24:=Tryz.sizeOf275
 v24:=Tryz.zeroValue275}
open Go.RowKit in
theorem Tryz.strings_CutPrefix(s p:ByteArray)(w:World):
  Calls Tryz.prog 185 #[.string s,.string p] w fun e w'=>e= .returned (.tuple #[.string ⟨(Lib.trimPrefix s.data.toList p.data.toList).toArray⟩,.bool (Lib.hasPrefix s.data.toList p.data.toList)])∧w'=w:=Any.strings_CutPrefix Tryz.Y2 s p w
def Tryz.Kz:Go.Shelf.Ren:=⟨fun|146=>186|221=>234|268=>265|138=>266|143=>267|195=>289|197=>290|218=>291|219=>292|260=>300|217=>301|225=>302|224=>303|267=>304|266=>307|314=>308|n=>n,fun|9=>9|31=>33|3=>3|4=>4|0=>0|105=>309|21=>21|5=>5|46=>167|119=>363|139=>366|138=>365|146=>386|51=>165|n=>n,fun|1=>2|3=>0|4=>1|n=>n⟩
theorem Tryz.Y3:Go.Proofs.Lays.n146 Tryz.prog Tryz.Kz:={
 mixed:=by kernel_rfl
 f138:=Tryz.func266.trans (congrArg some (by kernel_rfl))
 f143:=Tryz.func267.trans (congrArg some (by kernel_rfl))
 f146:=Tryz.func186.trans (congrArg some (by kernel_rfl))
 f195:=Tryz.func289.trans (congrArg some (by kernel_rfl))
 f197:=Tryz.func290.trans (congrArg some (by kernel_rfl))
 f217:=Tryz.func301.trans (congrArg some (by kernel_rfl))
 f218:=Tryz.func291.trans (congrArg some (by kernel_rfl))
 f219:=Tryz.func292.trans (congrArg some (by kernel_rfl))
 f221:=Tryz.func234.trans (congrArg some (by kernel_rfl))
 f224:=Tryz.func303.trans (congrArg some (by kernel_rfl))
 f225:=Tryz.func302.trans (congrArg some (by kernel_rfl))
 f260:=Tryz.func300.trans (congrArg some (by kernel_rfl))
 f266:=Tryz.func307.trans (congrArg some (by kernel_rfl))
 f267:=Tryz.func304.trans (congrArg some (by kernel_rfl))
 f268:=Tryz.func265.trans (congrArg some (by kernel_rfl))
 f314:=Tryz.func308.trans (congrArg some (by kernel_rfl))
 t0:=Tryz.underlying0
 a0:=Tryz.isAgg0
 z0:=Tryz.sizeOf0
 v0:=Tryz.zeroValue0
 t3:=Tryz.underlying3
 a3:=Tryz.isAgg3
 z3:=Tryz.sizeOf3
 v3:=Tryz.zeroValue3
 t4:=Tryz.underlying4
 a4:=Tryz.isAgg4
 z4:=Tryz.sizeOf4
 v4:=Tryz.zeroValue4
 t5:=Tryz.underlying5
 a5:=Tryz.isAgg5
 z5:=Tryz.sizeOf5
 v5:=Tryz.zeroValue5
 t9:=Tryz.underlying9
 a9:=Tryz.isAgg9
 z9:=Tryz.sizeOf9
 v9:=Tryz.zeroValue9
 t21:=Tryz.underlying21
 a21:=Tryz.isAgg21
 z21:=Tryz.sizeOf21
 v21:=Tryz.zeroValue21
 t31:=Tryz.underlying33
 a31:=Tryz.isAgg33
 z31:=Tryz.sizeOf33
 v31:=Tryz.zeroValue33
 t46:=Tryz.underlying167
 a46:=Tryz.isAgg167
 z46:=Tryz.sizeOf167
 v46:=Tryz.zeroValue167
 t51:=Tryz.underlying165
 a51:=Tryz.isAgg165
 z51:=Tryz.sizeOf165
 v51:=Tryz.zeroValue165
 t105:=Tryz.underlying309
 a105:=Tryz.isAgg309
 z105:=Tryz.sizeOf309
 v105:=Tryz.zeroValue309
 t119:=Tryz.underlying363
 a119:=Tryz.isAgg363
 z119:=Tryz.sizeOf363
 t138:=Tryz.underlying365
 a138:=Tryz.isAgg365
 z138:=Tryz.sizeOf365
 v138:=Tryz.zeroValue365
 t139:=Tryz.underlying366
 a139:=Tryz.isAgg366
 z139:=Tryz.sizeOf366
 v139:=Tryz.zeroValue366
 t146:=Tryz.underlying386
 a146:=Tryz.isAgg386
 z146:=Tryz.sizeOf386
 v146:=Tryz.zeroValue386
 g1:=by kernel_rfl
 g3:=by kernel_rfl
 g4:=by kernel_rfl}
open Go.RowKit Go.Lib in
theorem Tryz.strings_Split(s sep:ByteArray)(m:Int)(w:World)(hs:s.size<4294967281)(hm:w.cell? ⟨2,0,none⟩=some (.int .i64 m))(h1:1≤sep.size):
  Calls Tryz.prog 186 #[.string s,.string sep] w fun e w'=>
   e= .returned (.slice (some ⟨w.heap.size,0,none⟩) (Lib.countB s sep+1) (Lib.countB s sep+1))∧w'=w.alloc (.cells ((Lib.splitB sep 0 (Lib.countB s sep) s).map Value.string).toArray 9):=Any.strings_Split Tryz.Y3 (by kernel_rfl) s sep m w hs hm h1
def Tryz.F8:Go.Shelf.Ren:=⟨fun|16=>238|n=>n,fun|24=>33|9=>9|4=>4|n=>n,fun|n=>n⟩
theorem Tryz.GJ:Go.Proofs.Lays2.n16 Tryz.prog Tryz.F8:={
 mixed:=by kernel_rfl
 f16:=Tryz.func238.trans (congrArg some (by kernel_rfl))
 t4:=Tryz.underlying4
 a4:=Tryz.isAgg4
 z4:=Tryz.sizeOf4
 v4:=Tryz.zeroValue4
 t9:=Tryz.underlying9
 a9:=Tryz.isAgg9
 z9:=Tryz.sizeOf9
 v9:=Tryz.zeroValue9
 t24:=Tryz.underlying33
 a24:=Tryz.isAgg33
 z24:=Tryz.sizeOf33
 v24:=Tryz.zeroValue33
 i9:=by kernel_rfl}
open Go.RowKit Go.Lib in
theorem Tryz.slices_Clone_string(b off n c:Nat)(zs:List ByteArray)(w:World)(hz:n≤zs.length)(hbig:n*16≤140737488355328)(hc:∀j,j<zs.length→w.cell? ⟨b,off+j,none⟩=some (.string (zs.getD j ByteArray.empty))):
  Calls Tryz.prog 238 #[.slice (some ⟨b,off,none⟩) n c] w fun e w'=>∃v',e= .returned v'∧w'.ownsRow w.heap.size 9 1 v' n ((zs.take n).map (Value.string))∧v'≠ .slice none 0 0∧Below w.heap.size w w':=Any.slices_Clone_string Tryz.GJ b off n c zs w hz hbig hc
open Go.RowKit Go.Lib in
theorem Tryz.slices_Clone_string_zero(a:Addr)(c:Nat)(w:World):
  Calls Tryz.prog 238 #[.slice (some a) 0 c] w fun e w'=>∃v',e= .returned v'∧w'.ownsRow w.heap.size 9 1 v' 0 []∧v'≠ .slice none 0 0∧Below w.heap.size w w':=Any.slices_Clone_string_zero Tryz.GJ a c w
def Tryz.yV:Go.Shelf.Ren:=⟨fun|5=>154|8=>208|7=>207|19=>251|20=>252|10=>242|11=>243|12=>244|13=>245|14=>246|15=>247|16=>248|17=>249|18=>250|30=>269|31=>270|32=>271|33=>272|34=>273|35=>274|40=>293|n=>n,fun|23=>71|25=>3|3=>3|32=>167|22=>71|0=>0|44=>165|46=>29|4=>4|36=>330|35=>329|41=>207|5=>5|9=>9|53=>356|57=>359|63=>378|64=>321|n=>n,fun|n=>n⟩
theorem Tryz.xg:Go.Proofs.SlLaysM.n5 Tryz.prog Tryz.yV:={
 mixed:=by kernel_rfl
 f5:=⟨Tryz.f154.name,by decide,Tryz.func154.trans (congrArg some (by kernel_rfl))⟩
 f7:=⟨Tryz.f207.name,by decide,Tryz.func207.trans (congrArg some (by kernel_rfl))⟩
 f8:=Tryz.func208.trans (congrArg some (by kernel_rfl))
 f10:=⟨Tryz.f242.name,by decide,Tryz.func242.trans (congrArg some (by kernel_rfl))⟩
 f11:=⟨Tryz.f243.name,by decide,Tryz.func243.trans (congrArg some (by kernel_rfl))⟩
 f12:=⟨Tryz.f244.name,by decide,Tryz.func244.trans (congrArg some (by kernel_rfl))⟩
 f13:=⟨Tryz.f245.name,by decide,Tryz.func245.trans (congrArg some (by kernel_rfl))⟩
 f14:=⟨Tryz.f246.name,by decide,Tryz.func246.trans (congrArg some (by kernel_rfl))⟩
 f15:=⟨Tryz.f247.name,by decide,Tryz.func247.trans (congrArg some (by kernel_rfl))⟩
 f16:=⟨Tryz.f248.name,by decide,Tryz.func248.trans (congrArg some (by kernel_rfl))⟩
 f17:=⟨Tryz.f249.name,by decide,Tryz.func249.trans (congrArg some (by kernel_rfl))⟩
 f18:=⟨Tryz.f250.name,by decide,Tryz.func250.trans (congrArg some (by kernel_rfl))⟩
 f19:=Tryz.func251.trans (congrArg some (by kernel_rfl))
 f20:=Tryz.func252.trans (congrArg some (by kernel_rfl))
 f30:=⟨Tryz.f269.name,by decide,Tryz.func269.trans (congrArg some (by kernel_rfl))⟩
 f31:=Tryz.func270.trans (congrArg some (by kernel_rfl))
 f32:=Tryz.func271.trans (congrArg some (by kernel_rfl))
 f33:=⟨Tryz.f272.name,by decide,Tryz.func272.trans (congrArg some (by kernel_rfl))⟩
 f34:=⟨Tryz.f273.name,by decide,Tryz.func273.trans (congrArg some (by kernel_rfl))⟩
 f35:=⟨Tryz.f274.name,by decide,Tryz.func274.trans (congrArg some (by kernel_rfl))⟩
 f40:=⟨Tryz.f293.name,by decide,Tryz.func293.trans (congrArg some (by kernel_rfl))⟩
 t0:=Tryz.underlying0
 a0:=Tryz.isAgg0
 z0:=Tryz.sizeOf0
 v0:=Tryz.zeroValue0
 t3:=Tryz.underlying3
 a3:=Tryz.isAgg3
 z3:=Tryz.sizeOf3
 v3:=Tryz.zeroValue3
 t4:=Tryz.underlying4
 a4:=Tryz.isAgg4
 z4:=Tryz.sizeOf4
 v4:=Tryz.zeroValue4
 t5:=Tryz.underlying5
 a5:=Tryz.isAgg5
 z5:=Tryz.sizeOf5
 v5:=Tryz.zeroValue5
 t9:=Tryz.underlying9
 a9:=Tryz.isAgg9
 z9:=Tryz.sizeOf9
 v9:=Tryz.zeroValue9
 t22:=Tryz.underlying71
 a22:=Tryz.isAgg71
 z22:=Tryz.sizeOf71
 v22:=Tryz.zeroValue71
 t23:=Tryz.underlying71
 a23:=Tryz.isAgg71
 z23:=Tryz.sizeOf71
 v23:=Tryz.zeroValue71
 t25:=Tryz.underlying3
 a25:=Tryz.isAgg3
 z25:=Tryz.sizeOf3
 v25:=Tryz.zeroValue3
 t32:=Tryz.underlying167
 a32:=Tryz.isAgg167
 z32:=Tryz.sizeOf167
 v32:=Tryz.zeroValue167
 t35:=Tryz.underlying329
 a35:=Tryz.isAgg329
 z35:=Tryz.sizeOf329
 v35:=Tryz.zeroValue329
 t36:=Tryz.underlying330
 a36:=Tryz.isAgg330
 z36:=Tryz.sizeOf330
 v36:=Tryz.zeroValue330
 t41:=Tryz.underlying207
 a41:=Tryz.isAgg207
 z41:=Tryz.sizeOf207
 v41:=Tryz.zeroValue207
 t44:=Tryz.underlying165
 a44:=Tryz.isAgg165
 z44:=Tryz.sizeOf165
 v44:=Tryz.zeroValue165
 t46:=Tryz.underlying29
 a46:=Tryz.isAgg29
 z46:=Tryz.sizeOf29
 v46:=Tryz.zeroValue29
 t53:=Tryz.underlying356
 a53:=Tryz.isAgg356
 z53:=Tryz.sizeOf356
 v53:=Tryz.zeroValue356
 t57:=Tryz.underlying359
 a57:=Tryz.isAgg359
 z57:=Tryz.sizeOf359
 v57:=Tryz.zeroValue359
 t63:=Tryz.underlying378
 a63:=Tryz.isAgg378
 z63:=Tryz.sizeOf378
 v63:=Tryz.zeroValue378
 t64:=Tryz.underlying321
 a64:=Tryz.isAgg321
 z64:=Tryz.sizeOf321
 v64:=Tryz.zeroValue321}
open Go.Sort Go.RowKit in
theorem Tryz.slices_Sort_int(blk off cap:Nat)(zs:List Int)(w:World)(hH:Holds (Value.int .i64) w blk off zs.toArray)(hblk:blk<w.heap.size)(hsz:zs.length<4611686018427387904):
  Calls Tryz.prog 154 #[.slice (some ⟨blk,off,none⟩) zs.length cap] w fun e w'=>
   e= .returned (.tuple #[])∧∃n os,w'=grow (putRow (Value.int .i64) (Sort.ahead w n) blk off (zs.mergeSort fun x y=>decide (x≤y)).toArray) os:=AnyM.slices_Sort_int Tryz.xg blk off cap zs w hH hblk hsz
def Tryz.yX:Go.Shelf.Ren:=⟨fun|6=>228|8=>208|9=>262|19=>251|20=>252|21=>280|22=>281|23=>282|24=>283|25=>284|26=>285|27=>286|28=>287|29=>288|36=>296|31=>270|32=>271|37=>297|38=>298|39=>299|41=>306|n=>n,fun|27=>33|29=>9|3=>3|32=>167|26=>33|0=>0|44=>165|46=>29|4=>4|36=>330|35=>329|41=>207|5=>5|9=>9|53=>356|57=>359|63=>378|64=>321|n=>n,fun|n=>n⟩
theorem Tryz.xq:Go.Proofs.SlLaysM.n6 Tryz.prog Tryz.yX:={
 mixed:=by kernel_rfl
 f6:=⟨Tryz.f228.name,by decide,Tryz.func228.trans (congrArg some (by kernel_rfl))⟩
 f8:=Tryz.func208.trans (congrArg some (by kernel_rfl))
 f9:=⟨Tryz.f262.name,by decide,Tryz.func262.trans (congrArg some (by kernel_rfl))⟩
 f19:=Tryz.func251.trans (congrArg some (by kernel_rfl))
 f20:=Tryz.func252.trans (congrArg some (by kernel_rfl))
 f21:=⟨Tryz.f280.name,by decide,Tryz.func280.trans (congrArg some (by kernel_rfl))⟩
 f22:=⟨Tryz.f281.name,by decide,Tryz.func281.trans (congrArg some (by kernel_rfl))⟩
 f23:=⟨Tryz.f282.name,by decide,Tryz.func282.trans (congrArg some (by kernel_rfl))⟩
 f24:=⟨Tryz.f283.name,by decide,Tryz.func283.trans (congrArg some (by kernel_rfl))⟩
 f25:=⟨Tryz.f284.name,by decide,Tryz.func284.trans (congrArg some (by kernel_rfl))⟩
 f26:=⟨Tryz.f285.name,by decide,Tryz.func285.trans (congrArg some (by kernel_rfl))⟩
 f27:=⟨Tryz.f286.name,by decide,Tryz.func286.trans (congrArg some (by kernel_rfl))⟩
 f28:=⟨Tryz.f287.name,by decide,Tryz.func287.trans (congrArg some (by kernel_rfl))⟩
 f29:=⟨Tryz.f288.name,by decide,Tryz.func288.trans (congrArg some (by kernel_rfl))⟩
 f31:=Tryz.func270.trans (congrArg some (by kernel_rfl))
 f32:=Tryz.func271.trans (congrArg some (by kernel_rfl))
 f36:=⟨Tryz.f296.name,by decide,Tryz.func296.trans (congrArg some (by kernel_rfl))⟩
 f37:=⟨Tryz.f297.name,by decide,Tryz.func297.trans (congrArg some (by kernel_rfl))⟩
 f38:=⟨Tryz.f298.name,by decide,Tryz.func298.trans (congrArg some (by kernel_rfl))⟩
 f39:=⟨Tryz.f299.name,by decide,Tryz.func299.trans (congrArg some (by kernel_rfl))⟩
 f41:=⟨Tryz.f306.name,by decide,Tryz.func306.trans (congrArg some (by kernel_rfl))⟩
 t0:=Tryz.underlying0
 a0:=Tryz.isAgg0
 z0:=Tryz.sizeOf0
 v0:=Tryz.zeroValue0
 t3:=Tryz.underlying3
 a3:=Tryz.isAgg3
 z3:=Tryz.sizeOf3
 v3:=Tryz.zeroValue3
 t4:=Tryz.underlying4
 a4:=Tryz.isAgg4
 z4:=Tryz.sizeOf4
 v4:=Tryz.zeroValue4
 t5:=Tryz.underlying5
 a5:=Tryz.isAgg5
 z5:=Tryz.sizeOf5
 v5:=Tryz.zeroValue5
 t9:=Tryz.underlying9
 a9:=Tryz.isAgg9
 z9:=Tryz.sizeOf9
 v9:=Tryz.zeroValue9
 t26:=Tryz.underlying33
 a26:=Tryz.isAgg33
 z26:=Tryz.sizeOf33
 v26:=Tryz.zeroValue33
 t27:=Tryz.underlying33
 a27:=Tryz.isAgg33
 z27:=Tryz.sizeOf33
 v27:=Tryz.zeroValue33
 t29:=Tryz.underlying9
 a29:=Tryz.isAgg9
 z29:=Tryz.sizeOf9
 v29:=Tryz.zeroValue9
 t32:=Tryz.underlying167
 a32:=Tryz.isAgg167
 z32:=Tryz.sizeOf167
 v32:=Tryz.zeroValue167
 t35:=Tryz.underlying329
 a35:=Tryz.isAgg329
 z35:=Tryz.sizeOf329
 v35:=Tryz.zeroValue329
 t36:=Tryz.underlying330
 a36:=Tryz.isAgg330
 z36:=Tryz.sizeOf330
 v36:=Tryz.zeroValue330
 t41:=Tryz.underlying207
 a41:=Tryz.isAgg207
 z41:=Tryz.sizeOf207
 v41:=Tryz.zeroValue207
 t44:=Tryz.underlying165
 a44:=Tryz.isAgg165
 z44:=Tryz.sizeOf165
 v44:=Tryz.zeroValue165
 t46:=Tryz.underlying29
 a46:=Tryz.isAgg29
 z46:=Tryz.sizeOf29
 v46:=Tryz.zeroValue29
 t53:=Tryz.underlying356
 a53:=Tryz.isAgg356
 z53:=Tryz.sizeOf356
 v53:=Tryz.zeroValue356
 t57:=Tryz.underlying359
 a57:=Tryz.isAgg359
 z57:=Tryz.sizeOf359
 v57:=Tryz.zeroValue359
 t63:=Tryz.underlying378
 a63:=Tryz.isAgg378
 z63:=Tryz.sizeOf378
 v63:=Tryz.zeroValue378
 t64:=Tryz.underlying321
 a64:=Tryz.isAgg321
 z64:=Tryz.sizeOf321
 v64:=Tryz.zeroValue321}
open Go.Sort Go.RowKit in
theorem Tryz.slices_Sort_string(blk off cap:Nat)(ss:List (List UInt8))(w:World)(hH:Holds encStr w blk off ss.toArray)(hblk:blk<w.heap.size)(hsz:ss.length<4611686018427387904):
  Calls Tryz.prog 228 #[.slice (some ⟨blk,off,none⟩) ss.length cap] w fun e w'=>
   e= .returned (.tuple #[])∧∃n os,w'=grow (putRow encStr (Sort.ahead w n) blk off (ss.mergeSort fun x y=>decide (x≤y)).toArray) os:=AnyM.slices_Sort_string Tryz.xq blk off cap ss w hH hblk hsz
open Go.RowKit Go.Sort in
theorem Tryz.slices_Sort_string_none(p:Option Addr)(cap:Nat)(w:World):
  Calls Tryz.prog 228 #[.slice p 0 cap] w fun e w'=>e= .returned (.tuple #[])∧w'=w:=AnyM.slices_Sort_string_none Tryz.xq p cap w
open Go.RowKit Go.Sort in
theorem Tryz.slices_Sort_int_none(p:Option Addr)(cap:Nat)(w:World):
  Calls Tryz.prog 154 #[.slice p 0 cap] w fun e w'=>e= .returned (.tuple #[])∧w'=w:=AnyM.slices_Sort_int_none Tryz.xg p cap w
end Go.Proofs
