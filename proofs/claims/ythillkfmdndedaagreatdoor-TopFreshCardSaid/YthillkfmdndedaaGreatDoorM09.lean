/- DERIVED -/
import Derived.Test.YthillkfmdndedaaGreatDoorM01
import Derived.Test.YthillkfmdndedaaGreatDoorProg
import Derived.Shelf.Small.Utf8
import Derived.Shelf.Small.Bits
import Derived.Shelf.Small.Wraps
import Derived.Shelf.Strconv.Itoa0
import Derived.Shelf.Strings.Search1
import Derived.Shelf.Strings.Search2
import Derived.Shelf.Strings.Search3
import Derived.Shelf.Strings.Count
import Derived.Shelf.LaysM
import Derived.Shelf.Strings.Shaped
import Derived.Shelf.Strings.Prefix
import Derived.Shelf.Strings.Split
import Derived.Shelf.Strings.SplitShaped
import Derived.Shelf.Unicode.DecodeSlow
import Derived.Shelf.Slices.Equal
import Derived.Ground.Names2Prog
import Derived.Shelf.Slices.Clone
import Derived.Shelf.Slices.Empties2
import Derived.Ground.SlgmProg
import Derived.Shelf.SortM.Plain
import Derived.Shelf.SortM.SortNone
set_option maxRecDepth 100000
set_option maxHeartbeats 64000000
set_option linter.all false
namespace Go.Proofs
open Go.Shelf
def Tryz.KS:Go.Shelf.Ren:=⟨λ|103=>187|210=>233|206=>256|n=>n,λ|9=>9|4=>4|24=>275|3=>3|n=>n,λ|n=>n⟩
theorem Tryz.lays103:Go.Proofs.Lays.n103 Tryz.prog Tryz.KS:={
 mixed:=by kernel_rfl
 f103:=FR Tryz.func187 (by kernel_rfl)
 f206:=FR Tryz.func256 (by kernel_rfl)
 f210:=FR Tryz.func233 (by kernel_rfl)
 t3:=Tryz.underlying3
 a3:=Tryz.isAgg3
 z3:=Tryz.sizeOf3
 v3:=Tryz.zeroValue3
 t4:=Tryz.underlying4
 a4:=Tryz.isAgg4
 z4:=Tryz.sizeOf4
 v4:=Tryz.zeroValue4
 t9:=Tryz.underlying9
 a9:=Tryz.isAgg9
 z9:=Tryz.sizeOf9
 v9:=Tryz.zeroValue9
 t24:=Tryz.underlying275
 a24:=Tryz.isAgg275
 z24:=Tryz.sizeOf275
 v24:=Tryz.zeroValue275}
open Go.RowKit in
theorem Tryz.strings_CutPrefix(s p:ByteArray)(w:World):
  Dy 187 #[.string s,.string p] w λ e w'=>e= .returned (.tuple #[.string ⟨(Lib.trimPrefix s.data.toList p.data.toList).toArray⟩,.bool (Lib.hasPrefix s.data.toList p.data.toList)])/\w'=w:=Any.strings_CutPrefix Tryz.lays103 s p w
def Tryz.KT:Go.Shelf.Ren:=⟨λ|146=>188|221=>234|268=>257|138=>258|143=>259|195=>279|197=>280|218=>281|219=>282|260=>300|217=>301|225=>302|224=>303|267=>304|266=>311|314=>312|n=>n,λ|9=>9|31=>34|3=>3|4=>4|0=>0|105=>318|21=>21|5=>5|46=>156|119=>364|139=>367|138=>366|146=>389|51=>154|n=>n,λ|1=>2|3=>0|4=>1|n=>n⟩
theorem Tryz.lays146:Go.Proofs.Lays.n146 Tryz.prog Tryz.KT:={
 mixed:=by kernel_rfl
 f138:=FR Tryz.func258 (by kernel_rfl)
 f143:=FR Tryz.func259 (by kernel_rfl)
 f146:=FR Tryz.func188 (by kernel_rfl)
 f195:=FR Tryz.func279 (by kernel_rfl)
 f197:=FR Tryz.func280 (by kernel_rfl)
 f217:=FR Tryz.func301 (by kernel_rfl)
 f218:=FR Tryz.func281 (by kernel_rfl)
 f219:=FR Tryz.func282 (by kernel_rfl)
 f221:=FR Tryz.func234 (by kernel_rfl)
 f224:=FR Tryz.func303 (by kernel_rfl)
 f225:=FR Tryz.func302 (by kernel_rfl)
 f260:=FR Tryz.func300 (by kernel_rfl)
 f266:=FR Tryz.func311 (by kernel_rfl)
 f267:=FR Tryz.func304 (by kernel_rfl)
 f268:=FR Tryz.func257 (by kernel_rfl)
 f314:=FR Tryz.func312 (by kernel_rfl)
 t0:=Tryz.underlying0
 a0:=Tryz.isAgg0
 z0:=Tryz.sizeOf0
 v0:=Tryz.zeroValue0
 t3:=Tryz.underlying3
 a3:=Tryz.isAgg3
 z3:=Tryz.sizeOf3
 v3:=Tryz.zeroValue3
 t4:=Tryz.underlying4
 a4:=Tryz.isAgg4
 z4:=Tryz.sizeOf4
 v4:=Tryz.zeroValue4
 t5:=Tryz.underlying5
 a5:=Tryz.isAgg5
 z5:=Tryz.sizeOf5
 v5:=Tryz.zeroValue5
 t9:=Tryz.underlying9
 a9:=Tryz.isAgg9
 z9:=Tryz.sizeOf9
 v9:=Tryz.zeroValue9
 t21:=Tryz.underlying21
 a21:=Tryz.isAgg21
 z21:=Tryz.sizeOf21
 v21:=Tryz.zeroValue21
 t31:=Tryz.underlying34
 a31:=Tryz.isAgg34
 z31:=Tryz.sizeOf34
 v31:=Tryz.zeroValue34
 t46:=Tryz.underlying156
 a46:=Tryz.isAgg156
 z46:=Tryz.sizeOf156
 v46:=Tryz.zeroValue156
 t51:=Tryz.underlying154
 a51:=Tryz.isAgg154
 z51:=Tryz.sizeOf154
 v51:=Tryz.zeroValue154
 t105:=Tryz.underlying318
 a105:=Tryz.isAgg318
 z105:=Tryz.sizeOf318
 v105:=Tryz.zeroValue318
 t119:=Tryz.underlying364
 a119:=Tryz.isAgg364
 z119:=Tryz.sizeOf364
 t138:=Tryz.underlying366
 a138:=Tryz.isAgg366
 z138:=Tryz.sizeOf366
 v138:=Tryz.zeroValue366
 t139:=Tryz.underlying367
 a139:=Tryz.isAgg367
 z139:=Tryz.sizeOf367
 v139:=Tryz.zeroValue367
 t146:=Tryz.underlying389
 a146:=Tryz.isAgg389
 z146:=Tryz.sizeOf389
 v146:=Tryz.zeroValue389
 g1:=by kernel_rfl
 g3:=by kernel_rfl
 g4:=by kernel_rfl}
open Go.RowKit Go.Lib in
theorem Tryz.strings_Split(s u:ByteArray)(m:Int)(w:World)(z:s.size<4294967281)(y:w.cell? ⟨2,0,none⟩=some (.int .i64 m))(A:1<=u.size):
  Dy 188 #[.string s,.string u] w λ e w'=>
   e= .returned (.slice (some ⟨w.heap.size,0,none⟩) (Lib.countB s u+1) (Lib.countB s u+1))/\w'=w.alloc (.cells ((Lib.splitB u 0 (Lib.countB s u) s).map Value.string).toArray 9):=Any.strings_Split Tryz.lays146 (by kernel_rfl) s u m w z y A
def Tryz.KU:Go.Shelf.Ren:=⟨λ|193=>196|n=>n,λ|31=>34|9=>9|4=>4|3=>3|0=>0|n=>n,λ|n=>n⟩
theorem Tryz.Jj:Go.Proofs.Lays.n193 Tryz.prog Tryz.KU:={
 mixed:=by kernel_rfl
 f193:=FR Tryz.func196 (by kernel_rfl)
 t0:=Tryz.underlying0
 a0:=Tryz.isAgg0
 z0:=Tryz.sizeOf0
 v0:=Tryz.zeroValue0
 t3:=Tryz.underlying3
 a3:=Tryz.isAgg3
 z3:=Tryz.sizeOf3
 v3:=Tryz.zeroValue3
 t4:=Tryz.underlying4
 a4:=Tryz.isAgg4
 z4:=Tryz.sizeOf4
 v4:=Tryz.zeroValue4
 t9:=Tryz.underlying9
 a9:=Tryz.isAgg9
 z9:=Tryz.sizeOf9
 v9:=Tryz.zeroValue9
 t31:=Tryz.underlying34
 a31:=Tryz.isAgg34
 z31:=Tryz.sizeOf34
 v31:=Tryz.zeroValue34}
open Go.RowKit Go.Lib in
theorem Tryz.slices_Equal_string(D C n c A F m d:Nat)(xs z:List ByteArray)(w:World)(G:n<=xs.length)(H:m<=z.length)(y:n<=9223372036854775807)(u:m<=9223372036854775807)(E:∀j,j<xs.length->w.cell? ⟨D,C+j,none⟩=some (.string (xs.getD j ByteArray.empty)))(B:∀j,j<z.length->w.cell? ⟨A,F+j,none⟩=some (.string (z.getD j ByteArray.empty))):
  Dy 196 #[.slice (some ⟨D,C,none⟩) n c,.slice (some ⟨A,F,none⟩) m d] w λ e w'=>e= .returned (.bool (decide (xs.take n=z.take m)))/\∃q,w'=w.drewN q:=Any.slices_Equal_string Tryz.Jj D C n c A F m d xs z w G H y u E B
open Go.RowKit Go.Lib in
theorem Tryz.slices_Equal_string_empty(y z:Mx)(c m d:Nat)(w:World)(u:m<=9223372036854775807):
  Dy 196 #[.slice y 0 c,.slice z m d] w λ e w'=>e= .returned (.bool (decide (m=0)))/\w'=w:=Any.slices_Equal_string_empty Tryz.Jj y z c m d w u
def Tryz.Gq:Go.Shelf.Ren:=⟨λ|16=>238|n=>n,λ|24=>34|9=>9|4=>4|n=>n,λ|n=>n⟩
theorem Tryz.Hf:Go.Proofs.Lays2.n16 Tryz.prog Tryz.Gq:={
 mixed:=by kernel_rfl
 f16:=FR Tryz.func238 (by kernel_rfl)
 t4:=Tryz.underlying4
 a4:=Tryz.isAgg4
 z4:=Tryz.sizeOf4
 v4:=Tryz.zeroValue4
 t9:=Tryz.underlying9
 a9:=Tryz.isAgg9
 z9:=Tryz.sizeOf9
 v9:=Tryz.zeroValue9
 t24:=Tryz.underlying34
 a24:=Tryz.isAgg34
 z24:=Tryz.sizeOf34
 v24:=Tryz.zeroValue34
 i9:=by kernel_rfl}
open Go.RowKit Go.Lib in
theorem Tryz.slices_Clone_string(b m n c:Nat)(u:List ByteArray)(w:World)(A:n<=u.length)(y:n*16<=140737488355328)(B:∀j,j<u.length->w.cell? ⟨b,m+j,none⟩=some (.string (u.getD j ByteArray.empty))):
  Dy 238 #[.slice (some ⟨b,m,none⟩) n c] w λ e w'=>∃z,e= .returned z/\w'.ownsRow w.heap.size 9 1 z n ((u.take n).map (Value.string))/\z≠ .slice none 0 0/\Below w.heap.size w w':=Any.slices_Clone_string Tryz.Hf b m n c u w A y B
open Go.RowKit Go.Lib in
theorem Tryz.slices_Clone_string_zero(a:Addr)(c:Nat)(w:World):
  Dy 238 #[.slice (some a) 0 c] w λ e w'=>∃m,e= .returned m/\w'.ownsRow w.heap.size 9 1 m 0 []/\m≠ .slice none 0 0/\Below w.heap.size w w':=Any.slices_Clone_string_zero Tryz.Hf a c w
open Go.RowKit Go.Lib in
theorem Tryz.slices_Equal_string_lens(y z:Mx)(n c m d:Nat)(w:World)(u:n≠m):
  Dy 196 #[.slice y n c,.slice z m d] w λ e w'=>e= .returned (.bool false)/\w'=w:=Any.slices_Equal_string_lens Tryz.Jj y z n c m d w u
def Tryz.zI:Go.Shelf.Ren:=⟨λ|5=>246|8=>250|7=>264|19=>274|20=>275|10=>283|11=>284|12=>285|13=>286|14=>287|15=>288|16=>289|17=>290|18=>291|30=>305|31=>293|32=>294|33=>306|34=>307|35=>308|40=>313|n=>n,λ|23=>73|25=>3|3=>3|32=>156|22=>73|0=>0|44=>154|46=>29|4=>4|36=>355|35=>354|41=>211|5=>5|9=>9|53=>377|57=>380|63=>387|64=>321|n=>n,λ|n=>n⟩
theorem Tryz.xZ:Go.Proofs.SlLaysM.n5 Tryz.prog Tryz.zI:={
 mixed:=by kernel_rfl
 f5:=⟨Tryz.f246.name,by decide,FR Tryz.func246 (by kernel_rfl)⟩
 f7:=⟨Tryz.f264.name,by decide,FR Tryz.func264 (by kernel_rfl)⟩
 f8:=FR Tryz.func250 (by kernel_rfl)
 f10:=⟨Tryz.f283.name,by decide,FR Tryz.func283 (by kernel_rfl)⟩
 f11:=⟨Tryz.f284.name,by decide,FR Tryz.func284 (by kernel_rfl)⟩
 f12:=⟨Tryz.f285.name,by decide,FR Tryz.func285 (by kernel_rfl)⟩
 f13:=⟨Tryz.f286.name,by decide,FR Tryz.func286 (by kernel_rfl)⟩
 f14:=⟨Tryz.f287.name,by decide,FR Tryz.func287 (by kernel_rfl)⟩
 f15:=⟨Tryz.f288.name,by decide,FR Tryz.func288 (by kernel_rfl)⟩
 f16:=⟨Tryz.f289.name,by decide,FR Tryz.func289 (by kernel_rfl)⟩
 f17:=⟨Tryz.f290.name,by decide,FR Tryz.func290 (by kernel_rfl)⟩
 f18:=⟨Tryz.f291.name,by decide,FR Tryz.func291 (by kernel_rfl)⟩
 f19:=FR Tryz.func274 (by kernel_rfl)
 f20:=FR Tryz.func275 (by kernel_rfl)
 f30:=⟨Tryz.f305.name,by decide,FR Tryz.func305 (by kernel_rfl)⟩
 f31:=FR Tryz.func293 (by kernel_rfl)
 f32:=FR Tryz.func294 (by kernel_rfl)
 f33:=⟨Tryz.f306.name,by decide,FR Tryz.func306 (by kernel_rfl)⟩
 f34:=⟨Tryz.f307.name,by decide,FR Tryz.func307 (by kernel_rfl)⟩
 f35:=⟨Tryz.f308.name,by decide,FR Tryz.func308 (by kernel_rfl)⟩
 f40:=⟨Tryz.f313.name,by decide,FR Tryz.func313 (by kernel_rfl)⟩
 t0:=Tryz.underlying0
 a0:=Tryz.isAgg0
 z0:=Tryz.sizeOf0
 v0:=Tryz.zeroValue0
 t3:=Tryz.underlying3
 a3:=Tryz.isAgg3
 z3:=Tryz.sizeOf3
 v3:=Tryz.zeroValue3
 t4:=Tryz.underlying4
 a4:=Tryz.isAgg4
 z4:=Tryz.sizeOf4
 v4:=Tryz.zeroValue4
 t5:=Tryz.underlying5
 a5:=Tryz.isAgg5
 z5:=Tryz.sizeOf5
 v5:=Tryz.zeroValue5
 t9:=Tryz.underlying9
 a9:=Tryz.isAgg9
 z9:=Tryz.sizeOf9
 v9:=Tryz.zeroValue9
 t22:=Tryz.underlying73
 a22:=Tryz.isAgg73
 z22:=Tryz.sizeOf73
 v22:=Tryz.zeroValue73
 t23:=Tryz.underlying73
 a23:=Tryz.isAgg73
 z23:=Tryz.sizeOf73
 v23:=Tryz.zeroValue73
 t25:=Tryz.underlying3
 a25:=Tryz.isAgg3
 z25:=Tryz.sizeOf3
 v25:=Tryz.zeroValue3
 t32:=Tryz.underlying156
 a32:=Tryz.isAgg156
 z32:=Tryz.sizeOf156
 v32:=Tryz.zeroValue156
 t35:=Tryz.underlying354
 a35:=Tryz.isAgg354
 z35:=Tryz.sizeOf354
 v35:=Tryz.zeroValue354
 t36:=Tryz.underlying355
 a36:=Tryz.isAgg355
 z36:=Tryz.sizeOf355
 v36:=Tryz.zeroValue355
 t41:=Tryz.underlying211
 a41:=Tryz.isAgg211
 z41:=Tryz.sizeOf211
 v41:=Tryz.zeroValue211
 t44:=Tryz.underlying154
 a44:=Tryz.isAgg154
 z44:=Tryz.sizeOf154
 v44:=Tryz.zeroValue154
 t46:=Tryz.underlying29
 a46:=Tryz.isAgg29
 z46:=Tryz.sizeOf29
 v46:=Tryz.zeroValue29
 t53:=Tryz.underlying377
 a53:=Tryz.isAgg377
 z53:=Tryz.sizeOf377
 v53:=Tryz.zeroValue377
 t57:=Tryz.underlying380
 a57:=Tryz.isAgg380
 z57:=Tryz.sizeOf380
 v57:=Tryz.zeroValue380
 t63:=Tryz.underlying387
 a63:=Tryz.isAgg387
 z63:=Tryz.sizeOf387
 v63:=Tryz.zeroValue387
 t64:=Tryz.underlying321
 a64:=Tryz.isAgg321
 z64:=Tryz.sizeOf321
 v64:=Tryz.zeroValue321}
open Go.Sort Go.RowKit in
theorem Tryz.slices_Sort_int(m u A:Nat)(B:List Int)(w:World)(D:Holds (Value.int .i64) w m u B.toArray)(z:m<w.heap.size)(C:B.length<4611686018427387904):
  Dy 246 #[.slice (some ⟨m,u,none⟩) B.length A] w λ e w'=>
   e= .returned (.tuple #[])/\∃n E,w'=grow (putRow (Value.int .i64) (Sort.ahead w n) m u (B.mergeSort λ x y=>decide (x<=y)).toArray) E:=AnyM.slices_Sort_int Tryz.xZ m u A B w D z C
def Tryz.zJ:Go.Shelf.Ren:=⟨λ|6=>218|8=>250|9=>249|19=>274|20=>275|21=>265|22=>266|23=>267|24=>268|25=>269|26=>270|27=>271|28=>272|29=>273|36=>292|31=>293|32=>294|37=>295|38=>296|39=>297|41=>309|n=>n,λ|27=>34|29=>9|3=>3|32=>156|26=>34|0=>0|44=>154|46=>29|4=>4|36=>355|35=>354|41=>211|5=>5|9=>9|53=>377|57=>380|63=>387|64=>321|n=>n,λ|n=>n⟩
theorem Tryz.yc:Go.Proofs.SlLaysM.n6 Tryz.prog Tryz.zJ:={
 mixed:=by kernel_rfl
 f6:=⟨Tryz.f218.name,by decide,FR Tryz.func218 (by kernel_rfl)⟩
 f8:=FR Tryz.func250 (by kernel_rfl)
 f9:=⟨Tryz.f249.name,by decide,FR Tryz.func249 (by kernel_rfl)⟩
 f19:=FR Tryz.func274 (by kernel_rfl)
 f20:=FR Tryz.func275 (by kernel_rfl)
 f21:=⟨Tryz.f265.name,by decide,FR Tryz.func265 (by kernel_rfl)⟩
 f22:=⟨Tryz.f266.name,by decide,FR Tryz.func266 (by kernel_rfl)⟩
 f23:=⟨Tryz.f267.name,by decide,FR Tryz.func267 (by kernel_rfl)⟩
 f24:=⟨Tryz.f268.name,by decide,FR Tryz.func268 (by kernel_rfl)⟩
 f25:=⟨Tryz.f269.name,by decide,FR Tryz.func269 (by kernel_rfl)⟩
 f26:=⟨Tryz.f270.name,by decide,FR Tryz.func270 (by kernel_rfl)⟩
 f27:=⟨Tryz.f271.name,by decide,FR Tryz.func271 (by kernel_rfl)⟩
 f28:=⟨Tryz.f272.name,by decide,FR Tryz.func272 (by kernel_rfl)⟩
 f29:=⟨Tryz.f273.name,by decide,FR Tryz.func273 (by kernel_rfl)⟩
 f31:=FR Tryz.func293 (by kernel_rfl)
 f32:=FR Tryz.func294 (by kernel_rfl)
 f36:=⟨Tryz.f292.name,by decide,FR Tryz.func292 (by kernel_rfl)⟩
 f37:=⟨Tryz.f295.name,by decide,FR Tryz.func295 (by kernel_rfl)⟩
 f38:=⟨Tryz.f296.name,by decide,FR Tryz.func296 (by kernel_rfl)⟩
 f39:=⟨Tryz.f297.name,by decide,FR Tryz.func297 (by kernel_rfl)⟩
 f41:=⟨Tryz.f309.name,by decide,FR Tryz.func309 (by kernel_rfl)⟩
 t0:=Tryz.underlying0
 a0:=Tryz.isAgg0
 z0:=Tryz.sizeOf0
 v0:=Tryz.zeroValue0
 t3:=Tryz.underlying3
 a3:=Tryz.isAgg3
 z3:=Tryz.sizeOf3
 v3:=Tryz.zeroValue3
 t4:=Tryz.underlying4
 a4:=Tryz.isAgg4
 z4:=Tryz.sizeOf4
 v4:=Tryz.zeroValue4
 t5:=Tryz.underlying5
 a5:=Tryz.isAgg5
 z5:=Tryz.sizeOf5
 v5:=Tryz.zeroValue5
 t9:=Tryz.underlying9
 a9:=Tryz.isAgg9
 z9:=Tryz.sizeOf9
 v9:=Tryz.zeroValue9
 t26:=Tryz.underlying34
 a26:=Tryz.isAgg34
 z26:=Tryz.sizeOf34
 v26:=Tryz.zeroValue34
 t27:=Tryz.underlying34
 a27:=Tryz.isAgg34
 z27:=Tryz.sizeOf34
 v27:=Tryz.zeroValue34
 t29:=Tryz.underlying9
 a29:=Tryz.isAgg9
 z29:=Tryz.sizeOf9
 v29:=Tryz.zeroValue9
 t32:=Tryz.underlying156
 a32:=Tryz.isAgg156
 z32:=Tryz.sizeOf156
 v32:=Tryz.zeroValue156
 t35:=Tryz.underlying354
 a35:=Tryz.isAgg354
 z35:=Tryz.sizeOf354
 v35:=Tryz.zeroValue354
 t36:=Tryz.underlying355
 a36:=Tryz.isAgg355
 z36:=Tryz.sizeOf355
 v36:=Tryz.zeroValue355
 t41:=Tryz.underlying211
 a41:=Tryz.isAgg211
 z41:=Tryz.sizeOf211
 v41:=Tryz.zeroValue211
 t44:=Tryz.underlying154
 a44:=Tryz.isAgg154
 z44:=Tryz.sizeOf154
 v44:=Tryz.zeroValue154
 t46:=Tryz.underlying29
 a46:=Tryz.isAgg29
 z46:=Tryz.sizeOf29
 v46:=Tryz.zeroValue29
 t53:=Tryz.underlying377
 a53:=Tryz.isAgg377
 z53:=Tryz.sizeOf377
 v53:=Tryz.zeroValue377
 t57:=Tryz.underlying380
 a57:=Tryz.isAgg380
 z57:=Tryz.sizeOf380
 v57:=Tryz.zeroValue380
 t63:=Tryz.underlying387
 a63:=Tryz.isAgg387
 z63:=Tryz.sizeOf387
 v63:=Tryz.zeroValue387
 t64:=Tryz.underlying321
 a64:=Tryz.isAgg321
 z64:=Tryz.sizeOf321
 v64:=Tryz.zeroValue321}
open Go.Sort Go.RowKit in
theorem Tryz.slices_Sort_string(m u A:Nat)(ss:List (I8))(w:World)(C:Holds encStr w m u ss.toArray)(z:m<w.heap.size)(B:ss.length<4611686018427387904):
  Dy 218 #[.slice (some ⟨m,u,none⟩) ss.length A] w λ e w'=>
   e= .returned (.tuple #[])/\∃n D,w'=grow (putRow encStr (Sort.ahead w n) m u (ss.mergeSort λ x y=>decide (x<=y)).toArray) D:=AnyM.slices_Sort_string Tryz.yc m u A ss w C z B
open Go.RowKit Go.Sort in
theorem Tryz.slices_Sort_string_none(p:Mx)(m:Nat)(w:World):
  Dy 218 #[.slice p 0 m] w λ e w'=>e= .returned (.tuple #[])/\w'=w:=AnyM.slices_Sort_string_none Tryz.yc p m w
open Go.RowKit Go.Sort in
theorem Tryz.slices_Sort_int_none(p:Mx)(m:Nat)(w:World):
  Dy 246 #[.slice p 0 m] w λ e w'=>e= .returned (.tuple #[])/\w'=w:=AnyM.slices_Sort_int_none Tryz.xZ p m w
end Go.Proofs
