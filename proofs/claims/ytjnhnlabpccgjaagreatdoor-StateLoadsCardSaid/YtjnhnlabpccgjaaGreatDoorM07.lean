/- DERIVED -/
import Derived.Test.YtjnhnlabpccgjaaGreatDoorM01
import Derived.Test.YtjnhnlabpccgjaaGreatDoorProg
import Derived.Shelf.Small.Bits
import Derived.Shelf.Small.Wraps
import Derived.Shelf.Strconv.Itoa0
import Derived.Shelf.Strings.Search1
import Derived.Shelf.Strings.Search2
import Derived.Shelf.Strings.Search3
import Derived.Shelf.Strings.Count
import Derived.Shelf.LaysM
import Derived.Shelf.Strings.Shaped
import Derived.Shelf.Strings.Prefix
import Derived.Shelf.Strings.Split
import Derived.Shelf.Strings.SplitShaped
import Derived.Shelf.Unicode.DecodeSlow
import Derived.Shelf.Slices.Equal
import Derived.Ground.Names2Prog
import Derived.Shelf.Slices.Clone
import Derived.Shelf.Slices.Empties2
import Derived.Ground.SlgmProg
import Derived.Shelf.SortM.Plain
import Derived.Shelf.SortM.SortNone
set_option maxRecDepth 100000
set_option maxHeartbeats 64000000
set_option linter.all false
namespace Go.Proofs
open Go.Shelf
def Tryz.I9:Go.Shelf.Ren:=⟨fun|103=>185|210=>208|206=>229|n=>n,fun|9=>9|4=>4|24=>227|3=>3|n=>n,fun|n=>n⟩
theorem Tryz.WZ:Go.Proofs.Lays.n103 Tryz.prog Tryz.I9:={
 mixed:=by kernel_rfl
 f103:=Tryz.func185.trans (congrArg some (by kernel_rfl))
 f206:=Tryz.func229.trans (congrArg some (by kernel_rfl))
 f210:=Tryz.func208.trans (congrArg some (by kernel_rfl))
 t3:=Tryz.underlying3
 a3:=Tryz.isAgg3
 z3:=Tryz.sizeOf3
 v3:=Tryz.zeroValue3
 t4:=Tryz.underlying4
 a4:=Tryz.isAgg4
 z4:=Tryz.sizeOf4
 v4:=Tryz.zeroValue4
 t9:=Tryz.underlying9
 a9:=Tryz.isAgg9
 z9:=Tryz.sizeOf9
 v9:=Tryz.zeroValue9
 t24:=Tryz.underlying227
 a24:=Tryz.isAgg227
 z24:=Tryz.sizeOf227
 v24:=Tryz.zeroValue227}
open Go.RowKit in
theorem Tryz.strings_CutPrefix(s p:ByteArray)(w:World):
  Calls Tryz.prog 185 #[.string s,.string p] w fun e w'=>e= .returned (.tuple #[.string ⟨(Lib.trimPrefix s.data.toList p.data.toList).toArray⟩,.bool (Lib.hasPrefix s.data.toList p.data.toList)])∧w'=w:=Any.strings_CutPrefix Tryz.WZ s p w
def Tryz.I_:Go.Shelf.Ren:=⟨fun|146=>186|221=>209|268=>230|138=>231|143=>232|195=>252|197=>253|218=>254|219=>255|260=>263|217=>264|225=>265|224=>266|267=>267|266=>269|314=>270|n=>n,fun|9=>9|31=>26|3=>3|4=>4|0=>0|105=>286|21=>21|5=>5|46=>171|119=>298|139=>301|138=>300|146=>302|51=>216|n=>n,fun|1=>0|3=>1|4=>2|n=>n⟩
theorem Tryz.W9:Go.Proofs.Lays.n146 Tryz.prog Tryz.I_:={
 mixed:=by kernel_rfl
 f138:=Tryz.func231.trans (congrArg some (by kernel_rfl))
 f143:=Tryz.func232.trans (congrArg some (by kernel_rfl))
 f146:=Tryz.func186.trans (congrArg some (by kernel_rfl))
 f195:=Tryz.func252.trans (congrArg some (by kernel_rfl))
 f197:=Tryz.func253.trans (congrArg some (by kernel_rfl))
 f217:=Tryz.func264.trans (congrArg some (by kernel_rfl))
 f218:=Tryz.func254.trans (congrArg some (by kernel_rfl))
 f219:=Tryz.func255.trans (congrArg some (by kernel_rfl))
 f221:=Tryz.func209.trans (congrArg some (by kernel_rfl))
 f224:=Tryz.func266.trans (congrArg some (by kernel_rfl))
 f225:=Tryz.func265.trans (congrArg some (by kernel_rfl))
 f260:=Tryz.func263.trans (congrArg some (by kernel_rfl))
 f266:=Tryz.func269.trans (congrArg some (by kernel_rfl))
 f267:=Tryz.func267.trans (congrArg some (by kernel_rfl))
 f268:=Tryz.func230.trans (congrArg some (by kernel_rfl))
 f314:=Tryz.func270.trans (congrArg some (by kernel_rfl))
 t0:=Tryz.underlying0
 a0:=Tryz.isAgg0
 z0:=Tryz.sizeOf0
 v0:=Tryz.zeroValue0
 t3:=Tryz.underlying3
 a3:=Tryz.isAgg3
 z3:=Tryz.sizeOf3
 v3:=Tryz.zeroValue3
 t4:=Tryz.underlying4
 a4:=Tryz.isAgg4
 z4:=Tryz.sizeOf4
 v4:=Tryz.zeroValue4
 t5:=Tryz.underlying5
 a5:=Tryz.isAgg5
 z5:=Tryz.sizeOf5
 v5:=Tryz.zeroValue5
 t9:=Tryz.underlying9
 a9:=Tryz.isAgg9
 z9:=Tryz.sizeOf9
 v9:=Tryz.zeroValue9
 t21:=Tryz.underlying21
 a21:=Tryz.isAgg21
 z21:=Tryz.sizeOf21
 v21:=Tryz.zeroValue21
 t31:=Tryz.underlying26
 a31:=Tryz.isAgg26
 z31:=Tryz.sizeOf26
 v31:=Tryz.zeroValue26
 t46:=Tryz.underlying171
 a46:=Tryz.isAgg171
 z46:=Tryz.sizeOf171
 v46:=Tryz.zeroValue171
 t51:=Tryz.underlying216
 a51:=Tryz.isAgg216
 z51:=Tryz.sizeOf216
 v51:=Tryz.zeroValue216
 t105:=Tryz.underlying286
 a105:=Tryz.isAgg286
 z105:=Tryz.sizeOf286
 v105:=Tryz.zeroValue286
 t119:=Tryz.underlying298
 a119:=Tryz.isAgg298
 z119:=Tryz.sizeOf298
 t138:=Tryz.underlying300
 a138:=Tryz.isAgg300
 z138:=Tryz.sizeOf300
 v138:=Tryz.zeroValue300
 t139:=Tryz.underlying301
 a139:=Tryz.isAgg301
 z139:=Tryz.sizeOf301
 v139:=Tryz.zeroValue301
 t146:=Tryz.underlying302
 a146:=Tryz.isAgg302
 z146:=Tryz.sizeOf302
 v146:=Tryz.zeroValue302
 g1:=by kernel_rfl
 g3:=by kernel_rfl
 g4:=by kernel_rfl}
open Go.RowKit Go.Lib in
theorem Tryz.strings_Split(s sep:ByteArray)(m:Int)(w:World)(hs:s.size<4294967281)(hm:w.cell? ⟨0,0,none⟩=some (.int .i64 m))(h1:1≤sep.size):
  Calls Tryz.prog 186 #[.string s,.string sep] w fun e w'=>
   e= .returned (.slice (some ⟨w.heap.size,0,none⟩) (Lib.countB s sep+1) (Lib.countB s sep+1))∧w'=w.alloc (.cells ((Lib.splitB sep 0 (Lib.countB s sep) s).map Value.string).toArray 9):=Any.strings_Split Tryz.W9 (by kernel_rfl) s sep m w hs hm h1
def Tryz.EY:Go.Shelf.Ren:=⟨fun|16=>212|n=>n,fun|24=>26|9=>9|4=>4|n=>n,fun|n=>n⟩
theorem Tryz.FH:Go.Proofs.Lays2.n16 Tryz.prog Tryz.EY:={
 mixed:=by kernel_rfl
 f16:=Tryz.func212.trans (congrArg some (by kernel_rfl))
 t4:=Tryz.underlying4
 a4:=Tryz.isAgg4
 z4:=Tryz.sizeOf4
 v4:=Tryz.zeroValue4
 t9:=Tryz.underlying9
 a9:=Tryz.isAgg9
 z9:=Tryz.sizeOf9
 v9:=Tryz.zeroValue9
 t24:=Tryz.underlying26
 a24:=Tryz.isAgg26
 z24:=Tryz.sizeOf26
 v24:=Tryz.zeroValue26
 i9:=by kernel_rfl}
open Go.RowKit Go.Lib in
theorem Tryz.slices_Clone_string(b off n c:Nat)(zs:List ByteArray)(w:World)(hz:n≤zs.length)(hbig:n*16≤140737488355328)(hc:∀j,j<zs.length→w.cell? ⟨b,off+j,none⟩=some (.string (zs.getD j ByteArray.empty))):
  Calls Tryz.prog 212 #[.slice (some ⟨b,off,none⟩) n c] w fun e w'=>∃v',e= .returned v'∧w'.ownsRow w.heap.size 9 1 v' n ((zs.take n).map (Value.string))∧v'≠ .slice none 0 0∧Below w.heap.size w w':=Any.slices_Clone_string Tryz.FH b off n c zs w hz hbig hc
open Go.RowKit Go.Lib in
theorem Tryz.slices_Clone_string_zero(a:Addr)(c:Nat)(w:World):
  Calls Tryz.prog 212 #[.slice (some a) 0 c] w fun e w'=>∃v',e= .returned v'∧w'.ownsRow w.heap.size 9 1 v' 0 []∧v'≠ .slice none 0 0∧Below w.heap.size w w':=Any.slices_Clone_string_zero Tryz.FH a c w
def Tryz.yF:Go.Shelf.Ren:=⟨fun|5=>202|8=>206|7=>217|19=>227|20=>228|10=>237|11=>238|12=>239|13=>240|14=>241|15=>242|16=>243|17=>244|18=>245|30=>258|31=>247|32=>248|33=>259|34=>260|35=>261|40=>268|n=>n,fun|23=>71|25=>3|3=>3|32=>171|22=>71|0=>0|44=>216|46=>27|4=>4|36=>256|35=>255|41=>190|5=>5|9=>9|53=>280|57=>283|63=>295|64=>83|n=>n,fun|n=>n⟩
theorem Tryz.wU:Go.Proofs.SlLaysM.n5 Tryz.prog Tryz.yF:={
 mixed:=by kernel_rfl
 f5:=⟨Tryz.f202.name,by decide,Tryz.func202.trans (congrArg some (by kernel_rfl))⟩
 f7:=⟨Tryz.f217.name,by decide,Tryz.func217.trans (congrArg some (by kernel_rfl))⟩
 f8:=Tryz.func206.trans (congrArg some (by kernel_rfl))
 f10:=⟨Tryz.f237.name,by decide,Tryz.func237.trans (congrArg some (by kernel_rfl))⟩
 f11:=⟨Tryz.f238.name,by decide,Tryz.func238.trans (congrArg some (by kernel_rfl))⟩
 f12:=⟨Tryz.f239.name,by decide,Tryz.func239.trans (congrArg some (by kernel_rfl))⟩
 f13:=⟨Tryz.f240.name,by decide,Tryz.func240.trans (congrArg some (by kernel_rfl))⟩
 f14:=⟨Tryz.f241.name,by decide,Tryz.func241.trans (congrArg some (by kernel_rfl))⟩
 f15:=⟨Tryz.f242.name,by decide,Tryz.func242.trans (congrArg some (by kernel_rfl))⟩
 f16:=⟨Tryz.f243.name,by decide,Tryz.func243.trans (congrArg some (by kernel_rfl))⟩
 f17:=⟨Tryz.f244.name,by decide,Tryz.func244.trans (congrArg some (by kernel_rfl))⟩
 f18:=⟨Tryz.f245.name,by decide,Tryz.func245.trans (congrArg some (by kernel_rfl))⟩
 f19:=Tryz.func227.trans (congrArg some (by kernel_rfl))
 f20:=Tryz.func228.trans (congrArg some (by kernel_rfl))
 f30:=⟨Tryz.f258.name,by decide,Tryz.func258.trans (congrArg some (by kernel_rfl))⟩
 f31:=Tryz.func247.trans (congrArg some (by kernel_rfl))
 f32:=Tryz.func248.trans (congrArg some (by kernel_rfl))
 f33:=⟨Tryz.f259.name,by decide,Tryz.func259.trans (congrArg some (by kernel_rfl))⟩
 f34:=⟨Tryz.f260.name,by decide,Tryz.func260.trans (congrArg some (by kernel_rfl))⟩
 f35:=⟨Tryz.f261.name,by decide,Tryz.func261.trans (congrArg some (by kernel_rfl))⟩
 f40:=⟨Tryz.f268.name,by decide,Tryz.func268.trans (congrArg some (by kernel_rfl))⟩
 t0:=Tryz.underlying0
 a0:=Tryz.isAgg0
 z0:=Tryz.sizeOf0
 v0:=Tryz.zeroValue0
 t3:=Tryz.underlying3
 a3:=Tryz.isAgg3
 z3:=Tryz.sizeOf3
 v3:=Tryz.zeroValue3
 t4:=Tryz.underlying4
 a4:=Tryz.isAgg4
 z4:=Tryz.sizeOf4
 v4:=Tryz.zeroValue4
 t5:=Tryz.underlying5
 a5:=Tryz.isAgg5
 z5:=Tryz.sizeOf5
 v5:=Tryz.zeroValue5
 t9:=Tryz.underlying9
 a9:=Tryz.isAgg9
 z9:=Tryz.sizeOf9
 v9:=Tryz.zeroValue9
 t22:=Tryz.underlying71
 a22:=Tryz.isAgg71
 z22:=Tryz.sizeOf71
 v22:=Tryz.zeroValue71
 t23:=Tryz.underlying71
 a23:=Tryz.isAgg71
 z23:=Tryz.sizeOf71
 v23:=Tryz.zeroValue71
 t25:=Tryz.underlying3
 a25:=Tryz.isAgg3
 z25:=Tryz.sizeOf3
 v25:=Tryz.zeroValue3
 t32:=Tryz.underlying171
 a32:=Tryz.isAgg171
 z32:=Tryz.sizeOf171
 v32:=Tryz.zeroValue171
 t35:=Tryz.underlying255
 a35:=Tryz.isAgg255
 z35:=Tryz.sizeOf255
 v35:=Tryz.zeroValue255
 t36:=Tryz.underlying256
 a36:=Tryz.isAgg256
 z36:=Tryz.sizeOf256
 v36:=Tryz.zeroValue256
 t41:=Tryz.underlying190
 a41:=Tryz.isAgg190
 z41:=Tryz.sizeOf190
 v41:=Tryz.zeroValue190
 t44:=Tryz.underlying216
 a44:=Tryz.isAgg216
 z44:=Tryz.sizeOf216
 v44:=Tryz.zeroValue216
 t46:=Tryz.underlying27
 a46:=Tryz.isAgg27
 z46:=Tryz.sizeOf27
 v46:=Tryz.zeroValue27
 t53:=Tryz.underlying280
 a53:=Tryz.isAgg280
 z53:=Tryz.sizeOf280
 v53:=Tryz.zeroValue280
 t57:=Tryz.underlying283
 a57:=Tryz.isAgg283
 z57:=Tryz.sizeOf283
 v57:=Tryz.zeroValue283
 t63:=Tryz.underlying295
 a63:=Tryz.isAgg295
 z63:=Tryz.sizeOf295
 v63:=Tryz.zeroValue295
 t64:=Tryz.underlying83
 a64:=Tryz.isAgg83
 z64:=Tryz.sizeOf83
 v64:=Tryz.zeroValue83}
open Go.Sort Go.RowKit in
theorem Tryz.slices_Sort_int(blk off cap:Nat)(zs:List Int)(w:World)(hH:Holds (Value.int .i64) w blk off zs.toArray)(hblk:blk<w.heap.size)(hsz:zs.length<4611686018427387904):
  Calls Tryz.prog 202 #[.slice (some ⟨blk,off,none⟩) zs.length cap] w fun e w'=>
   e= .returned (.tuple #[])∧∃n os,w'=grow (putRow (Value.int .i64) (Sort.ahead w n) blk off (zs.mergeSort fun x y=>decide (x≤y)).toArray) os:=AnyM.slices_Sort_int Tryz.wU blk off cap zs w hH hblk hsz
def Tryz.yG:Go.Shelf.Ren:=⟨fun|6=>170|8=>206|9=>205|19=>227|20=>228|21=>218|22=>219|23=>220|24=>221|25=>222|26=>223|27=>224|28=>225|29=>226|36=>246|31=>247|32=>248|37=>249|38=>250|39=>251|41=>262|n=>n,fun|27=>26|29=>9|3=>3|32=>171|26=>26|0=>0|44=>216|46=>27|4=>4|36=>256|35=>255|41=>190|5=>5|9=>9|53=>280|57=>283|63=>295|64=>83|n=>n,fun|n=>n⟩
theorem Tryz.wV:Go.Proofs.SlLaysM.n6 Tryz.prog Tryz.yG:={
 mixed:=by kernel_rfl
 f6:=⟨Tryz.f170.name,by decide,Tryz.func170.trans (congrArg some (by kernel_rfl))⟩
 f8:=Tryz.func206.trans (congrArg some (by kernel_rfl))
 f9:=⟨Tryz.f205.name,by decide,Tryz.func205.trans (congrArg some (by kernel_rfl))⟩
 f19:=Tryz.func227.trans (congrArg some (by kernel_rfl))
 f20:=Tryz.func228.trans (congrArg some (by kernel_rfl))
 f21:=⟨Tryz.f218.name,by decide,Tryz.func218.trans (congrArg some (by kernel_rfl))⟩
 f22:=⟨Tryz.f219.name,by decide,Tryz.func219.trans (congrArg some (by kernel_rfl))⟩
 f23:=⟨Tryz.f220.name,by decide,Tryz.func220.trans (congrArg some (by kernel_rfl))⟩
 f24:=⟨Tryz.f221.name,by decide,Tryz.func221.trans (congrArg some (by kernel_rfl))⟩
 f25:=⟨Tryz.f222.name,by decide,Tryz.func222.trans (congrArg some (by kernel_rfl))⟩
 f26:=⟨Tryz.f223.name,by decide,Tryz.func223.trans (congrArg some (by kernel_rfl))⟩
 f27:=⟨Tryz.f224.name,by decide,Tryz.func224.trans (congrArg some (by kernel_rfl))⟩
 f28:=⟨Tryz.f225.name,by decide,Tryz.func225.trans (congrArg some (by kernel_rfl))⟩
 f29:=⟨Tryz.f226.name,by decide,Tryz.func226.trans (congrArg some (by kernel_rfl))⟩
 f31:=Tryz.func247.trans (congrArg some (by kernel_rfl))
 f32:=Tryz.func248.trans (congrArg some (by kernel_rfl))
 f36:=⟨Tryz.f246.name,by decide,Tryz.func246.trans (congrArg some (by kernel_rfl))⟩
 f37:=⟨Tryz.f249.name,by decide,Tryz.func249.trans (congrArg some (by kernel_rfl))⟩
 f38:=⟨Tryz.f250.name,by decide,Tryz.func250.trans (congrArg some (by kernel_rfl))⟩
 f39:=⟨Tryz.f251.name,by decide,Tryz.func251.trans (congrArg some (by kernel_rfl))⟩
 f41:=⟨Tryz.f262.name,by decide,Tryz.func262.trans (congrArg some (by kernel_rfl))⟩
 t0:=Tryz.underlying0
 a0:=Tryz.isAgg0
 z0:=Tryz.sizeOf0
 v0:=Tryz.zeroValue0
 t3:=Tryz.underlying3
 a3:=Tryz.isAgg3
 z3:=Tryz.sizeOf3
 v3:=Tryz.zeroValue3
 t4:=Tryz.underlying4
 a4:=Tryz.isAgg4
 z4:=Tryz.sizeOf4
 v4:=Tryz.zeroValue4
 t5:=Tryz.underlying5
 a5:=Tryz.isAgg5
 z5:=Tryz.sizeOf5
 v5:=Tryz.zeroValue5
 t9:=Tryz.underlying9
 a9:=Tryz.isAgg9
 z9:=Tryz.sizeOf9
 v9:=Tryz.zeroValue9
 t26:=Tryz.underlying26
 a26:=Tryz.isAgg26
 z26:=Tryz.sizeOf26
 v26:=Tryz.zeroValue26
 t27:=Tryz.underlying26
 a27:=Tryz.isAgg26
 z27:=Tryz.sizeOf26
 v27:=Tryz.zeroValue26
 t29:=Tryz.underlying9
 a29:=Tryz.isAgg9
 z29:=Tryz.sizeOf9
 v29:=Tryz.zeroValue9
 t32:=Tryz.underlying171
 a32:=Tryz.isAgg171
 z32:=Tryz.sizeOf171
 v32:=Tryz.zeroValue171
 t35:=Tryz.underlying255
 a35:=Tryz.isAgg255
 z35:=Tryz.sizeOf255
 v35:=Tryz.zeroValue255
 t36:=Tryz.underlying256
 a36:=Tryz.isAgg256
 z36:=Tryz.sizeOf256
 v36:=Tryz.zeroValue256
 t41:=Tryz.underlying190
 a41:=Tryz.isAgg190
 z41:=Tryz.sizeOf190
 v41:=Tryz.zeroValue190
 t44:=Tryz.underlying216
 a44:=Tryz.isAgg216
 z44:=Tryz.sizeOf216
 v44:=Tryz.zeroValue216
 t46:=Tryz.underlying27
 a46:=Tryz.isAgg27
 z46:=Tryz.sizeOf27
 v46:=Tryz.zeroValue27
 t53:=Tryz.underlying280
 a53:=Tryz.isAgg280
 z53:=Tryz.sizeOf280
 v53:=Tryz.zeroValue280
 t57:=Tryz.underlying283
 a57:=Tryz.isAgg283
 z57:=Tryz.sizeOf283
 v57:=Tryz.zeroValue283
 t63:=Tryz.underlying295
 a63:=Tryz.isAgg295
 z63:=Tryz.sizeOf295
 v63:=Tryz.zeroValue295
 t64:=Tryz.underlying83
 a64:=Tryz.isAgg83
 z64:=Tryz.sizeOf83
 v64:=Tryz.zeroValue83}
open Go.Sort Go.RowKit in
theorem Tryz.slices_Sort_string(blk off cap:Nat)(ss:List (List UInt8))(w:World)(hH:Holds encStr w blk off ss.toArray)(hblk:blk<w.heap.size)(hsz:ss.length<4611686018427387904):
  Calls Tryz.prog 170 #[.slice (some ⟨blk,off,none⟩) ss.length cap] w fun e w'=>
   e= .returned (.tuple #[])∧∃n os,w'=grow (putRow encStr (Sort.ahead w n) blk off (ss.mergeSort fun x y=>decide (x≤y)).toArray) os:=AnyM.slices_Sort_string Tryz.wV blk off cap ss w hH hblk hsz
open Go.RowKit Go.Sort in
theorem Tryz.slices_Sort_string_none(p:Option Addr)(cap:Nat)(w:World):
  Calls Tryz.prog 170 #[.slice p 0 cap] w fun e w'=>e= .returned (.tuple #[])∧w'=w:=AnyM.slices_Sort_string_none Tryz.wV p cap w
open Go.RowKit Go.Sort in
theorem Tryz.slices_Sort_int_none(p:Option Addr)(cap:Nat)(w:World):
  Calls Tryz.prog 202 #[.slice p 0 cap] w fun e w'=>e= .returned (.tuple #[])∧w'=w:=AnyM.slices_Sort_int_none Tryz.wU p cap w
end Go.Proofs
