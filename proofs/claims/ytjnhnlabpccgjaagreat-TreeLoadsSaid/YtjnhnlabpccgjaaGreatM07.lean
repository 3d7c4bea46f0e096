/- DERIVED: THE SHELF's CONTRACTS AT THIS DUMP, IN PLAIN WORDS (tools/lay-plain.mjs out of 'TryzShelf.lean', which tools/lay-shelf.mjs wrote): THE SAME DECLARATIONS UNDER THE SAME NAMES: 'import', 'namespace', 'open', 'def', 'theorem' AND NOTHING ELSE: no command of the shelf's: FOR A HAND-IN. Each laying: the table of numbers ('.._ren') and one theorem, a field a fact of the dump's own or the kernel's comparison; each contract: ONE APPLICATION. -/
import Derived.Test.YtjnhnlabpccgjaaGreatProg
import Derived.Shelf.Strings.Builder1
import Derived.Shelf.Strings.Builder2
import Derived.Shelf.Strings.OnBuilder
import Derived.Shelf.Small.Bits
import Derived.Shelf.Small.Strs
import Derived.Shelf.Small.Wraps
import Derived.Shelf.Strings.BuilderF
import Derived.Shelf.Strings.BuilderK
import Derived.Shelf.Strings.Builder2Cap
import Derived.Shelf.Strconv.Itoa0
import Derived.Shelf.Strings.BuilderCap
import Derived.Shelf.Slices.Equal
import Derived.Ground.Names2Prog
import Derived.Shelf.Slices.Clone
import Derived.Shelf.Slices.SearchI
import Derived.Shelf.Slices.Empties2
import Derived.Ground.SlgnProg
import Derived.Shelf.SlicesE.Clone
import Derived.Ground.SlsfProg
import Derived.Shelf.SlSortCmp.Insertion
import Derived.Ground.SlgmProg
import Derived.Shelf.SortM.Plain
import Derived.Shelf.SortM.SortNone
import Derived.Shelf.SlSortCmp.SiftDown1
import Derived.Shelf.SlSortCmp.HeapSort1
import Derived.Shelf.SlSortCmp.Insertion1
import Derived.Shelf.SlSortCmp.Median1
import Derived.Shelf.SlSortCmp.Pivot1
import Derived.Shelf.SlSortCmp.ReverseRange1
import Derived.Shelf.SlSortCmp.PartialInsertion1
import Derived.Shelf.SlSortCmp.PartitionEqual1
import Derived.Shelf.SlSortCmp.Partition1
import Derived.Shelf.SlSortCmp.Pdq1
import Derived.Shelf.SlSortCmp.Whole1
namespace Go.Proofs
open Go.Shelf
def Tryz.wG:Go.Shelf.Ren:=⟨fun|156=>166|165=>197|166=>198|169=>199|240=>223|241=>224|276=>233|277=>234|n=>n,fun|31=>61|9=>9|3=>3|4=>4|0=>0|20=>20|72=>237|76=>240|70=>235|37=>23|75=>239|127=>265|164=>275|5=>5|80=>242|n=>n,fun|n=>n⟩
theorem Tryz.Hu:Go.Proofs.Lays.n156 Tryz.prog Tryz.wG:={
 mixed:=by kernel_rfl
 f156:=Tryz.func166.trans (congrArg some (by kernel_rfl))
 f165:=Tryz.func197.trans (congrArg some (by kernel_rfl))
 f166:=Tryz.func198.trans (congrArg some (by kernel_rfl))
 f169:=Tryz.func199.trans (congrArg some (by kernel_rfl))
 f240:=Tryz.func223.trans (congrArg some (by kernel_rfl))
 f241:=Tryz.func224.trans (congrArg some (by kernel_rfl))
 f276:=Tryz.func233.trans (congrArg some (by kernel_rfl))
 f277:=Tryz.func234.trans (congrArg some (by kernel_rfl))
 t0:=Tryz.underlying0
 a0:=Tryz.isAgg0
 z0:=Tryz.sizeOf0
 v0:=Tryz.zeroValue0
 t3:=Tryz.underlying3
 a3:=Tryz.isAgg3
 z3:=Tryz.sizeOf3
 v3:=Tryz.zeroValue3
 t4:=Tryz.underlying4
 a4:=Tryz.isAgg4
 z4:=Tryz.sizeOf4
 v4:=Tryz.zeroValue4
 t9:=Tryz.underlying9
 a9:=Tryz.isAgg9
 z9:=Tryz.sizeOf9
 v9:=Tryz.zeroValue9
 t20:=Tryz.underlying20
 a20:=Tryz.isAgg20
 z20:=Tryz.sizeOf20
 v20:=Tryz.zeroValue20
 t31:=Tryz.underlying61
 a31:=Tryz.isAgg61
 z31:=Tryz.sizeOf61
 v31:=Tryz.zeroValue61
 t37:=Tryz.underlying23
 a37:=Tryz.isAgg23
 z37:=Tryz.sizeOf23
 v37:=Tryz.zeroValue23
 t70:=Tryz.underlying235
 a70:=Tryz.isAgg235
 z70:=Tryz.sizeOf235
 v70:=Tryz.zeroValue235
 t72:=Tryz.underlying237
 a72:=Tryz.isAgg237
 z72:=Tryz.sizeOf237
 v72:=Tryz.zeroValue237
 t75:=Tryz.underlying239
 a75:=Tryz.isAgg239
 z75:=Tryz.sizeOf239
 v75:=Tryz.zeroValue239
 t76:=Tryz.underlying240
 a76:=Tryz.isAgg240
 z76:=Tryz.sizeOf240
 v76:=Tryz.zeroValue240
 t127:=Tryz.underlying265
 a127:=Tryz.isAgg265
 z127:=Tryz.sizeOf265
 v127:=Tryz.zeroValue265
 t164:=Tryz.underlying275
 a164:=Tryz.isAgg275
 z164:=Tryz.sizeOf275
 v164:=Tryz.zeroValue275}
theorem Tryz.ny:Builder.Extra Tryz.prog Tryz.wG:={
 sizeBuilder:=by kernel_rfl
 liesBuilder:=by kernel_rfl
 t5:=Tryz.underlying5
 a5:=Tryz.isAgg5
 z5:=Tryz.sizeOf5
 v5:=Tryz.zeroValue5
 infoByte:=by kernel_rfl
 cellsByte:=by kernel_rfl
 sizeByte:=by kernel_rfl
 neB5:=by decide}
open Go.RowKit in
theorem Tryz.strings_Join_none (a:Option Addr) (c:Nat) (sep:ByteArray) (w:World):
  Calls Tryz.prog 166 #[.slice a 0 c, .string sep] w fun e w'=>e= .returned (.string ⟨#[]⟩)∧w'=w:=Any.strings_Join_none Tryz.Hu Tryz.ny a c sep w
open Go.RowKit in
theorem Tryz.strings_Join (bk o c:Nat) (xs:List ByteArray) (sep:ByteArray) (w:World) (hcells:∀(j:Nat) x,xs[j]? =some x→w.cell? ⟨bk,o+j,none⟩=some (.string x)) (hbk:bk<w.heap.size) (hN:xs.length≤140737488355328) (hcap:xs.length≤c) (hlen:(Lib.join (xs.map (·.data.toList)) sep.data.toList).length≤140737488355328):
  Calls Tryz.prog 166 #[.slice (some ⟨bk,o,none⟩) xs.length c, .string sep] w fun e w'=>e= .returned (.string ⟨(Lib.join (xs.map (·.data.toList)) sep.data.toList).toArray⟩)∧Below w.heap.size w w':=Any.strings_Join Tryz.Hu Tryz.ny bk o c xs sep w hcells hbk hN hcap hlen
def Tryz.Dc:Go.Shelf.Ren:=⟨fun|125=>162|128=>186|129=>187|n=>n,fun|46=>171|3=>3|51=>192|53=>27|4=>4|5=>5|9=>9|n=>n,fun|n=>n⟩
theorem Tryz.Oh:Go.Proofs.Lays.n125 Tryz.prog Tryz.Dc:={
 mixed:=by kernel_rfl
 f125:=Tryz.func162.trans (congrArg some (by kernel_rfl))
 f128:=Tryz.func186.trans (congrArg some (by kernel_rfl))
 f129:=Tryz.func187.trans (congrArg some (by kernel_rfl))
 t3:=Tryz.underlying3
 a3:=Tryz.isAgg3
 z3:=Tryz.sizeOf3
 v3:=Tryz.zeroValue3
 t4:=Tryz.underlying4
 a4:=Tryz.isAgg4
 z4:=Tryz.sizeOf4
 v4:=Tryz.zeroValue4
 t5:=Tryz.underlying5
 a5:=Tryz.isAgg5
 z5:=Tryz.sizeOf5
 v5:=Tryz.zeroValue5
 t9:=Tryz.underlying9
 a9:=Tryz.isAgg9
 z9:=Tryz.sizeOf9
 v9:=Tryz.zeroValue9
 t46:=Tryz.underlying171
 a46:=Tryz.isAgg171
 z46:=Tryz.sizeOf171
 v46:=Tryz.zeroValue171
 t51:=Tryz.underlying192
 a51:=Tryz.isAgg192
 z51:=Tryz.sizeOf192
 v51:=Tryz.zeroValue192
 t53:=Tryz.underlying27
 a53:=Tryz.isAgg27
 z53:=Tryz.sizeOf27
 v53:=Tryz.zeroValue27}
theorem Tryz.bits_Len (x:Int) (w:World) (h0:0≤x) (h1:x≤18446744073709551615):
  Calls Tryz.prog 162 #[.int .u64 x] w fun e w'=>e= .returned (.int .i64 (Lib.bitLen x.toNat))∧w'=w:=Any.bits_Len Tryz.Oh x w h0 h1
def Tryz.Df:Go.Shelf.Ren:=⟨fun|106=>132|213=>165|265=>196|n=>n,fun|9=>9|3=>3|n=>n,fun|n=>n⟩
theorem Tryz.Oi:Go.Proofs.Lays.n106 Tryz.prog Tryz.Df:={
 mixed:=by kernel_rfl
 f106:=Tryz.func132.trans (congrArg some (by kernel_rfl))
 f213:=Tryz.func165.trans (congrArg some (by kernel_rfl))
 f265:=Tryz.func196.trans (congrArg some (by kernel_rfl))
 t3:=Tryz.underlying3
 a3:=Tryz.isAgg3
 z3:=Tryz.sizeOf3
 v3:=Tryz.zeroValue3
 t9:=Tryz.underlying9
 a9:=Tryz.isAgg9
 z9:=Tryz.sizeOf9
 v9:=Tryz.zeroValue9}
open Go.RowKit in
theorem Tryz.strings_Compare (a b:ByteArray) (w:World):
  Calls Tryz.prog 132 #[.string a, .string b] w fun e w'=>e= .returned (.int .i64 (Lib.compareBytes a.data.toList b.data.toList))∧w'=w:=Any.strings_Compare Tryz.Oi a b w
def Tryz.Dg:Go.Shelf.Ren:=⟨fun|193=>174|n=>n,fun|31=>61|9=>9|4=>4|3=>3|0=>0|n=>n,fun|n=>n⟩
theorem Tryz.BU:Go.Proofs.Lays.n193 Tryz.prog Tryz.Dg:={
 mixed:=by kernel_rfl
 f193:=Tryz.func174.trans (congrArg some (by kernel_rfl))
 t0:=Tryz.underlying0
 a0:=Tryz.isAgg0
 z0:=Tryz.sizeOf0
 v0:=Tryz.zeroValue0
 t3:=Tryz.underlying3
 a3:=Tryz.isAgg3
 z3:=Tryz.sizeOf3
 v3:=Tryz.zeroValue3
 t4:=Tryz.underlying4
 a4:=Tryz.isAgg4
 z4:=Tryz.sizeOf4
 v4:=Tryz.zeroValue4
 t9:=Tryz.underlying9
 a9:=Tryz.isAgg9
 z9:=Tryz.sizeOf9
 v9:=Tryz.zeroValue9
 t31:=Tryz.underlying61
 a31:=Tryz.isAgg61
 z31:=Tryz.sizeOf61
 v31:=Tryz.zeroValue61}
open Go.RowKit Go.Lib in
theorem Tryz.slices_Equal_string (b1 o1 n c b2 o2 m d:Nat) (xs ys:List ByteArray) (w:World) (hx:n≤xs.length) (hy:m≤ys.length) (hbig:n≤9223372036854775807) (hbig2:m≤9223372036854775807) (hc1:∀j,j<xs.length→w.cell? ⟨b1,o1+j,none⟩=some (.string (xs.getD j ByteArray.empty))) (hc2:∀j,j<ys.length→w.cell? ⟨b2,o2+j,none⟩=some (.string (ys.getD j ByteArray.empty))):
  Calls Tryz.prog 174 #[.slice (some ⟨b1,o1,none⟩) n c, .slice (some ⟨b2,o2,none⟩) m d] w fun e w'=>e= .returned (.bool (decide (xs.take n=ys.take m)))∧∃q,w'=w.drewN q:=Any.slices_Equal_string Tryz.BU b1 o1 n c b2 o2 m d xs ys w hx hy hbig hbig2 hc1 hc2
open Go.RowKit Go.Lib in
theorem Tryz.slices_Equal_string_empty (a1 a2:Option Addr) (c m d:Nat) (w:World) (hbig2:m≤9223372036854775807):
  Calls Tryz.prog 174 #[.slice a1 0 c, .slice a2 m d] w fun e w'=>e= .returned (.bool (decide (m=0)))∧w'=w:=Any.slices_Equal_string_empty Tryz.BU a1 a2 c m d w hbig2
def Tryz.zY:Go.Shelf.Ren:=⟨fun|16=>163|n=>n,fun|24=>61|9=>9|4=>4|n=>n,fun|n=>n⟩
theorem Tryz.vI:Go.Proofs.Lays2.n16 Tryz.prog Tryz.zY:={
 mixed:=by kernel_rfl
 f16:=Tryz.func163.trans (congrArg some (by kernel_rfl))
 t4:=Tryz.underlying4
 a4:=Tryz.isAgg4
 z4:=Tryz.sizeOf4
 v4:=Tryz.zeroValue4
 t9:=Tryz.underlying9
 a9:=Tryz.isAgg9
 z9:=Tryz.sizeOf9
 v9:=Tryz.zeroValue9
 t24:=Tryz.underlying61
 a24:=Tryz.isAgg61
 z24:=Tryz.sizeOf61
 v24:=Tryz.zeroValue61
 i9:=by kernel_rfl}
open Go.RowKit Go.Lib in
theorem Tryz.slices_Clone_string (b off n c:Nat) (zs:List ByteArray) (w:World) (hz:n≤zs.length) (hbig:n*16≤140737488355328) (hc:∀j,j<zs.length→w.cell? ⟨b,off+j,none⟩=some (.string (zs.getD j ByteArray.empty))):
  Calls Tryz.prog 163 #[.slice (some ⟨b,off,none⟩) n c] w fun e w'=>∃v',e= .returned v'∧w'.ownsRow w.heap.size 9 1 v' n ((zs.take n).map (Value.string))∧v'≠ .slice none 0 0∧Below w.heap.size w w':=Any.slices_Clone_string Tryz.vI b off n c zs w hz hbig hc
open Go.RowKit Go.Lib in
theorem Tryz.slices_Clone_string_nil (n c:Nat) (w:World):
  Calls Tryz.prog 163 #[.slice none n c] w fun e w'=>e= .returned (.slice none 0 0)∧w'=w:=Any.slices_Clone_string_nil Tryz.vI n c w
open Go.RowKit Go.Lib in
theorem Tryz.slices_Clone_string_zero (a:Addr) (c:Nat) (w:World):
  Calls Tryz.prog 163 #[.slice (some a) 0 c] w fun e w'=>∃v',e= .returned v'∧w'.ownsRow w.heap.size 9 1 v' 0 []∧v'≠ .slice none 0 0∧Below w.heap.size w w':=Any.slices_Clone_string_zero Tryz.vI a c w
open Go.RowKit Go.Lib in
theorem Tryz.slices_Equal_string_lens (a1 a2:Option Addr) (n c m d:Nat) (w:World) (hnm:n≠m):
  Calls Tryz.prog 174 #[.slice a1 n c, .slice a2 m d] w fun e w'=>e= .returned (.bool false)∧w'=w:=Any.slices_Equal_string_lens Tryz.BU a1 a2 n c m d w hnm
def Tryz.tT:Go.Shelf.Ren:=⟨fun|5=>158|8=>162|7=>176|19=>186|20=>187|10=>205|11=>206|12=>207|13=>208|14=>209|15=>210|16=>211|17=>212|18=>213|30=>227|31=>215|32=>216|33=>228|34=>229|35=>230|40=>235|n=>n,fun|23=>41|25=>3|3=>3|32=>171|22=>41|0=>0|44=>192|46=>27|4=>4|36=>222|35=>221|41=>133|5=>5|9=>9|53=>258|57=>261|63=>272|64=>65|n=>n,fun|n=>n⟩
theorem Tryz.rX:Go.Proofs.SlLaysM.n5 Tryz.prog Tryz.tT:={
 mixed:=by kernel_rfl
 f5:=⟨Tryz.f158.name,by decide,Tryz.func158.trans (congrArg some (by kernel_rfl))⟩
 f7:=⟨Tryz.f176.name,by decide,Tryz.func176.trans (congrArg some (by kernel_rfl))⟩
 f8:=Tryz.func162.trans (congrArg some (by kernel_rfl))
 f10:=⟨Tryz.f205.name,by decide,Tryz.func205.trans (congrArg some (by kernel_rfl))⟩
 f11:=⟨Tryz.f206.name,by decide,Tryz.func206.trans (congrArg some (by kernel_rfl))⟩
 f12:=⟨Tryz.f207.name,by decide,Tryz.func207.trans (congrArg some (by kernel_rfl))⟩
 f13:=⟨Tryz.f208.name,by decide,Tryz.func208.trans (congrArg some (by kernel_rfl))⟩
 f14:=⟨Tryz.f209.name,by decide,Tryz.func209.trans (congrArg some (by kernel_rfl))⟩
 f15:=⟨Tryz.f210.name,by decide,Tryz.func210.trans (congrArg some (by kernel_rfl))⟩
 f16:=⟨Tryz.f211.name,by decide,Tryz.func211.trans (congrArg some (by kernel_rfl))⟩
 f17:=⟨Tryz.f212.name,by decide,Tryz.func212.trans (congrArg some (by kernel_rfl))⟩
 f18:=⟨Tryz.f213.name,by decide,Tryz.func213.trans (congrArg some (by kernel_rfl))⟩
 f19:=Tryz.func186.trans (congrArg some (by kernel_rfl))
 f20:=Tryz.func187.trans (congrArg some (by kernel_rfl))
 f30:=⟨Tryz.f227.name,by decide,Tryz.func227.trans (congrArg some (by kernel_rfl))⟩
 f31:=Tryz.func215.trans (congrArg some (by kernel_rfl))
 f32:=Tryz.func216.trans (congrArg some (by kernel_rfl))
 f33:=⟨Tryz.f228.name,by decide,Tryz.func228.trans (congrArg some (by kernel_rfl))⟩
 f34:=⟨Tryz.f229.name,by decide,Tryz.func229.trans (congrArg some (by kernel_rfl))⟩
 f35:=⟨Tryz.f230.name,by decide,Tryz.func230.trans (congrArg some (by kernel_rfl))⟩
 f40:=⟨Tryz.f235.name,by decide,Tryz.func235.trans (congrArg some (by kernel_rfl))⟩
 t0:=Tryz.underlying0
 a0:=Tryz.isAgg0
 z0:=Tryz.sizeOf0
 v0:=Tryz.zeroValue0
 t3:=Tryz.underlying3
 a3:=Tryz.isAgg3
 z3:=Tryz.sizeOf3
 v3:=Tryz.zeroValue3
 t4:=Tryz.underlying4
 a4:=Tryz.isAgg4
 z4:=Tryz.sizeOf4
 v4:=Tryz.zeroValue4
 t5:=Tryz.underlying5
 a5:=Tryz.isAgg5
 z5:=Tryz.sizeOf5
 v5:=Tryz.zeroValue5
 t9:=Tryz.underlying9
 a9:=Tryz.isAgg9
 z9:=Tryz.sizeOf9
 v9:=Tryz.zeroValue9
 t22:=Tryz.underlying41
 a22:=Tryz.isAgg41
 z22:=Tryz.sizeOf41
 v22:=Tryz.zeroValue41
 t23:=Tryz.underlying41
 a23:=Tryz.isAgg41
 z23:=Tryz.sizeOf41
 v23:=Tryz.zeroValue41
 t25:=Tryz.underlying3
 a25:=Tryz.isAgg3
 z25:=Tryz.sizeOf3
 v25:=Tryz.zeroValue3
 t32:=Tryz.underlying171
 a32:=Tryz.isAgg171
 z32:=Tryz.sizeOf171
 v32:=Tryz.zeroValue171
 t35:=Tryz.underlying221
 a35:=Tryz.isAgg221
 z35:=Tryz.sizeOf221
 v35:=Tryz.zeroValue221
 t36:=Tryz.underlying222
 a36:=Tryz.isAgg222
 z36:=Tryz.sizeOf222
 v36:=Tryz.zeroValue222
 t41:=Tryz.underlying133
 a41:=Tryz.isAgg133
 z41:=Tryz.sizeOf133
 v41:=Tryz.zeroValue133
 t44:=Tryz.underlying192
 a44:=Tryz.isAgg192
 z44:=Tryz.sizeOf192
 v44:=Tryz.zeroValue192
 t46:=Tryz.underlying27
 a46:=Tryz.isAgg27
 z46:=Tryz.sizeOf27
 v46:=Tryz.zeroValue27
 t53:=Tryz.underlying258
 a53:=Tryz.isAgg258
 z53:=Tryz.sizeOf258
 v53:=Tryz.zeroValue258
 t57:=Tryz.underlying261
 a57:=Tryz.isAgg261
 z57:=Tryz.sizeOf261
 v57:=Tryz.zeroValue261
 t63:=Tryz.underlying272
 a63:=Tryz.isAgg272
 z63:=Tryz.sizeOf272
 v63:=Tryz.zeroValue272
 t64:=Tryz.underlying65
 a64:=Tryz.isAgg65
 z64:=Tryz.sizeOf65
 v64:=Tryz.zeroValue65}
open Go.Sort Go.RowKit in
theorem Tryz.slices_Sort_int (blk off cap:Nat) (zs:List Int) (w:World) (hH:Holds (Value.int .i64) w blk off zs.toArray) (hblk:blk<w.heap.size) (hsz:zs.length<4611686018427387904):
  Calls Tryz.prog 158 #[.slice (some ⟨blk,off,none⟩) zs.length cap] w fun e w'=>
   e= .returned (.tuple #[])∧∃n os,w'=grow (putRow (Value.int .i64) (Sort.ahead w n) blk off (zs.mergeSort fun x y=>decide (x≤y)).toArray) os:=AnyM.slices_Sort_int Tryz.rX blk off cap zs w hH hblk hsz
def Tryz.tV:Go.Shelf.Ren:=⟨fun|6=>127|8=>162|9=>161|19=>186|20=>187|21=>177|22=>178|23=>179|24=>180|25=>181|26=>182|27=>183|28=>184|29=>185|36=>214|31=>215|32=>216|37=>217|38=>218|39=>219|41=>231|n=>n,fun|27=>61|29=>9|3=>3|32=>171|26=>61|0=>0|44=>192|46=>27|4=>4|36=>222|35=>221|41=>133|5=>5|9=>9|53=>258|57=>261|63=>272|64=>65|n=>n,fun|n=>n⟩
theorem Tryz.rY:Go.Proofs.SlLaysM.n6 Tryz.prog Tryz.tV:={
 mixed:=by kernel_rfl
 f6:=⟨Tryz.f127.name,by decide,Tryz.func127.trans (congrArg some (by kernel_rfl))⟩
 f8:=Tryz.func162.trans (congrArg some (by kernel_rfl))
 f9:=⟨Tryz.f161.name,by decide,Tryz.func161.trans (congrArg some (by kernel_rfl))⟩
 f19:=Tryz.func186.trans (congrArg some (by kernel_rfl))
 f20:=Tryz.func187.trans (congrArg some (by kernel_rfl))
 f21:=⟨Tryz.f177.name,by decide,Tryz.func177.trans (congrArg some (by kernel_rfl))⟩
 f22:=⟨Tryz.f178.name,by decide,Tryz.func178.trans (congrArg some (by kernel_rfl))⟩
 f23:=⟨Tryz.f179.name,by decide,Tryz.func179.trans (congrArg some (by kernel_rfl))⟩
 f24:=⟨Tryz.f180.name,by decide,Tryz.func180.trans (congrArg some (by kernel_rfl))⟩
 f25:=⟨Tryz.f181.name,by decide,Tryz.func181.trans (congrArg some (by kernel_rfl))⟩
 f26:=⟨Tryz.f182.name,by decide,Tryz.func182.trans (congrArg some (by kernel_rfl))⟩
 f27:=⟨Tryz.f183.name,by decide,Tryz.func183.trans (congrArg some (by kernel_rfl))⟩
 f28:=⟨Tryz.f184.name,by decide,Tryz.func184.trans (congrArg some (by kernel_rfl))⟩
 f29:=⟨Tryz.f185.name,by decide,Tryz.func185.trans (congrArg some (by kernel_rfl))⟩
 f31:=Tryz.func215.trans (congrArg some (by kernel_rfl))
 f32:=Tryz.func216.trans (congrArg some (by kernel_rfl))
 f36:=⟨Tryz.f214.name,by decide,Tryz.func214.trans (congrArg some (by kernel_rfl))⟩
 f37:=⟨Tryz.f217.name,by decide,Tryz.func217.trans (congrArg some (by kernel_rfl))⟩
 f38:=⟨Tryz.f218.name,by decide,Tryz.func218.trans (congrArg some (by kernel_rfl))⟩
 f39:=⟨Tryz.f219.name,by decide,Tryz.func219.trans (congrArg some (by kernel_rfl))⟩
 f41:=⟨Tryz.f231.name,by decide,Tryz.func231.trans (congrArg some (by kernel_rfl))⟩
 t0:=Tryz.underlying0
 a0:=Tryz.isAgg0
 z0:=Tryz.sizeOf0
 v0:=Tryz.zeroValue0
 t3:=Tryz.underlying3
 a3:=Tryz.isAgg3
 z3:=Tryz.sizeOf3
 v3:=Tryz.zeroValue3
 t4:=Tryz.underlying4
 a4:=Tryz.isAgg4
 z4:=Tryz.sizeOf4
 v4:=Tryz.zeroValue4
 t5:=Tryz.underlying5
 a5:=Tryz.isAgg5
 z5:=Tryz.sizeOf5
 v5:=Tryz.zeroValue5
 t9:=Tryz.underlying9
 a9:=Tryz.isAgg9
 z9:=Tryz.sizeOf9
 v9:=Tryz.zeroValue9
 t26:=Tryz.underlying61
 a26:=Tryz.isAgg61
 z26:=Tryz.sizeOf61
 v26:=Tryz.zeroValue61
 t27:=Tryz.underlying61
 a27:=Tryz.isAgg61
 z27:=Tryz.sizeOf61
 v27:=Tryz.zeroValue61
 t29:=Tryz.underlying9
 a29:=Tryz.isAgg9
 z29:=Tryz.sizeOf9
 v29:=Tryz.zeroValue9
 t32:=Tryz.underlying171
 a32:=Tryz.isAgg171
 z32:=Tryz.sizeOf171
 v32:=Tryz.zeroValue171
 t35:=Tryz.underlying221
 a35:=Tryz.isAgg221
 z35:=Tryz.sizeOf221
 v35:=Tryz.zeroValue221
 t36:=Tryz.underlying222
 a36:=Tryz.isAgg222
 z36:=Tryz.sizeOf222
 v36:=Tryz.zeroValue222
 t41:=Tryz.underlying133
 a41:=Tryz.isAgg133
 z41:=Tryz.sizeOf133
 v41:=Tryz.zeroValue133
 t44:=Tryz.underlying192
 a44:=Tryz.isAgg192
 z44:=Tryz.sizeOf192
 v44:=Tryz.zeroValue192
 t46:=Tryz.underlying27
 a46:=Tryz.isAgg27
 z46:=Tryz.sizeOf27
 v46:=Tryz.zeroValue27
 t53:=Tryz.underlying258
 a53:=Tryz.isAgg258
 z53:=Tryz.sizeOf258
 v53:=Tryz.zeroValue258
 t57:=Tryz.underlying261
 a57:=Tryz.isAgg261
 z57:=Tryz.sizeOf261
 v57:=Tryz.zeroValue261
 t63:=Tryz.underlying272
 a63:=Tryz.isAgg272
 z63:=Tryz.sizeOf272
 v63:=Tryz.zeroValue272
 t64:=Tryz.underlying65
 a64:=Tryz.isAgg65
 z64:=Tryz.sizeOf65
 v64:=Tryz.zeroValue65}
open Go.Sort Go.RowKit in
theorem Tryz.slices_Sort_string (blk off cap:Nat) (ss:List (List UInt8)) (w:World) (hH:Holds encStr w blk off ss.toArray) (hblk:blk<w.heap.size) (hsz:ss.length<4611686018427387904):
  Calls Tryz.prog 127 #[.slice (some ⟨blk,off,none⟩) ss.length cap] w fun e w'=>
   e= .returned (.tuple #[])∧∃n os,w'=grow (putRow encStr (Sort.ahead w n) blk off (ss.mergeSort fun x y=>decide (x≤y)).toArray) os:=AnyM.slices_Sort_string Tryz.rY blk off cap ss w hH hblk hsz
open Go.RowKit Go.Sort in
theorem Tryz.slices_Sort_string_none (p:Option Addr) (cap:Nat) (w:World):
  Calls Tryz.prog 127 #[.slice p 0 cap] w fun e w'=>e= .returned (.tuple #[])∧w'=w:=AnyM.slices_Sort_string_none Tryz.rY p cap w
open Go.RowKit Go.Sort in
theorem Tryz.slices_Sort_int_none (p:Option Addr) (cap:Nat) (w:World):
  Calls Tryz.prog 158 #[.slice p 0 cap] w fun e w'=>e= .returned (.tuple #[])∧w'=w:=AnyM.slices_Sort_int_none Tryz.rX p cap w
def Tryz.tX:Go.Shelf.Ren:=⟨fun|6=>130|15=>162|14=>164|28=>186|29=>187|20=>188|21=>189|22=>190|23=>191|24=>192|25=>193|26=>194|27=>195|46=>220|47=>215|48=>216|49=>221|50=>222|57=>232|n=>n,fun|22=>122|24=>61|25=>161|3=>3|39=>171|0=>0|53=>192|55=>27|4=>4|46=>222|45=>221|50=>133|5=>5|9=>9|66=>258|70=>261|76=>272|77=>65|n=>n,fun|n=>n⟩
theorem Tryz.zZ:Go.Proofs.SlLaysF.n6 Tryz.prog Tryz.tX:={
 mixed:=by kernel_rfl
 f6:=⟨Tryz.f130.name,by decide,Tryz.func130.trans (congrArg some (by kernel_rfl))⟩
 f14:=⟨Tryz.f164.name,by decide,Tryz.func164.trans (congrArg some (by kernel_rfl))⟩
 f15:=Tryz.func162.trans (congrArg some (by kernel_rfl))
 f20:=⟨Tryz.f188.name,by decide,Tryz.func188.trans (congrArg some (by kernel_rfl))⟩
 f21:=⟨Tryz.f189.name,by decide,Tryz.func189.trans (congrArg some (by kernel_rfl))⟩
 f22:=⟨Tryz.f190.name,by decide,Tryz.func190.trans (congrArg some (by kernel_rfl))⟩
 f23:=⟨Tryz.f191.name,by decide,Tryz.func191.trans (congrArg some (by kernel_rfl))⟩
 f24:=⟨Tryz.f192.name,by decide,Tryz.func192.trans (congrArg some (by kernel_rfl))⟩
 f25:=⟨Tryz.f193.name,by decide,Tryz.func193.trans (congrArg some (by kernel_rfl))⟩
 f26:=⟨Tryz.f194.name,by decide,Tryz.func194.trans (congrArg some (by kernel_rfl))⟩
 f27:=⟨Tryz.f195.name,by decide,Tryz.func195.trans (congrArg some (by kernel_rfl))⟩
 f28:=Tryz.func186.trans (congrArg some (by kernel_rfl))
 f29:=Tryz.func187.trans (congrArg some (by kernel_rfl))
 f46:=⟨Tryz.f220.name,by decide,Tryz.func220.trans (congrArg some (by kernel_rfl))⟩
 f47:=Tryz.func215.trans (congrArg some (by kernel_rfl))
 f48:=Tryz.func216.trans (congrArg some (by kernel_rfl))
 f49:=⟨Tryz.f221.name,by decide,Tryz.func221.trans (congrArg some (by kernel_rfl))⟩
 f50:=⟨Tryz.f222.name,by decide,Tryz.func222.trans (congrArg some (by kernel_rfl))⟩
 f57:=⟨Tryz.f232.name,by decide,Tryz.func232.trans (congrArg some (by kernel_rfl))⟩
 t0:=Tryz.underlying0
 a0:=Tryz.isAgg0
 z0:=Tryz.sizeOf0
 v0:=Tryz.zeroValue0
 t3:=Tryz.underlying3
 a3:=Tryz.isAgg3
 z3:=Tryz.sizeOf3
 v3:=Tryz.zeroValue3
 t4:=Tryz.underlying4
 a4:=Tryz.isAgg4
 z4:=Tryz.sizeOf4
 v4:=Tryz.zeroValue4
 t5:=Tryz.underlying5
 a5:=Tryz.isAgg5
 z5:=Tryz.sizeOf5
 v5:=Tryz.zeroValue5
 t9:=Tryz.underlying9
 a9:=Tryz.isAgg9
 z9:=Tryz.sizeOf9
 v9:=Tryz.zeroValue9
 t22:=Tryz.underlying122
 a22:=Tryz.isAgg122
 z22:=Tryz.sizeOf122
 v22:=Tryz.zeroValue122
 a24:=Tryz.isAgg61
 z24:=Tryz.sizeOf61
 t25:=Tryz.underlying161
 a25:=Tryz.isAgg161
 z25:=Tryz.sizeOf161
 v25:=Tryz.zeroValue161
 t39:=Tryz.underlying171
 a39:=Tryz.isAgg171
 z39:=Tryz.sizeOf171
 v39:=Tryz.zeroValue171
 t45:=Tryz.underlying221
 a45:=Tryz.isAgg221
 z45:=Tryz.sizeOf221
 v45:=Tryz.zeroValue221
 t46:=Tryz.underlying222
 a46:=Tryz.isAgg222
 z46:=Tryz.sizeOf222
 v46:=Tryz.zeroValue222
 t50:=Tryz.underlying133
 a50:=Tryz.isAgg133
 z50:=Tryz.sizeOf133
 v50:=Tryz.zeroValue133
 t53:=Tryz.underlying192
 a53:=Tryz.isAgg192
 z53:=Tryz.sizeOf192
 v53:=Tryz.zeroValue192
 t55:=Tryz.underlying27
 a55:=Tryz.isAgg27
 z55:=Tryz.sizeOf27
 v55:=Tryz.zeroValue27
 t66:=Tryz.underlying258
 a66:=Tryz.isAgg258
 z66:=Tryz.sizeOf258
 v66:=Tryz.zeroValue258
 t70:=Tryz.underlying261
 a70:=Tryz.isAgg261
 z70:=Tryz.sizeOf261
 v70:=Tryz.zeroValue261
 t76:=Tryz.underlying272
 a76:=Tryz.isAgg272
 z76:=Tryz.sizeOf272
 v76:=Tryz.zeroValue272
 t77:=Tryz.underlying65
 a77:=Tryz.isAgg65
 z77:=Tryz.sizeOf65
 v77:=Tryz.zeroValue65}
open Go.RowKit Go.Lib Go.Sort in
theorem Tryz.slices_SortFunc {α:Type} [Inhabited α] (enc:α→Value) (h1:OneCell enc) (cf:α→α→Int) (hO:SWO (ltOf cf)) (g:Nat) (cb:Array Value) (blk off cap:Nat) (d:Array α) (w:World) (eg:∀args w,(callFunc g args).run Tryz.prog w= .ok (.enter g args) w) (hcmp:CmpLays1 Tryz.prog g cb enc cf blk off d.size w) (hH:Holds enc w blk off d) (hblk:blk<w.heap.size) (hsz:d.size<4611686018427387904):
  Calls Tryz.prog 130 #[.slice (some ⟨blk,off,none⟩) d.size cap, .func (.func g) #[] cb] w fun e w'=>
   e= .returned (.tuple #[])∧∃d' n os,PermIn 0 d.size d d'∧SortedIn (ltOf cf) 0 d.size d'∧w'=sortWorld enc w blk off n d' os:=Any.slices_SortFunc Tryz.zZ enc h1 cf hO g cb blk off cap d w eg hcmp hH hblk hsz
end Go.Proofs
