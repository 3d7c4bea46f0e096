/- DERIVED: THE SHELF's CONTRACTS AT THIS DUMP, IN PLAIN WORDS (tools/lay-plain.mjs out of 'TryzShelf.lean', which tools/lay-shelf.mjs wrote): THE SAME DECLARATIONS UNDER THE SAME NAMES: 'import', 'namespace', 'open', 'def', 'theorem' AND NOTHING ELSE: no command of the shelf's: FOR A HAND-IN. Each laying: the table of numbers ('.._ren') and one theorem, a field a fact of the dump's own or the kernel's comparison; each contract: ONE APPLICATION. -/
import Derived.Test.YtjnhnlabpccgjaaGreatProg
import Derived.Shelf.Strings.Builder1
import Derived.Shelf.Strings.Builder2
import Derived.Shelf.Strings.OnBuilder
import Derived.Shelf.Small.Bits
import Derived.Shelf.Small.Strs
import Derived.Shelf.Small.Wraps
import Derived.Shelf.Strings.BuilderF
import Derived.Shelf.Strings.BuilderK
import Derived.Shelf.Strings.Builder2Cap
import Derived.Shelf.Strconv.Itoa0
import Derived.Shelf.Strings.BuilderCap
import Derived.Shelf.Slices.Equal
import Derived.Ground.Names2Prog
import Derived.Shelf.Slices.Clone
import Derived.Shelf.Slices.SearchI
import Derived.Shelf.Slices.Empties2
import Derived.Ground.SlgnProg
import Derived.Shelf.SlicesE.Clone
import Derived.Ground.SlsfProg
import Derived.Shelf.SlSortCmp.Insertion
import Derived.Ground.SlgmProg
import Derived.Shelf.SortM.Plain
import Derived.Shelf.SortM.SortNone
import Derived.Shelf.SlSortCmp.SiftDown1
import Derived.Shelf.SlSortCmp.HeapSort1
import Derived.Shelf.SlSortCmp.Insertion1
import Derived.Shelf.SlSortCmp.Median1
import Derived.Shelf.SlSortCmp.Pivot1
import Derived.Shelf.SlSortCmp.ReverseRange1
import Derived.Shelf.SlSortCmp.PartialInsertion1
import Derived.Shelf.SlSortCmp.PartitionEqual1
import Derived.Shelf.SlSortCmp.Partition1
import Derived.Shelf.SlSortCmp.Pdq1
import Derived.Shelf.SlSortCmp.Whole1
namespace Go.Proofs
open Go.Shelf
def Tryz.AY:Go.Shelf.Ren:=⟨fun|16=>163|n=>n,fun|24=>61|9=>9|4=>4|n=>n,fun|n=>n⟩
theorem Tryz.BF:Go.Proofs.Lays2.n16 Tryz.prog Tryz.AY:={
 mixed:=by kernel_rfl
 f16:=Tryz.func163.trans (congrArg some (by kernel_rfl))
 t4:=Tryz.underlying4
 a4:=Tryz.isAgg4
 z4:=Tryz.sizeOf4
 v4:=Tryz.zeroValue4
 t9:=Tryz.underlying9
 a9:=Tryz.isAgg9
 z9:=Tryz.sizeOf9
 v9:=Tryz.zeroValue9
 t24:=Tryz.underlying61
 a24:=Tryz.isAgg61
 z24:=Tryz.sizeOf61
 v24:=Tryz.zeroValue61
 i9:=by kernel_rfl}
open Go.RowKit Go.Lib in
theorem Tryz.slices_Clone_string (b off n c:Nat) (zs:List ByteArray) (w:World) (hz:n≤zs.length) (hbig:n*16≤140737488355328) (hc:∀j,j<zs.length→w.cell? ⟨b,off+j,none⟩=some (.string (zs.getD j ByteArray.empty))):
  Calls Tryz.prog 163 #[.slice (some ⟨b,off,none⟩) n c] w fun e w'=>∃v',e= .returned v'∧w'.ownsRow w.heap.size 9 1 v' n ((zs.take n).map (Value.string))∧v'≠ .slice none 0 0∧Below w.heap.size w w':=Any.slices_Clone_string Tryz.BF b off n c zs w hz hbig hc
open Go.RowKit Go.Lib in
theorem Tryz.slices_Clone_string_zero (a:Addr) (c:Nat) (w:World):
  Calls Tryz.prog 163 #[.slice (some a) 0 c] w fun e w'=>∃v',e= .returned v'∧w'.ownsRow w.heap.size 9 1 v' 0 []∧v'≠ .slice none 0 0∧Below w.heap.size w w':=Any.slices_Clone_string_zero Tryz.BF a c w
def Tryz.ug:Go.Shelf.Ren:=⟨fun|5=>158|8=>162|7=>176|19=>186|20=>187|10=>205|11=>206|12=>207|13=>208|14=>209|15=>210|16=>211|17=>212|18=>213|30=>227|31=>215|32=>216|33=>228|34=>229|35=>230|40=>235|n=>n,fun|23=>41|25=>3|3=>3|32=>171|22=>41|0=>0|44=>192|46=>27|4=>4|36=>222|35=>221|41=>133|5=>5|9=>9|53=>258|57=>261|63=>272|64=>65|n=>n,fun|n=>n⟩
theorem Tryz.sK:Go.Proofs.SlLaysM.n5 Tryz.prog Tryz.ug:={
 mixed:=by kernel_rfl
 f5:=⟨Tryz.f158.name,by decide,Tryz.func158.trans (congrArg some (by kernel_rfl))⟩
 f7:=⟨Tryz.f176.name,by decide,Tryz.func176.trans (congrArg some (by kernel_rfl))⟩
 f8:=Tryz.func162.trans (congrArg some (by kernel_rfl))
 f10:=⟨Tryz.f205.name,by decide,Tryz.func205.trans (congrArg some (by kernel_rfl))⟩
 f11:=⟨Tryz.f206.name,by decide,Tryz.func206.trans (congrArg some (by kernel_rfl))⟩
 f12:=⟨Tryz.f207.name,by decide,Tryz.func207.trans (congrArg some (by kernel_rfl))⟩
 f13:=⟨Tryz.f208.name,by decide,Tryz.func208.trans (congrArg some (by kernel_rfl))⟩
 f14:=⟨Tryz.f209.name,by decide,Tryz.func209.trans (congrArg some (by kernel_rfl))⟩
 f15:=⟨Tryz.f210.name,by decide,Tryz.func210.trans (congrArg some (by kernel_rfl))⟩
 f16:=⟨Tryz.f211.name,by decide,Tryz.func211.trans (congrArg some (by kernel_rfl))⟩
 f17:=⟨Tryz.f212.name,by decide,Tryz.func212.trans (congrArg some (by kernel_rfl))⟩
 f18:=⟨Tryz.f213.name,by decide,Tryz.func213.trans (congrArg some (by kernel_rfl))⟩
 f19:=Tryz.func186.trans (congrArg some (by kernel_rfl))
 f20:=Tryz.func187.trans (congrArg some (by kernel_rfl))
 f30:=⟨Tryz.f227.name,by decide,Tryz.func227.trans (congrArg some (by kernel_rfl))⟩
 f31:=Tryz.func215.trans (congrArg some (by kernel_rfl))
 f32:=Tryz.func216.trans (congrArg some (by kernel_rfl))
 f33:=⟨Tryz.f228.name,by decide,Tryz.func228.trans (congrArg some (by kernel_rfl))⟩
 f34:=⟨Tryz.f229.name,by decide,Tryz.func229.trans (congrArg some (by kernel_rfl))⟩
 f35:=⟨Tryz.f230.name,by decide,Tryz.func230.trans (congrArg some (by kernel_rfl))⟩
 f40:=⟨Tryz.f235.name,by decide,Tryz.func235.trans (congrArg some (by kernel_rfl))⟩
 t0:=Tryz.underlying0
 a0:=Tryz.isAgg0
 z0:=Tryz.sizeOf0
 v0:=Tryz.zeroValue0
 t3:=Tryz.underlying3
 a3:=Tryz.isAgg3
 z3:=Tryz.sizeOf3
 v3:=Tryz.zeroValue3
 t4:=Tryz.underlying4
 a4:=Tryz.isAgg4
 z4:=Tryz.sizeOf4
 v4:=Tryz.zeroValue4
 t5:=Tryz.underlying5
 a5:=Tryz.isAgg5
 z5:=Tryz.sizeOf5
 v5:=Tryz.zeroValue5
 t9:=Tryz.underlying9
 a9:=Tryz.isAgg9
 z9:=Tryz.sizeOf9
 v9:=Tryz.zeroValue9
 t22:=Tryz.underlying41
 a22:=Tryz.isAgg41
 z22:=Tryz.sizeOf41
 v22:=Tryz.zeroValue41
 t23:=Tryz.underlying41
 a23:=Tryz.isAgg41
 z23:=Tryz.sizeOf41
 v23:=Tryz.zeroValue41
 t25:=Tryz.underlying3
 a25:=Tryz.isAgg3
 z25:=Tryz.sizeOf3
 v25:=Tryz.zeroValue3
 t32:=Tryz.underlying171
 a32:=Tryz.isAgg171
 z32:=Tryz.sizeOf171
 v32:=Tryz.zeroValue171
 t35:=Tryz.underlying221
 a35:=Tryz.isAgg221
 z35:=Tryz.sizeOf221
 v35:=Tryz.zeroValue221
 t36:=Tryz.underlying222
 a36:=Tryz.isAgg222
 z36:=Tryz.sizeOf222
 v36:=Tryz.zeroValue222
 t41:=Tryz.underlying133
 a41:=Tryz.isAgg133
 z41:=Tryz.sizeOf133
 v41:=Tryz.zeroValue133
 t44:=Tryz.underlying192
 a44:=Tryz.isAgg192
 z44:=Tryz.sizeOf192
 v44:=Tryz.zeroValue192
 t46:=Tryz.underlying27
 a46:=Tryz.isAgg27
 z46:=Tryz.sizeOf27
 v46:=Tryz.zeroValue27
 t53:=Tryz.underlying258
 a53:=Tryz.isAgg258
 z53:=Tryz.sizeOf258
 v53:=Tryz.zeroValue258
 t57:=Tryz.underlying261
 a57:=Tryz.isAgg261
 z57:=Tryz.sizeOf261
 v57:=Tryz.zeroValue261
 t63:=Tryz.underlying272
 a63:=Tryz.isAgg272
 z63:=Tryz.sizeOf272
 v63:=Tryz.zeroValue272
 t64:=Tryz.underlying65
 a64:=Tryz.isAgg65
 z64:=Tryz.sizeOf65
 v64:=Tryz.zeroValue65}
open Go.Sort Go.RowKit in
theorem Tryz.slices_Sort_int (blk off cap:Nat) (zs:List Int) (w:World) (hH:Holds (Value.int .i64) w blk off zs.toArray) (hblk:blk<w.heap.size) (hsz:zs.length<4611686018427387904):
  Calls Tryz.prog 158 #[.slice (some ⟨blk,off,none⟩) zs.length cap] w fun e w'=>
   e= .returned (.tuple #[])∧∃n os,w'=grow (putRow (Value.int .i64) (Sort.ahead w n) blk off (zs.mergeSort fun x y=>decide (x≤y)).toArray) os:=AnyM.slices_Sort_int Tryz.sK blk off cap zs w hH hblk hsz
def Tryz.uh:Go.Shelf.Ren:=⟨fun|6=>127|8=>162|9=>161|19=>186|20=>187|21=>177|22=>178|23=>179|24=>180|25=>181|26=>182|27=>183|28=>184|29=>185|36=>214|31=>215|32=>216|37=>217|38=>218|39=>219|41=>231|n=>n,fun|27=>61|29=>9|3=>3|32=>171|26=>61|0=>0|44=>192|46=>27|4=>4|36=>222|35=>221|41=>133|5=>5|9=>9|53=>258|57=>261|63=>272|64=>65|n=>n,fun|n=>n⟩
theorem Tryz.sM:Go.Proofs.SlLaysM.n6 Tryz.prog Tryz.uh:={
 mixed:=by kernel_rfl
 f6:=⟨Tryz.f127.name,by decide,Tryz.func127.trans (congrArg some (by kernel_rfl))⟩
 f8:=Tryz.func162.trans (congrArg some (by kernel_rfl))
 f9:=⟨Tryz.f161.name,by decide,Tryz.func161.trans (congrArg some (by kernel_rfl))⟩
 f19:=Tryz.func186.trans (congrArg some (by kernel_rfl))
 f20:=Tryz.func187.trans (congrArg some (by kernel_rfl))
 f21:=⟨Tryz.f177.name,by decide,Tryz.func177.trans (congrArg some (by kernel_rfl))⟩
 f22:=⟨Tryz.f178.name,by decide,Tryz.func178.trans (congrArg some (by kernel_rfl))⟩
 f23:=⟨Tryz.f179.name,by decide,Tryz.func179.trans (congrArg some (by kernel_rfl))⟩
 f24:=⟨Tryz.f180.name,by decide,Tryz.func180.trans (congrArg some (by kernel_rfl))⟩
 f25:=⟨Tryz.f181.name,by decide,Tryz.func181.trans (congrArg some (by kernel_rfl))⟩
 f26:=⟨Tryz.f182.name,by decide,Tryz.func182.trans (congrArg some (by kernel_rfl))⟩
 f27:=⟨Tryz.f183.name,by decide,Tryz.func183.trans (congrArg some (by kernel_rfl))⟩
 f28:=⟨Tryz.f184.name,by decide,Tryz.func184.trans (congrArg some (by kernel_rfl))⟩
 f29:=⟨Tryz.f185.name,by decide,Tryz.func185.trans (congrArg some (by kernel_rfl))⟩
 f31:=Tryz.func215.trans (congrArg some (by kernel_rfl))
 f32:=Tryz.func216.trans (congrArg some (by kernel_rfl))
 f36:=⟨Tryz.f214.name,by decide,Tryz.func214.trans (congrArg some (by kernel_rfl))⟩
 f37:=⟨Tryz.f217.name,by decide,Tryz.func217.trans (congrArg some (by kernel_rfl))⟩
 f38:=⟨Tryz.f218.name,by decide,Tryz.func218.trans (congrArg some (by kernel_rfl))⟩
 f39:=⟨Tryz.f219.name,by decide,Tryz.func219.trans (congrArg some (by kernel_rfl))⟩
 f41:=⟨Tryz.f231.name,by decide,Tryz.func231.trans (congrArg some (by kernel_rfl))⟩
 t0:=Tryz.underlying0
 a0:=Tryz.isAgg0
 z0:=Tryz.sizeOf0
 v0:=Tryz.zeroValue0
 t3:=Tryz.underlying3
 a3:=Tryz.isAgg3
 z3:=Tryz.sizeOf3
 v3:=Tryz.zeroValue3
 t4:=Tryz.underlying4
 a4:=Tryz.isAgg4
 z4:=Tryz.sizeOf4
 v4:=Tryz.zeroValue4
 t5:=Tryz.underlying5
 a5:=Tryz.isAgg5
 z5:=Tryz.sizeOf5
 v5:=Tryz.zeroValue5
 t9:=Tryz.underlying9
 a9:=Tryz.isAgg9
 z9:=Tryz.sizeOf9
 v9:=Tryz.zeroValue9
 t26:=Tryz.underlying61
 a26:=Tryz.isAgg61
 z26:=Tryz.sizeOf61
 v26:=Tryz.zeroValue61
 t27:=Tryz.underlying61
 a27:=Tryz.isAgg61
 z27:=Tryz.sizeOf61
 v27:=Tryz.zeroValue61
 t29:=Tryz.underlying9
 a29:=Tryz.isAgg9
 z29:=Tryz.sizeOf9
 v29:=Tryz.zeroValue9
 t32:=Tryz.underlying171
 a32:=Tryz.isAgg171
 z32:=Tryz.sizeOf171
 v32:=Tryz.zeroValue171
 t35:=Tryz.underlying221
 a35:=Tryz.isAgg221
 z35:=Tryz.sizeOf221
 v35:=Tryz.zeroValue221
 t36:=Tryz.underlying222
 a36:=Tryz.isAgg222
 z36:=Tryz.sizeOf222
 v36:=Tryz.zeroValue222
 t41:=Tryz.underlying133
 a41:=Tryz.isAgg133
 z41:=Tryz.sizeOf133
 v41:=Tryz.zeroValue133
 t44:=Tryz.underlying192
 a44:=Tryz.isAgg192
 z44:=Tryz.sizeOf192
 v44:=Tryz.zeroValue192
 t46:=Tryz.underlying27
 a46:=Tryz.isAgg27
 z46:=Tryz.sizeOf27
 v46:=Tryz.zeroValue27
 t53:=Tryz.underlying258
 a53:=Tryz.isAgg258
 z53:=Tryz.sizeOf258
 v53:=Tryz.zeroValue258
 t57:=Tryz.underlying261
 a57:=Tryz.isAgg261
 z57:=Tryz.sizeOf261
 v57:=Tryz.zeroValue261
 t63:=Tryz.underlying272
 a63:=Tryz.isAgg272
 z63:=Tryz.sizeOf272
 v63:=Tryz.zeroValue272
 t64:=Tryz.underlying65
 a64:=Tryz.isAgg65
 z64:=Tryz.sizeOf65
 v64:=Tryz.zeroValue65}
open Go.Sort Go.RowKit in
theorem Tryz.slices_Sort_string (blk off cap:Nat) (ss:List (List UInt8)) (w:World) (hH:Holds encStr w blk off ss.toArray) (hblk:blk<w.heap.size) (hsz:ss.length<4611686018427387904):
  Calls Tryz.prog 127 #[.slice (some ⟨blk,off,none⟩) ss.length cap] w fun e w'=>
   e= .returned (.tuple #[])∧∃n os,w'=grow (putRow encStr (Sort.ahead w n) blk off (ss.mergeSort fun x y=>decide (x≤y)).toArray) os:=AnyM.slices_Sort_string Tryz.sM blk off cap ss w hH hblk hsz
open Go.RowKit Go.Sort in
theorem Tryz.slices_Sort_string_none (p:Option Addr) (cap:Nat) (w:World):
  Calls Tryz.prog 127 #[.slice p 0 cap] w fun e w'=>e= .returned (.tuple #[])∧w'=w:=AnyM.slices_Sort_string_none Tryz.sM p cap w
open Go.RowKit Go.Sort in
theorem Tryz.slices_Sort_int_none (p:Option Addr) (cap:Nat) (w:World):
  Calls Tryz.prog 158 #[.slice p 0 cap] w fun e w'=>e= .returned (.tuple #[])∧w'=w:=AnyM.slices_Sort_int_none Tryz.sK p cap w
end Go.Proofs
