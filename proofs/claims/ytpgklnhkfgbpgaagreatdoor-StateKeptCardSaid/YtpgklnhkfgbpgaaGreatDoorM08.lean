/- DERIVED: THE SHELF's CONTRACTS AT THIS DUMP, IN PLAIN WORDS (tools/lay-plain.mjs out of 'TryzShelf.lean', which tools/lay-shelf.mjs wrote): THE SAME DECLARATIONS UNDER THE SAME NAMES: 'import', 'namespace', 'open', 'def', 'theorem' AND NOTHING ELSE: no command of the shelf's: FOR A HAND-IN. Each laying: the table of numbers ('.._ren') and one theorem, a field a fact of the dump's own or the kernel's comparison; each contract: ONE APPLICATION. -/
import Derived.Test.YtpgklnhkfgbpgaaGreatDoorProg
import Derived.Shelf.Strings.Builder1
import Derived.Shelf.Strings.Builder2
import Derived.Shelf.Strings.OnBuilder
import Derived.Shelf.Small.Bits
import Derived.Shelf.Small.Strs
import Derived.Shelf.Small.Wraps
import Derived.Shelf.Strings.BuilderF
import Derived.Shelf.Strings.BuilderK
import Derived.Shelf.Strings.Builder2Cap
import Derived.Shelf.Strconv.Itoa0
import Derived.Shelf.Strings.Search1
import Derived.Shelf.Strings.Search2
import Derived.Shelf.Strings.Search3
import Derived.Shelf.Strings.Count
import Derived.Shelf.LaysM
import Derived.Shelf.Strings.Shaped
import Derived.Shelf.Strings.Prefix
import Derived.Shelf.Strings.Split
import Derived.Shelf.Strings.SplitShaped
import Derived.Shelf.Unicode.DecodeSlow
import Derived.Shelf.Strings.BuilderCap
import Derived.Shelf.Slices.Equal
import Derived.Ground.Names2Prog
import Derived.Shelf.Slices.Clone
import Derived.Shelf.Slices.Empties2
import Derived.Ground.SlsfProg
import Derived.Shelf.SlSortCmp.Insertion
import Derived.Ground.SlgmProg
import Derived.Shelf.SortM.Plain
import Derived.Shelf.SortM.SortNone
import Derived.Shelf.SlSortCmp.SiftDown1
import Derived.Shelf.SlSortCmp.HeapSort1
import Derived.Shelf.SlSortCmp.Insertion1
import Derived.Shelf.SlSortCmp.Median1
import Derived.Shelf.SlSortCmp.Pivot1
import Derived.Shelf.SlSortCmp.ReverseRange1
import Derived.Shelf.SlSortCmp.PartialInsertion1
import Derived.Shelf.SlSortCmp.PartitionEqual1
import Derived.Shelf.SlSortCmp.Partition1
import Derived.Shelf.SlSortCmp.Pdq1
import Derived.Shelf.SlSortCmp.Whole1
namespace Go.Proofs
open Go.Shelf
def Tryz.lays156_ren : Go.Shelf.Ren := ⟨fun | 156 => 120 | 165 => 157 | 166 => 158 | 169 => 159 | 240 => 182 | 241 => 183 | 276 => 204 | 277 => 205 | n => n, fun | 31 => 28 | 9 => 9 | 3 => 3 | 4 => 4 | 0 => 0 | 20 => 20 | 72 => 200 | 76 => 203 | 70 => 198 | 37 => 22 | 75 => 202 | 127 => 230 | 164 => 247 | 5 => 5 | 80 => 205 | n => n, fun | n => n⟩
theorem Tryz.lays156 : Go.Proofs.Lays.n156 Tryz.prog Tryz.lays156_ren := {
  mixed := by kernel_rfl
  f156 := Tryz.func120.trans (congrArg some (by kernel_rfl))
  f165 := Tryz.func157.trans (congrArg some (by kernel_rfl))
  f166 := Tryz.func158.trans (congrArg some (by kernel_rfl))
  f169 := Tryz.func159.trans (congrArg some (by kernel_rfl))
  f240 := Tryz.func182.trans (congrArg some (by kernel_rfl))
  f241 := Tryz.func183.trans (congrArg some (by kernel_rfl))
  f276 := Tryz.func204.trans (congrArg some (by kernel_rfl))
  f277 := Tryz.func205.trans (congrArg some (by kernel_rfl))
  t0 := Tryz.underlying0
  a0 := Tryz.isAgg0
  z0 := Tryz.sizeOf0
  v0 := Tryz.zeroValue0
  t3 := Tryz.underlying3
  a3 := Tryz.isAgg3
  z3 := Tryz.sizeOf3
  v3 := Tryz.zeroValue3
  t4 := Tryz.underlying4
  a4 := Tryz.isAgg4
  z4 := Tryz.sizeOf4
  v4 := Tryz.zeroValue4
  t9 := Tryz.underlying9
  a9 := Tryz.isAgg9
  z9 := Tryz.sizeOf9
  v9 := Tryz.zeroValue9
  t20 := Tryz.underlying20
  a20 := Tryz.isAgg20
  z20 := Tryz.sizeOf20
  v20 := Tryz.zeroValue20
  t31 := Tryz.underlying28
  a31 := Tryz.isAgg28
  z31 := Tryz.sizeOf28
  v31 := Tryz.zeroValue28
  t37 := Tryz.underlying22
  a37 := Tryz.isAgg22
  z37 := Tryz.sizeOf22
  v37 := Tryz.zeroValue22
  t70 := Tryz.underlying198
  a70 := Tryz.isAgg198
  z70 := Tryz.sizeOf198
  v70 := Tryz.zeroValue198
  t72 := Tryz.underlying200
  a72 := Tryz.isAgg200
  z72 := Tryz.sizeOf200
  v72 := Tryz.zeroValue200
  t75 := Tryz.underlying202
  a75 := Tryz.isAgg202
  z75 := Tryz.sizeOf202
  v75 := Tryz.zeroValue202
  t76 := Tryz.underlying203
  a76 := Tryz.isAgg203
  z76 := Tryz.sizeOf203
  v76 := Tryz.zeroValue203
  t127 := Tryz.underlying230
  a127 := Tryz.isAgg230
  z127 := Tryz.sizeOf230
  v127 := Tryz.zeroValue230
  t164 := Tryz.underlying247
  a164 := Tryz.isAgg247
  z164 := Tryz.sizeOf247
  v164 := Tryz.zeroValue247 }
theorem Tryz.Builder_Extra_156 : Builder.Extra Tryz.prog Tryz.lays156_ren := {
  sizeBuilder := by kernel_rfl
  liesBuilder := by kernel_rfl
  t5 := Tryz.underlying5
  a5 := Tryz.isAgg5
  z5 := Tryz.sizeOf5
  v5 := Tryz.zeroValue5
  infoByte := by kernel_rfl
  cellsByte := by kernel_rfl
  sizeByte := by kernel_rfl
  neB5 := by decide }
open Go.RowKit in
/-- No element: the empty string; the world is as it was. (Whatever the slice's address and capacity: a nil slice too.) (LAID: no walk: one application.) -/
theorem Tryz.strings_Join_none (a : Option Addr) (c : Nat) (sep : ByteArray) (w : World) :
    Calls Tryz.prog 120 #[.slice a 0 c, .string sep] w fun e w' => e = .returned (.string ⟨#[]⟩) ∧ w' = w := Any.strings_Join_none Tryz.lays156 Tryz.Builder_Extra_156 a c sep w
open Go.RowKit in
/-- strings.Join: "Join concatenates the elements of its first argument to create a single string. The separator string sep is placed between elements in the resulting string.": HOWEVER MANY ELEMENTS. Below the heap's end the world is as it was. (LAID: no walk: one application.) -/
theorem Tryz.strings_Join (bk o c : Nat) (xs : List ByteArray) (sep : ByteArray) (w : World) (hcells : ∀ (j : Nat) x, xs[j]? = some x → w.cell? ⟨bk, o + j, none⟩ = some (.string x)) (hbk : bk < w.heap.size) (hN : xs.length ≤ 140737488355328) (hcap : xs.length ≤ c) (hlen : (Lib.join (xs.map (·.data.toList)) sep.data.toList).length ≤ 140737488355328) :
    Calls Tryz.prog 120 #[.slice (some ⟨bk, o, none⟩) xs.length c, .string sep] w fun e w' => e = .returned (.string ⟨(Lib.join (xs.map (·.data.toList)) sep.data.toList).toArray⟩) ∧ Below w.heap.size w w' := Any.strings_Join Tryz.lays156 Tryz.Builder_Extra_156 bk o c xs sep w hcells hbk hN hcap hlen
def Tryz.lays125_ren : Go.Shelf.Ren := ⟨fun | 125 => 118 | 128 => 154 | 129 => 155 | n => n, fun | 46 => 163 | 3 => 3 | 51 => 196 | 53 => 29 | 4 => 4 | 5 => 5 | 9 => 9 | n => n, fun | n => n⟩
theorem Tryz.lays125 : Go.Proofs.Lays.n125 Tryz.prog Tryz.lays125_ren := {
  mixed := by kernel_rfl
  f125 := Tryz.func118.trans (congrArg some (by kernel_rfl))
  f128 := Tryz.func154.trans (congrArg some (by kernel_rfl))
  f129 := Tryz.func155.trans (congrArg some (by kernel_rfl))
  t3 := Tryz.underlying3
  a3 := Tryz.isAgg3
  z3 := Tryz.sizeOf3
  v3 := Tryz.zeroValue3
  t4 := Tryz.underlying4
  a4 := Tryz.isAgg4
  z4 := Tryz.sizeOf4
  v4 := Tryz.zeroValue4
  t5 := Tryz.underlying5
  a5 := Tryz.isAgg5
  z5 := Tryz.sizeOf5
  v5 := Tryz.zeroValue5
  t9 := Tryz.underlying9
  a9 := Tryz.isAgg9
  z9 := Tryz.sizeOf9
  v9 := Tryz.zeroValue9
  t46 := Tryz.underlying163
  a46 := Tryz.isAgg163
  z46 := Tryz.sizeOf163
  v46 := Tryz.zeroValue163
  t51 := Tryz.underlying196
  a51 := Tryz.isAgg196
  z51 := Tryz.sizeOf196
  v51 := Tryz.zeroValue196
  t53 := Tryz.underlying29
  a53 := Tryz.isAgg29
  z53 := Tryz.sizeOf29
  v53 := Tryz.zeroValue29 }
/-- bits.Len: "Len returns the minimum number of bits required to represent x; the result is 0 for x == 0.": IT RETURNS 'Lib.bitLen x'; the world is as it was. (A uint has 64 bits in the model.) ITS CALLEE bits.Len64 IS MET BY ITS OWN CONTRACT OFF THE SHELF (lay that first). (LAID: no walk: one application.) -/
theorem Tryz.bits_Len (x : Int) (w : World) (h0 : 0 ≤ x) (h1 : x ≤ 18446744073709551615) :
    Calls Tryz.prog 118 #[.int .u64 x] w fun e w' => e = .returned (.int .i64 (Lib.bitLen x.toNat)) ∧ w' = w := Any.bits_Len Tryz.lays125 x w h0 h1
def Tryz.lays106_ren : Go.Shelf.Ren := ⟨fun | 106 => 75 | 213 => 119 | 265 => 156 | n => n, fun | 9 => 9 | 3 => 3 | n => n, fun | n => n⟩
theorem Tryz.lays106 : Go.Proofs.Lays.n106 Tryz.prog Tryz.lays106_ren := {
  mixed := by kernel_rfl
  f106 := Tryz.func75.trans (congrArg some (by kernel_rfl))
  f213 := Tryz.func119.trans (congrArg some (by kernel_rfl))
  f265 := Tryz.func156.trans (congrArg some (by kernel_rfl))
  t3 := Tryz.underlying3
  a3 := Tryz.isAgg3
  z3 := Tryz.sizeOf3
  v3 := Tryz.zeroValue3
  t9 := Tryz.underlying9
  a9 := Tryz.isAgg9
  z9 := Tryz.sizeOf9
  v9 := Tryz.zeroValue9 }
open Go.RowKit in
/-- strings.Compare: "Compare returns an integer comparing two strings lexicographically. The result will be 0 if a == b, -1 if a < b, and +1 if a > b.": IT RETURNS 'Lib.compareBytes a b'; the world is as it was. (LAID: no walk: one application.) -/
theorem Tryz.strings_Compare (a b : ByteArray) (w : World) :
    Calls Tryz.prog 75 #[.string a, .string b] w fun e w' => e = .returned (.int .i64 (Lib.compareBytes a.data.toList b.data.toList)) ∧ w' = w := Any.strings_Compare Tryz.lays106 a b w
def Tryz.lays103_ren : Go.Shelf.Ren := ⟨fun | 103 => 121 | 210 => 160 | 206 => 184 | n => n, fun | 9 => 9 | 4 => 4 | 24 => 165 | 3 => 3 | n => n, fun | n => n⟩
theorem Tryz.lays103 : Go.Proofs.Lays.n103 Tryz.prog Tryz.lays103_ren := {
  mixed := by kernel_rfl
  f103 := Tryz.func121.trans (congrArg some (by kernel_rfl))
  f206 := Tryz.func184.trans (congrArg some (by kernel_rfl))
  f210 := Tryz.func160.trans (congrArg some (by kernel_rfl))
  t3 := Tryz.underlying3
  a3 := Tryz.isAgg3
  z3 := Tryz.sizeOf3
  v3 := Tryz.zeroValue3
  t4 := Tryz.underlying4
  a4 := Tryz.isAgg4
  z4 := Tryz.sizeOf4
  v4 := Tryz.zeroValue4
  t9 := Tryz.underlying9
  a9 := Tryz.isAgg9
  z9 := Tryz.sizeOf9
  v9 := Tryz.zeroValue9
  t24 := Tryz.underlying165
  a24 := Tryz.isAgg165
  z24 := Tryz.sizeOf165
  v24 := Tryz.zeroValue165 }
open Go.RowKit in
/-- strings.CutPrefix: "CutPrefix returns s without the provided leading prefix string and reports whether it found the prefix. If s doesn't start with prefix, CutPrefix returns s, false. If prefix is the empty string, CutPrefix returns s, true.": IT RETURNS '(Lib.trimPrefix s p, Lib.hasPrefix s p)'; the world is as it was. (LAID: no walk: one application.) -/
theorem Tryz.strings_CutPrefix (s p : ByteArray) (w : World) :
    Calls Tryz.prog 121 #[.string s, .string p] w fun e w' => e = .returned (.tuple #[.string ⟨(Lib.trimPrefix s.data.toList p.data.toList).toArray⟩, .bool (Lib.hasPrefix s.data.toList p.data.toList)]) ∧ w' = w := Any.strings_CutPrefix Tryz.lays103 s p w
def Tryz.lays146_ren : Go.Shelf.Ren := ⟨fun | 146 => 122 | 221 => 161 | 268 => 185 | 138 => 186 | 143 => 187 | 195 => 206 | 197 => 207 | 218 => 208 | 219 => 209 | 260 => 215 | 217 => 216 | 225 => 217 | 224 => 218 | 267 => 219 | 266 => 221 | 314 => 222 | n => n, fun | 9 => 9 | 31 => 28 | 3 => 3 | 4 => 4 | 0 => 0 | 105 => 251 | 21 => 21 | 5 => 5 | 46 => 163 | 119 => 258 | 139 => 261 | 138 => 260 | 146 => 262 | 51 => 196 | n => n, fun | 1 => 0 | 3 => 1 | 4 => 2 | n => n⟩
theorem Tryz.lays146 : Go.Proofs.Lays.n146 Tryz.prog Tryz.lays146_ren := {
  mixed := by kernel_rfl
  f138 := Tryz.func186.trans (congrArg some (by kernel_rfl))
  f143 := Tryz.func187.trans (congrArg some (by kernel_rfl))
  f146 := Tryz.func122.trans (congrArg some (by kernel_rfl))
  f195 := Tryz.func206.trans (congrArg some (by kernel_rfl))
  f197 := Tryz.func207.trans (congrArg some (by kernel_rfl))
  f217 := Tryz.func216.trans (congrArg some (by kernel_rfl))
  f218 := Tryz.func208.trans (congrArg some (by kernel_rfl))
  f219 := Tryz.func209.trans (congrArg some (by kernel_rfl))
  f221 := Tryz.func161.trans (congrArg some (by kernel_rfl))
  f224 := Tryz.func218.trans (congrArg some (by kernel_rfl))
  f225 := Tryz.func217.trans (congrArg some (by kernel_rfl))
  f260 := Tryz.func215.trans (congrArg some (by kernel_rfl))
  f266 := Tryz.func221.trans (congrArg some (by kernel_rfl))
  f267 := Tryz.func219.trans (congrArg some (by kernel_rfl))
  f268 := Tryz.func185.trans (congrArg some (by kernel_rfl))
  f314 := Tryz.func222.trans (congrArg some (by kernel_rfl))
  t0 := Tryz.underlying0
  a0 := Tryz.isAgg0
  z0 := Tryz.sizeOf0
  v0 := Tryz.zeroValue0
  t3 := Tryz.underlying3
  a3 := Tryz.isAgg3
  z3 := Tryz.sizeOf3
  v3 := Tryz.zeroValue3
  t4 := Tryz.underlying4
  a4 := Tryz.isAgg4
  z4 := Tryz.sizeOf4
  v4 := Tryz.zeroValue4
  t5 := Tryz.underlying5
  a5 := Tryz.isAgg5
  z5 := Tryz.sizeOf5
  v5 := Tryz.zeroValue5
  t9 := Tryz.underlying9
  a9 := Tryz.isAgg9
  z9 := Tryz.sizeOf9
  v9 := Tryz.zeroValue9
  t21 := Tryz.underlying21
  a21 := Tryz.isAgg21
  z21 := Tryz.sizeOf21
  v21 := Tryz.zeroValue21
  t31 := Tryz.underlying28
  a31 := Tryz.isAgg28
  z31 := Tryz.sizeOf28
  v31 := Tryz.zeroValue28
  t46 := Tryz.underlying163
  a46 := Tryz.isAgg163
  z46 := Tryz.sizeOf163
  v46 := Tryz.zeroValue163
  t51 := Tryz.underlying196
  a51 := Tryz.isAgg196
  z51 := Tryz.sizeOf196
  v51 := Tryz.zeroValue196
  t105 := Tryz.underlying251
  a105 := Tryz.isAgg251
  z105 := Tryz.sizeOf251
  v105 := Tryz.zeroValue251
  t119 := Tryz.underlying258
  a119 := Tryz.isAgg258
  z119 := Tryz.sizeOf258
  t138 := Tryz.underlying260
  a138 := Tryz.isAgg260
  z138 := Tryz.sizeOf260
  v138 := Tryz.zeroValue260
  t139 := Tryz.underlying261
  a139 := Tryz.isAgg261
  z139 := Tryz.sizeOf261
  v139 := Tryz.zeroValue261
  t146 := Tryz.underlying262
  a146 := Tryz.isAgg262
  z146 := Tryz.sizeOf262
  v146 := Tryz.zeroValue262
  g1 := by kernel_rfl
  g3 := by kernel_rfl
  g4 := by kernel_rfl }
open Go.RowKit Go.Lib in
/-- strings.Split. (LAID: no walk: one application.) -/
theorem Tryz.strings_Split (s sep : ByteArray) (m : Int) (w : World) (hs : s.size < 4294967281) (hm : w.cell? ⟨0, 0, none⟩ = some (.int .i64 m)) (h1 : 1 ≤ sep.size) :
    Calls Tryz.prog 122 #[.string s, .string sep] w fun e w' =>
      e = .returned (.slice (some ⟨w.heap.size, 0, none⟩) (Lib.countB s sep + 1) (Lib.countB s sep + 1)) ∧ w' = w.alloc (.cells ((Lib.splitB sep 0 (Lib.countB s sep) s).map Value.string).toArray 9) := Any.strings_Split Tryz.lays146 (by kernel_rfl) s sep m w hs hm h1
def Tryz.lays193_ren : Go.Shelf.Ren := ⟨fun | 193 => 127 | n => n, fun | 31 => 28 | 9 => 9 | 4 => 4 | 3 => 3 | 0 => 0 | n => n, fun | n => n⟩
theorem Tryz.lays193 : Go.Proofs.Lays.n193 Tryz.prog Tryz.lays193_ren := {
  mixed := by kernel_rfl
  f193 := Tryz.func127.trans (congrArg some (by kernel_rfl))
  t0 := Tryz.underlying0
  a0 := Tryz.isAgg0
  z0 := Tryz.sizeOf0
  v0 := Tryz.zeroValue0
  t3 := Tryz.underlying3
  a3 := Tryz.isAgg3
  z3 := Tryz.sizeOf3
  v3 := Tryz.zeroValue3
  t4 := Tryz.underlying4
  a4 := Tryz.isAgg4
  z4 := Tryz.sizeOf4
  v4 := Tryz.zeroValue4
  t9 := Tryz.underlying9
  a9 := Tryz.isAgg9
  z9 := Tryz.sizeOf9
  v9 := Tryz.zeroValue9
  t31 := Tryz.underlying28
  a31 := Tryz.isAgg28
  z31 := Tryz.sizeOf28
  v31 := Tryz.zeroValue28 }
open Go.RowKit Go.Lib in
/-- slices.Equal at []string: "Equal reports whether two slices are equal: the same length and all elements equal. If the lengths are different, Equal returns false. Otherwise, the elements are compared in increasing index order, and the comparison stops at the first unequal pair. Empty and nil slices are considered equal.": IT RETURNS WHETHER THE TWO LISTS OF ELEMENTS ARE ONE; the world is as it was but for the count of draws (the test 's1[i] != s2[i]' has two reads, whose order the model draws, once a round). 'xs', 'ys': what the cells behind the two addresses hold (the spare capacity too, if you have it); 'xs.take n', 'ys.take m': the elements. THE TWO SLICES MAY OVERLAP. (LAID: no walk: one application.) -/
theorem Tryz.slices_Equal_string (b1 o1 n c b2 o2 m d : Nat) (xs ys : List ByteArray) (w : World) (hx : n ≤ xs.length) (hy : m ≤ ys.length) (hbig : n ≤ 9223372036854775807) (hbig2 : m ≤ 9223372036854775807) (hc1 : ∀ j, j < xs.length → w.cell? ⟨b1, o1 + j, none⟩ = some (.string (xs.getD j ByteArray.empty))) (hc2 : ∀ j, j < ys.length → w.cell? ⟨b2, o2 + j, none⟩ = some (.string (ys.getD j ByteArray.empty))) :
    Calls Tryz.prog 127 #[.slice (some ⟨b1, o1, none⟩) n c, .slice (some ⟨b2, o2, none⟩) m d] w fun e w' => e = .returned (.bool (decide (xs.take n = ys.take m))) ∧ ∃ q, w' = w.drewN q := Any.slices_Equal_string Tryz.lays193 b1 o1 n c b2 o2 m d xs ys w hx hy hbig hbig2 hc1 hc2
open Go.RowKit Go.Lib in
/-- The same where the first is of length 0 (a nil one too): no cell is asked for. (LAID: no walk: one application.) -/
theorem Tryz.slices_Equal_string_empty (a1 a2 : Option Addr) (c m d : Nat) (w : World) (hbig2 : m ≤ 9223372036854775807) :
    Calls Tryz.prog 127 #[.slice a1 0 c, .slice a2 m d] w fun e w' => e = .returned (.bool (decide (m = 0))) ∧ w' = w := Any.slices_Equal_string_empty Tryz.lays193 a1 a2 c m d w hbig2
def Tryz.laysNm216_ren : Go.Shelf.Ren := ⟨fun | 16 => 116 | n => n, fun | 24 => 28 | 9 => 9 | 4 => 4 | n => n, fun | n => n⟩
theorem Tryz.laysNm216 : Go.Proofs.Lays2.n16 Tryz.prog Tryz.laysNm216_ren := {
  mixed := by kernel_rfl
  f16 := Tryz.func116.trans (congrArg some (by kernel_rfl))
  t4 := Tryz.underlying4
  a4 := Tryz.isAgg4
  z4 := Tryz.sizeOf4
  v4 := Tryz.zeroValue4
  t9 := Tryz.underlying9
  a9 := Tryz.isAgg9
  z9 := Tryz.sizeOf9
  v9 := Tryz.zeroValue9
  t24 := Tryz.underlying28
  a24 := Tryz.isAgg28
  z24 := Tryz.sizeOf28
  v24 := Tryz.zeroValue28
  i9 := by kernel_rfl }
open Go.RowKit Go.Lib in
/-- slices.Clone at []string: "Clone returns a copy of the slice. The elements are copied using assignment, so this is a shallow clone. The result may have additional unused capacity. The result preserves the nilness of s.": OF A SLICE THAT IS NOT nil IT RETURNS A SLICE THAT IS NOT nil, OF THE SAME ELEMENTS, IN MEMORY OF THE CALL's OWN: in the how-to's words (6f): 'w'.ownsRow B e 1 v' n cells': v' begins at the head of a row among the blocks from B on (B: the heap's size at the call), not frozen, whose first cells are the elements · 'Below B w w'': below B all is as it was. The capacity is whatever the run-time gives. 'zs': what the cells behind the slice's address hold; 'zs.take n': its elements. (LAID: no walk: one application.) -/
theorem Tryz.slices_Clone_string (b off n c : Nat) (zs : List ByteArray) (w : World) (hz : n ≤ zs.length) (hbig : n * 16 ≤ 140737488355328) (hc : ∀ j, j < zs.length → w.cell? ⟨b, off + j, none⟩ = some (.string (zs.getD j ByteArray.empty))) :
    Calls Tryz.prog 116 #[.slice (some ⟨b, off, none⟩) n c] w fun e w' => ∃ v', e = .returned v' ∧ w'.ownsRow w.heap.size 9 1 v' n ((zs.take n).map (Value.string)) ∧ v' ≠ .slice none 0 0 ∧ Below w.heap.size w w' := Any.slices_Clone_string Tryz.laysNm216 b off n c zs w hz hbig hc
open Go.RowKit Go.Lib in
/-- The same at nil: nil comes back; the world is as it was. (LAID: no walk: one application.) -/
theorem Tryz.slices_Clone_string_nil (n c : Nat) (w : World) :
    Calls Tryz.prog 116 #[.slice none n c] w fun e w' => e = .returned (.slice none 0 0) ∧ w' = w := Any.slices_Clone_string_nil Tryz.laysNm216 n c w
open Go.RowKit Go.Lib in
/-- The same at a slice of length 0 that is not nil, WHATEVER ITS ADDRESS (no cell is asked for): a slice that is not nil and owns nothing comes back. (LAID: no walk: one application.) -/
theorem Tryz.slices_Clone_string_zero (a : Addr) (c : Nat) (w : World) :
    Calls Tryz.prog 116 #[.slice (some a) 0 c] w fun e w' => ∃ v', e = .returned v' ∧ w'.ownsRow w.heap.size 9 1 v' 0 [] ∧ v' ≠ .slice none 0 0 ∧ Below w.heap.size w w' := Any.slices_Clone_string_zero Tryz.laysNm216 a c w
open Go.RowKit Go.Lib in
theorem Tryz.slices_Equal_string_lens (a1 a2 : Option Addr) (n c m d : Nat) (w : World) (hnm : n ≠ m) :
    Calls Tryz.prog 127 #[.slice a1 n c, .slice a2 m d] w fun e w' => e = .returned (.bool false) ∧ w' = w := Any.slices_Equal_string_lens Tryz.lays193 a1 a2 n c m d w hnm
def Tryz.laysSlM5_f142_ren : Go.Shelf.Ren := ⟨fun | 5 => 142 | 8 => 118 | 7 => 167 | 19 => 154 | 20 => 155 | 10 => 190 | 11 => 191 | 12 => 192 | 13 => 193 | 14 => 194 | 15 => 195 | 16 => 196 | 17 => 197 | 18 => 198 | 30 => 210 | 31 => 178 | 32 => 179 | 33 => 211 | 34 => 212 | 35 => 213 | 40 => 220 | n => n, fun | 23 => 46 | 25 => 3 | 3 => 3 | 32 => 163 | 22 => 46 | 0 => 0 | 44 => 196 | 46 => 29 | 4 => 4 | 36 => 190 | 35 => 189 | 41 => 94 | 5 => 5 | 9 => 9 | 53 => 225 | 57 => 228 | 63 => 244 | 64 => 245 | n => n, fun | n => n⟩
theorem Tryz.laysSlM5_f142 : Go.Proofs.SlLaysM.n5 Tryz.prog Tryz.laysSlM5_f142_ren := {
  mixed := by kernel_rfl
  f5 := ⟨Tryz.f142.name, by decide, Tryz.func142.trans (congrArg some (by kernel_rfl))⟩
  f7 := ⟨Tryz.f167.name, by decide, Tryz.func167.trans (congrArg some (by kernel_rfl))⟩
  f8 := Tryz.func118.trans (congrArg some (by kernel_rfl))
  f10 := ⟨Tryz.f190.name, by decide, Tryz.func190.trans (congrArg some (by kernel_rfl))⟩
  f11 := ⟨Tryz.f191.name, by decide, Tryz.func191.trans (congrArg some (by kernel_rfl))⟩
  f12 := ⟨Tryz.f192.name, by decide, Tryz.func192.trans (congrArg some (by kernel_rfl))⟩
  f13 := ⟨Tryz.f193.name, by decide, Tryz.func193.trans (congrArg some (by kernel_rfl))⟩
  f14 := ⟨Tryz.f194.name, by decide, Tryz.func194.trans (congrArg some (by kernel_rfl))⟩
  f15 := ⟨Tryz.f195.name, by decide, Tryz.func195.trans (congrArg some (by kernel_rfl))⟩
  f16 := ⟨Tryz.f196.name, by decide, Tryz.func196.trans (congrArg some (by kernel_rfl))⟩
  f17 := ⟨Tryz.f197.name, by decide, Tryz.func197.trans (congrArg some (by kernel_rfl))⟩
  f18 := ⟨Tryz.f198.name, by decide, Tryz.func198.trans (congrArg some (by kernel_rfl))⟩
  f19 := Tryz.func154.trans (congrArg some (by kernel_rfl))
  f20 := Tryz.func155.trans (congrArg some (by kernel_rfl))
  f30 := ⟨Tryz.f210.name, by decide, Tryz.func210.trans (congrArg some (by kernel_rfl))⟩
  f31 := Tryz.func178.trans (congrArg some (by kernel_rfl))
  f32 := Tryz.func179.trans (congrArg some (by kernel_rfl))
  f33 := ⟨Tryz.f211.name, by decide, Tryz.func211.trans (congrArg some (by kernel_rfl))⟩
  f34 := ⟨Tryz.f212.name, by decide, Tryz.func212.trans (congrArg some (by kernel_rfl))⟩
  f35 := ⟨Tryz.f213.name, by decide, Tryz.func213.trans (congrArg some (by kernel_rfl))⟩
  f40 := ⟨Tryz.f220.name, by decide, Tryz.func220.trans (congrArg some (by kernel_rfl))⟩
  t0 := Tryz.underlying0
  a0 := Tryz.isAgg0
  z0 := Tryz.sizeOf0
  v0 := Tryz.zeroValue0
  t3 := Tryz.underlying3
  a3 := Tryz.isAgg3
  z3 := Tryz.sizeOf3
  v3 := Tryz.zeroValue3
  t4 := Tryz.underlying4
  a4 := Tryz.isAgg4
  z4 := Tryz.sizeOf4
  v4 := Tryz.zeroValue4
  t5 := Tryz.underlying5
  a5 := Tryz.isAgg5
  z5 := Tryz.sizeOf5
  v5 := Tryz.zeroValue5
  t9 := Tryz.underlying9
  a9 := Tryz.isAgg9
  z9 := Tryz.sizeOf9
  v9 := Tryz.zeroValue9
  t22 := Tryz.underlying46
  a22 := Tryz.isAgg46
  z22 := Tryz.sizeOf46
  v22 := Tryz.zeroValue46
  t23 := Tryz.underlying46
  a23 := Tryz.isAgg46
  z23 := Tryz.sizeOf46
  v23 := Tryz.zeroValue46
  t25 := Tryz.underlying3
  a25 := Tryz.isAgg3
  z25 := Tryz.sizeOf3
  v25 := Tryz.zeroValue3
  t32 := Tryz.underlying163
  a32 := Tryz.isAgg163
  z32 := Tryz.sizeOf163
  v32 := Tryz.zeroValue163
  t35 := Tryz.underlying189
  a35 := Tryz.isAgg189
  z35 := Tryz.sizeOf189
  v35 := Tryz.zeroValue189
  t36 := Tryz.underlying190
  a36 := Tryz.isAgg190
  z36 := Tryz.sizeOf190
  v36 := Tryz.zeroValue190
  t41 := Tryz.underlying94
  a41 := Tryz.isAgg94
  z41 := Tryz.sizeOf94
  v41 := Tryz.zeroValue94
  t44 := Tryz.underlying196
  a44 := Tryz.isAgg196
  z44 := Tryz.sizeOf196
  v44 := Tryz.zeroValue196
  t46 := Tryz.underlying29
  a46 := Tryz.isAgg29
  z46 := Tryz.sizeOf29
  v46 := Tryz.zeroValue29
  t53 := Tryz.underlying225
  a53 := Tryz.isAgg225
  z53 := Tryz.sizeOf225
  v53 := Tryz.zeroValue225
  t57 := Tryz.underlying228
  a57 := Tryz.isAgg228
  z57 := Tryz.sizeOf228
  v57 := Tryz.zeroValue228
  t63 := Tryz.underlying244
  a63 := Tryz.isAgg244
  z63 := Tryz.sizeOf244
  v63 := Tryz.zeroValue244
  t64 := Tryz.underlying245
  a64 := Tryz.isAgg245
  z64 := Tryz.sizeOf245
  v64 := Tryz.zeroValue245 }
open Go.Sort Go.RowKit in
theorem Tryz.slices_Sort_int (blk off cap : Nat) (zs : List Int) (w : World) (hH : Holds (Value.int .i64) w blk off zs.toArray) (hblk : blk < w.heap.size) (hsz : zs.length < 4611686018427387904) :
    Calls Tryz.prog 142 #[.slice (some ⟨blk, off, none⟩) zs.length cap] w fun e w' =>
      e = .returned (.tuple #[]) ∧ ∃ n os, w' = grow (putRow (Value.int .i64) (Sort.ahead w n) blk off (zs.mergeSort fun x y => decide (x ≤ y)).toArray) os := AnyM.slices_Sort_int Tryz.laysSlM5_f142 blk off cap zs w hH hblk hsz
def Tryz.laysSlM6_f114_ren : Go.Shelf.Ren := ⟨fun | 6 => 114 | 8 => 118 | 9 => 145 | 19 => 154 | 20 => 155 | 21 => 168 | 22 => 169 | 23 => 170 | 24 => 171 | 25 => 172 | 26 => 173 | 27 => 174 | 28 => 175 | 29 => 176 | 36 => 199 | 31 => 178 | 32 => 179 | 37 => 200 | 38 => 201 | 39 => 202 | 41 => 214 | n => n, fun | 27 => 28 | 29 => 9 | 3 => 3 | 32 => 163 | 26 => 28 | 0 => 0 | 44 => 196 | 46 => 29 | 4 => 4 | 36 => 190 | 35 => 189 | 41 => 94 | 5 => 5 | 9 => 9 | 53 => 225 | 57 => 228 | 63 => 244 | 64 => 245 | n => n, fun | n => n⟩
theorem Tryz.laysSlM6_f114 : Go.Proofs.SlLaysM.n6 Tryz.prog Tryz.laysSlM6_f114_ren := {
  mixed := by kernel_rfl
  f6 := ⟨Tryz.f114.name, by decide, Tryz.func114.trans (congrArg some (by kernel_rfl))⟩
  f8 := Tryz.func118.trans (congrArg some (by kernel_rfl))
  f9 := ⟨Tryz.f145.name, by decide, Tryz.func145.trans (congrArg some (by kernel_rfl))⟩
  f19 := Tryz.func154.trans (congrArg some (by kernel_rfl))
  f20 := Tryz.func155.trans (congrArg some (by kernel_rfl))
  f21 := ⟨Tryz.f168.name, by decide, Tryz.func168.trans (congrArg some (by kernel_rfl))⟩
  f22 := ⟨Tryz.f169.name, by decide, Tryz.func169.trans (congrArg some (by kernel_rfl))⟩
  f23 := ⟨Tryz.f170.name, by decide, Tryz.func170.trans (congrArg some (by kernel_rfl))⟩
  f24 := ⟨Tryz.f171.name, by decide, Tryz.func171.trans (congrArg some (by kernel_rfl))⟩
  f25 := ⟨Tryz.f172.name, by decide, Tryz.func172.trans (congrArg some (by kernel_rfl))⟩
  f26 := ⟨Tryz.f173.name, by decide, Tryz.func173.trans (congrArg some (by kernel_rfl))⟩
  f27 := ⟨Tryz.f174.name, by decide, Tryz.func174.trans (congrArg some (by kernel_rfl))⟩
  f28 := ⟨Tryz.f175.name, by decide, Tryz.func175.trans (congrArg some (by kernel_rfl))⟩
  f29 := ⟨Tryz.f176.name, by decide, Tryz.func176.trans (congrArg some (by kernel_rfl))⟩
  f31 := Tryz.func178.trans (congrArg some (by kernel_rfl))
  f32 := Tryz.func179.trans (congrArg some (by kernel_rfl))
  f36 := ⟨Tryz.f199.name, by decide, Tryz.func199.trans (congrArg some (by kernel_rfl))⟩
  f37 := ⟨Tryz.f200.name, by decide, Tryz.func200.trans (congrArg some (by kernel_rfl))⟩
  f38 := ⟨Tryz.f201.name, by decide, Tryz.func201.trans (congrArg some (by kernel_rfl))⟩
  f39 := ⟨Tryz.f202.name, by decide, Tryz.func202.trans (congrArg some (by kernel_rfl))⟩
  f41 := ⟨Tryz.f214.name, by decide, Tryz.func214.trans (congrArg some (by kernel_rfl))⟩
  t0 := Tryz.underlying0
  a0 := Tryz.isAgg0
  z0 := Tryz.sizeOf0
  v0 := Tryz.zeroValue0
  t3 := Tryz.underlying3
  a3 := Tryz.isAgg3
  z3 := Tryz.sizeOf3
  v3 := Tryz.zeroValue3
  t4 := Tryz.underlying4
  a4 := Tryz.isAgg4
  z4 := Tryz.sizeOf4
  v4 := Tryz.zeroValue4
  t5 := Tryz.underlying5
  a5 := Tryz.isAgg5
  z5 := Tryz.sizeOf5
  v5 := Tryz.zeroValue5
  t9 := Tryz.underlying9
  a9 := Tryz.isAgg9
  z9 := Tryz.sizeOf9
  v9 := Tryz.zeroValue9
  t26 := Tryz.underlying28
  a26 := Tryz.isAgg28
  z26 := Tryz.sizeOf28
  v26 := Tryz.zeroValue28
  t27 := Tryz.underlying28
  a27 := Tryz.isAgg28
  z27 := Tryz.sizeOf28
  v27 := Tryz.zeroValue28
  t29 := Tryz.underlying9
  a29 := Tryz.isAgg9
  z29 := Tryz.sizeOf9
  v29 := Tryz.zeroValue9
  t32 := Tryz.underlying163
  a32 := Tryz.isAgg163
  z32 := Tryz.sizeOf163
  v32 := Tryz.zeroValue163
  t35 := Tryz.underlying189
  a35 := Tryz.isAgg189
  z35 := Tryz.sizeOf189
  v35 := Tryz.zeroValue189
  t36 := Tryz.underlying190
  a36 := Tryz.isAgg190
  z36 := Tryz.sizeOf190
  v36 := Tryz.zeroValue190
  t41 := Tryz.underlying94
  a41 := Tryz.isAgg94
  z41 := Tryz.sizeOf94
  v41 := Tryz.zeroValue94
  t44 := Tryz.underlying196
  a44 := Tryz.isAgg196
  z44 := Tryz.sizeOf196
  v44 := Tryz.zeroValue196
  t46 := Tryz.underlying29
  a46 := Tryz.isAgg29
  z46 := Tryz.sizeOf29
  v46 := Tryz.zeroValue29
  t53 := Tryz.underlying225
  a53 := Tryz.isAgg225
  z53 := Tryz.sizeOf225
  v53 := Tryz.zeroValue225
  t57 := Tryz.underlying228
  a57 := Tryz.isAgg228
  z57 := Tryz.sizeOf228
  v57 := Tryz.zeroValue228
  t63 := Tryz.underlying244
  a63 := Tryz.isAgg244
  z63 := Tryz.sizeOf244
  v63 := Tryz.zeroValue244
  t64 := Tryz.underlying245
  a64 := Tryz.isAgg245
  z64 := Tryz.sizeOf245
  v64 := Tryz.zeroValue245 }
open Go.Sort Go.RowKit in
theorem Tryz.slices_Sort_string (blk off cap : Nat) (ss : List (List UInt8)) (w : World) (hH : Holds encStr w blk off ss.toArray) (hblk : blk < w.heap.size) (hsz : ss.length < 4611686018427387904) :
    Calls Tryz.prog 114 #[.slice (some ⟨blk, off, none⟩) ss.length cap] w fun e w' =>
      e = .returned (.tuple #[]) ∧ ∃ n os, w' = grow (putRow encStr (Sort.ahead w n) blk off (ss.mergeSort fun x y => decide (x ≤ y)).toArray) os := AnyM.slices_Sort_string Tryz.laysSlM6_f114 blk off cap ss w hH hblk hsz
open Go.RowKit Go.Sort in
/-- .. and plain. (LAID AT THE INSTANCE 'slices.Sort[[]string,string]': no walk: one application.) -/
theorem Tryz.slices_Sort_string_none (p : Option Addr) (cap : Nat) (w : World) :
    Calls Tryz.prog 114 #[.slice p 0 cap] w fun e w' => e = .returned (.tuple #[]) ∧ w' = w := AnyM.slices_Sort_string_none Tryz.laysSlM6_f114 p cap w
open Go.RowKit Go.Sort in
/-- .. and plain. (LAID AT THE INSTANCE 'slices.Sort[[]int,int]': no walk: one application.) -/
theorem Tryz.slices_Sort_int_none (p : Option Addr) (cap : Nat) (w : World) :
    Calls Tryz.prog 142 #[.slice p 0 cap] w fun e w' => e = .returned (.tuple #[]) ∧ w' = w := AnyM.slices_Sort_int_none Tryz.laysSlM5_f142 p cap w
def Tryz.laysSlF6_f73_ren : Go.Shelf.Ren := ⟨fun | 6 => 73 | 15 => 118 | 14 => 117 | 28 => 154 | 29 => 155 | 20 => 146 | 21 => 147 | 22 => 148 | 23 => 149 | 24 => 150 | 25 => 151 | 26 => 152 | 27 => 153 | 46 => 177 | 47 => 178 | 48 => 179 | 49 => 180 | 50 => 181 | 57 => 203 | n => n, fun | 22 => 62 | 24 => 28 | 25 => 120 | 3 => 3 | 39 => 163 | 0 => 0 | 53 => 196 | 55 => 29 | 4 => 4 | 46 => 190 | 45 => 189 | 50 => 94 | 5 => 5 | 9 => 9 | 66 => 225 | 70 => 228 | 76 => 244 | 77 => 245 | n => n, fun | n => n⟩
theorem Tryz.laysSlF6_f73 : Go.Proofs.SlLaysF.n6 Tryz.prog Tryz.laysSlF6_f73_ren := {
  mixed := by kernel_rfl
  f6 := ⟨Tryz.f73.name, by decide, Tryz.func73.trans (congrArg some (by kernel_rfl))⟩
  f14 := ⟨Tryz.f117.name, by decide, Tryz.func117.trans (congrArg some (by kernel_rfl))⟩
  f15 := Tryz.func118.trans (congrArg some (by kernel_rfl))
  f20 := ⟨Tryz.f146.name, by decide, Tryz.func146.trans (congrArg some (by kernel_rfl))⟩
  f21 := ⟨Tryz.f147.name, by decide, Tryz.func147.trans (congrArg some (by kernel_rfl))⟩
  f22 := ⟨Tryz.f148.name, by decide, Tryz.func148.trans (congrArg some (by kernel_rfl))⟩
  f23 := ⟨Tryz.f149.name, by decide, Tryz.func149.trans (congrArg some (by kernel_rfl))⟩
  f24 := ⟨Tryz.f150.name, by decide, Tryz.func150.trans (congrArg some (by kernel_rfl))⟩
  f25 := ⟨Tryz.f151.name, by decide, Tryz.func151.trans (congrArg some (by kernel_rfl))⟩
  f26 := ⟨Tryz.f152.name, by decide, Tryz.func152.trans (congrArg some (by kernel_rfl))⟩
  f27 := ⟨Tryz.f153.name, by decide, Tryz.func153.trans (congrArg some (by kernel_rfl))⟩
  f28 := Tryz.func154.trans (congrArg some (by kernel_rfl))
  f29 := Tryz.func155.trans (congrArg some (by kernel_rfl))
  f46 := ⟨Tryz.f177.name, by decide, Tryz.func177.trans (congrArg some (by kernel_rfl))⟩
  f47 := Tryz.func178.trans (congrArg some (by kernel_rfl))
  f48 := Tryz.func179.trans (congrArg some (by kernel_rfl))
  f49 := ⟨Tryz.f180.name, by decide, Tryz.func180.trans (congrArg some (by kernel_rfl))⟩
  f50 := ⟨Tryz.f181.name, by decide, Tryz.func181.trans (congrArg some (by kernel_rfl))⟩
  f57 := ⟨Tryz.f203.name, by decide, Tryz.func203.trans (congrArg some (by kernel_rfl))⟩
  t0 := Tryz.underlying0
  a0 := Tryz.isAgg0
  z0 := Tryz.sizeOf0
  v0 := Tryz.zeroValue0
  t3 := Tryz.underlying3
  a3 := Tryz.isAgg3
  z3 := Tryz.sizeOf3
  v3 := Tryz.zeroValue3
  t4 := Tryz.underlying4
  a4 := Tryz.isAgg4
  z4 := Tryz.sizeOf4
  v4 := Tryz.zeroValue4
  t5 := Tryz.underlying5
  a5 := Tryz.isAgg5
  z5 := Tryz.sizeOf5
  v5 := Tryz.zeroValue5
  t9 := Tryz.underlying9
  a9 := Tryz.isAgg9
  z9 := Tryz.sizeOf9
  v9 := Tryz.zeroValue9
  t22 := Tryz.underlying62
  a22 := Tryz.isAgg62
  z22 := Tryz.sizeOf62
  v22 := Tryz.zeroValue62
  a24 := Tryz.isAgg28
  z24 := Tryz.sizeOf28
  t25 := Tryz.underlying120
  a25 := Tryz.isAgg120
  z25 := Tryz.sizeOf120
  v25 := Tryz.zeroValue120
  t39 := Tryz.underlying163
  a39 := Tryz.isAgg163
  z39 := Tryz.sizeOf163
  v39 := Tryz.zeroValue163
  t45 := Tryz.underlying189
  a45 := Tryz.isAgg189
  z45 := Tryz.sizeOf189
  v45 := Tryz.zeroValue189
  t46 := Tryz.underlying190
  a46 := Tryz.isAgg190
  z46 := Tryz.sizeOf190
  v46 := Tryz.zeroValue190
  t50 := Tryz.underlying94
  a50 := Tryz.isAgg94
  z50 := Tryz.sizeOf94
  v50 := Tryz.zeroValue94
  t53 := Tryz.underlying196
  a53 := Tryz.isAgg196
  z53 := Tryz.sizeOf196
  v53 := Tryz.zeroValue196
  t55 := Tryz.underlying29
  a55 := Tryz.isAgg29
  z55 := Tryz.sizeOf29
  v55 := Tryz.zeroValue29
  t66 := Tryz.underlying225
  a66 := Tryz.isAgg225
  z66 := Tryz.sizeOf225
  v66 := Tryz.zeroValue225
  t70 := Tryz.underlying228
  a70 := Tryz.isAgg228
  z70 := Tryz.sizeOf228
  v70 := Tryz.zeroValue228
  t76 := Tryz.underlying244
  a76 := Tryz.isAgg244
  z76 := Tryz.sizeOf244
  v76 := Tryz.zeroValue244
  t77 := Tryz.underlying245
  a77 := Tryz.isAgg245
  z77 := Tryz.sizeOf245
  v77 := Tryz.zeroValue245 }
open Go.RowKit Go.Lib Go.Sort in
/-- **slices.SortFunc, IN THE DOCUMENTATION's OWN TERMS: A PERMUTATION OF WHAT THE ROW HELD, SORTED BY 'cmp(a, b) < 0'.** Which of two equals comes first is left open ("The sort is not guaranteed to be stable"). (LAID AT THE INSTANCE 'slices.SortFunc[[][]string,[]string]': no walk: one application.) -/
theorem Tryz.slices_SortFunc {α : Type} [Inhabited α] (enc : α → Value) (h1 : OneCell enc) (cf : α → α → Int) (hO : SWO (ltOf cf)) (g : Nat) (cb : Array Value) (blk off cap : Nat) (d : Array α) (w : World) (eg : ∀ args w, (callFunc g args).run Tryz.prog w = .ok (.enter g args) w) (hcmp : CmpLays1 Tryz.prog g cb enc cf blk off d.size w) (hH : Holds enc w blk off d) (hblk : blk < w.heap.size) (hsz : d.size < 4611686018427387904) :
    Calls Tryz.prog 73 #[.slice (some ⟨blk, off, none⟩) d.size cap, .func (.func g) #[] cb] w fun e w' =>
      e = .returned (.tuple #[]) ∧ ∃ d' n os, PermIn 0 d.size d d' ∧ SortedIn (ltOf cf) 0 d.size d' ∧ w' = sortWorld enc w blk off n d' os := Any.slices_SortFunc Tryz.laysSlF6_f73 enc h1 cf hO g cb blk off cap d w eg hcmp hH hblk hsz
end Go.Proofs
