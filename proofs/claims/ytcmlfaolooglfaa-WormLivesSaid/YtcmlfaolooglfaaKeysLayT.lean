/-
  DERIVED: THE SHELF's CONTRACTS AT THIS DUMP, IN PLAIN WORDS (tools/lay-plain.mjs out of 'YtcmlfaolooglfaaLaypKeysLayT.lean', which tools/lay-shelf.mjs wrote): THE SAME DECLARATIONS UNDER THE SAME NAMES: 'import', 'namespace', 'open', 'def', 'theorem' AND NOTHING ELSE: no command of the shelf's: FOR A HAND-IN. Each laying: the table of numbers ('.._ren') and one theorem, a field a fact of the dump's own or the kernel's comparison; each contract: ONE APPLICATION.
-/
import Derived.Shelf.SlIterI.Nil
import Derived.Shelf.SlIterI.Sorted
import Derived.Shelf.SortM.Plain
import Derived.Shelf.SortM.SortNone
import Derived.Ground.GgzProg
import Derived.Ground.SlgmProg
import Derived.Test.YtcmlfaolooglfaaProg
namespace Go.Proofs
open Go.Shelf
def Try.keysT_ren : Go.Shelf.Ren := ⟨fun | 7 => 28 | 10 => 34 | n => n, fun | 23 => 51 | 26 => 3 | 3 => 49 | 28 => 69 | 0 => 0 | 27 => 68 | 33 => 77 | 4 => 4 | n => n, fun | n => n⟩
theorem Try.keysT : Go.Proofs.SlLaysZI.n7 Try.prog Try.keysT_ren := {
  mixed := by kernel_rfl
  f7 := ⟨Try.f28.name, by decide, Try.func28.trans (congrArg some (by kernel_rfl))⟩
  f10 := ⟨Try.f34.name, by decide, Try.func34.trans (congrArg some (by kernel_rfl))⟩
  t0 := Try.underlying0
  a0 := Try.isAgg0
  z0 := Try.sizeOf0
  v0 := Try.zeroValue0
  t4 := Try.underlying4
  a4 := Try.isAgg4
  z4 := Try.sizeOf4
  v4 := Try.zeroValue4
  t23 := Try.underlying51
  a23 := Try.isAgg51
  z23 := Try.sizeOf51
  v23 := Try.zeroValue51
  t26 := Try.underlying3
  a26 := Try.isAgg3
  z26 := Try.sizeOf3
  v26 := Try.zeroValue3
  t27 := Try.underlying68
  a27 := Try.isAgg68
  z27 := Try.sizeOf68
  v27 := Try.zeroValue68
  t28 := Try.underlying69
  a28 := Try.isAgg69
  z28 := Try.sizeOf69
  v28 := Try.zeroValue69
  t33 := Try.underlying77
  a33 := Try.isAgg77
  z33 := Try.sizeOf77
  v33 := Try.zeroValue77 }
def Try.sortedT_ren : Go.Shelf.Ren := ⟨fun | 6 => 27 | 8 => 32 | 9 => 33 | 11 => 39 | 13 => 41 | 12 => 40 | 23 => 52 | 24 => 53 | 14 => 43 | 15 => 44 | 16 => 45 | 17 => 46 | 18 => 47 | 19 => 48 | 20 => 49 | 21 => 50 | 22 => 51 | 25 => 54 | 26 => 55 | 27 => 56 | 28 => 57 | 29 => 58 | 30 => 59 | 31 => 60 | n => n, fun | 26 => 3 | 28 => 69 | 24 => 27 | 0 => 0 | 3 => 3 | 37 => 84 | 48 => 95 | 50 => 22 | 4 => 4 | 40 => 88 | 39 => 87 | 45 => 57 | 5 => 5 | 9 => 9 | 51 => 97 | 55 => 101 | 57 => 103 | 58 => 104 | 33 => 77 | n => n, fun | n => n⟩
theorem Try.sortedT : Go.Proofs.SlLaysZI.n6 Try.prog Try.sortedT_ren := {
  mixed := by kernel_rfl
  f6 := ⟨Try.f27.name, by decide, Try.func27.trans (congrArg some (by kernel_rfl))⟩
  f8 := ⟨Try.f32.name, by decide, Try.func32.trans (congrArg some (by kernel_rfl))⟩
  f11 := ⟨Try.f39.name, by decide, Try.func39.trans (congrArg some (by kernel_rfl))⟩
  t0 := Try.underlying0
  a0 := Try.isAgg0
  z0 := Try.sizeOf0
  v0 := Try.zeroValue0
  t24 := Try.underlying27
  a24 := Try.isAgg27
  z24 := Try.sizeOf27
  v24 := Try.zeroValue27
  t26 := Try.underlying3
  a26 := Try.isAgg3
  z26 := Try.sizeOf3
  v26 := Try.zeroValue3
  t28 := Try.underlying69
  a28 := Try.isAgg69
  z28 := Try.sizeOf69
  v28 := Try.zeroValue69
  i26 := by kernel_rfl }
def Try.sortT_ren : Go.Shelf.Ren := ⟨fun | 5 => 33 | 8 => 41 | 7 => 40 | 19 => 52 | 20 => 53 | 10 => 43 | 11 => 44 | 12 => 45 | 13 => 46 | 14 => 47 | 15 => 48 | 16 => 49 | 17 => 50 | 18 => 51 | 30 => 54 | 31 => 55 | 32 => 56 | 33 => 57 | 34 => 58 | 35 => 59 | 40 => 60 | n => n, fun | 23 => 27 | 25 => 3 | 3 => 3 | 32 => 84 | 22 => 27 | 0 => 0 | 44 => 95 | 46 => 22 | 4 => 4 | 36 => 88 | 35 => 87 | 41 => 57 | 5 => 5 | 9 => 9 | 53 => 97 | 57 => 101 | 63 => 103 | 64 => 104 | n => n, fun | n => n⟩
theorem Try.sortT : Go.Proofs.SlLaysM.n5 Try.prog Try.sortT_ren := {
  mixed := by kernel_rfl
  f5 := ⟨Try.f33.name, by decide, Try.func33.trans (congrArg some (by kernel_rfl))⟩
  f7 := ⟨Try.f40.name, by decide, Try.func40.trans (congrArg some (by kernel_rfl))⟩
  f8 := Try.func41.trans (congrArg some (by kernel_rfl))
  f10 := ⟨Try.f43.name, by decide, Try.func43.trans (congrArg some (by kernel_rfl))⟩
  f11 := ⟨Try.f44.name, by decide, Try.func44.trans (congrArg some (by kernel_rfl))⟩
  f12 := ⟨Try.f45.name, by decide, Try.func45.trans (congrArg some (by kernel_rfl))⟩
  f13 := ⟨Try.f46.name, by decide, Try.func46.trans (congrArg some (by kernel_rfl))⟩
  f14 := ⟨Try.f47.name, by decide, Try.func47.trans (congrArg some (by kernel_rfl))⟩
  f15 := ⟨Try.f48.name, by decide, Try.func48.trans (congrArg some (by kernel_rfl))⟩
  f16 := ⟨Try.f49.name, by decide, Try.func49.trans (congrArg some (by kernel_rfl))⟩
  f17 := ⟨Try.f50.name, by decide, Try.func50.trans (congrArg some (by kernel_rfl))⟩
  f18 := ⟨Try.f51.name, by decide, Try.func51.trans (congrArg some (by kernel_rfl))⟩
  f19 := Try.func52.trans (congrArg some (by kernel_rfl))
  f20 := Try.func53.trans (congrArg some (by kernel_rfl))
  f30 := ⟨Try.f54.name, by decide, Try.func54.trans (congrArg some (by kernel_rfl))⟩
  f31 := Try.func55.trans (congrArg some (by kernel_rfl))
  f32 := Try.func56.trans (congrArg some (by kernel_rfl))
  f33 := ⟨Try.f57.name, by decide, Try.func57.trans (congrArg some (by kernel_rfl))⟩
  f34 := ⟨Try.f58.name, by decide, Try.func58.trans (congrArg some (by kernel_rfl))⟩
  f35 := ⟨Try.f59.name, by decide, Try.func59.trans (congrArg some (by kernel_rfl))⟩
  f40 := ⟨Try.f60.name, by decide, Try.func60.trans (congrArg some (by kernel_rfl))⟩
  t0 := Try.underlying0
  a0 := Try.isAgg0
  z0 := Try.sizeOf0
  v0 := Try.zeroValue0
  t3 := Try.underlying3
  a3 := Try.isAgg3
  z3 := Try.sizeOf3
  v3 := Try.zeroValue3
  t4 := Try.underlying4
  a4 := Try.isAgg4
  z4 := Try.sizeOf4
  v4 := Try.zeroValue4
  t5 := Try.underlying5
  a5 := Try.isAgg5
  z5 := Try.sizeOf5
  v5 := Try.zeroValue5
  t9 := Try.underlying9
  a9 := Try.isAgg9
  z9 := Try.sizeOf9
  v9 := Try.zeroValue9
  t22 := Try.underlying27
  a22 := Try.isAgg27
  z22 := Try.sizeOf27
  v22 := Try.zeroValue27
  t23 := Try.underlying27
  a23 := Try.isAgg27
  z23 := Try.sizeOf27
  v23 := Try.zeroValue27
  t25 := Try.underlying3
  a25 := Try.isAgg3
  z25 := Try.sizeOf3
  v25 := Try.zeroValue3
  t32 := Try.underlying84
  a32 := Try.isAgg84
  z32 := Try.sizeOf84
  v32 := Try.zeroValue84
  t35 := Try.underlying87
  a35 := Try.isAgg87
  z35 := Try.sizeOf87
  v35 := Try.zeroValue87
  t36 := Try.underlying88
  a36 := Try.isAgg88
  z36 := Try.sizeOf88
  v36 := Try.zeroValue88
  t41 := Try.underlying57
  a41 := Try.isAgg57
  z41 := Try.sizeOf57
  v41 := Try.zeroValue57
  t44 := Try.underlying95
  a44 := Try.isAgg95
  z44 := Try.sizeOf95
  v44 := Try.zeroValue95
  t46 := Try.underlying22
  a46 := Try.isAgg22
  z46 := Try.sizeOf22
  v46 := Try.zeroValue22
  t53 := Try.underlying97
  a53 := Try.isAgg97
  z53 := Try.sizeOf97
  v53 := Try.zeroValue97
  t57 := Try.underlying101
  a57 := Try.isAgg101
  z57 := Try.sizeOf101
  v57 := Try.zeroValue101
  t63 := Try.underlying103
  a63 := Try.isAgg103
  z63 := Try.sizeOf103
  v63 := Try.zeroValue103
  t64 := Try.underlying104
  a64 := Try.isAgg104
  z64 := Try.sizeOf104
  v64 := Try.zeroValue104 }
end Go.Proofs
