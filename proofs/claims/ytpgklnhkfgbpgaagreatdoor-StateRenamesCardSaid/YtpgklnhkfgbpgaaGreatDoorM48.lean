/- permafrostkeep.Tame. The library's own number; a world for the witnesses. -/
import Derived.Test.YtpgklnhkfgbpgaaGreatDoorM47
import Derived.Test.YtpgklnhkfgbpgaaGreatDoorM01
import Derived.SliceStrings
import Derived.Shelf.Vars
namespace Go.Proofs.YtpgklnhkfgbpgaaGreatDoor
open Go.ChangeShapes Go.WideShapes Go.ChangeAt Go.RowKit
set_option linter.unusedVariables false
set_option linter.unusedSimpArgs false

theorem tame_any {S : Nat → Prop} (w : World) (x : OpM) (hx : OpRaw x) (da : Option Addr) (dc : Nat) (hdc : x.data.length ≤ dc) (hda : RowAt S w da x.data.length (x.data.map bv)) :
    Calls Tryz.prog 15 #[.agg (opC x da dc)] w (TameRet S w x da) := by
  obtain ⟨kd, pa, to_, fd, at_, nn, til, sn, dt⟩ := x
  exact tame_all w kd pa to_ fd at_ nn til sn dt hx da dc hdc hda
end Go.Proofs.YtpgklnhkfgbpgaaGreatDoor
namespace Go.Proofs.YtpgklnhkfgbpgaaGreatDoor
open Go.ChangeShapes Go.WideShapes Go.ChangeAt Go.RowKit
set_option linter.unusedVariables false

theorem maxLen_cell {w : World} (h : w.ShapedOpen Tryz.prog) : ∃ m, w.cell? ⟨0, 0, none⟩ = some (.int .i64 m) ∧ 0 < w.heap.size := by
  obtain ⟨m, hm⟩ := Go.Proofs.cell_of_shapedOpen_int (zero := #[.int .i64 0]) (t := 3) h (of_decide_eq_true (by kernel_rfl)) (by kernel_rfl) rfl (by kernel_rfl) (by kernel_rfl) Tryz.underlying3
  exact ⟨m, hm, World.block_lt_of_cell? w _ hm⟩

/-- A world for the witnesses: the two listed tables of unicode/utf8 hold what their text lays. -/
def layFirst : Obj → Obj
  | .cells _ t frozen => .cells ((Go.Pinned.utf8FirstZ.map fun (n : Nat) => Value.int .u8 (n : Int)).toArray) t frozen
  | o => o
def layRanges : Obj → Obj
  | .cells _ t frozen => .cells ((([128, 191, 160, 191, 128, 159, 144, 191, 128, 143, 0, 0, 0, 0, 0, 0, 0, 0, 0, 0, 0, 0, 0, 0, 0, 0, 0, 0, 0, 0, 0, 0] : List Nat).map fun (n : Nat) => Value.int .u8 (n : Int)).toArray) t frozen
  | o => o
noncomputable def laidBase (os : Os) : World :=
  { World.holding Tryz.prog os ⟨#[], #[], []⟩ with heap := ((World.holding Tryz.prog os ⟨#[], #[], []⟩).heap.modify 1 layFirst).modify 2 layRanges }

end Go.Proofs.YtpgklnhkfgbpgaaGreatDoor
