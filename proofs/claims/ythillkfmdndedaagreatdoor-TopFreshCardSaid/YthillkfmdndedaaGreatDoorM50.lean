/- The -/
import Derived.Test.YthillkfmdndedaaGreatDoorM01
import Derived.SliceStrings
import Derived.Shelf.Vars
set_option maxRecDepth 100000
set_option maxHeartbeats 64000000
set_option linter.all false
namespace Go.Proofs.YthillkfmdndedaaGreatDoor
open Go.ChangeShapes Go.WideShapes Go.ChangeAt Go.RowKit
theorem Np{w:World}(h:w.ShapedOpen Tryz.prog):∃m,w.cell? ⟨2,0,none⟩=some (.int .i64 m)/\2<w.heap.size:=by
 obtain⟨m,u⟩:=Go.Proofs.cell_of_shapedOpen_int (zero:= #[.int .i64 0]) (t:=3) h (of_decide_eq_true (by kernel_rfl)) (by kernel_rfl) rfl (by kernel_rfl) (by kernel_rfl) aa2;exact⟨m,u,aal w _ u⟩
def ZC:Obj->Obj
 | .cells _ t frozen=> .cells ((Go.Pinned.utf8FirstZ.map λ(n:Nat)=>Value.int .u8 (n:Int)).toArray) t frozen
 |o=>o
def Vr:Obj->Obj
 | .cells _ t frozen=> .cells ((([128,191,160,191,128,159,144,191,128,143,0,0,0,0,0,0,0,0,0,0,0,0,0,0,0,0,0,0,0,0,0,0]:List Nat).map λ(n:Nat)=>Value.int .u8 (n:Int)).toArray) t frozen
 |o=>o
noncomputable def ZE (m:Os):World:=
 {World.holding Tryz.prog m ⟨#[],#[],[]⟩with heap:=((World.holding Tryz.prog m ⟨#[],#[],[]⟩).heap.modify 0 ZC).modify 1 Vr}
