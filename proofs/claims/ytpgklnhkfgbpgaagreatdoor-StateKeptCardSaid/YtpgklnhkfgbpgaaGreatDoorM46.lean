/- package state: a snapshot of one file, plainly. -/
import Derived.Test.YtpgklnhkfgbpgaaGreatDoorM44
namespace Go.Proofs.YtpgklnhkfgbpgaaGreatDoor
open Go.ChangeShapes Go.WideShapes Go.ChangeAt Go.RowKit
set_option linter.unusedVariables false
set_option linter.unusedSimpArgs false

def stB (T : TrM) (S : SnM) (now : Int) (f : Option FdM) : StM := ⟨T, S, now, fd1 f⟩
theorem oneT_commit (d : List UInt8) (u : Int) : commitM (oneT d true u) = oneT d true u := rfl
def tkO : OpM := ⟨14, [], [], 0, 0, 0, 0, 0, []⟩
def stO (s : Int) : OpM := ⟨12, [47, 97], [], 0, 0, 0, 0, s, []⟩
theorem tkO_ok : OpOk tkO := by unfold tkO; exact opOk_small (by simp) (by simp) (by simp) (by simp) (by simp) (by simp) (by simp) (by simp) (by simp)
theorem stO_ok (s : Int) (h : 0 ≤ s ∧ s ≤ 1000000) : OpOk (stO s) := by unfold stO; exact opOk_small (by simp) (by simp) (by simp) (by simp) h (by simp) (by simp) (by simp) (by simp)
/-- A block that is nobody's. -/
structure Froz (o : Mark) (w : World) (g : Nat) (x : Obj) : Prop where
  own : o g = 0
  low : g < w.heap.size
  at_ : w.heap[g]? = some x
section
variable {W w w' : World} {o o' : Mark} {g i q : Nat} {x : Obj}
theorem Froz.step {I : Nat → Prop} (h : Froz o w g x) (h0 : ¬ I 0) (hs : Step o I w o' w') : Froz o' w' g x :=
  ⟨(hs.old g h.low).trans h.own, Nat.lt_of_lt_of_le h.low hs.keep.size, (hs.block h.low (by rw [h.own]; exact h0)).trans h.at_⟩
theorem Froz.five (h : Froz o w g x) (hi : 0 < i) (hs : Step o (Five i) w o' w') : Froz o' w' g x := h.step (fun e => by have := e.1; omega) hs
theorem Froz.one (h : Froz o w g x) (hq : q ≠ 0) (hs : Step o (fun m => m = q) w o' w') : Froz o' w' g x := h.step (fun e => hq e.symm) hs
theorem Froz.grow (h : Froz o w g x) (hM : Marks W o w) (hb : Below w.heap.size w w') : Froz o w' g x := h.step (I := fun _ => False) (fun e => e) (Step.grow hM hb)
theorem Froz.new (hM : Marks W o w) (x : Obj) : Froz o (w.alloc x) w.heap.size x :=
  ⟨Decidable.byContradiction fun h0 => by have := (hM.new _ h0).2; omega, by simp, (MapKept.heap_alloc w x).1⟩
end
end Go.Proofs.YtpgklnhkfgbpgaaGreatDoor
