/- The contracts of package clock, and known of permafrostlaw8: what each call returns; the world stays as it was. -/
import Derived.Test.YtinnebeielldeaaLib
namespace Go.Proofs.Ytinnebeielldeaa
open Go.ChangeShapes Go.WideShapes Go.ChangeAt Go.RowKit

def dueB (a b : Int) : Bool := decide (b ≤ a)
def lngB (a b : Int) : Bool := decide (b ≤ 1099511627776) && decide (a ≤ b)
def nextOf (now tick : Int) : Int := if tick ≤ 1099511627776 then max now tick else now

theorem right_any (t : Int) (w : World) :
    Calls Try.prog 10 #[.int .u64 t] w fun e w' => e = .returned (.bool (decide (t ≤ 1099511627776))) ∧ w = w' := by
  go_enter Try.func10, Try.ntmps10
  go_wp2
  go_ret
  exact ⟨rfl, rfl⟩

theorem due_any (a b : Int) (w : World) :
    Calls Try.prog 11 #[.int .u64 a, .int .u64 b] w fun e w' => e = .returned (.bool (dueB a b)) ∧ w = w' := by
  go_enter Try.func11, Try.ntmps11
  go_wp2
  go_ret
  exact ⟨rfl, rfl⟩

theorem longer_any (a b : Int) (w : World) :
    Calls Try.prog 13 #[.int .u64 a, .int .u64 b] w fun e w' => e = .returned (.bool (lngB a b)) ∧ w = w' := by
  by_cases h : b ≤ 1099511627776
  · go_enter Try.func13, Try.ntmps13
    go_wp2
    go_ret
    exact ⟨ret_bool (by simp [h, lngB]), rfl⟩
  · go_enter Try.func13, Try.ntmps13
    go_wp2
    go_ret
    exact ⟨ret_bool (by simp [lngB]; omega), rfl⟩

theorem next_any (a b : Int) (w : World) :
    Calls Try.prog 9 #[.int .u64 a, .int .u64 b] w fun e w' => e = .returned (.int .u64 (nextOf a b)) ∧ w = w' := by
  by_cases h : b ≤ 1099511627776
  · go_enter Try.func9, Try.ntmps9
    go_wp2
    all_goals
      go_ret
      exact ⟨ret_int (by unfold nextOf; split <;> omega), rfl⟩
  · go_enter Try.func9, Try.ntmps9
    go_wp2
    all_goals
      go_ret
      exact ⟨ret_int (by unfold nextOf; split <;> omega), rfl⟩

theorem known8_any (w : World) :
    Calls Try.prog 12 #[] w fun e w' => e = .returned (.bool true) ∧ w = w' := by
  go_enter Try.func12, Try.ntmps12
  go_wp2
  go_ret
  exact ⟨rfl, rfl⟩

end Go.Proofs.Ytinnebeielldeaa
