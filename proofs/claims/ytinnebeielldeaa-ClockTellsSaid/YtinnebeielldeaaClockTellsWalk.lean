/- The walk of ClockTells: it returns true for any two numbers. -/
import Derived.Test.YtinnebeielldeaaClock
namespace Go.Proofs.Ytinnebeielldeaa.clockTells
open Go.ChangeShapes Go.WideShapes Go.ChangeAt Go.RowKit
theorem walk (W : World) (a0 : Int) (w0 : (Lit.int .u64 a0).wf = true) (a1 : Int) (w1 : (Lit.int .u64 a1).wf = true) :
    Calls Try.prog 5 #[.int .u64 a0, .int .u64 a1] W (Fine W) := by
  have b0 := bounds_u64 w0
  have b1 := bounds_u64 w1
  clear w0 w1
  by_cases h1 : a1 ≤ 1099511627776 <;> by_cases h2 : a0 < a1
  all_goals
    go_enter Try.func5, Try.ntmps5
    go_wp2
    go_ret
    exact ⟨rfl, Below.refl _ _⟩
end Go.Proofs.Ytinnebeielldeaa.clockTells
