/- worm.Live and worm.Bound of no tree. -/
import Derived.Test.YtcmlfaolooglfaaWormRules
namespace Go.Proofs.Ytcmlfaolooglfaa
open Go.ChangeShapes Go.WideShapes Go.ChangeAt Go.RowKit
set_option linter.unusedVariables false
theorem live_nil (a : Int) (w : World) :
    Calls Try.prog 7 #[.pointer none, .int .u64 a] w fun e w' => e = .returned (.slice none 0 0) ∧ w = w' := by
  go_enter Try.func7, Try.ntmps7
  go_wp2
  go_ret
  exact ⟨rfl, rfl⟩
theorem bound_nil (a : Int) (w : World) :
    Calls Try.prog 8 #[.pointer none, .int .u64 a] w fun e w' => e = .returned (.bool false) ∧ w = w' := by
  go_enter Try.func8, Try.ntmps8
  go_wp2_with fail
  refine (live_nil _ _).mono ?_
  rintro e w1 ⟨rfl, rfl⟩
  go_wp2
  go_ret
  exact ⟨rfl, rfl⟩
end Go.Proofs.Ytcmlfaolooglfaa
