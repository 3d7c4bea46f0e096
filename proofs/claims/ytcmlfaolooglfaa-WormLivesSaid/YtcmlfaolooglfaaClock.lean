/- The contracts of package clock, and known of permafrostlaw8: what each call returns; the world stays as it was. -/
import Derived.Test.YtcmlfaolooglfaaLib
namespace Go.Proofs.Ytcmlfaolooglfaa
open Go.ChangeShapes Go.WideShapes Go.ChangeAt Go.RowKit

def dueB (a b : Int) : Bool := decide (b ≤ a)
def lngB (a b : Int) : Bool := decide (b ≤ 1099511627776) && decide (a ≤ b)
def nextOf (now tick : Int) : Int := if tick ≤ 1099511627776 then max now tick else now

theorem right_any (t : Int) (w : World) :
    Calls Try.prog 26 #[.int .u64 t] w fun e w' => e = .returned (.bool (decide (t ≤ 1099511627776))) ∧ w = w' := by
  go_enter Try.func26, Try.ntmps26
  go_wp2
  go_ret
  exact ⟨rfl, rfl⟩

theorem due_any (a b : Int) (w : World) :
    Calls Try.prog 19 #[.int .u64 a, .int .u64 b] w fun e w' => e = .returned (.bool (dueB a b)) ∧ w = w' := by
  go_enter Try.func19, Try.ntmps19
  go_wp2
  go_ret
  exact ⟨rfl, rfl⟩




end Go.Proofs.Ytcmlfaolooglfaa
