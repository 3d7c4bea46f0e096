/- permafrostkeep.Cut. -/
import Derived.Test.YtbapdoicejakhaaLib
namespace Go.Proofs.Ytbapdoicejakhaa
open Go.ChangeShapes Go.WideShapes Go.ChangeAt Go.RowKit
set_option linter.unusedVariables false

theorem cut_any (a : Option Addr) (len cap n : Nat) (hl : len ≤ cap) (hn : n ≤ 1048576) (hm : len ≤ maxLen) (w : World) :
    Calls Try.prog 7 #[.slice a len cap, .int .i64 n] w fun e w' => e = .returned (.slice a (min len n) cap) ∧ w = w' := by
  unfold maxLen at hm
  by_cases h : n < len
  · have e1 : n ≤ cap := by omega
    go_enter Try.func7, Try.ntmps7
    go_wp2
    go_ret
    rw [show min len n = n by omega]
    exact ⟨rfl, rfl⟩
  · go_enter Try.func7, Try.ntmps7
    go_wp2
    go_ret
    rw [show min len n = len by omega]
    exact ⟨rfl, rfl⟩

end Go.Proofs.Ytbapdoicejakhaa
