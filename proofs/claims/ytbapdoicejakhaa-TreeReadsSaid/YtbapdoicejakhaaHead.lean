/- permafrostkeep.Head. -/
import Derived.Test.YtbapdoicejakhaaPathP
import Derived.Lib.Split
import Derived.Test.YtbapdoicejakhaaConv
namespace Go.Proofs.Ytbapdoicejakhaa
open Go.ChangeShapes Go.WideShapes Go.ChangeAt Go.RowKit
set_option linter.unusedVariables false

theorem strOf_data (l : List UInt8) : (strOf l).data.toList = l := rfl
theorem strOf_eta (s : ByteArray) : strOf s.data.toList = s := by cases s; rfl
theorem ret_str {a b : ByteArray} (h : a = b) : Ending.returned (.string a) = .returned (.string b) := by rw [h]
theorem head_any (s : ByteArray) (n : Int) (w : World) (h0 : 0 ≤ n) (hs : s.size ≤ maxLen) (hn : n ≤ 1000000) :
    Calls Try.prog 10 #[.string s, .int .i64 n] w fun e w' => e = .returned (.string (strOf (s.data.toList.take n.toNat))) ∧ w = w' := by
  unfold maxLen at hs
  have hl : s.data.toList.length = s.size := by simp
  by_cases h : n < (s.size : Int)
  · go_enter Try.func10, Try.ntmps10
    go_wp2
    go_ret
    refine ⟨ret_str (WideShapes.bytes_inj ?_), rfl⟩
    rw [Lib.extract_data, strOf_data]
    simp
  · go_enter Try.func10, Try.ntmps10
    go_wp2
    go_ret
    refine ⟨ret_str ?_, rfl⟩
    rw [List.take_of_length_le (by omega), strOf_eta]

end Go.Proofs.Ytbapdoicejakhaa
