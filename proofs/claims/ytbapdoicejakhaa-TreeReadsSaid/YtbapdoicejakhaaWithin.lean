/- permafrostbook.Within. -/
import Derived.Test.YtbapdoicejakhaaLib
namespace Go.Proofs.Ytbapdoicejakhaa
open Go.ChangeShapes Go.WideShapes Go.ChangeAt Go.RowKit
set_option linter.unusedVariables false

def withinI (n lo hi : Int) : Int := lo + n % (hi - lo + 1)
theorem withinI_bd (n lo hi : Int) (h : lo ≤ hi) : lo ≤ withinI n lo hi ∧ withinI n lo hi ≤ hi := by
  unfold withinI
  have h1 := Int.emod_nonneg n (show hi - lo + 1 ≠ 0 by omega)
  have h2 := Int.emod_lt_of_pos n (show 0 < hi - lo + 1 by omega)
  omega
theorem i64_of_wf {n : Int} (h : (Lit.int .i64 n).wf = true) : -9223372036854775808 ≤ n ∧ n ≤ 9223372036854775807 := by
  simp [Lit.wf, IntKind.min, IntKind.max, IntKind.signed, IntKind.bits] at h
  omega
theorem within_any (n lo hi : Int) (w : World) (hn : (Lit.int .i64 n).wf = true) (h1 : 0 ≤ lo) (h2 : lo ≤ hi) (h3 : hi ≤ 1099511627776) :
    Calls Try.prog 9 #[.int .i64 n, .int .i64 lo, .int .i64 hi] w fun e w' => e = .returned (.int .i64 (withinI n lo hi)) ∧ w = w' := by
  obtain ⟨hw1, hw2⟩ := i64_of_wf hn
  clear hn
  have t1 := Int.tmod_lt_of_pos n (show 0 < hi - lo + 1 by omega)
  have t2 := Int.lt_tmod_of_pos n (show 0 < hi - lo + 1 by omega)
  have t3 := Int.emod_nonneg n (show hi - lo + 1 ≠ 0 by omega)
  have t4 := Int.emod_lt_of_pos n (show 0 < hi - lo + 1 by omega)
  by_cases hn : 0 ≤ n
  · have hx : ¬ n % (hi - lo + 1) < 0 := by omega
    go_enter Try.func9, Try.ntmps9
    go_wp2
    go_ret
    exact ⟨ret_int (by unfold withinI; rfl), rfl⟩
  · have hE : n % (hi - lo + 1) = if n.tmod (hi - lo + 1) < 0 then n.tmod (hi - lo + 1) + (hi - lo + 1) else n.tmod (hi - lo + 1) := by
      have h5 := Int.emod_add_mul_ediv n (hi - lo + 1)
      have h6 := Int.tmod_add_mul_tdiv n (hi - lo + 1)
      have h7 : (n.tmod (hi - lo + 1)) % (hi - lo + 1) = n % (hi - lo + 1) := by
        have h8 : n = n.tmod (hi - lo + 1) + (hi - lo + 1) * n.tdiv (hi - lo + 1) := by omega
        rw [← Int.add_mul_emod_self_left (n.tmod (hi - lo + 1)) (hi - lo + 1) (n.tdiv (hi - lo + 1)), ← h8]
      split
      · rw [← h7, ← Int.add_emod_right, Int.emod_eq_of_lt (by omega) (by omega)]
      · rw [← h7, Int.emod_eq_of_lt (by omega) (by omega)]
    have HE := Lib.hid hE
    clear hE
    by_cases ht : n.tmod (hi - lo + 1) < 0
    · go_enter Try.func9, Try.ntmps9
      go_wp2
      go_ret
      exact ⟨ret_int (by unfold withinI; rw [HE.out, if_pos ht]; omega), rfl⟩
    · go_enter Try.func9, Try.ntmps9
      go_wp2
      go_ret
      exact ⟨ret_int (by unfold withinI; rw [HE.out, if_neg (by omega)]), rfl⟩
end Go.Proofs.Ytbapdoicejakhaa
