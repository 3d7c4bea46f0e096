/- disk: Write. -/
import Derived.Test.YtkdomgiabiedlaaDiskC
import Derived.BigQuiet
import Derived.Deep.QuietTactic
namespace Go.Proofs.Ytkdomgiabiedlaa
open Go.ChangeShapes Go.WideShapes Go.ChangeAt Go.RowKit
set_option linter.unusedVariables false

theorem dwrite_none {F : Nat → Prop} {d sb mb : Nat} {l : List (Int × Value)} {M : DiskM} (i : Int) (a : Option Addr) (n cap : Nat) (hi : ¬ (isSec M i ∧ n = 128)) (w : World) (h : DiskAt F w d sb mb l M) :
    Calls Try.prog 12 #[.pointer (some ⟨d, 0, none⟩), .int .i64 i, .slice a n cap] w fun e w' => e = .returned (.int .i64 1) ∧ w = w' := by
  have hd := dis_any i w h
  clear h
  by_cases h1 : isSec M i
  · have e1 : decide (0 ≤ i ∧ i < ((M.safe.length / 128 : Nat) : Int)) = true := decide_eq_true h1
    rw [e1] at hd
    have e2 : ((n : Int) != 128) = true := by simp; intro h; exact hi ⟨h1, by omega⟩
    clear hi h1 e1
    go_enter Try.func12, Try.ntmps12
    go_wp2_with (go_at_call 26; refine hd.mono ?_; rintro e w' ⟨rfl, rfl⟩)
    go_ret
    exact ⟨rfl, rfl⟩
  · have e1 : decide (0 ≤ i ∧ i < ((M.safe.length / 128 : Nat) : Int)) = false := decide_eq_false h1
    rw [e1] at hd
    clear hi h1 e1
    go_enter Try.func12, Try.ntmps12
    go_wp2_with (go_at_call 26; refine hd.mono ?_; rintro e w' ⟨rfl, rfl⟩)
    go_ret
    exact ⟨rfl, rfl⟩
end Go.Proofs.Ytkdomgiabiedlaa
