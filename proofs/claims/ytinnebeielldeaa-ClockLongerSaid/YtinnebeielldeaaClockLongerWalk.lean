/- The walk of ClockLonger: it returns true for any four numbers. -/
import Derived.Test.YtinnebeielldeaaClock
namespace Go.Proofs.Ytinnebeielldeaa.clockLonger
open Go.ChangeShapes Go.WideShapes Go.ChangeAt Go.RowKit
theorem walk (W : World) (a0 : Int) (w0 : (Lit.int .u64 a0).wf = true) (a1 : Int) (w1 : (Lit.int .u64 a1).wf = true) (a2 : Int) (w2 : (Lit.int .u64 a2).wf = true) (a3 : Int) (w3 : (Lit.int .u64 a3).wf = true) :
    Calls Try.prog 6 #[.int .u64 a0, .int .u64 a1, .int .u64 a2, .int .u64 a3] W (Fine W) := by
  have b0 := bounds_u64 w0
  have b1 := bounds_u64 w1
  have b2 := bounds_u64 w2
  have b3 := bounds_u64 w3
  clear w0 w1 w2 w3
  have e0 : lngB a0 a0 = decide (a0 ≤ 1099511627776) := by simp [lngB]
  have e1 : dueB (nextOf a3 a0) a3 = true := by
    show decide (a3 ≤ nextOf a3 a0) = true
    rw [decide_eq_true_eq]; unfold nextOf; split <;> omega
  have t1 : lngB a0 a1 = true → a0 ≤ a1 ∧ a1 ≤ 1099511627776 := by simp [lngB]; omega
  have t2 : lngB a0 a1 = true → lngB a1 a2 = true → lngB a0 a2 = true := by simp [lngB]; omega
  have t3 : lngB a0 a1 = true → dueB a3 a1 = true → dueB a3 a0 = true := by simp [lngB, dueB]; omega
  cases c1 : lngB a0 a1
  · clear t1 t2 t3
    go_enter Try.func6, Try.ntmps6
    go_wp2_with (first | (go_at_call 13; refine (longer_any _ _ _).mono ?_; rintro e w' ⟨rfl, rfl⟩) | (go_at_call 11; refine (due_any _ _ _).mono ?_; rintro e w' ⟨rfl, rfl⟩) | (go_at_call 10; refine (right_any _ _).mono ?_; rintro e w' ⟨rfl, rfl⟩) | (go_at_call 9; refine (next_any _ _ _).mono ?_; rintro e w' ⟨rfl, rfl⟩) | (go_at_call 12; refine (known8_any _).mono ?_; rintro e w' ⟨rfl, rfl⟩))
    go_ret
    exact ⟨rfl, Below.refl _ _⟩
  · obtain ⟨h1, h2⟩ := t1 c1
    have t2' := t2 c1
    have t3' := t3 c1
    clear t1 t2 t3
    have c4 : lngB a1 a2 = false ∨ (lngB a1 a2 = true ∧ lngB a0 a2 = true) := by
      cases h : lngB a1 a2
      · exact Or.inl rfl
      · exact Or.inr ⟨rfl, t2' h⟩
    have c5 : dueB a3 a1 = false ∨ (dueB a3 a1 = true ∧ dueB a3 a0 = true) := by
      cases h : dueB a3 a1
      · exact Or.inl rfl
      · exact Or.inr ⟨rfl, t3' h⟩
    clear t2' t3'
    rcases c4 with c2 | ⟨c2, c3⟩ <;> rcases c5 with c6 | ⟨c6, c7⟩
    all_goals
      go_enter Try.func6, Try.ntmps6
      go_wp2_with (first | (go_at_call 13; refine (longer_any _ _ _).mono ?_; rintro e w' ⟨rfl, rfl⟩) | (go_at_call 11; refine (due_any _ _ _).mono ?_; rintro e w' ⟨rfl, rfl⟩) | (go_at_call 10; refine (right_any _ _).mono ?_; rintro e w' ⟨rfl, rfl⟩) | (go_at_call 9; refine (next_any _ _ _).mono ?_; rintro e w' ⟨rfl, rfl⟩) | (go_at_call 12; refine (known8_any _).mono ?_; rintro e w' ⟨rfl, rfl⟩))
      go_ret
      exact ⟨rfl, Below.refl _ _⟩
end Go.Proofs.Ytinnebeielldeaa.clockLonger
