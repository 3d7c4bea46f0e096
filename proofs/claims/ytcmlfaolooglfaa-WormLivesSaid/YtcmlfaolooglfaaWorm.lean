/- The contracts of package worm's rules for one node: what each call returns; what was there stays as it was. -/
import Derived.Test.YtcmlfaolooglfaaClock
namespace Go.Proofs.Ytcmlfaolooglfaa
open Go.ChangeShapes Go.WideShapes Go.ChangeAt Go.RowKit
set_option linter.unusedVariables false

def kindOf (k : Int) : Int := if k = 1 then 0 else if k = 2 then 22 else 30
def writeOf (k : Int) (c : Bool) : Int := if k = 1 ∧ c = true then 27 else kindOf k
def removeOf (k l u : Int) (c : Bool) (now : Int) : Int := if k = 1 ∧ c = true ∧ l ≤ 1 ∧ now < u then 28 else kindOf k
def keepOf (k u : Int) (c : Bool) (till : Int) : Int :=
  if k = 1 then (if c = false then 25 else if till < u then 28 else if 1099511627776 < till then 1 else 0) else kindOf k

theorem wkind_any (i k l s u : Int) (c : Bool) (w : World) :
    Calls Try.prog 25 #[.agg #[.int .i64 i, .int .i64 k, .int .i64 l, .int .i64 s, .int .u64 u, .bool c]] w fun e w' => e = .returned (.int .i64 (kindOf k)) ∧ w.alloc (.cells #[.int .i64 i, .int .i64 k, .int .i64 l, .int .i64 s, .int .u64 u, .bool c] 26) = w' := by
  by_cases h1 : k = 1
  · subst h1
    go_enter Try.func25, Try.ntmps25
    go_wp2
    go_ret
    exact ⟨rfl, rfl⟩
  · by_cases h2 : k = 2
    · subst h2
      go_enter Try.func25, Try.ntmps25
      go_wp2
      go_ret
      exact ⟨rfl, rfl⟩
    · have e1 : (k == 1) = false := by simp [h1]
      have e2 : (k == 2) = false := by simp [h2]
      go_enter Try.func25, Try.ntmps25
      go_wp2
      go_ret
      exact ⟨ret_int (by simp [kindOf, h1, h2]), rfl⟩

theorem kindOf_one : kindOf 1 = 0 := rfl
theorem kindOf_ne (k : Int) (h : k ≠ 1) : (kindOf k == 0) = false ∧ (kindOf k != 0) = true := by
  unfold kindOf; rw [if_neg h]; split <;> decide

theorem wwrite_any (i k l s u : Int) (c : Bool) (w : World) :
    Calls Try.prog 16 #[.agg #[.int .i64 i, .int .i64 k, .int .i64 l, .int .i64 s, .int .u64 u, .bool c]] w fun e w' => e = .returned (.int .i64 (writeOf k c)) ∧ Below w.heap.size w w' := by
  by_cases h1 : k = 1
  · subst h1
    cases c
    all_goals
      go_enter Try.func16, Try.ntmps16
      go_wp2_with (go_at_call 25; refine (wkind_any _ _ _ _ _ _ _).mono ?_; rintro e w' ⟨rfl, rfl⟩; rw [kindOf_one])
      go_ret
      exact ⟨rfl, by repeat (first | exact Below.refl _ _ | refine Below.alloc ?_ (by simp) _)⟩
  · have e1 := (kindOf_ne k h1).1
    go_enter Try.func16, Try.ntmps16
    go_wp2_with (go_at_call 25; refine (wkind_any _ _ _ _ _ _ _).mono ?_; rintro e w' ⟨rfl, rfl⟩)
    go_ret
    exact ⟨ret_int (by simp [writeOf, h1]), by repeat (first | exact Below.refl _ _ | refine Below.alloc ?_ (by simp) _)⟩

theorem wremove_any (i k l s u : Int) (c : Bool) (now : Int) (w : World) :
    Calls Try.prog 14 #[.agg #[.int .i64 i, .int .i64 k, .int .i64 l, .int .i64 s, .int .u64 u, .bool c], .int .u64 now] w fun e w' => e = .returned (.int .i64 (removeOf k l u c now)) ∧ Below w.heap.size w w' := by
  by_cases h1 : k = 1
  · subst h1
    cases c
    · go_enter Try.func14, Try.ntmps14
      go_wp2_with (first | (go_at_call 25; refine (wkind_any _ _ _ _ _ _ _).mono ?_; rintro e w' ⟨rfl, rfl⟩; rw [kindOf_one]) | (go_at_call 19; refine (due_any _ _ _).mono ?_; rintro e w' ⟨rfl, rfl⟩))
      go_ret
      exact ⟨ret_int (by simp [removeOf, kindOf]), by repeat (first | exact Below.refl _ _ | refine Below.alloc ?_ (by simp) _)⟩
    · by_cases h2 : l ≤ 1
      · cases h3 : dueB now u
        · have h4 : now < u := by simp [dueB] at h3; omega
          have H := Lib.hid h4
          clear h4
          go_enter Try.func14, Try.ntmps14
          go_wp2_with (first | (go_at_call 25; refine (wkind_any _ _ _ _ _ _ _).mono ?_; rintro e w' ⟨rfl, rfl⟩; rw [kindOf_one]) | (go_at_call 19; refine (due_any _ _ _).mono ?_; rintro e w' ⟨rfl, rfl⟩))
          go_ret
          exact ⟨ret_int (by have := H.out; simp [removeOf, *]), by repeat (first | exact Below.refl _ _ | refine Below.alloc ?_ (by simp) _)⟩
        · have h4 : ¬ now < u := by simp [dueB] at h3; omega
          have H := Lib.hid h4
          clear h4
          go_enter Try.func14, Try.ntmps14
          go_wp2_with (first | (go_at_call 25; refine (wkind_any _ _ _ _ _ _ _).mono ?_; rintro e w' ⟨rfl, rfl⟩; rw [kindOf_one]) | (go_at_call 19; refine (due_any _ _ _).mono ?_; rintro e w' ⟨rfl, rfl⟩))
          go_ret
          exact ⟨ret_int (by have := H.out; simp [removeOf, kindOf, *]), by repeat (first | exact Below.refl _ _ | refine Below.alloc ?_ (by simp) _)⟩
      · go_enter Try.func14, Try.ntmps14
        go_wp2_with (first | (go_at_call 25; refine (wkind_any _ _ _ _ _ _ _).mono ?_; rintro e w' ⟨rfl, rfl⟩; rw [kindOf_one]) | (go_at_call 19; refine (due_any _ _ _).mono ?_; rintro e w' ⟨rfl, rfl⟩))
        go_ret
        exact ⟨ret_int (by have : ¬ l ≤ 1 := by omega
                           simp [removeOf, kindOf, this]), by repeat (first | exact Below.refl _ _ | refine Below.alloc ?_ (by simp) _)⟩
  · have e1 := (kindOf_ne k h1).1
    go_enter Try.func14, Try.ntmps14
    go_wp2_with (first | (go_at_call 25; refine (wkind_any _ _ _ _ _ _ _).mono ?_; rintro e w' ⟨rfl, rfl⟩) | (go_at_call 19; refine (due_any _ _ _).mono ?_; rintro e w' ⟨rfl, rfl⟩))
    go_ret
    exact ⟨ret_int (by simp [removeOf, h1]), by repeat (first | exact Below.refl _ _ | refine Below.alloc ?_ (by simp) _)⟩

theorem wkeep_any (i k l s u : Int) (c : Bool) (till : Int) (w : World) :
    Calls Try.prog 17 #[.agg #[.int .i64 i, .int .i64 k, .int .i64 l, .int .i64 s, .int .u64 u, .bool c], .int .u64 till] w fun e w' => e = .returned (.int .i64 (keepOf k u c till)) ∧ Below w.heap.size w w' := by
  by_cases h1 : k = 1
  · subst h1
    cases c
    · go_enter Try.func17, Try.ntmps17
      go_wp2_with (first | (go_at_call 25; refine (wkind_any _ _ _ _ _ _ _).mono ?_; rintro e w' ⟨rfl, rfl⟩; rw [kindOf_one]) | (go_at_call 26; refine (right_any _ _).mono ?_; rintro e w' ⟨rfl, rfl⟩))
      go_ret
      exact ⟨ret_int (by simp [keepOf]), by repeat (first | exact Below.refl _ _ | refine Below.alloc ?_ (by simp) _)⟩
    · by_cases h2 : till < u
      · go_enter Try.func17, Try.ntmps17
        go_wp2_with (first | (go_at_call 25; refine (wkind_any _ _ _ _ _ _ _).mono ?_; rintro e w' ⟨rfl, rfl⟩; rw [kindOf_one]) | (go_at_call 26; refine (right_any _ _).mono ?_; rintro e w' ⟨rfl, rfl⟩))
        go_ret
        exact ⟨ret_int (by simp [keepOf, *]), by repeat (first | exact Below.refl _ _ | refine Below.alloc ?_ (by simp) _)⟩
      · by_cases h3 : till ≤ 1099511627776
        · have H := Lib.hid h2
          go_enter Try.func17, Try.ntmps17
          go_wp2_with (first | (go_at_call 25; refine (wkind_any _ _ _ _ _ _ _).mono ?_; rintro e w' ⟨rfl, rfl⟩; rw [kindOf_one]) | (go_at_call 26; refine (right_any _ _).mono ?_; rintro e w' ⟨rfl, rfl⟩))
          go_ret
          exact ⟨ret_int (by have := H.out; have : ¬ 1099511627776 < till := by omega
                             simp [keepOf, *]), by repeat (first | exact Below.refl _ _ | refine Below.alloc ?_ (by simp) _)⟩
        · have H := Lib.hid h2
          have h5 : decide (till ≤ 1099511627776) = false := by simp; omega
          go_enter Try.func17, Try.ntmps17
          go_wp2_with (first | (go_at_call 25; refine (wkind_any _ _ _ _ _ _ _).mono ?_; rintro e w' ⟨rfl, rfl⟩; rw [kindOf_one]) | (go_at_call 26; refine (right_any _ _).mono ?_; rintro e w' ⟨rfl, rfl⟩))
          go_ret
          exact ⟨ret_int (by have := H.out; have : 1099511627776 < till := by omega
                             simp [keepOf, *]), by repeat (first | exact Below.refl _ _ | refine Below.alloc ?_ (by simp) _)⟩
  · have e1 := (kindOf_ne k h1).2
    go_enter Try.func17, Try.ntmps17
    go_wp2_with (go_at_call 25; refine (wkind_any _ _ _ _ _ _ _).mono ?_; rintro e w' ⟨rfl, rfl⟩)
    go_ret
    exact ⟨ret_int (by simp [keepOf, h1]), by repeat (first | exact Below.refl _ _ | refine Below.alloc ?_ (by simp) _)⟩
end Go.Proofs.Ytcmlfaolooglfaa
