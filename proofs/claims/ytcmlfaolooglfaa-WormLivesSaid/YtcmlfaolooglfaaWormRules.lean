/- The contracts of permafrostlaw12's helpers: rules, same, known. -/
import Derived.Test.YtcmlfaolooglfaaWorm
namespace Go.Proofs.Ytcmlfaolooglfaa
open Go.ChangeShapes Go.WideShapes Go.ChangeAt Go.RowKit
set_option linter.unusedVariables false

theorem ret_int3 {k : IntKind} {a b c a' b' c' : Int} (h1 : a = a') (h2 : b = b') (h3 : c = c') : Ending.returned (.tuple #[.int k a, .int k b, .int k c]) = .returned (.tuple #[.int k a', .int k b', .int k c']) := by rw [h1, h2, h3]

set_option maxHeartbeats 1000000 in
theorem rules_any (i k l s u : Int) (c : Bool) (now till : Int) (w : World) :
    Calls Try.prog 15 #[.agg #[.int .i64 i, .int .i64 k, .int .i64 l, .int .i64 s, .int .u64 u, .bool c], .int .u64 now, .int .u64 till] w fun e w' => e = .returned (.tuple #[.int .i64 (writeOf k c), .int .i64 (removeOf k l u c now), .int .i64 (keepOf k u c till)]) ∧ Below w.heap.size w w' := by
  by_cases h1 : k = 1
  · subst h1
    cases c
    · go_enter Try.func15, Try.ntmps15
      go_wp2
      go_ret3
      exact ⟨ret_int3 (by simp [writeOf, kindOf]) (by simp [removeOf, kindOf]) (by simp [keepOf]), by repeat (first | exact Below.refl _ _ | refine Below.alloc ?_ (by simp) _)⟩
    · have R : (l ≤ 1 ∧ now < u ∧ removeOf 1 l u true now = 28) ∨ (l ≤ 1 ∧ ¬ now < u ∧ removeOf 1 l u true now = 0) ∨ (¬ l ≤ 1 ∧ removeOf 1 l u true now = 0) := by
        unfold removeOf kindOf
        by_cases h1 : l ≤ 1 <;> by_cases h2 : now < u <;> simp [h1, h2]
      have K : (till < u ∧ keepOf 1 u true till = 28) ∨ (¬ till < u ∧ ¬ till ≤ 1099511627776 ∧ keepOf 1 u true till = 1) ∨ (¬ till < u ∧ till ≤ 1099511627776 ∧ keepOf 1 u true till = 0) := by
        unfold keepOf
        by_cases h1 : till < u <;> by_cases h2 : till ≤ 1099511627776 <;> simp [h1] <;> omega
      rcases R with ⟨h2, h3, hr⟩ | ⟨h2, h3, hr⟩ | ⟨h2, hr⟩ <;> rcases K with ⟨h4, hk⟩ | ⟨h4, h5, hk⟩ | ⟨h4, h5, hk⟩
      all_goals
        rw [hr, hk]
        clear hr hk
        go_enter Try.func15, Try.ntmps15
        go_wp2
        go_ret3
        exact ⟨ret_int3 (by simp [writeOf]) rfl rfl, by repeat (first | exact Below.refl _ _ | refine Below.alloc ?_ (by simp) _)⟩
  · by_cases h2 : k = 2
    · subst h2
      go_enter Try.func15, Try.ntmps15
      go_wp2
      go_ret3
      exact ⟨ret_int3 rfl rfl rfl, by repeat (first | exact Below.refl _ _ | refine Below.alloc ?_ (by simp) _)⟩
    · have e1 : (k == 1) = false := by simp [h1]
      have e2 : (k == 2) = false := by simp [h2]
      go_enter Try.func15, Try.ntmps15
      go_wp2
      go_ret3
      exact ⟨ret_int3 (by simp [writeOf, kindOf, h1, h2]) (by simp [removeOf, kindOf, h1, h2]) (by simp [keepOf, kindOf, h1, h2]), by repeat (first | exact Below.refl _ _ | refine Below.alloc ?_ (by simp) _)⟩

theorem known12_any (w : World) :
    Calls Try.prog 9 #[] w fun e w' => e = .returned (.bool true) ∧ Below w.heap.size w w' := by
  go_enter Try.func9, Try.ntmps9
  go_wp2_with fail
  refine (wremove_any _ _ _ _ _ _ _ _).mono ?_
  rintro e w1 ⟨rfl, hb1⟩
  obtain ⟨hc1, hf1⟩ := bcell hb1
  have hz1 := hb1.size
  simp only [World.size_alloc] at hz1
  rw [show removeOf 1 1 5 true 4 = 28 from rfl]
  go_wp2_with fail
  refine (wremove_any _ _ _ _ _ _ _ _).mono ?_
  rintro e w2 ⟨rfl, hb2⟩
  rw [show removeOf 1 1 5 true 5 = 0 from rfl]
  go_wp2_with fail
  go_ret
  exact ⟨rfl, (((Below.refl _ _).alloc (Nat.le_refl _) _).trans (hb1.mono (by simp))).trans (hb2.mono (by omega))⟩

theorem same12_any (i k l s u : Int) (c : Bool) (now till : Int) (w : World) :
    Calls Try.prog 6 #[.agg #[.int .i64 i, .int .i64 k, .int .i64 l, .int .i64 s, .int .u64 u, .bool c], .int .u64 now, .int .u64 till] w fun e w' => e = .returned (.bool true) ∧ Below w.heap.size w w' := by
  have E1 : ((writeOf k c : Int) == writeOf k c) = true := by simp
  have E2 : ((removeOf k l u c now : Int) == removeOf k l u c now) = true := by simp
  have E3 : ((keepOf k u c till : Int) == keepOf k u c till) = true := by simp
  go_enter Try.func6, Try.ntmps6
  go_wp2_with fail
  refine (rules_any _ _ _ _ _ _ _ _ _).mono ?_
  rintro e w1 ⟨rfl, hb1⟩
  obtain ⟨hc1, hf1⟩ := bcell hb1
  have hz1 : w.heap.size < w1.heap.size := by have := hb1.size; simp at this; omega
  go_wp2_with fail
  refine (wwrite_any _ _ _ _ _ _ _).mono ?_
  rintro e w2 ⟨rfl, hb2⟩
  obtain ⟨hc2, hf2⟩ := bcell hb2
  have hz2 : w.heap.size < w2.heap.size := by have := hb2.size; omega
  go_wp2_with fail
  refine (wremove_any _ _ _ _ _ _ _ _).mono ?_
  rintro e w3 ⟨rfl, hb3⟩
  obtain ⟨hc3, hf3⟩ := bcell hb3
  have hz3 : w.heap.size < w3.heap.size := by have := hb3.size; omega
  go_wp2_with fail
  refine (wkeep_any _ _ _ _ _ _ _ _).mono ?_
  rintro e w4 ⟨rfl, hb4⟩
  go_wp2_with fail
  go_ret
  have s2 := hb2.size
  have s3 := hb3.size
  exact ⟨rfl, ((((Below.refl _ _).alloc (Nat.le_refl _) _).trans (hb1.mono (by simp))).trans (hb2.mono (by omega))).trans ((hb3.mono (by omega)).trans (hb4.mono (by omega)))⟩
end Go.Proofs.Ytcmlfaolooglfaa
