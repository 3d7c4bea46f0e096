/- The walk of ClockRises: it returns true for any ticks and any time. -/
import Derived.Test.YtinnebeielldeaaClock
import Derived.Test.YtinnebeielldeaaArgs
namespace Go.Proofs.Ytinnebeielldeaa.clockRises
open Go.ChangeShapes Go.WideShapes Go.ChangeAt Go.RowKit
set_option linter.unusedVariables false
theorem cells : Try.prog.cellsOf 23 = 1 := by kernel_rfl
theorem next_at (a b n : Int) (h : nextOf a b = n) (w : World) :
    Calls Try.prog 9 #[.int .u64 a, .int .u64 b] w fun e w' => e = .returned (.int .u64 n) ∧ w = w' := by
  rw [← h]; exact next_any a b w
theorem right_yes (t : Int) (h : t ≤ 1099511627776) (w : World) :
    Calls Try.prog 10 #[.int .u64 t] w fun e w' => e = .returned (.bool true) ∧ w = w' := by
  have := right_any t w
  rwa [decide_eq_true h] at this
theorem walk {H : Type} {enc : TypeId × Value → H} (W : World) (base : Nat) (v0 : Value) (d0 : DataW H) (p0 : List MemPlace) (o0 : Value.okWide Try.prog W .any base 22 v0) (h0 : DataW.Trod enc Try.prog W 0 (fun _ => true) true 22 v0 d0 p0) (l0 : ∀ x ∈ p0, x.block < W.heap.size) (a1 : Int) (w1 : (Lit.int .u64 a1).wf = true) (hsz : (DataW.weightsEach Try.prog [22, 23] ([d0, .lit (.int .u64 a1)] : List (DataW H))).all (· ≤ reachBytes) = true) :
    Calls Try.prog 3 #[v0, .int .u64 a1] W (Fine W) := by

  obtain ⟨a, len, cap, zs, rfl, hI⟩ := open_intsAt Try.underlying22 Try.underlying23 cells o0 h0 l0
  clear hsz o0 h0 l0 d0 p0
  have hm := hI.small
  unfold maxLen at hm
  have b1 := bounds_u64 w1
  clear w1
  go_enter Try.func3, Try.ntmps3
  go_wp2
  go_loop [5, 6, 7] (fun now due i => ∃ (k : Nat) (n : Int) (d : Bool), k ≤ len ∧ k ≤ 100 ∧ i = .int .i64 k ∧ now = .int .u64 n ∧ 0 ≤ n ∧ n ≤ 1099511627776 ∧ due = .bool d ∧ (d = true → a1 ≤ n)) (fun _ _ i => 100 - (intOf i).toNat)
  case atStart => exact ⟨0, 0, false, by omega, by omega, rfl, rfl, by omega, by omega, rfl, by simp⟩
  case round =>
    obtain ⟨k, n, d, hk, hk2, rfl, rfl, hn0, hn1, rfl, hd⟩ := hrel
    by_cases hlt : k < len ∧ k < 100
    · obtain ⟨hlt, hlt2⟩ := hlt
      obtain ⟨b, off, rfl, _, hc⟩ := hI.at_ (by omega)
      have hcell := hc k hlt
      obtain ⟨x, hx⟩ : ∃ x, x = zs.getD k 0 := ⟨_, rfl⟩
      rw [← hx] at hcell
      clear hx hc hI
      obtain ⟨m, hm⟩ : ∃ m, nextOf n x = m := ⟨_, rfl⟩
      have hm1 : n ≤ m ∧ m ≤ 1099511627776 ∧ (m = n ∨ m = x) := by
        rw [← hm]; unfold nextOf; split <;> omega
      have HM := Lib.hid hm
      clear hm
      obtain ⟨h1, h2, h3⟩ := hm1
      have hdm : d = true → dueB m a1 = true := fun h => by have := hd h; simp [dueB]; omega
      have hdu : dueB m a1 = true → a1 ≤ m := by simp [dueB]
      have HU := Lib.hid hdu
      clear hdu hd
      by_cases h4 : m = n
      · have e1 : ((m : Int) != n) = false := by simp [h4]
        clear h3 h4
        cases d
        · clear hdm
          go_wp2_with (first | (go_at_call 9; refine (next_at _ _ _ HM.out _).mono ?_; rintro e w' ⟨rfl, rfl⟩) | (go_at_call 10; refine (right_yes _ h2 _).mono ?_; rintro e w' ⟨rfl, rfl⟩) | (go_at_call 11; refine (due_any _ _ _).mono ?_; rintro e w' ⟨rfl, rfl⟩))
          go_round
          case rel => exact ⟨k + 1, m, _, by omega, by omega, by go_num, rfl, by omega, h2, rfl, HU.out⟩
          case measure => simp [intOf]; omega
        · replace hdm := hdm rfl
          go_wp2_with (first | (go_at_call 9; refine (next_at _ _ _ HM.out _).mono ?_; rintro e w' ⟨rfl, rfl⟩) | (go_at_call 10; refine (right_yes _ h2 _).mono ?_; rintro e w' ⟨rfl, rfl⟩) | (go_at_call 11; refine (due_any _ _ _).mono ?_; rintro e w' ⟨rfl, rfl⟩))
          go_round
          case rel => exact ⟨k + 1, m, true, by omega, by omega, by go_num, rfl, by omega, h2, rfl, fun _ => HU.out hdm⟩
          case measure => simp [intOf]; omega
      · obtain rfl : m = x := by omega
        have e1 : ((m : Int) != n) = true := by simp [h4]
        clear h3 h4
        cases d
        · clear hdm
          go_wp2_with (first | (go_at_call 9; refine (next_at _ _ _ HM.out _).mono ?_; rintro e w' ⟨rfl, rfl⟩) | (go_at_call 10; refine (right_yes _ h2 _).mono ?_; rintro e w' ⟨rfl, rfl⟩) | (go_at_call 11; refine (due_any _ _ _).mono ?_; rintro e w' ⟨rfl, rfl⟩))
          go_round
          case rel => exact ⟨k + 1, m, _, by omega, by omega, by go_num, rfl, by omega, h2, rfl, HU.out⟩
          case measure => simp [intOf]; omega
        · replace hdm := hdm rfl
          go_wp2_with (first | (go_at_call 9; refine (next_at _ _ _ HM.out _).mono ?_; rintro e w' ⟨rfl, rfl⟩) | (go_at_call 10; refine (right_yes _ h2 _).mono ?_; rintro e w' ⟨rfl, rfl⟩) | (go_at_call 11; refine (due_any _ _ _).mono ?_; rintro e w' ⟨rfl, rfl⟩))
          go_round
          case rel => exact ⟨k + 1, m, true, by omega, by omega, by go_num, rfl, by omega, h2, rfl, fun _ => HU.out hdm⟩
          case measure => simp [intOf]; omega
    · clear hI hd
      by_cases hl : k < len
      · have h100 : ¬ k < 100 := by omega
        clear hlt
        go_wp2_with (first | (go_at_call 12; refine (known8_any _).mono ?_; rintro e w' ⟨rfl, rfl⟩))
        go_ret
        exact ⟨rfl, Below.refl _ _⟩
      · clear hlt
        go_wp2_with (first | (go_at_call 12; refine (known8_any _).mono ?_; rintro e w' ⟨rfl, rfl⟩))
        go_ret
        exact ⟨rfl, Below.refl _ _⟩
end Go.Proofs.Ytinnebeielldeaa.clockRises
