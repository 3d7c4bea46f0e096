/- The walk of WormNumbers: it returns true. -/
import Derived.Test.YtcmlfaolooglfaaWormLiveNil
namespace Go.Proofs.Ytcmlfaolooglfaa.wormNumbers
open Go.ChangeShapes Go.WideShapes Go.ChangeAt Go.RowKit
set_option linter.unusedVariables false
def five : List Int := [0, 4, 5, 6, 1099511627776]
def six : List Int := [0, 4, 5, 6, 1099511627776, 1099511627777]
theorem cells5 (w : World) : ∀ j, j < 5 → (w.alloc (.cells #[Value.int IntKind.u64 0, Value.int IntKind.u64 4, Value.int IntKind.u64 5, Value.int IntKind.u64 6, Value.int IntKind.u64 1099511627776] 22)).cell? ⟨w.heap.size, j, none⟩ = some (.int .u64 (five.getD j 0)) := by
  intro j hj
  match j, hj with
  | 0, _ | 1, _ | 2, _ | 3, _ | 4, _ => go_simp; rfl
theorem cells6 (w : World) : ∀ j, j < 6 → (w.alloc (.cells #[Value.int IntKind.u64 0, Value.int IntKind.u64 4, Value.int IntKind.u64 5, Value.int IntKind.u64 6, Value.int IntKind.u64 1099511627776, Value.int IntKind.u64 1099511627777] 22)).cell? ⟨w.heap.size, j, none⟩ = some (.int .u64 (six.getD j 0)) := by
  intro j hj
  match j, hj with
  | 0, _ | 1, _ | 2, _ | 3, _ | 4, _ | 5, _ => go_simp; rfl
set_option maxHeartbeats 4000000 in
theorem walk (W : World) :
    Calls Try.prog 3 #[] W (Fine W) := by
  go_enter Try.func3, Try.ntmps3
  go_wp2
  go_loopw [1] (fun i wr => ∃ k : Nat, k ≤ 4 ∧ i = .int .i64 k ∧ Below W.heap.size W wr) (fun i _ => 4 - (intOf i).toNat)
  case atStart => exact ⟨0, by omega, rfl, Below.refl _ _⟩
  case round =>
    obtain ⟨k1, hk1, rfl, hb⟩ := hrel
    have hsz := hb.size
    by_cases hl1 : k1 < 4
    · have ek1 : decide (((k1 : Nat) : Int) < 4) = true := by simp; omega
      go_wp2
      try simp only [ek1]
      go_loopw [2] (fun i wr => ∃ k : Nat, k ≤ 4 ∧ i = .int .i64 k ∧ Below W.heap.size W wr) (fun i _ => 4 - (intOf i).toNat)
      case atStart => exact ⟨0, by omega, rfl, hb⟩
      case round =>
        clear hb hsz
        obtain ⟨k2, hk2, rfl, hb⟩ := hrel
        have hsz := hb.size
        by_cases hl2 : k2 < 4
        · have ek2 : decide (((k2 : Nat) : Int) < 4) = true := by simp; omega
          go_wp2
          try simp only [ek2]
          go_loopw [3] (fun i wr => ∃ k : Nat, k ≤ 2 ∧ i = .int .i64 k ∧ Below W.heap.size W wr) (fun i _ => 2 - (intOf i).toNat)
          case atStart => exact ⟨0, by omega, rfl, hb⟩
          case round =>
            clear hb hsz
            obtain ⟨k3, hk3, rfl, hb⟩ := hrel
            have hsz := hb.size
            by_cases hl3 : k3 < 2
            · have ek3 : decide (((k3 : Nat) : Int) < 2) = true := by simp; omega
              go_wp2
              obtain ⟨wo, rfl⟩ : ∃ wo : World, wo = wr := ⟨_, rfl⟩
              try simp only [ek3]
              go_loopw [22] (fun i w2 => ∃ k : Nat, k ≤ 5 ∧ i = .int .i64 k ∧ Below wo.heap.size wo w2 ∧ wo.heap.size < w2.heap.size ∧ ∀ j, j < 5 → w2.cell? ⟨wo.heap.size, j, none⟩ = some (.int .u64 (five.getD j 0))) (fun i _ => 5 - (intOf i).toNat)
              case atStart => exact ⟨0, by omega, rfl, (Below.refl _ _).alloc (Nat.le_refl _) _, by simp, cells5 _⟩
              case round =>
                obtain ⟨k4, hk4, rfl, hg2, hz2, hc2⟩ := hrel
                have hsz2 := hg2.size
                by_cases hl4 : k4 < 5
                · have ek4 : decide (((k4 : Nat) : Int) < 5) = true := by simp; omega
                  have hcell := hc2 k4 hl4
                  obtain ⟨a, ha⟩ : ∃ a, a = five.getD k4 0 := ⟨_, rfl⟩
                  rw [← ha] at hcell
                  clear ha
                  have HC := Lib.hid hc2
                  clear hc2
                  go_wp2
                  obtain ⟨wi, rfl⟩ : ∃ wi : World, wi = wr := ⟨_, rfl⟩
                  try simp only [ek4]
                  go_loopw [28] (fun i w2 => ∃ k : Nat, k ≤ 6 ∧ i = .int .i64 k ∧ Below wi.heap.size wi w2 ∧ wi.heap.size < w2.heap.size ∧ ∀ j, j < 6 → w2.cell? ⟨wi.heap.size, j, none⟩ = some (.int .u64 (six.getD j 0))) (fun i _ => 6 - (intOf i).toNat)
                  case atStart => exact ⟨0, by omega, rfl, (Below.refl _ _).alloc (Nat.le_refl _) _, by simp, cells6 _⟩
                  case round =>
                    obtain ⟨k5, hk5, rfl, hg3, hz3, hc3⟩ := hrel
                    have hsz3 := hg3.size
                    by_cases hl5 : k5 < 6
                    · have hcell3 := hc3 k5 hl5
                      obtain ⟨b, hb'⟩ : ∃ b, b = six.getD k5 0 := ⟨_, rfl⟩
                      rw [← hb'] at hcell3
                      clear hb'
                      have HC3 := Lib.hid hc3
                      clear hc3
                      go_wp2_with fail
                      refine (same12_any _ _ _ _ _ _ _ _ _).mono ?_
                      rintro e w1 ⟨rfl, hB⟩
                      go_wp2
                      go_roundw
                      case rel => exact ⟨k5 + 1, by omega, by go_num, hg3.trans (hB.mono hsz3), by have := hB.size; omega, fun i hi => (hB.cell (p := ⟨wi.heap.size, i, none⟩) hz3).trans (HC3.out i hi)⟩
                      case measure => simp [intOf]; omega
                    · have HC3 := Lib.hid hc3
                      clear hc3
                      go_wp2
                      go_roundw
                      case rel => exact ⟨k4 + 1, by omega, by go_num, hg2.trans (hg3.mono hsz2), by omega, fun i hi => (hg3.cell (p := ⟨wo.heap.size, i, none⟩) hz2).trans (HC.out i hi)⟩
                      case measure => simp [intOf]; omega
                · have HC := Lib.hid hc2
                  clear hc2
                  go_wp2
                  go_roundw
                  case rel => exact ⟨k3 + 1, by omega, by go_num, hb.trans (hg2.mono hsz)⟩
                  case measure => simp [intOf]; omega
            · go_wp2
              go_roundw
              case rel => exact ⟨k2 + 1, by omega, by go_num, hb⟩
              case measure => simp [intOf]; omega
        · go_wp2
          go_roundw
          case rel => exact ⟨k1 + 1, by omega, by go_num, hb⟩
          case measure => simp [intOf]; omega
    · go_wp2_with fail
      refine (live_nil _ _).mono ?_
      rintro e w1 ⟨rfl, rfl⟩
      go_wp2_with fail
      refine (bound_nil _ _).mono ?_
      rintro e w1 ⟨rfl, rfl⟩
      go_wp2_with fail
      refine (known12_any _).mono ?_
      rintro e w2 ⟨rfl, hB⟩
      go_wp2
      go_ret
      exact ⟨rfl, hb.trans (hB.mono hsz)⟩
end Go.Proofs.Ytcmlfaolooglfaa.wormNumbers
