/- The walk of ClockNumbers: it returns true. -/
import Derived.Test.YtinnebeielldeaaClock
namespace Go.Proofs.Ytinnebeielldeaa.clockNumbers
open Go.ChangeShapes Go.WideShapes Go.ChangeAt Go.RowKit
def vals : List Int := [0, 1, 5, 1099511627775, 1099511627776, 1099511627777, 18446744073709551615]
theorem vals_bd (k : Nat) : 0 ≤ vals.getD k 0 ∧ vals.getD k 0 ≤ 18446744073709551615 := by
  match k with
  | 0 | 1 | 2 | 3 | 4 | 5 | 6 => decide
  | n + 7 => simp [vals]
theorem cells7 (w : World) : ∀ j, j < 7 → (w.alloc (.cells #[Value.int IntKind.u64 0, Value.int IntKind.u64 1, Value.int IntKind.u64 5, Value.int IntKind.u64 1099511627775, Value.int IntKind.u64 1099511627776, Value.int IntKind.u64 1099511627777, Value.int IntKind.u64 18446744073709551615] 23)).cell? ⟨w.heap.size, j, none⟩ = some (.int .u64 (vals.getD j 0)) := by
  intro j hj
  match j, hj with
  | 0, _ | 1, _ | 2, _ | 3, _ | 4, _ | 5, _ | 6, _ => go_simp; rfl
set_option maxHeartbeats 1000000 in
theorem walk (W : World) :
    Calls Try.prog 4 #[] W (Fine W) := by
  go_enter Try.func4, Try.ntmps4
  go_wp2
  go_loopw [8] (fun i wr => ∃ k : Nat, k ≤ 7 ∧ i = .int .i64 k ∧ Below W.heap.size W wr ∧ W.heap.size < wr.heap.size ∧ ∀ j, j < 7 → wr.cell? ⟨W.heap.size, j, none⟩ = some (.int .u64 (vals.getD j 0))) (fun i _ => 7 - (intOf i).toNat)
  case atStart => exact ⟨0, by omega, rfl, (Below.refl _ _).alloc (Nat.le_refl _) _, by simp, cells7 _⟩
  case round =>
    obtain ⟨k, hk, rfl, hg, hz, hc⟩ := hrel
    by_cases hlt : k < 7
    · have hcell := hc k hlt
      obtain ⟨a, ha⟩ : ∃ a, a = vals.getD k 0 := ⟨_, rfl⟩
      have hb := vals_bd k
      rw [← ha] at hb hcell
      clear ha
      have HC := Lib.hid hc
      clear hc
      go_wp2
      obtain ⟨wo, rfl⟩ : ∃ wo : World, wo = wr := ⟨_, rfl⟩
      go_loopw [14] (fun i w2 => ∃ j : Nat, j ≤ 7 ∧ i = .int .i64 j ∧ Below wo.heap.size wo w2 ∧ wo.heap.size < w2.heap.size ∧ ∀ j, j < 7 → w2.cell? ⟨wo.heap.size, j, none⟩ = some (.int .u64 (vals.getD j 0))) (fun i _ => 7 - (intOf i).toNat)
      case atStart => exact ⟨0, by omega, rfl, (Below.refl _ _).alloc (Nat.le_refl _) _, by simp, cells7 _⟩
      case round =>
        obtain ⟨j, hj, rfl, hg2, hz2, hc2⟩ := hrel
        by_cases hlt2 : j < 7
        · have hcell2 := hc2 j hlt2
          obtain ⟨b, hb'⟩ : ∃ b, b = vals.getD j 0 := ⟨_, rfl⟩
          have hb2 := vals_bd j
          rw [← hb'] at hb2 hcell2
          clear hb'
          have HC2 := Lib.hid hc2
          clear hc2
          by_cases h1 : b ≤ 1099511627776 <;> by_cases h2 : a < b
          all_goals
            go_wp2
            go_roundw
            case rel => exact ⟨j + 1, by omega, by go_num, hg2, hz2, HC2.out⟩
            case measure => simp [intOf]; omega
        · have HC2 := Lib.hid hc2
          clear hc2
          go_wp2
          go_roundw
          case rel => exact ⟨k + 1, by omega, by go_num, hg.trans (hg2.mono hg.size), by omega, fun i hi => (hg2.cell (p := ⟨W.heap.size, i, none⟩) hz).trans (HC.out i hi)⟩
          case measure => simp [intOf]; omega
    · have HC := Lib.hid hc
      clear hc
      go_wp2
      go_ret
      exact ⟨rfl, hg⟩
end Go.Proofs.Ytinnebeielldeaa.clockNumbers
