/- disk: Sectors, is, at, Writes; slices.Clone of bytes. -/
import Derived.Test.YtkdomgiabiedlaaDiskA
import Derived.Test.YtkdomgiabiedlaaBClone
namespace Go.Proofs.Ytkdomgiabiedlaa
open Go.ChangeShapes Go.WideShapes Go.ChangeAt Go.RowKit
set_option linter.unusedVariables false

theorem head_cells {F : Nat → Prop} {w : World} {d sb mb : Nat} {l : List (Int × Value)} {M : DiskM} (h : DiskAt F w d sb mb l M) :
    w.cell? ⟨d, 0, none⟩ = some (.slice (some ⟨sb, 0, none⟩) M.safe.length M.safe.length) ∧ w.cell? ⟨d, 1, none⟩ = some (.map (some mb)) ∧ w.cell? ⟨d, 2, none⟩ = some (.int .i64 M.writes) := by
  have := h.head
  simp [World.cell?, this]

theorem dsectors_any {F : Nat → Prop} {d sb mb : Nat} {l : List (Int × Value)} {M : DiskM} (w : World) (h : DiskAt F w d sb mb l M) :
    Calls Try.prog 24 #[.pointer (some ⟨d, 0, none⟩)] w fun e w' => e = .returned (.int .i64 ((M.safe.length / 128 : Nat) : Int)) ∧ w = w' := by
  obtain ⟨hc0, _, _⟩ := head_cells h
  have hl := h.len
  obtain ⟨N, hN⟩ : ∃ N, N = M.safe.length := ⟨_, rfl⟩
  rw [← hN] at hc0 hl ⊢
  have e1 : IntKind.i64.wrap (Int.tdiv (N : Int) 128) = ((N / 128 : Nat) : Int) := by rw [Int.tdiv_eq_ediv_of_nonneg (by omega)]; exact IntWalk.i64_in _ (by omega)
  clear h hN
  go_enter Try.func24, Try.ntmps24
  go_wp2
  go_ret
  exact ⟨ret_int (by omega), rfl⟩

theorem dis_any {F : Nat → Prop} {d sb mb : Nat} {l : List (Int × Value)} {M : DiskM} (i : Int) (w : World) (h : DiskAt F w d sb mb l M) :
    Calls Try.prog 26 #[.pointer (some ⟨d, 0, none⟩), .int .i64 i] w fun e w' => e = .returned (.bool (decide (0 ≤ i ∧ i < ((M.safe.length / 128 : Nat) : Int)))) ∧ w = w' := by
  by_cases h0 : 0 ≤ i
  · go_enter Try.func26, Try.ntmps26
    go_wp2_with (go_at_call 24; refine (dsectors_any _ h).mono ?_; rintro e w' ⟨rfl, rfl⟩)
    go_ret
    exact ⟨ret_bool (by simp [h0]), rfl⟩
  · have e1 : decide (0 ≤ i) = false := by simpa using h0
    go_enter Try.func26, Try.ntmps26
    go_wp2
    go_ret
    exact ⟨ret_bool (by simp), rfl⟩

theorem dwrites_any {F : Nat → Prop} {d sb mb : Nat} {l : List (Int × Value)} {M : DiskM} (w : World) (h : DiskAt F w d sb mb l M) :
    Calls Try.prog 18 #[.pointer (some ⟨d, 0, none⟩)] w fun e w' => e = .returned (.int .i64 M.writes) ∧ w = w' := by
  obtain ⟨_, _, hc2⟩ := head_cells h
  clear h
  go_enter Try.func18, Try.ntmps18
  go_wp2
  go_ret
  exact ⟨rfl, rfl⟩

theorem dat_any {F : Nat → Prop} {d sb mb : Nat} {l : List (Int × Value)} {M : DiskM} (i : Nat) (hi : i * 128 < M.safe.length) (w : World) (h : DiskAt F w d sb mb l M) :
    Calls Try.prog 28 #[.pointer (some ⟨d, 0, none⟩), .int .i64 i] w fun e w' => e = .returned (.slice (some ⟨sb, i * 128, none⟩) 128 (M.safe.length - i * 128)) ∧ w = w' := by
  obtain ⟨hc0, _, _⟩ := head_cells h
  have hl := h.len
  obtain ⟨N, hN⟩ : ∃ N, N = M.safe.length := ⟨_, rfl⟩
  rw [← hN] at hc0 hl hi ⊢
  have e1 : IntKind.i64.wrap ((i : Int) * 128) = (i : Int) * 128 := IntWalk.i64_in _ (by omega)
  have e2 : IntKind.i64.wrap ((i : Int) + 1) = (i : Int) + 1 := IntWalk.i64_in _ (by omega)
  have e3 : IntKind.i64.wrap (((i : Int) + 1) * 128) = ((i : Int) + 1) * 128 := IntWalk.i64_in _ (by omega)
  clear h hN
  go_enter Try.func28, Try.ntmps28
  go_wp2
  go_ret
  refine ⟨?_, rfl⟩
  show Ending.returned (Value.slice (some ⟨sb, i * 128, none⟩) ((i + 1) * 128 - i * 128) (N - i * 128)) = _
  rw [show (i + 1) * 128 - i * 128 = 128 by omega]

end Go.Proofs.Ytkdomgiabiedlaa
