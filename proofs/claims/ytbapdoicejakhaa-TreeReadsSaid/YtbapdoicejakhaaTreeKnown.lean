/- permafrostlaw11.known. -/
import Derived.Test.YtbapdoicejakhaaTreeIn
namespace Go.Proofs.Ytbapdoicejakhaa
open Go.ChangeShapes Go.WideShapes Go.ChangeAt Go.RowKit
set_option linter.unusedVariables false
set_option linter.unusedSimpArgs false

theorem strs_lit {w : World} {vs : List Value} {ls : List Nm} {n : Nat} (t : TypeId) (h : vs = (ls.map strOf).map Value.string) (hn : vs.length = n) (hm : n ≤ 1000) (hs : ∀ l ∈ ls, l.length ≤ 1000) : StrsAt (fun b => b = w.heap.size) (w.alloc (.cells vs.toArray t)) (some ⟨w.heap.size, 0, none⟩) n (ls.map strOf) := by
  subst hn
  refine ⟨?_, fun s hs' => ?_⟩
  · rw [← h]
    exact new_row vs t (by unfold maxLen; omega)
  · obtain ⟨l, hl, rfl⟩ := List.mem_map.1 hs'
    rw [strOf_size]
    have := hs l hl
    unfold maxLen; omega

def kn1 : TrM := (makeM newM [[97]] 2).2
def kn2 : TrM := (makeM kn1 [[97], [98]] 1).2
def kn3 : TrM := (linkM kn2 [[97], [98]] [[99]]).2
theorem kn1_eq : (makeM newM [[97]] 2).1 = (1, 0) := by kernel_rfl
theorem kn2_eq : (makeM kn1 [[97], [98]] 1).1 = (2, 0) := by kernel_rfl
theorem kn3_eq : (linkM kn2 [[97], [98]] [[99]]).1 = 0 := by kernel_rfl
theorem kn3_node : nodeM kn3 2 = .agg #[.int .i64 2, .int .i64 1, .int .i64 2, .int .i64 0, .int .u64 0, .bool false] := by kernel_rfl
theorem kn3_some : (aget 2 kn3).isSome = true := by kernel_rfl
theorem kn3_len : kn3.length = 3 := by kernel_rfl
set_option maxRecDepth 100000 in
set_option maxHeartbeats 4000000 in
theorem known11_any (w : World) : Calls Try.prog 13 #[] w fun e w' => e = .returned (.bool true) ∧ Below w.heap.size w w' := by
  go_enter Try.func13, Try.ntmps13
  go_wp2_with fail
  (with_reducible refine (in_new w w (Below.refl _ _)).mono ?_)
  rintro e w1 ⟨p, rfl, hT1, hb1⟩
  have HM1 := Lib.hid (in_make (hT1.grow (wall w1 (.cells #[.string ⟨#[97]⟩] 9))) (some ⟨w1.heap.size, 0, none⟩) 1 1 [[97]] 2 (strs_lit (w := w1) (vs := [.string ⟨#[97]⟩]) 9 rfl rfl (by simp) (by simp)) (Nat.le_refl _) (by omega))
  rw [kn1_eq] at HM1
  clear hT1 hb1
  go_wp2_with fail
  (with_reducible refine HM1.out.mono ?_)
  rintro e w2 ⟨rfl, hT2, hK2⟩
  have HM2 := Lib.hid (in_make (T := kn1) (hT2.grow (wall w2 (.cells #[.string ⟨#[97]⟩, .string ⟨#[98]⟩] 9))) (some ⟨w2.heap.size, 0, none⟩) 2 2 [[97], [98]] 1 (strs_lit (w := w2) (vs := [.string ⟨#[97]⟩, .string ⟨#[98]⟩]) 9 rfl rfl (by simp) (by simp)) (Nat.le_refl _) (by omega))
  rw [kn2_eq] at HM2
  clear hT2 hK2 HM1
  go_wp2_with fail
  (with_reducible refine HM2.out.mono ?_)
  rintro e w3 ⟨rfl, hT3, hK3⟩
  have HM3 := Lib.hid (in_link (T := kn2) (hT3.grow ((wall w3 (.cells #[.string ⟨#[97]⟩, .string ⟨#[98]⟩] 9)).alloc (by simp) (.cells #[.string ⟨#[99]⟩] 9))) (some ⟨w3.heap.size, 0, none⟩) 2 2 [[97], [98]] (some ⟨w3.heap.size + 1, 0, none⟩) 1 1 [[99]]
    ((strs_lit (w := w3) (vs := [.string ⟨#[97]⟩, .string ⟨#[98]⟩]) 9 rfl rfl (by simp) (by simp)).below (wall _ _) (Nat.le_refl _))
    (by
      have := strs_lit (w := w3.alloc (.cells #[.string ⟨#[97]⟩, .string ⟨#[98]⟩] 9)) (vs := [.string ⟨#[99]⟩]) (ls := [[99]]) 9 rfl rfl (by simp) (by simp)
      rw [World.size_alloc] at this
      exact this) (Nat.le_refl _) (by omega))
  rw [kn3_eq] at HM3
  clear hT3 hK3 HM2
  go_wp2_with fail
  (with_reducible refine HM3.out.mono ?_)
  rintro e w4 ⟨rfl, hT4, hK4⟩
  have HN := Lib.hid (in_node (T := kn3) hT4 2 (by rfl))
  rw [kn3_node, kn3_some] at HN
  have HT4 := Lib.hid hT4
  clear hT4 hK4 HM3
  go_wp2_with fail
  (with_reducible refine HN.out.mono ?_)
  rintro e w5 ⟨rfl, hb5⟩
  have HC := Lib.hid (fun w6 (hb : Below w4.heap.size w4 w6) => in_count (T := kn3) (HT4.out.grow hb))
  rw [kn3_len] at HC
  have HB5 := Lib.hid hb5
  clear hb5 HN
  go_wp2_with fail
  (with_reducible refine (HC.out _ ?_).mono ?_)
  · exact HB5.out.trans ((wall _ _).mono HB5.out.size)
  rintro e w6 ⟨rfl, rfl⟩
  go_wp2_with fail
  go_ret
  exact ⟨rfl, HT4.out.below.trans ((HB5.out.trans ((wall _ _).mono HB5.out.size)).mono HT4.out.below.size)⟩
end Go.Proofs.Ytbapdoicejakhaa
