/- permafrostlaw7's helpers: same, known. -/
import Derived.Test.YtdgmndahfbmgfaaDoorPathF
namespace Go.Proofs.YtdgmndahfbmgfaaDoor
open Go.ChangeShapes Go.WideShapes Go.ChangeAt Go.RowKit
set_option linter.unusedVariables false

theorem bls_inj : ∀ {x y : List ByteArray}, bls x = bls y → x = y
  | [], [], _ => rfl
  | [], _ :: _, h => by simp [bls] at h
  | _ :: _, [], h => by simp [bls] at h
  | a :: x, b :: y, h => by
    simp only [bls, List.map_cons, List.cons.injEq] at h
    rw [WideShapes.bytes_inj h.1, bls_inj (x := x) (y := y) h.2]

theorem split_back (l : List UInt8) (h : (pathSplit l).2 = 0) : pathJoin (pathSplit l).1 = l := by
  unfold pathSplit at *
  cases l with
  | nil => simp at h
  | cons c r =>
    simp only at h ⊢
    by_cases hc : c = 47
    · subst hc
      by_cases hr : r = []
      · subst hr; rfl
      · by_cases hf : fineL (splitL r) = 0
        · simp only [ne_eq, not_true_eq_false, if_false, hr, hf, if_true]
          rw [pathJoin, join_split]
        · simp [hr, hf] at h
    · simp [hc] at h
theorem split_bad (l : List UInt8) (h : (pathSplit l).2 ≠ 0) : (pathSplit l).1 = [] := by
  unfold pathSplit at *
  cases l with
  | nil => rfl
  | cons c r =>
    simp only at h ⊢
    by_cases hc : c = 47
    · subst hc
      by_cases hr : r = []
      · subst hr; rfl
      · by_cases hf : fineL (splitL r) = 0
        · simp [hr, hf] at h
        · simp [hr, hf]
    · simp [hc]
theorem split_join_len (l : List UInt8) : (pathJoin (pathSplit l).1).length ≤ l.length + 1 := by
  by_cases h : (pathSplit l).2 = 0
  · rw [split_back l h]; omega
  · rw [split_bad l h]; simp [pathJoin, Lib.join_nil]
theorem split_len (l : List UInt8) : (pathSplit l).1.length ≤ l.length := by
  unfold pathSplit
  cases l with
  | nil => simp
  | cons c r =>
    simp only
    by_cases hc : c = 47
    · subst hc
      by_cases hr : r = []
      · subst hr; simp
      · by_cases hf : fineL (splitL r) = 0
        · simp only [ne_eq, not_true_eq_false, if_false, hr, hf, if_true, splitL_length, List.length_cons]
          have := List.count_le_length (a := (47 : UInt8)) (l := r)
          omega
        · simp [hr, hf]
    · simp [hc]

set_option maxHeartbeats 1000000 in
theorem same7_any (s : ByteArray) (w : World) (hs : s.size < 4294967281) (m : Int) (hm : w.cell? ⟨0, 0, none⟩ = some (.int .i64 m)) :
    Calls Tryd.prog 13 #[.string s] w fun e w' => e = .returned (.bool true) ∧ Below w.heap.size w w' := by
  have hml : s.size ≤ maxLen := by unfold maxLen; omega
  have hll : s.data.toList.length = s.size := by simp
  have hj := split_join_len s.data.toList
  have hk := split_len s.data.toList
  have g1 := good_any s
  have r1 := rgood_any s
  have s1 := split_any s w hs m hm
  have s2 := rsplit_any s
  generalize hpl : pathSplit s.data.toList = pl at hj hk
  generalize hgl : goodL s.data.toList = gl at g1 r1
  have HPL := Lib.hid hpl
  have eg : (gl == gl) = true := by simp
  have ee : ((pl.2 : Int) == pl.2) = true := by simp
  clear hpl hgl hm
  go_enter Tryd.func13, Tryd.ntmps13
  go_wp2_with fail
  refine s1.mono ?_
  rintro e w1 ⟨a1, n1, c1, ss1, rfl, hc1, hb1, hS1, hB1⟩
  rw [HPL.out] at hb1 ⊢
  go_wp2_with fail
  refine (s2 _ hs).mono ?_
  rintro e w2 ⟨a2, n2, c2, ss2, rfl, hc2, hb2, hS2, hB2⟩
  rw [HPL.out] at hb2 ⊢
  obtain rfl : ss1 = ss2 := bls_inj (hb1.trans hb2.symm)
  have hS1' := hS1.below hB2 (Nat.le_refl _)
  go_wp2_with fail
  refine (same_any _ _ _ _ _ _ _ _ _ hS1' hS2).mono ?_
  rintro e w3 ⟨rfl, hB3⟩
  have e3 : decide (ss1 = ss1) = true := by simp
  rw [e3]
  clear e3
  go_wp2_with fail
  refine (g1 _ hml).mono ?_
  rintro e w4 ⟨rfl, hB4⟩
  go_wp2_with fail
  refine (r1 _ hml).mono ?_
  rintro e w5 ⟨rfl, hB5⟩
  have hS1'' := ((hS1'.below hB3 (Nat.le_refl _)).below hB4 (Nat.le_refl _)).below hB5 (Nat.le_refl _)
  have hS2'' := ((hS2.below hB3 (Nat.le_refl _)).below hB4 (Nat.le_refl _)).below hB5 (Nat.le_refl _)
  have hn1 := hS1.length
  have hx : (bls ss1).length = n1 := by rw [bls_len]; exact hn1
  rw [hb1] at hx
  have hjl : (pathJoin (bls ss1)).length ≤ 140737488355328 := by rw [hb1]; omega
  have hjl' : (Lib.join (bls ss1) [47]).length ≤ 140737488355327 := by
    have : (pathJoin (bls ss1)).length = (Lib.join (bls ss1) [47]).length + 1 := by simp [pathJoin]
    omega
  go_wp2_with fail
  refine (join_any _ _ _ _ _ hS1'' hc1 hjl' (by omega)).mono ?_
  rintro e w6 ⟨rfl, hB6⟩
  go_wp2_with fail
  refine (rjoin_any _ _ _ _ _ (hS2''.below hB6 (Nat.le_refl _)) hjl).mono ?_
  rintro e w7 ⟨rfl, hB7⟩
  go_wp2_with fail
  go_ret
  have z1 := hB1.size
  have z2 := hB2.size
  have z3 := hB3.size
  have z4 := hB4.size
  have z5 := hB5.size
  have z6 := hB6.size
  exact ⟨rfl, (((((hB1.trans (hB2.mono z1)).trans (hB3.mono (by omega))).trans (hB4.mono (by omega))).trans (hB5.mono (by omega))).trans (hB6.mono (by omega))).trans (hB7.mono (by omega))⟩

theorem known7_any (w : World) (m : Int) (hm : w.cell? ⟨0, 0, none⟩ = some (.int .i64 m)) (h0 : 0 < w.heap.size) :
    Calls Tryd.prog 12 #[] w fun e w' => e = .returned (.bool true) ∧ Below w.heap.size w w' := by
  have s1 := split_any ⟨#[47, 97, 47, 98]⟩ w (by decide) m hm
  have s2 := fun w' h => split_any ⟨#[47, 97, 47]⟩ w' (by decide) m h
  have e1 : pathSplit (⟨#[47, 97, 47, 98]⟩ : ByteArray).data.toList = ([[97], [98]], 0) := by decide
  have e2 : pathSplit (⟨#[47, 97, 47]⟩ : ByteArray).data.toList = ([], 12) := by decide
  unfold RetSplit at s1 s2
  rw [e1] at s1
  simp only [e2] at s2
  have HM := Lib.hid hm
  clear hm
  go_enter Tryd.func12, Tryd.ntmps12
  go_wp2_with fail
  refine s1.mono ?_
  rintro e w1 ⟨a1, n1, c1, ss1, rfl, hc1, hb1, hS1, hB1⟩
  go_wp2_with fail
  refine (s2 _ ((hB1.cell (p := ⟨0, 0, none⟩) h0).trans HM.out)).mono ?_
  rintro e w2 ⟨a2, n2, c2, ss2, rfl, hc2, hb2, hS2, hB2⟩
  obtain rfl : ss1 = [⟨#[97]⟩, ⟨#[98]⟩] := bls_inj hb1
  have hz2 := hB2.size
  have hz1 := hB1.size
  go_wp2_with fail
  refine (same_any _ _ _ _ _ _ _ [⟨#[97]⟩, ⟨#[98]⟩] _ ((hS1.below hB2 (Nat.le_refl _)).below ((Below.refl _ _).alloc (Nat.le_refl _) _) (Nat.le_refl _)) (strs_new (ss := [⟨#[97]⟩, ⟨#[98]⟩]) rfl (by decide) (by decide))).mono ?_
  rintro e w3 ⟨rfl, hB3⟩
  have e3 : decide (([⟨#[97]⟩, ⟨#[98]⟩] : List ByteArray) = [⟨#[97]⟩, ⟨#[98]⟩]) = true := by simp
  rw [e3]
  clear e3
  go_wp2_with fail
  refine (join_any (S := fun _ => False) _ _ _ [] _ ⟨RowAt.nil _ _ _, by simp⟩ (Nat.le_refl _) (by simp [bls, Lib.join_nil]) (by omega)).mono ?_
  rintro e w4 ⟨rfl, hB4⟩
  have e4 : bmk (pathJoin (bls [])) = ⟨#[47]⟩ := rfl
  rw [e4]
  go_wp2_with fail
  go_ret
  have z3 := hB3.size
  simp only [World.size_alloc] at z3
  exact ⟨rfl, (((hB1.trans (hB2.mono hz1)).alloc (by omega) _).trans (hB3.mono (by simp; omega))).trans (hB4.mono (by omega))⟩
end Go.Proofs.YtdgmndahfbmgfaaDoor
