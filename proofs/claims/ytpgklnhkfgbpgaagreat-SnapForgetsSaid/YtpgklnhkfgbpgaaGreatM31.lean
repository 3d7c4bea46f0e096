/- permafrostlaw13.known. -/
import Derived.Test.YtpgklnhkfgbpgaaGreatM30
namespace Go.Proofs.YtpgklnhkfgbpgaaGreat
open Go.ChangeShapes Go.WideShapes Go.ChangeAt Go.RowKit
set_option linter.unusedVariables false
set_option linter.unusedSimpArgs false

theorem bound_new : boundM (commitM newM) 0 = false := by kernel_rfl
theorem forget_first {S S' : SnM} {er : Int} {x y : OneM} (h : ForgetR S 1 0 er S') (hl : S.l = [x] ++ [y]) (hx : x.id = 1) (ht : x.t = commitM newM) : er = 0 ∧ S'.l = [y] ∧ S'.next = S.next ∧ S'.last = S.last := by
  rcases h with ⟨_, _, hno⟩ | ⟨k, z, hz, hid, hno, h⟩
  · exact absurd hx (hno x (by rw [hl]; simp))
  · rcases k with _ | k
    · have e1 : x = z := by rw [hl] at hz; simpa using hz
      subst e1
      rcases h with ⟨hb, _⟩ | ⟨_, rfl, rfl⟩
      · rw [ht, bound_new] at hb; cases hb
      · exact ⟨rfl, by show S.l.take 0 ++ S.l.drop 1 = [y]; rw [hl]; rfl, rfl, rfl⟩
    · exact absurd hx (hno x (by rw [hl]; simp))
set_option maxRecDepth 100000 in
set_option maxHeartbeats 8000000 in
theorem known13_any (w : World) : Calls Tryz.prog 10 #[] w fun e w' => e = .returned (.bool true) ∧ Below w.heap.size w w' := by
  have hM0 : Marks w (fun _ => 0) w := ⟨fun b hb => absurd rfl hb, Below.refl _ _⟩
  have HM0 := Lib.hid hM0
  clear hM0
  have h0 : ¬ (fun k : Nat => k = 1) 0 := by simp
  go_enter Tryz.func10, Tryz.ntmps10
  go_wp2_with fail
  (with_reducible refine (new_snaps HM0.out 1 (by omega)).mono ?_)
  rintro e w1 ⟨s, o1, rfl, hs1, hS1, hb1⟩
  have HM1 := Lib.hid (HM0.out.step (by simp) hs1)
  have HS1 := Lib.hid hS1
  clear hs1 hS1 hb1 HM0
  go_wp2_with fail
  (with_reducible refine (new2_any w w1 o1 HM1.out 2 (by omega)).mono ?_)
  rintro e w2 ⟨t, o2, rfl, hs2, hT2, hb2⟩
  have HM2 := Lib.hid (HM1.out.step (by simp) hs2)
  have HS2 := Lib.hid (HS1.out.step (by simp) (by simp) hs2)
  have HT2 := Lib.hid hT2
  obtain ⟨x1, S1, e1, l1, id1, t1, n1, g1, _, q1⟩ := takeM_room (S := newSn) (T := newM) (by simp [newSn])
  have hc1 : Calls Tryz.prog 9 #[ptr s, ptr t] w2 fun e w' => e = .returned (.tuple #[.int .i64 1, .int .i64 0]) ∧ ∃ o', Step o2 (fun k => k = 1) w2 o' w' ∧ SnapsO o' 1 w' s S1 := by
    have := take_any HS2.out HT2.out HM2.out (by omega) newM_ok (by simp [newSn]) (by simp [newSn]) (by simp [newSn]) (by simp [newSn])
    rw [e1] at this
    exact this
  have HC1 := Lib.hid hc1
  have HL1 := Lib.hid (show S1.l = [x1] from l1)
  have HX1 := Lib.hid (And.intro (show x1.id = 1 from id1) t1)
  have HN1 := Lib.hid (show S1.next = 2 from n1)
  have HQ1 := Lib.hid q1
  clear hs2 hT2 hb2 HM1 HS1 hc1 e1 l1 id1 t1 n1 g1 q1
  go_wp2_with fail
  (with_reducible refine HC1.out.mono ?_)
  rintro e w3 ⟨rfl, o3, hs3, hS3⟩
  have HM3 := Lib.hid (HM2.out.step h0 hs3)
  have HT3 := Lib.hid (HT2.out.step h0 (by simp) hs3)
  have HS3 := Lib.hid hS3
  obtain ⟨x2, S2, e2, l2, id2, t2, n2, g2, _, q2⟩ := takeM_room (S := S1) (T := newM) (by rw [HL1.out]; simp)
  have hc2 : Calls Tryz.prog 9 #[ptr s, ptr t] w3 fun e w' => e = .returned (.tuple #[.int .i64 2, .int .i64 0]) ∧ ∃ o', Step o3 (fun k => k = 1) w3 o' w' ∧ SnapsO o' 1 w' s S2 := by
    have := take_any HS3.out HT3.out HM3.out (by omega) newM_ok (by rw [HL1.out]; simp) (by rw [HQ1.out]; omega) (by rw [HN1.out]; omega) (by rw [HN1.out]; omega)
    rw [e2, HN1.out] at this
    exact this
  have HC2 := Lib.hid hc2
  have HL2 := Lib.hid (show S2.l = [x1] ++ [x2] by rw [l2, HL1.out])
  have HX2 := Lib.hid (show x2.id = 2 by rw [id2, HN1.out])
  have HN2 := Lib.hid (show S2.next = 3 by rw [n2, HN1.out]; rfl)
  have HQ2 := Lib.hid q2
  clear hs3 hS3 hc2 e2 l2 id2 t2 n2 g2 q2 HM2 HT2 HS2 HC1
  go_wp2_with fail
  (with_reducible refine HC2.out.mono ?_)
  rintro e w4 ⟨rfl, o4, hs4, hS4⟩
  have HM4 := Lib.hid (HM3.out.step h0 hs4)
  have HT4 := Lib.hid (HT3.out.step h0 (by simp) hs4)
  have hf := forget_any hS4 HM4.out (by omega) (by rw [HL2.out]; simp) 1 0
  have HF := Lib.hid hf
  clear hs4 hS4 hf HM3 HT3 HS3 HC2
  go_wp2_with fail
  (with_reducible refine HF.out.mono ?_)
  rintro e w5 ⟨er, S3, o5, rfl, hfr, hs5, hS5⟩
  obtain ⟨rfl, l3, n3, q3⟩ := forget_first hfr HL2.out HX1.out.1 HX1.out.2
  have HM5 := Lib.hid (HM4.out.step h0 hs5)
  have HT5 := Lib.hid (HT4.out.step h0 (by simp) hs5)
  obtain ⟨x3, S4, e4, l4, id4, t4, n4, g4, _, q4⟩ := takeM_room (S := S3) (T := newM) (by rw [l3]; simp)
  have hc3 : Calls Tryz.prog 9 #[ptr s, ptr t] w5 fun e w' => e = .returned (.tuple #[.int .i64 3, .int .i64 0]) ∧ ∃ o', Step o5 (fun k => k = 1) w5 o' w' ∧ SnapsO o' 1 w' s S4 := by
    have := take_any hS5 HT5.out HM5.out (by omega) newM_ok (by rw [l3]; simp) (by rw [q3, HQ2.out]; omega) (by rw [n3, HN2.out]; omega) (by rw [n3, HN2.out]; omega)
    rw [e4, n3, HN2.out] at this
    exact this
  have HC3 := Lib.hid hc3
  have HAL := Lib.hid (show allM S4 = [2, 3] by unfold allM; rw [l4, l3]; simp [id4, HX2.out, n3, HN2.out])
  have HLE := Lib.hid (show S4.l.length ≤ 1000 by rw [l4, l3]; simp)
  clear hfr hs5 hS5 hc3 e4 l4 id4 t4 n4 g4 q4 l3 n3 q3 HM4 HT4 HF
  go_wp2_with fail
  (with_reducible refine HC3.out.mono ?_)
  rintro e w6 ⟨rfl, o6, hs6, hS6⟩
  have HM6 := Lib.hid (HM5.out.step h0 hs6)
  have hal := all_any hS6 HLE.out
  rw [HAL.out] at hal
  have HALL := Lib.hid hal
  clear hs6 hS6 hal HM5 HT5 HC3
  go_wp2_with fail
  (with_reducible refine HALL.out.mono ?_)
  rintro e w7 ⟨a, cap, he, hcap, hr, hb7⟩
  have he : e = .returned (.slice a 2 cap) := he
  subst he
  have HB7 := Lib.hid (hb7.trans ((wall w7 (.cells #[.int .i64 2, .int .i64 3] 3)).mono hb7.size))
  have hsm : Calls Tryz.prog 13 #[.slice a 2 cap, .slice (some ⟨w7.heap.size, 0, none⟩) 2 2] (w7.alloc (.cells #[.int .i64 2, .int .i64 3] 3)) (SameIsI (w7.alloc (.cells #[.int .i64 2, .int .i64 3] 3)) true) :=
    sameI_any a (some ⟨w7.heap.size, 0, none⟩) cap 2 [2, 3] [2, 3] _ (hr.below (wall w7 _) (Nat.le_refl _)) (new_row (w := w7) [.int .i64 2, .int .i64 3] 3 (by simp [maxLen]))
  have HSM := Lib.hid hsm
  clear hr hb7 hsm HALL
  go_wp2_with fail
  (with_reducible refine HSM.out.mono ?_)
  rintro e w8 ⟨rfl, q, rfl⟩
  go_wp2_with fail
  go_ret
  have h8 := HM6.out.below.trans (HB7.out.mono HM6.out.below.size)
  exact ⟨rfl, ⟨h8.os, h8.tape, h8.output, h8.size, h8.block⟩⟩
end Go.Proofs.YtpgklnhkfgbpgaaGreat
