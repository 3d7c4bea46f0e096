/- permafrostlaw5.known. -/
import Derived.Test.YtkdomgiabiedlaaDiskK
import Derived.Test.YtkdomgiabiedlaaSized
import Derived.Test.YtkdomgiabiedlaaConv
import Derived.Test.YtkdomgiabiedlaaRegion
namespace Go.Proofs.Ytkdomgiabiedlaa
open Go.ChangeShapes Go.WideShapes Go.ChangeAt Go.RowKit
set_option linter.unusedVariables false
set_option linter.unusedSimpArgs false

theorem crash_nothing {M : DiskM} (h : M.safe.length % 128 = 0) (cut : Int) : crashM M [] (-1) cut = ⟨M.safe, [], M.writes⟩ := by
  unfold crashM
  rw [mix_congr (g := rowsOf M.safe), mix_rowsOf (by omega)]
  intro i hi
  unfold crashRow
  split
  · rw [if_neg (by omega)]; simp
  · rfl
def zeros (n : Nat) : List UInt8 := List.replicate n 0
theorem zeros_len (n : Nat) : (zeros n).length = n := by simp [zeros]
theorem rows_zeros (n i : Nat) (h : i < n) : rowsOf (zeros (n * 128)) i = zeros 128 := by
  unfold rowsOf zeros
  rw [List.drop_replicate, List.take_replicate]
  congr 1
  omega
def B3 : List UInt8 := sizedL [1, 2, 3] 128
def Z64 : List UInt8 := zeros (64 * 128)
def M0 : DiskM := ⟨Z64, [], 0⟩
def M1 : DiskM := ⟨Z64, aput (fun a b : Int => decide (a < b)) ((3 : Nat) : Int) B3 [], 1⟩
def M2 : DiskM := ⟨Z64, [], 1⟩
theorem Z64_len : Z64.length = 8192 := zeros_len _
theorem read1 : readOf M1 ((3 : Nat) : Int) = B3 := by
  unfold readOf M1
  rw [aget_aput_same]
  rfl
theorem read2 : readOf M2 ((3 : Nat) : Int) = zeros 128 := rows_zeros 64 3 (by omega)
theorem z64_mod : Z64.length % 128 = 0 := by rw [Z64_len]
theorem safe1 : M1.safe = Z64 := rfl
theorem safe0 : M0.safe = Z64 := rfl
theorem M0_len : M0.safe.length = 8192 := by rw [safe0]; exact Z64_len
theorem M0_mod : M0.safe.length % 128 = 0 := by rw [M0_len]
theorem crash12 : crashM M1 [] (-1) 0 = M2 := crash_nothing (M := M1) (by rw [safe1]; exact z64_mod) 0
theorem sec64 (M : DiskM) (h : M.safe = Z64) (i : Nat) (hi : i < 64) : isSec M i := by
  unfold isSec
  rw [h, Z64_len]
  omega
theorem dnew_64 (w : World) : Calls Try.prog 9 #[.int .i64 64] w (NewDisk w M0) := dnew_any 64 (by omega) (by omega) w
theorem b3_any (w : World) : Calls Try.prog 10 #[.slice (some ⟨w.heap.size, 0, none⟩) 3 3, .int .i64 128] (w.alloc (.cells #[.int .u8 1, .int .u8 2, .int .u8 3] 5)) (NewRowN (w.alloc (.cells #[.int .u8 1, .int .u8 2, .int .u8 3] 5)) 128 B3) :=
  sized_at (S := fun x => x = w.heap.size) _ 3 3 128 128 [1, 2, 3] _ (new_row (([1, 2, 3] : List UInt8).map bv) _ (by decide)) rfl (by omega) (by omega)
set_option maxHeartbeats 2000000 in
theorem known5_any (w : World) : Calls Try.prog 19 #[] w fun e w' => e = .returned (.bool true) ∧ Below w.heap.size w w' := by
  go_enter Try.func19, Try.ntmps19
  go_wp2_with fail
  (with_reducible refine (dnew_64 _).mono ?_)
  rintro e w1 ⟨F, d, sb, mb, rfl, hD1, hF, hB1⟩
  have HD1 := Lib.hid hD1
  clear hD1
  go_wp2_with fail
  (with_reducible refine (b3_any _).mono ?_)
  rintro e w2 ⟨v2, rfl, hv2, hB2⟩
  obtain ⟨b2, c2, rfl, hc2, hr2⟩ := hv2.row
  have hs1 := hB1.size
  have hs2 := hB2.size
  rw [World.size_alloc] at hs2
  have hB12 : Below w1.heap.size w1 w2 := ((Below.refl _ _).alloc (Nat.le_refl _) _).trans (hB2.mono (by simp))
  have HR2 := Lib.hid hr2
  clear hr2 hv2
  have hlen3 : B3.length = 128 := sizedL_len _ _
  have hwr : writeM M0 3 B3 = M1 := if_pos ⟨sec64 M0 rfl 3 (by omega), hlen3⟩
  have hwe : writeE M0 3 B3 = 0 := if_pos ⟨sec64 M0 rfl 3 (by omega), hlen3⟩
  go_wp2_with fail
  have hcall := dwrite_any 3 _ _ c2 B3 (show (0 : Int) < 4611686018427387904 by omega) _ HR2.out (HD1.out.below hB12 (Nat.le_refl _))
  rw [hwr, hwe] at hcall
  (with_reducible refine hcall.mono ?_)
  clear hcall hwr hwe
  rintro e w3 ⟨rfl, F3, l3, hD3, hF3, hK3⟩
  have hr1 : readM M1 3 = B3 := (if_pos (sec64 M1 rfl 3 (by omega))).trans read1
  have hr1e : readE M1 3 = 0 := if_pos (sec64 M1 rfl 3 (by omega))
  have hcall := dread_any 3 _ hD3
  rw [hr1, hr1e] at hcall
  have HD3 := Lib.hid hD3
  have HC := Lib.hid hcall
  clear hD3 hr1 hr1e hcall
  go_wp2_with fail
  (with_reducible refine HC.out.mono ?_)
  clear HC
  rintro e w4 ⟨a4, c4, rfl, hr4, hB4, hc4⟩
  have HR4 := Lib.hid hr4
  clear hr4
  have hcall := dcrash_nil (-1) 0 _ (HD3.out.below hB4 (Nat.le_refl _))
  rw [crash12] at hcall
  have HC := Lib.hid hcall
  clear hcall
  go_wp2_with fail
  (with_reducible refine HC.out.mono ?_)
  clear HC
  rintro e w5 ⟨rfl, hD5, hK5⟩
  have hr1 : readM M2 3 = zeros 128 := (if_pos (sec64 M2 rfl 3 (by omega))).trans read2
  have hr1e : readE M2 3 = 0 := if_pos (sec64 M2 rfl 3 (by omega))
  have hcall := dread_any 3 _ hD5
  rw [hr1, hr1e] at hcall
  have HD5 := Lib.hid hD5
  have HC := Lib.hid hcall
  clear hD5 hr1 hr1e hcall
  go_wp2_with fail
  (with_reducible refine HC.out.mono ?_)
  clear HC
  rintro e w6 ⟨a6, c6, rfl, hr6, hB6, hc6⟩
  have HR6 := Lib.hid hr6
  clear hr6
  have hz128 : (zeros 128).length = 128 := zeros_len _
  go_wp2_with fail
  have hb4 := hB4.size
  have hb6 := hB6.size
  have hk5 := hK5.size
  have hk3 := hK3.size
  have hF3l : ∀ x, F3 x → w.heap.size ≤ x := fun x hx => by rcases hF3 x hx with h | h; exact hF x h; omega
  have hlow1 := HD1.out.low
  have hcx : ∀ W, Below w6.heap.size w6 W → (convert 22 9 (.slice a4 128 c4)).run Try.prog W = .ok (.string (strOf B3)) W := fun W hW => by
    have h4 := HR4.out
    rw [hlen3] at h4
    refine conv_row (S := fun x => w3.heap.size ≤ x ∧ x < w4.heap.size) (h4.kept (by have := hW.size; omega) fun b hb hbw => ?_)
    rw [hW.block b (by omega), hB6.block b (by omega), hK5.block b hbw (fun hf => by have := HD3.out.low b hf; omega)]
  have hcb : ∀ W, Below w6.heap.size w6 W → (convert 22 9 (.slice (some ⟨b2, 0, none⟩) 128 c2)).run Try.prog W = .ok (.string (strOf B3)) W := fun W hW => by
    refine conv_row (HR2.out.kept (by have := hW.size; omega) fun b hb hbw => ?_)
    have hbl := hb.1
    rw [World.size_alloc] at hbl
    have hnF : ¬ F b := fun hf => by have := hlow1 b hf; omega
    have hnF3 : ¬ F3 b := fun hf => by rcases hF3 b hf with h | h; exact hnF h; omega
    rw [hW.block b (by omega), hB6.block b (by omega), hK5.block b (by omega) hnF3, hB4.block b (by omega), hK3.block b hbw hnF]
  have hcy : ∀ W, Below w6.heap.size w6 W → (convert 22 9 (.slice a6 128 c6)).run Try.prog W = .ok (.string (strOf (zeros 128))) W := fun W hW => by
    have h6 := HR6.out
    rw [hz128] at h6
    refine conv_row (h6.kept hW.size fun b hb hbw => ?_)
    rw [hW.block b (by omega)]
  have HKP := Lib.hid (fun W hW => (⟨hW, hcx W hW, hcb W hW, hcy W hW⟩ : Below w6.heap.size w6 W ∧ (convert 22 9 (.slice a4 128 c4)).run Try.prog W = .ok (.string (strOf B3)) W ∧ (convert 22 9 (.slice (some ⟨b2, 0, none⟩) 128 c2)).run Try.prog W = .ok (.string (strOf B3)) W ∧ (convert 22 9 (.slice a6 128 c6)).run Try.prog W = .ok (.string (strOf (zeros 128))) W))
  clear hcx hcb hcy
  obtain ⟨zc, hzc⟩ : ∃ zc : Array Value, zc = ((zeros 128).map bv).toArray := ⟨_, rfl⟩
  have hmk : ∀ w : World, (Instr.makeSlice 22 (.int .i64 128) (.int .i64 128)).run Try.prog w = .ok (.slice (some ⟨w.heap.size, 0, none⟩) 128 128) (w.alloc (.cells zc 5)) := by
    intro w
    subst hzc
    kernel_rfl
  have hcv : ∀ W : World, (convert 22 9 (.slice (some ⟨W.heap.size, 0, none⟩) 128 128)).run Try.prog (W.alloc (.cells zc 5)).drew = .ok (.string (strOf (zeros 128))) (W.alloc (.cells zc 5)).drew := by
    intro W
    subst hzc
    have h := new_row (w := W) ((zeros 128).map bv) 5 (by rw [List.length_map, hz128]; decide)
    rw [List.length_map, hz128] at h
    exact conv_row (w := (W.alloc (.cells ((zeros 128).map bv).toArray 5)).drew) (S := fun x => x = W.heap.size) ⟨h.length, h.small, h.at_⟩
  have HZC := Lib.hid hzc
  clear hzc
  have hsec : ∀ W, Below w6.heap.size w6 W → Calls Try.prog 24 #[.pointer (some ⟨d, 0, none⟩)] W fun e w' => e = .returned (.int .i64 64) ∧ W = w' := fun W hW => by
    have h := dsectors_any W ((HD5.out.below hB6 (Nat.le_refl _)).below hW (Nat.le_refl _))
    rw [show M2.safe = Z64 from rfl, Z64_len] at h
    exact h
  have hwri : ∀ W, Below w6.heap.size w6 W → Calls Try.prog 18 #[.pointer (some ⟨d, 0, none⟩)] W fun e w' => e = .returned (.int .i64 1) ∧ W = w' := fun W hW => dwrites_any W ((HD5.out.below hB6 (Nat.le_refl _)).below hW (Nat.le_refl _))
  have HSEC := Lib.hid hsec
  have HWRI := Lib.hid hwri
  clear hsec hwri
  refine wp_region_noPanic ?_
  refine wp_region_held_drew (S := fun w' => Below w6.heap.size w6 w' ∧ (convert 22 9 (.slice a4 128 c4)).run Try.prog w' = .ok (.string (strOf B3)) w' ∧ (convert 22 9 (.slice (some ⟨b2, 0, none⟩) 128 c2)).run Try.prog w' = .ok (.string (strOf B3)) w' ∧ (convert 22 9 (.slice a6 128 c6)).run Try.prog w' = .ok (.string (strOf (zeros 128))) w') (by kernel_rfl) ?_ (fun hS => ?_)
  · exact HKP.out _ (Below.refl _ _).drew
  refine wpAnyH_take (i := 0) (oi := ?oi0) (v := ?v0) ?hi0 (by kernel_rfl) (by kernel_rfl) (by kernel_rfl) ?hq0 (Or.inl ⟨?hw0, ?hy0⟩) hS ?rest0
  case hi0 => simp only [List.getElem?_toArray, List.getElem?_cons_succ, List.getElem?_cons_zero]; rfl
  case hq0 => exact fun _ _ _ h => h
  case hw0 => rfl
  case hy0 => intro w hSw; (try dsimp only at hSw); go_simp; (try with_reducible rfl)
  try simp only [Act.put, List.setIfInBounds_toArray, List.set_cons_zero, List.set_cons_succ]
  refine wpAnyH_take (i := 1) (oi := ?oi1) (v := ?v1) ?hi1 (by kernel_rfl) (by kernel_rfl) (by kernel_rfl) ?hq1 (Or.inl ⟨?hw1, ?hy1⟩) hS ?rest1
  case hi1 => simp only [List.getElem?_toArray, List.getElem?_cons_succ, List.getElem?_cons_zero]; rfl
  case hq1 => exact fun _ _ _ h => h
  case hw1 => rfl
  case hy1 => intro w hSw; (try dsimp only at hSw); go_simp; (try with_reducible rfl)
  try simp only [Act.put, List.setIfInBounds_toArray, List.set_cons_zero, List.set_cons_succ]
  refine wpAnyH_take (i := 2) (oi := ?oi2) (v := ?v2) ?hi2 (by kernel_rfl) (by kernel_rfl) (by kernel_rfl) ?hq2 (Or.inl ⟨?hw2, ?hy2⟩) hS ?rest2
  case hi2 => simp only [List.getElem?_toArray, List.getElem?_cons_succ, List.getElem?_cons_zero]; rfl
  case hq2 => exact fun _ _ _ h => h
  case hw2 => rfl
  case hy2 => intro w hSw; (try dsimp only at hSw); go_simp; (try with_reducible rfl)
  try simp only [Act.put, List.setIfInBounds_toArray, List.set_cons_zero, List.set_cons_succ]
  refine wpAnyH_take (i := 3) (oi := ?oi3) (v := ?v3) ?hi3 (by kernel_rfl) (by kernel_rfl) (by kernel_rfl) ?hq3 (Or.inl ⟨?hw3, ?hy3⟩) hS ?rest3
  case hi3 => simp only [List.getElem?_toArray, List.getElem?_cons_succ, List.getElem?_cons_zero]; rfl
  case hq3 => exact fun _ _ _ h => h
  case hw3 => rfl
  case hy3 => intro w hSw; (try dsimp only at hSw); go_simp; (try with_reducible rfl)
  try simp only [Act.put, List.setIfInBounds_toArray, List.set_cons_zero, List.set_cons_succ]
  refine wpAnyH_take (i := 4) (oi := ?oi4) (v := ?v4) ?hi4 (by kernel_rfl) (by kernel_rfl) (by kernel_rfl) ?hq4 (Or.inl ⟨?hw4, ?hy4⟩) hS ?rest4
  case hi4 => simp only [List.getElem?_toArray, List.getElem?_cons_succ, List.getElem?_cons_zero]; rfl
  case hq4 => exact fun _ _ _ h => h
  case hw4 => rfl
  case hy4 => intro w hSw; (try dsimp only at hSw); go_simp; (try with_reducible rfl)
  try simp only [Act.put, List.setIfInBounds_toArray, List.set_cons_zero, List.set_cons_succ]
  refine wpAnyH_take (i := 5) (oi := ?oi5) (v := ?v5) ?hi5 (by kernel_rfl) (by kernel_rfl) (by kernel_rfl) ?hq5 (Or.inl ⟨?hw5, ?hy5⟩) hS ?rest5
  case hi5 => simp only [List.getElem?_toArray, List.getElem?_cons_succ, List.getElem?_cons_zero]; rfl
  case hq5 => exact fun _ _ _ h => h
  case hw5 => rfl
  case hy5 => intro w hSw; (try dsimp only at hSw); go_simp; (try with_reducible rfl)
  try simp only [Act.put, List.setIfInBounds_toArray, List.set_cons_zero, List.set_cons_succ]
  refine wpAnyH_take (i := 6) (oi := ?oi6) (v := ?v6) ?hi6 (by kernel_rfl) (by kernel_rfl) (by kernel_rfl) ?hq6 (Or.inl ⟨?hw6, ?hy6⟩) hS ?rest6
  case hi6 => simp only [List.getElem?_toArray, List.getElem?_cons_succ, List.getElem?_cons_zero]; rfl
  case hq6 => exact fun _ _ _ h => h
  case hw6 => rfl
  case hy6 => intro w hSw; (try dsimp only at hSw); go_simp; (try with_reducible rfl)
  try simp only [Act.put, List.setIfInBounds_toArray, List.set_cons_zero, List.set_cons_succ]
  refine wpAnyH_take (i := 7) (oi := ?oi7) (v := ?v7) ?hi7 (by kernel_rfl) (by kernel_rfl) (by kernel_rfl) ?hq7 (Or.inl ⟨?hw7, ?hy7⟩) hS ?rest7
  case hi7 => simp only [List.getElem?_toArray, List.getElem?_cons_succ, List.getElem?_cons_zero]; rfl
  case hq7 => exact fun _ _ _ h => h
  case hw7 => rfl
  case hy7 => intro w hSw; (try dsimp only at hSw); go_simp; (try with_reducible rfl)
  try simp only [Act.put, List.setIfInBounds_toArray, List.set_cons_zero, List.set_cons_succ]
  refine wpAnyH_take (i := 8) (oi := ?oi8) (v := ?v8) ?hi8 (by kernel_rfl) (by kernel_rfl) (by kernel_rfl) ?hq8 (Or.inl ⟨?hw8, ?hy8⟩) hS ?rest8
  case hi8 => simp only [List.getElem?_toArray, List.getElem?_cons_succ, List.getElem?_cons_zero]; rfl
  case hq8 => exact fun _ _ _ h => h
  case hw8 => rfl
  case hy8 => intro w hSw; (try dsimp only at hSw); go_simp; (try with_reducible rfl)
  try simp only [Act.put, List.setIfInBounds_toArray, List.set_cons_zero, List.set_cons_succ]
  refine wpAnyH_take (i := 9) (oi := ?oi9) (v := ?v9) ?hi9 (by kernel_rfl) (by kernel_rfl) (by kernel_rfl) ?hq9 (Or.inl ⟨?hw9, ?hy9⟩) hS ?rest9
  case hi9 => simp only [List.getElem?_toArray, List.getElem?_cons_succ, List.getElem?_cons_zero]; rfl
  case hq9 => exact fun _ _ _ h => h
  case hw9 => rfl
  case hy9 => intro w hSw; (try dsimp only at hSw); go_simp; (try with_reducible rfl)
  try simp only [Act.put, List.setIfInBounds_toArray, List.set_cons_zero, List.set_cons_succ]
  refine wpAnyH_take (i := 10) (oi := ?oi10) (v := ?v10) ?hi10 (by kernel_rfl) (by kernel_rfl) (by kernel_rfl) ?hq10 (Or.inl ⟨?hw10, ?hy10⟩) hS ?rest10
  case hi10 => simp only [List.getElem?_toArray, List.getElem?_cons_succ, List.getElem?_cons_zero]; rfl
  case hq10 => exact fun _ _ _ h => h
  case hw10 => rfl
  case hy10 => intro w hSw; (try dsimp only at hSw); go_simp; (try with_reducible rfl)
  try simp only [Act.put, List.setIfInBounds_toArray, List.set_cons_zero, List.set_cons_succ]
  refine wpAnyH_take (i := 11) (oi := ?oi11) (v := ?v11) ?hi11 (by kernel_rfl) (by kernel_rfl) (by kernel_rfl) ?hq11 (Or.inl ⟨?hw11, ?hy11⟩) hS ?rest11
  case hi11 => simp only [List.getElem?_toArray, List.getElem?_cons_succ, List.getElem?_cons_zero]; rfl
  case hq11 => exact fun _ _ _ h => h
  case hw11 => rfl
  case hy11 => intro w hSw; (try dsimp only at hSw); go_simp; (try with_reducible rfl)
  try simp only [Act.put, List.setIfInBounds_toArray, List.set_cons_zero, List.set_cons_succ]
  refine wpAnyH_take (i := 12) (oi := ?oi12) (v := ?v12) ?hi12 (by kernel_rfl) (by kernel_rfl) (by kernel_rfl) ?hq12 (Or.inl ⟨?hw12, ?hy12⟩) hS ?rest12
  case hi12 => simp only [List.getElem?_toArray, List.getElem?_cons_succ, List.getElem?_cons_zero]; rfl
  case hq12 => exact fun _ _ _ h => h
  case hw12 => rfl
  case hy12 => intro w hSw; (try dsimp only at hSw); go_simp; (try with_reducible rfl)
  try simp only [Act.put, List.setIfInBounds_toArray, List.set_cons_zero, List.set_cons_succ]
  refine wpAnyH_take (i := 13) (oi := ?oi13) (v := ?v13) ?hi13 (by kernel_rfl) (by kernel_rfl) (by kernel_rfl) ?hq13 (Or.inl ⟨?hw13, ?hy13⟩) hS ?rest13
  case hi13 => simp only [List.getElem?_toArray, List.getElem?_cons_succ, List.getElem?_cons_zero]; rfl
  case hq13 => exact fun _ _ _ h => h
  case hw13 => rfl
  case hy13 => intro w hSw; (try dsimp only at hSw); go_simp; (try with_reducible rfl)
  try simp only [Act.put, List.setIfInBounds_toArray, List.set_cons_zero, List.set_cons_succ]
  refine wpAnyH_take (i := 14) (oi := ?oi14) (v := ?v14) ?hi14 (by kernel_rfl) (by kernel_rfl) (by kernel_rfl) ?hq14 (Or.inl ⟨?hw14, ?hy14⟩) hS ?rest14
  case hi14 => simp only [List.getElem?_toArray, List.getElem?_cons_succ, List.getElem?_cons_zero]; rfl
  case hq14 => exact fun _ _ _ h => h
  case hw14 => rfl
  case hy14 => intro w hSw; (try dsimp only at hSw); go_simp; (try with_reducible rfl)
  try simp only [Act.put, List.setIfInBounds_toArray, List.set_cons_zero, List.set_cons_succ]
  refine wpAnyH_take (i := 15) (oi := ?oi15) (v := ?v15) ?hi15 (by kernel_rfl) (by kernel_rfl) (by kernel_rfl) ?hq15 (Or.inl ⟨?hw15, ?hy15⟩) hS ?rest15
  case hi15 => simp only [List.getElem?_toArray, List.getElem?_cons_succ, List.getElem?_cons_zero]; rfl
  case hq15 => exact fun _ _ _ h => h
  case hw15 => rfl
  case hy15 => intro w hSw; (try dsimp only at hSw); go_simp; (try with_reducible rfl)
  try simp only [Act.put, List.setIfInBounds_toArray, List.set_cons_zero, List.set_cons_succ]
  refine wpAnyH_take (i := 16) (oi := ?oi16) (v := ?v16) ?hi16 (by kernel_rfl) (by kernel_rfl) (by kernel_rfl) ?hq16 (Or.inl ⟨?hw16, ?hy16⟩) hS ?rest16
  case hi16 => simp only [List.getElem?_toArray, List.getElem?_cons_succ, List.getElem?_cons_zero]; rfl
  case hq16 => exact fun _ _ _ h => h
  case hw16 => rfl
  case hy16 => intro w hSw; (try dsimp only at hSw); go_simp; (try with_reducible rfl)
  try simp only [Act.put, List.setIfInBounds_toArray, List.set_cons_zero, List.set_cons_succ]
  refine wpAnyH_take (i := 17) (oi := ?oi17) (v := ?v17) ?hi17 (by kernel_rfl) (by kernel_rfl) (by kernel_rfl) ?hq17 (Or.inl ⟨?hw17, ?hy17⟩) hS ?rest17
  case hi17 => simp only [List.getElem?_toArray, List.getElem?_cons_succ, List.getElem?_cons_zero]; rfl
  case hq17 => exact fun _ _ _ h => h
  case hw17 => rfl
  case hy17 => intro w hSw; (try dsimp only at hSw); go_simp; (try with_reducible rfl)
  try simp only [Act.put, List.setIfInBounds_toArray, List.set_cons_zero, List.set_cons_succ]
  refine wpAnyH_take (i := 18) (oi := ?oi18) (v := ?v18) ?hi18 (by kernel_rfl) (by kernel_rfl) (by kernel_rfl) ?hq18 (Or.inl ⟨?hw18, ?hy18⟩) hS ?rest18
  case hi18 => simp only [List.getElem?_toArray, List.getElem?_cons_succ, List.getElem?_cons_zero]; rfl
  case hq18 => exact fun _ _ _ h => h
  case hw18 => rfl
  case hy18 => intro w hSw; (try dsimp only at hSw); go_simp; (try with_reducible rfl)
  try simp only [Act.put, List.setIfInBounds_toArray, List.set_cons_zero, List.set_cons_succ]
  refine wpAnyH_take (i := 19) (oi := ?oi19) (v := ?v19) ?hi19 (by kernel_rfl) (by kernel_rfl) (by kernel_rfl) ?hq19 (Or.inl ⟨?hw19, ?hy19⟩) hS ?rest19
  case hi19 => simp only [List.getElem?_toArray, List.getElem?_cons_succ, List.getElem?_cons_zero]; rfl
  case hq19 => exact fun _ _ _ h => h
  case hw19 => rfl
  case hy19 => intro w hSw; (try dsimp only at hSw); go_simp; (try with_reducible rfl)
  try simp only [Act.put, List.setIfInBounds_toArray, List.set_cons_zero, List.set_cons_succ]
  refine wpAnyH_ready (rs := [20]) (by kernel_rfl) (by simp) ?_
  refine AllReadyH.cons (o := ?o20) ?ho20 (fun K hK => ?_) AllReadyH.nil
  case ho20 => simp only [List.getElem?_toArray, List.getElem?_cons_succ, List.getElem?_cons_zero]; rfl
  go_simp
  refine hK.out _ _ (HKP.out _ ((Below.refl _ _).alloc (Nat.le_refl _) _).drew) (fun hS2 => ?_)
  clear hK K
  refine wpAnyH_mono (S' := fun w' => (Below w6.heap.size w6 w' ∧ (convert 22 9 (.slice a4 128 c4)).run Try.prog w' = .ok (.string (strOf B3)) w' ∧ (convert 22 9 (.slice (some ⟨b2, 0, none⟩) 128 c2)).run Try.prog w' = .ok (.string (strOf B3)) w' ∧ (convert 22 9 (.slice a6 128 c6)).run Try.prog w' = .ok (.string (strOf (zeros 128))) w') ∧ (convert 22 9 (.slice (some ⟨w6.heap.size, 0, none⟩) 128 128)).run Try.prog w' = .ok (.string (strOf (zeros 128))) w') (fun _ h => h.1) _ _ _ _ ?_
  have hS3 := And.intro hS2 (hcv w6)
  clear hS
  have hS := hS3
  try simp only [Act.put, List.setIfInBounds_toArray, List.set_cons_zero, List.set_cons_succ]
  refine wpAnyH_take (i := 21) (oi := ?oi21) (v := ?v21) ?hi21 (by kernel_rfl) (by kernel_rfl) (by kernel_rfl) ?hq21 (Or.inl ⟨?hw21, ?hy21⟩) hS ?rest21
  case hi21 => simp only [List.getElem?_toArray, List.getElem?_cons_succ, List.getElem?_cons_zero]; rfl
  case hq21 => exact fun _ _ _ h => h
  case hw21 => rfl
  case hy21 => intro w hSw; (try dsimp only at hSw); go_simp; (try with_reducible rfl)
  try simp only [Act.put, List.setIfInBounds_toArray, List.set_cons_zero, List.set_cons_succ]
  refine wpAnyH_take (i := 22) (oi := ?oi22) (v := ?v22) ?hi22 (by kernel_rfl) (by kernel_rfl) (by kernel_rfl) ?hq22 (Or.inl ⟨?hw22, ?hy22⟩) hS ?rest22
  case hi22 => simp only [List.getElem?_toArray, List.getElem?_cons_succ, List.getElem?_cons_zero]; rfl
  case hq22 => exact fun _ _ _ h => h
  case hw22 => rfl
  case hy22 => intro w hSw; (try dsimp only at hSw); go_simp; (try with_reducible rfl)
  try simp only [Act.put, List.setIfInBounds_toArray, List.set_cons_zero, List.set_cons_succ]
  refine wpAnyH_take (i := 23) (oi := ?oi23) (v := ?v23) ?hi23 (by kernel_rfl) (by kernel_rfl) (by kernel_rfl) ?hq23 (Or.inl ⟨?hw23, ?hy23⟩) hS ?rest23
  case hi23 => simp only [List.getElem?_toArray, List.getElem?_cons_succ, List.getElem?_cons_zero]; rfl
  case hq23 => exact fun _ _ _ h => h
  case hw23 => rfl
  case hy23 => intro w hSw; (try dsimp only at hSw); go_simp; (try with_reducible rfl)
  try simp only [Act.put, List.setIfInBounds_toArray, List.set_cons_zero, List.set_cons_succ]
  refine wpAnyH_take (i := 24) (oi := ?oi24) (v := ?v24) ?hi24 (by kernel_rfl) (by kernel_rfl) (by kernel_rfl) ?hq24 (Or.inl ⟨?hw24, ?hy24⟩) hS ?rest24
  case hi24 => simp only [List.getElem?_toArray, List.getElem?_cons_succ, List.getElem?_cons_zero]; rfl
  case hq24 => exact fun _ _ _ h => h
  case hw24 => rfl
  case hy24 => intro w hSw; (try dsimp only at hSw); go_simp; (try with_reducible rfl)
  try simp only [Act.put, List.setIfInBounds_toArray, List.set_cons_zero, List.set_cons_succ]
  refine wpAnyH_take (i := 25) (oi := ?oi25) (v := ?v25) ?hi25 (by kernel_rfl) (by kernel_rfl) (by kernel_rfl) ?hq25 (Or.inl ⟨?hw25, ?hy25⟩) hS ?rest25
  case hi25 => simp only [List.getElem?_toArray, List.getElem?_cons_succ, List.getElem?_cons_zero]; rfl
  case hq25 => exact fun _ _ _ h => h
  case hw25 => rfl
  case hy25 => intro w hSw; (try dsimp only at hSw); go_simp; (try with_reducible rfl)
  try simp only [Act.put, List.setIfInBounds_toArray, List.set_cons_zero, List.set_cons_succ]
  refine wpAnyH_ready (rs := [26]) (by kernel_rfl) (by simp) ?_
  refine AllReadyH.cons (o := ?o26) ?ho26 (fun K hK => ?_) AllReadyH.nil
  case ho26 => simp only [List.getElem?_toArray, List.getElem?_cons_succ, List.getElem?_cons_zero]; rfl
  go_simp
  (with_reducible refine (HSEC.out _ hS.1.1).mono ?_)
  rintro e w' ⟨rfl, rfl⟩
  go_wp2_with fail
  refine hK.out _ _ hS (fun _ => ?_)
  clear hK K
  try simp only [Act.put, List.setIfInBounds_toArray, List.set_cons_zero, List.set_cons_succ]
  refine wpAnyH_take (i := 27) (oi := ?oi27) (v := ?v27) ?hi27 (by kernel_rfl) (by kernel_rfl) (by kernel_rfl) ?hq27 (Or.inl ⟨?hw27, ?hy27⟩) hS ?rest27
  case hi27 => simp only [List.getElem?_toArray, List.getElem?_cons_succ, List.getElem?_cons_zero]; rfl
  case hq27 => exact fun _ _ _ h => h
  case hw27 => rfl
  case hy27 => intro w hSw; (try dsimp only at hSw); go_simp; (try with_reducible rfl)
  try simp only [Act.put, List.setIfInBounds_toArray, List.set_cons_zero, List.set_cons_succ]
  refine wpAnyH_take (i := 28) (oi := ?oi28) (v := ?v28) ?hi28 (by kernel_rfl) (by kernel_rfl) (by kernel_rfl) ?hq28 (Or.inl ⟨?hw28, ?hy28⟩) hS ?rest28
  case hi28 => simp only [List.getElem?_toArray, List.getElem?_cons_succ, List.getElem?_cons_zero]; rfl
  case hq28 => exact fun _ _ _ h => h
  case hw28 => rfl
  case hy28 => intro w hSw; (try dsimp only at hSw); go_simp; (try with_reducible rfl)
  try simp only [Act.put, List.setIfInBounds_toArray, List.set_cons_zero, List.set_cons_succ]
  refine wpAnyH_take (i := 29) (oi := ?oi29) (v := ?v29) ?hi29 (by kernel_rfl) (by kernel_rfl) (by kernel_rfl) ?hq29 (Or.inl ⟨?hw29, ?hy29⟩) hS ?rest29
  case hi29 => simp only [List.getElem?_toArray, List.getElem?_cons_succ, List.getElem?_cons_zero]; rfl
  case hq29 => exact fun _ _ _ h => h
  case hw29 => rfl
  case hy29 => intro w hSw; (try dsimp only at hSw); go_simp; (try with_reducible rfl)
  try simp only [Act.put, List.setIfInBounds_toArray, List.set_cons_zero, List.set_cons_succ]
  refine wpAnyH_take (i := 30) (oi := ?oi30) (v := ?v30) ?hi30 (by kernel_rfl) (by kernel_rfl) (by kernel_rfl) ?hq30 (Or.inl ⟨?hw30, ?hy30⟩) hS ?rest30
  case hi30 => simp only [List.getElem?_toArray, List.getElem?_cons_succ, List.getElem?_cons_zero]; rfl
  case hq30 => exact fun _ _ _ h => h
  case hw30 => rfl
  case hy30 => intro w hSw; (try dsimp only at hSw); go_simp; (try with_reducible rfl)
  try simp only [Act.put, List.setIfInBounds_toArray, List.set_cons_zero, List.set_cons_succ]
  refine wpAnyH_ready (rs := [31]) (by kernel_rfl) (by simp) ?_
  refine AllReadyH.cons (o := ?o31) ?ho31 (fun K hK => ?_) AllReadyH.nil
  case ho31 => simp only [List.getElem?_toArray, List.getElem?_cons_succ, List.getElem?_cons_zero]; rfl
  go_simp
  (with_reducible refine (HWRI.out _ hS.1.1).mono ?_)
  rintro e w' ⟨rfl, rfl⟩
  go_wp2_with fail
  refine hK.out _ _ hS (fun _ => ?_)
  clear hK K
  try simp only [Act.put, List.setIfInBounds_toArray, List.set_cons_zero, List.set_cons_succ]
  refine wpAnyH_take (i := 32) (oi := ?oi32) (v := ?v32) ?hi32 (by kernel_rfl) (by kernel_rfl) (by kernel_rfl) ?hq32 (Or.inl ⟨?hw32, ?hy32⟩) hS ?rest32
  case hi32 => simp only [List.getElem?_toArray, List.getElem?_cons_succ, List.getElem?_cons_zero]; rfl
  case hq32 => exact fun _ _ _ h => h
  case hw32 => rfl
  case hy32 => intro w hSw; (try dsimp only at hSw); go_simp; (try with_reducible rfl)
  try simp only [Act.put, List.setIfInBounds_toArray, List.set_cons_zero, List.set_cons_succ]
  refine wpAnyH_take (i := 33) (oi := ?oi33) (v := ?v33) ?hi33 (by kernel_rfl) (by kernel_rfl) (by kernel_rfl) ?hq33 (Or.inl ⟨?hw33, ?hy33⟩) hS ?rest33
  case hi33 => simp only [List.getElem?_toArray, List.getElem?_cons_succ, List.getElem?_cons_zero]; rfl
  case hq33 => exact fun _ _ _ h => h
  case hw33 => rfl
  case hy33 => intro w hSw; (try dsimp only at hSw); go_simp; (try with_reducible rfl)
  try simp only [Act.put, List.setIfInBounds_toArray, List.set_cons_zero, List.set_cons_succ]
  refine wpAnyH_take (i := 34) (oi := ?oi34) (v := ?v34) ?hi34 (by kernel_rfl) (by kernel_rfl) (by kernel_rfl) ?hq34 (Or.inl ⟨?hw34, ?hy34⟩) hS ?rest34
  case hi34 => simp only [List.getElem?_toArray, List.getElem?_cons_succ, List.getElem?_cons_zero]; rfl
  case hq34 => exact fun _ _ _ h => h
  case hw34 => rfl
  case hy34 => intro w hSw; (try dsimp only at hSw); go_simp; (try with_reducible rfl)
  try simp only [Act.put, List.setIfInBounds_toArray, List.set_cons_zero, List.set_cons_succ]
  refine wpAnyH_done (by kernel_rfl) ?_ _
  refine NoPanic.normal ?_
  go_wp2
  go_ret
  refine ⟨rfl, ?_⟩
  have h1 := hB1.trans (hB12.mono hs1)
  have h3 := h1.trans (hK3.low (by omega) hF)
  have h4 := h3.trans (hB4.mono (by omega))
  have h5 := h4.trans (hK5.low (by omega) hF3l)
  have h6 := h5.trans (hB6.mono (by omega))
  exact (h6.alloc (by omega) _).drew
end Go.Proofs.Ytkdomgiabiedlaa
