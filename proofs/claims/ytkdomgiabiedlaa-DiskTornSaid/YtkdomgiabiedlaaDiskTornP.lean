/- DiskTorn: what the model says. -/
import Derived.Test.YtkdomgiabiedlaaDiskP
namespace Go.Proofs.Ytkdomgiabiedlaa.diskTorn
open Go.ChangeShapes Go.WideShapes Go.ChangeAt Go.RowKit
set_option linter.unusedVariables false

variable (A B : List UInt8) (k : Nat)
def MA (j : Nat) : DiskM := writesM M0 (([(k : Int), k + 1, k + 2] : List Int).take j) A
def MF : DiskM := flushM (MA A k 3)
def MB (r : Nat) : DiskM := writesM (MF A k) (([(k : Int) + 2, k + 1, k] : List Int).take r) B
variable {A B k} (hA : A.length = 128) (hB : B.length = 128) (hk : k ≤ 61)
theorem MA_succ {j : Nat} (hj : j < 3) : MA A k (j + 1) = writeM (MA A k j) ((k : Int) + j) A := by
  obtain rfl | rfl | rfl : j = 0 ∨ j = 1 ∨ j = 2 := by omega
  · simp [MA, writesM]
  · simp [MA, writesM]
  · simp [MA, writesM]
theorem MB_succ {r : Nat} (hr : r < 3) : MB A B k (r + 1) = writeM (MB A B k r) ((k : Int) + (2 - r)) B := by
  obtain rfl | rfl | rfl : r = 0 ∨ r = 1 ∨ r = 2 := by omega
  · simp [MB, writesM]
  · have : (k : Int) + (2 - (1 : Nat)) = k + 1 := by omega
    rw [this]; simp [MB, writesM]
  · simp [MB, writesM]
include hA hk in
theorem MA_ok : ∀ {j : Nat}, j ≤ 3 → Ok64 (MA A k j) ∧ (MA A k j).writes = j ∧ ∀ i : Int, readOf (MA A k j) i = if (k : Int) ≤ i ∧ i < k + j then A else readOf M0 i
  | 0, _ => ⟨Ok64.new, rfl, fun i => by rw [if_neg (by omega)]; rfl⟩
  | j + 1, hj => by
    obtain ⟨h1, h2, h3⟩ := MA_ok (j := j) (by omega)
    have hs : isSec (MA A k j) ((k : Int) + j) := isSec64 h1.1 (by omega) (by omega)
    rw [MA_succ (by omega)]
    refine ⟨h1.write hs hA, ?_, fun i => ?_⟩
    · rw [writeM_ok hs hA]; simp only [h2]; omega
    · rw [readOf_write hs hA, h3]
      by_cases hi : i = (k : Int) + j
      · rw [if_pos hi, if_pos (by omega)]
      · rw [if_neg hi]
        by_cases hi2 : (k : Int) ≤ i ∧ i < k + j
        · rw [if_pos hi2, if_pos (by omega)]
        · rw [if_neg hi2, if_neg (by omega)]
include hA hk in
theorem MF_ok : Ok64 (MF A k) ∧ (MF A k).writes = 3 ∧ ∀ i : Nat, k ≤ i → i < k + 3 → readOf (MF A k) (i : Int) = A := by
  obtain ⟨h1, h2, h3⟩ := MA_ok hA hk (j := 3) (by omega)
  refine ⟨h1.flush, h2, fun i hi hi' => ?_⟩
  rw [MF, h1.read_flush (by omega), h3, if_pos (by omega)]
include hA hB hk in
theorem MB_ok : ∀ {r : Nat}, r ≤ 3 → Ok64 (MB A B k r) ∧ (MB A B k r).writes = 3 + r ∧ (MB A B k r).safe = (MF A k).safe ∧ ∀ i : Int, readOf (MB A B k r) i = if (k : Int) + 2 - r < i ∧ i < k + 3 then B else readOf (MF A k) i
  | 0, _ => by
    obtain ⟨h1, h2, h3⟩ := MF_ok hA hk
    exact ⟨h1, by show (MF A k).writes = _; rw [h2]; rfl, rfl, fun i => by rw [if_neg (by omega)]; rfl⟩
  | r + 1, hr => by
    obtain ⟨h1, h2, h4, h3⟩ := MB_ok (r := r) (by omega)
    have hs : isSec (MB A B k r) ((k : Int) + (2 - r)) := isSec64 h1.1 (by omega) (by omega)
    rw [MB_succ (by omega)]
    refine ⟨h1.write hs hB, ?_, by rw [writeM_safe, h4], fun i => ?_⟩
    · rw [writeM_ok hs hB]; simp only [h2]; omega
    · rw [readOf_write hs hB, h3]
      by_cases hi : i = (k : Int) + (2 - r)
      · rw [if_pos hi, if_pos (by omega)]
      · rw [if_neg hi]
        by_cases hi2 : (k : Int) + 2 - r < i ∧ i < k + 3
        · rw [if_pos hi2, if_pos (by omega)]
        · rw [if_neg hi2, if_neg (by omega)]
include hA hB hk in
theorem MB_keys : dkeys (MB A B k 3) = [(k : Int), k + 1, k + 2] := by
  have e : ∀ r, r < 3 → isSec (MB A B k r) ((k : Int) + (2 - r)) := fun r hr => isSec64 (MB_ok hA hB hk (by omega)).1.1 (by omega) (by omega)
  have e0 := writeM_ok (e 0 (by omega)) hB
  have e1 := writeM_ok (e 1 (by omega)) hB
  have e2 := writeM_ok (e 2 (by omega)) hB
  rw [← MB_succ (by omega)] at e0 e1 e2
  have d0 : (MB A B k 0).dirty = [] := rfl
  unfold dkeys
  rw [e2, e1, e0, d0]
  have a0 : (k : Int) + (2 - ((0 : Nat) : Int)) = k + 2 := by omega
  have a1 : (k : Int) + (2 - ((1 : Nat) : Int)) = k + 1 := by omega
  have a2 : (k : Int) + (2 - ((2 : Nat) : Int)) = k := by omega
  rw [a0, a1, a2]
  have n1 : ¬ ((k : Int) + 2 = k + 1) := by omega
  have n2 : ¬ ((k : Int) + 2 = k) := by omega
  have n3 : ¬ ((k : Int) + 1 = k) := by omega
  have l1 : (k : Int) + 1 < k + 2 := by omega
  have l2 : (k : Int) < k + 1 := by omega
  simp [aput, adel, ains, n1, n2, n3, l1, l2]
include hA hB hk in
theorem crash_rows (keep : Bool) (n : Nat) (hn : n ≤ 128) :
    readOf (crashM (MB A B k 3) [keep, keep, !keep] 1 n) (k : Int) = (if keep then B else A) ∧
    readOf (crashM (MB A B k 3) [keep, keep, !keep] 1 n) ((k : Int) + 1) = B.take n ++ A.drop n ∧
    readOf (crashM (MB A B k 3) [keep, keep, !keep] 1 n) ((k : Int) + 2) = (if keep then A else B) := by
  obtain ⟨h1, h2, h4, h3⟩ := MB_ok hA hB hk (r := 3) (by omega)
  have hkeys := MB_keys hA hB hk
  obtain ⟨f1, f2, f3⟩ := MF_ok hA hk
  have hc : clampN (n : Int) = n := by unfold clampN; omega
  have rb : ∀ j, j < 3 → readOf (MB A B k 3) (((k + j : Nat)) : Int) = B := fun j hj => by rw [h3, if_pos (by omega)]
  have ra : ∀ j, j < 3 → rowsOf (MB A B k 3).safe (k + j) = A := fun j hj => by
    rw [h4, ← readOf_clean (M := MF A k) rfl]
    exact f3 (k + j) (by omega) (by omega)
  have n3 : ((k : Int) + 1 == k + 2) = false := by simp
  have n1 : ((k : Int) == k + 1) = false := by simp; omega
  have n2 : ((k : Int) == k + 2) = false := by simp; omega
  refine ⟨?_, ?_, ?_⟩
  · rw [h1.read_crash _ _ _ (i := k) (by omega)]
    have r1 := rb 0 (by omega)
    have r2 := ra 0 (by omega)
    simp only [Nat.add_zero] at r1 r2
    unfold crashRow
    rw [hkeys, r1, r2]
    simp
  · rw [show (k : Int) + 1 = ((k + 1 : Nat) : Int) by omega, h1.read_crash _ _ _ (i := k + 1) (by omega)]
    unfold crashRow
    rw [hkeys, rb 1 (by omega), ra 1 (by omega), hc]
    have e : ((k + 1 : Nat) : Int) = (k : Int) + 1 := by omega
    rw [e]
    simp [List.idxOf_cons, n1]
  · rw [show (k : Int) + 2 = ((k + 2 : Nat) : Int) by omega, h1.read_crash _ _ _ (i := k + 2) (by omega)]
    unfold crashRow
    rw [hkeys, rb 2 (by omega), ra 2 (by omega)]
    have e : ((k + 2 : Nat) : Int) = (k : Int) + 2 := by omega
    rw [e]
    cases keep <;> simp [List.idxOf_cons, n2, n3]
end Go.Proofs.Ytkdomgiabiedlaa.diskTorn
