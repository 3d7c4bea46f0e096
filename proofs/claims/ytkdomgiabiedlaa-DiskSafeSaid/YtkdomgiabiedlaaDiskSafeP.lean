/- DiskSafe: what the model says of a crash, sector by sector. -/
import Derived.Test.YtkdomgiabiedlaaWLoop
namespace Go.Proofs.Ytkdomgiabiedlaa.diskSafe
open Go.ChangeShapes Go.WideShapes Go.ChangeAt Go.RowKit
set_option linter.unusedVariables false

theorem contains_one (a b : Int) : [a].contains b = (a == b) := by
  rw [Bool.eq_iff_iff, List.contains_iff_mem, List.mem_singleton, beq_iff_eq]
  exact ⟨Eq.symm, Eq.symm⟩
/-- The sector that is torn. -/
def IsTorn (ks : List Int) (torn : Int) (i : Nat) : Prop := (i : Int) ∈ ks ∧ ((ks.idxOf (i : Int) : Nat) : Int) = torn
theorem IsTorn.one {ks : List Int} {torn : Int} {i j : Nat} (h : IsTorn ks torn i) (k : IsTorn ks torn j) : i = j := by
  have e : ks.idxOf (i : Int) = ks.idxOf (j : Int) := by have := h.2; have := k.2; omega
  have h1 : ks[ks.idxOf (i : Int)]'(List.idxOf_lt_length_of_mem h.1) = (i : Int) := List.getElem_idxOf _
  have h2 : ks[ks.idxOf (j : Int)]'(List.idxOf_lt_length_of_mem k.1) = (j : Int) := List.getElem_idxOf _
  have h3 : ks[ks.idxOf (i : Int)]'(List.idxOf_lt_length_of_mem h.1) = ks[ks.idxOf (j : Int)]'(List.idxOf_lt_length_of_mem k.1) := by congr 1
  omega
/-- What the three images hold of one sector. -/
theorem three {M : DiskM} (h : Ok64 M) (keep : List Bool) (torn cut : Int) {i : Nat} (hi : i < 64) :
    (¬ (i : Int) ∈ dkeys M → rowsOf (imgM M) i = rowsOf M.safe i ∧ rowsOf (imgM (crashM M keep torn cut)) i = rowsOf M.safe i) ∧
    (rowsOf (imgM (crashM M keep torn cut)) i ≠ rowsOf M.safe i → rowsOf (imgM (crashM M keep torn cut)) i ≠ rowsOf (imgM M) i → IsTorn (dkeys M) torn i) := by
  have e1 := h.rows hi
  have e2 := (h.crash keep torn cut).rows hi
  rw [h.read_crash keep torn cut hi] at e2
  rw [e1, e2]
  unfold crashRow
  by_cases hm : (i : Int) ∈ dkeys M
  · rw [if_pos (by simpa using hm)]
    refine ⟨fun h => absurd hm h, ?_⟩
    split
    · rename_i ht
      exact fun _ _ => ⟨hm, ht⟩
    · split
      · exact fun _ h2 => absurd rfl h2
      · exact fun h1 _ => absurd rfl h1
  · rw [if_neg (by simpa using hm)]
    refine ⟨fun _ => ⟨?_, rfl⟩, fun h1 _ => absurd rfl h1⟩
    unfold readOf
    rw [readOf_other hm]
    simp
theorem row_sec {S : Nat → Prop} {w : World} {b : Nat} {bs : List UInt8} (h : RowAt S w (some ⟨b, 0, none⟩) 8192 (bs.map bv)) {i : Nat} (hi : i < 64) : RowAt S w (some ⟨b, i * 128, none⟩) 128 ((rowsOf bs i).map bv) := by
  have h1 := (h.drop (i * 128)).take 128
  rw [Nat.zero_add, Nat.min_eq_right (by omega), ← List.map_drop, ← List.map_take] at h1
  exact h1
/-- How many sectors are neither old nor new, so far. -/
def Mixed (ks : List Int) (torn : Int) (i m : Nat) : Prop := m = 0 ∨ (m = 1 ∧ ∃ t : Nat, t < i ∧ IsTorn ks torn t)
theorem Mixed.same {ks : List Int} {torn : Int} {i m : Nat} (h : Mixed ks torn i m) : Mixed ks torn (i + 1) m := by
  rcases h with h | ⟨h, t, h1, h2⟩
  · exact .inl h
  · exact .inr ⟨h, t, by omega, h2⟩
theorem Mixed.more {ks : List Int} {torn : Int} {i m : Nat} (h : Mixed ks torn i m) (ht : IsTorn ks torn i) : Mixed ks torn (i + 1) (m + 1) := by
  rcases h with h | ⟨h, t, h1, h2⟩
  · exact .inr ⟨by omega, i, by omega, ht⟩
  · have := h2.one ht; omega
theorem Mixed.le {ks : List Int} {torn : Int} {i m : Nat} (h : Mixed ks torn i m) : m ≤ 1 := by
  rcases h with h | ⟨h, _⟩ <;> omega
end Go.Proofs.Ytkdomgiabiedlaa.diskSafe
