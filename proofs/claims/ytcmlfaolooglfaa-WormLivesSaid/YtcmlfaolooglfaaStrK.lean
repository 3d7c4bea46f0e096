/- Maps whose keys are texts: the keys, and their order. -/
import Derived.Test.YtcmlfaolooglfaaMapOps
import Derived.Test.YtcmlfaolooglfaaConv
namespace Go.Proofs.Ytcmlfaolooglfaa
open Go.ChangeShapes Go.WideShapes Go.ChangeAt Go.RowKit
set_option linter.unusedVariables false

theorem bb_irr : ∀ a : List UInt8, bytesBefore a a = false
  | [] => rfl
  | x :: r => by simp [bytesBefore, bb_irr r]
theorem bb_trans : ∀ a b c : List UInt8, bytesBefore a b = true → bytesBefore b c = true → bytesBefore a c = true
  | [], [], _, h, _ => by simp [bytesBefore] at h
  | [], _ :: _, [], _, h => by simp [bytesBefore] at h
  | [], _ :: _, _ :: _, _, _ => by simp [bytesBefore]
  | _ :: _, [], _, h, _ => by simp [bytesBefore] at h
  | _ :: _, _ :: _, [], _, h => by simp [bytesBefore] at h
  | x :: r, y :: s, z :: t, h, k => by
    simp only [bytesBefore, Bool.or_eq_true, Bool.and_eq_true, decide_eq_true_eq, beq_iff_eq, UInt8.lt_iff_toNat_lt, ← UInt8.toNat_inj] at *
    rcases h with h | ⟨h, h'⟩ <;> rcases k with k | ⟨k, k'⟩
    · exact .inl (by omega)
    · exact .inl (by omega)
    · exact .inl (by omega)
    · exact .inr ⟨by omega, bb_trans r s t h' k'⟩
theorem bb_tot : ∀ a b : List UInt8, a ≠ b → bytesBefore a b = true ∨ bytesBefore b a = true
  | [], [], h => absurd rfl h
  | [], _ :: _, _ => by simp [bytesBefore]
  | _ :: _, [], _ => by simp [bytesBefore]
  | x :: r, y :: s, h => by
    simp only [bytesBefore, Bool.or_eq_true, Bool.and_eq_true, decide_eq_true_eq, beq_iff_eq, UInt8.lt_iff_toNat_lt]
    rcases Nat.lt_trichotomy x.toNat y.toNat with h1 | h1 | h1
    · exact .inl (.inl h1)
    · have e : x = y := UInt8.toNat_inj.1 h1
      subst e
      rcases bb_tot r s (fun e => h (by rw [e])) with h2 | h2
      · exact .inl (.inr ⟨rfl, h2⟩)
      · exact .inr (.inr ⟨rfl, h2⟩)
    · exact .inr (.inl h1)
theorem bbLt : LtLaws bytesBefore := ⟨bb_irr, bb_trans, bb_tot⟩

/-- Keys of kind string. -/
def strK : KeyFor Try.prog 9 (List UInt8) where
  lit x := .string x
  val x := .string (strOf x)
  ok x := x.length ≤ maxLen
  lt := bytesBefore
  law := Go.Maps.string_keyed Try.underlying9
  of x h := Go.WideMaps.keyOf_string_mk Try.underlying9 (by rw [strOf_size]; exact h)
  inv v kl h := by
    obtain ⟨s, rfl, rfl, hs⟩ := Go.WideMaps.string_of_keyOf Try.underlying9 h
    exact ⟨s.data.toList, by simp [strOf], rfl, by show s.data.toList.length ≤ maxLen; rw [Array.length_toList]; exact hs⟩
  same a b := by by_cases h : a = b <;> simp [Lit.sameKey, h]
  before a b := rfl
  isKey a := by exact trivial
end Go.Proofs.Ytcmlfaolooglfaa
