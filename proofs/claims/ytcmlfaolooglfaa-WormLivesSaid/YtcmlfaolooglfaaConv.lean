/- string(b) of a row of bytes; byte rows as texts. -/
import Derived.Test.YtcmlfaolooglfaaRows2
import Derived.Laws.IdiomStrings
import Derived.Lib.BufferRead
namespace Go.Proofs.Ytcmlfaolooglfaa
open Go.ChangeShapes Go.WideShapes Go.ChangeAt Go.RowKit
set_option linter.unusedVariables false

def strOf (l : List UInt8) : ByteArray := ⟨l.toArray⟩
theorem strOf_inj {a b : List UInt8} (h : strOf a = strOf b) : a = b := by
  simpa [strOf] using h
theorem strOf_append (a b : List UInt8) : strOf a ++ strOf b = strOf (a ++ b) := by
  apply ByteArray.ext
  show (strOf a ++ strOf b).data = (a ++ b).toArray
  rw [ByteArray.data_append]
  simp [strOf]
theorem strOf_size (a : List UInt8) : (strOf a).size = a.length := by simp [strOf, ByteArray.size]
theorem strOf_list (a : List UInt8) : (strOf a).toList = a := by rw [ByteArray.toList_eq]; simp [strOf]
theorem strOf_ne {a b : List UInt8} (h : a ≠ b) : ¬ (strOf a).toList = (strOf b).toList ∧ ((strOf a).toList == (strOf b).toList) = false := by
  rw [strOf_list, strOf_list]
  exact ⟨h, by simpa using h⟩
/-- The value reads as these bytes. -/
def ReadsAs (w : World) (v : Value) (bs : List UInt8) : Prop := (convert 58 9 v).run Try.prog w = .ok (.string (strOf bs)) w
theorem conv_row {S : Nat → Prop} {w : World} {a : Option Addr} {n c : Nat} {bs : List UInt8} (h : RowAt S w a n (bs.map bv)) : (convert 58 9 (.slice a n c)).run Try.prog w = .ok (.string (strOf bs)) w := by
  have hl := h.length
  rw [List.length_map] at hl
  rcases a with _ | ad
  · have h0 : n = 0 := by
      rcases Nat.eq_zero_or_pos n with h0 | h0
      · exact h0
      · obtain ⟨_, _, e, _⟩ := h.at_ h0
        cases e
    subst h0
    have : bs = [] := List.eq_nil_of_length_eq_zero hl
    subst this
    have := Go.Lib.run_convert_nil_bytes (P := Try.prog) w 58 9 5 c Try.underlying58 Try.underlying5 Try.underlying9
    exact this
  · subst hl
    refine run_convert_bytes_back w 58 9 5 ad c bs Try.underlying58 Try.underlying5 Try.underlying9 (fun j hj => ?_)
    obtain ⟨b, off, e, _, _, hc⟩ := h.at_ (by omega)
    simp only [Option.some.injEq] at e
    subst e
    rw [add_plain, hc j hj, List.getElem?_map, List.getElem?_eq_getElem hj]
    rfl
end Go.Proofs.Ytcmlfaolooglfaa
