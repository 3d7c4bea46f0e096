/- Keys of kind int. -/
import Derived.Test.YtcmlfaolooglfaaMapAt
namespace Go.Proofs.Ytcmlfaolooglfaa
open Go.ChangeShapes Go.WideShapes Go.ChangeAt Go.RowKit
set_option linter.unusedVariables false
def intK : KeyFor Try.prog 3 Int where
  lit x := .int .i64 x
  val x := .int .i64 x
  ok x := (Lit.int .i64 x).wf = true
  lt a b := decide (a < b)
  law := Go.Maps.int_keyed Try.underlying3
  of x h := Go.Maps.keyOf_int_mk Try.underlying3 h
  inv v kl h := by
    obtain ⟨x, e1, e2, e3⟩ := Go.Maps.keyOf_int_inv Try.underlying3 h
    exact ⟨x, e1, e2, e3⟩
  same a b := by simp [Lit.sameKey]
  before a b := by simp [Lit.before]
  isKey a := by exact trivial
theorem intLt : LtLaws (fun a b : Int => decide (a < b)) := ⟨fun a => by simp, fun a b c h1 h2 => by simp at *; omega, fun a b h => by simp; omega⟩
end Go.Proofs.Ytcmlfaolooglfaa
