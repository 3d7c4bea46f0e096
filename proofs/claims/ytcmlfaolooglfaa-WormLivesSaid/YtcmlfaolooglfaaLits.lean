/- Literal slices of texts. -/
import Derived.Test.YtcmlfaolooglfaaTreeIn
import Derived.Test.YtcmlfaolooglfaaAppend
namespace Go.Proofs.Ytcmlfaolooglfaa
open Go.ChangeShapes Go.WideShapes Go.ChangeAt Go.RowKit
set_option linter.unusedVariables false

theorem strs_lit {w : World} {vs : List Value} {ls : List Nm} {n : Nat} (t : TypeId) (h : vs = (ls.map strOf).map Value.string) (hn : vs.length = n) (hm : n ≤ 1000) (hs : ∀ l ∈ ls, l.length ≤ 1000) : StrsAt (fun b => b = w.heap.size) (w.alloc (.cells vs.toArray t)) (some ⟨w.heap.size, 0, none⟩) n (ls.map strOf) := by
  subst hn
  refine ⟨?_, fun s hs' => ?_⟩
  · rw [← h]
    exact new_row vs t (by unfold maxLen; omega)
  · obtain ⟨l, hl, rfl⟩ := List.mem_map.1 hs'
    rw [strOf_size]
    have := hs l hl
    unfold maxLen; omega

end Go.Proofs.Ytcmlfaolooglfaa
