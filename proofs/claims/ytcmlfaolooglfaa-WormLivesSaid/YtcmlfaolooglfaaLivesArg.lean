/- Arguments that are slices of times, and of truths, opened. -/
import Derived.Test.YtcmlfaolooglfaaArgsO
namespace Go.Proofs.Ytcmlfaolooglfaa
open Go.Joins Go.ChangeShapes Go.WideShapes Go.ChangeAt Go.RowKit Go.Deep
set_option linter.unusedVariables false
section
variable {H : Type} {enc : TypeId × Value → H} {W : World}
theorem open_boolsT {fuel : Nat} {v : Value} {x : DataW H × List MemPlace} (h : DataW.trod enc Try.prog W 0 (fun _ => true) true fuel 31 [v] = some x) (l : ∀ p ∈ x.2, p.block < W.heap.size) :
    ∃ a len cap bs, v = .slice a len cap ∧ len ≤ cap ∧ RowAt (Old W) W a len ((bs : List Bool).map Value.bool) := by
  rcases open_bools Try.underlying31 Try.underlying4 (by kernel_rfl) h with ⟨hcs, hx⟩ | ⟨a, len, cap, B, hcs, _, hl, hm, hx, hcell⟩
  · simp only [List.cons.injEq, and_true] at hcs
    subst hcs
    exact ⟨none, 0, 0, [], rfl, Nat.le_refl _, RowAt.nil _ _ _⟩
  · simp only [List.cons.injEq, and_true] at hcs
    subst hcs
    subst hx
    refine ⟨some a, len, cap, (List.range len).map B, rfl, hl, by simp, by omega, fun h0 => ?_⟩
    obtain ⟨b, off, spot⟩ := a
    have hspot : spot = none := by simpa [Addr.add] using World.cell?_spot (hcell 0 (by omega))
    subst hspot
    have hb : b < W.heap.size := l (.cell b off) (MemPlace.mem_row.2 ⟨0, by omega, by simp⟩)
    refine ⟨b, off, rfl, hb, hb, fun i hi => ?_⟩
    have h1 := hcell i (by omega)
    rw [add_plain] at h1
    rw [h1]
    simp [hi]
theorem open_u64T {fuel : Nat} {v : Value} {x : DataW H × List MemPlace} (h : DataW.trod enc Try.prog W 0 (fun _ => true) true fuel 23 [v] = some x) (l : ∀ p ∈ x.2, p.block < W.heap.size) :
    ∃ a len cap us, v = .slice a len cap ∧ len ≤ cap ∧ RowAt (Old W) W a len ((us : List Int).map (Value.int .u64)) ∧ ∀ u ∈ us, 0 ≤ u := by
  rcases open_ints Try.underlying23 Try.underlying22 (by kernel_rfl) h with ⟨hcs, hx⟩ | ⟨a, len, cap, zs, hcs, _, hl, hm, hz, hx, hcell, hwz⟩
  · simp only [List.cons.injEq, and_true] at hcs
    subst hcs
    exact ⟨none, 0, 0, [], rfl, Nat.le_refl _, RowAt.nil _ _ _, by simp⟩
  · simp only [List.cons.injEq, and_true] at hcs
    subst hcs
    subst hx
    simp only [if_true] at hz
    refine ⟨some a, len, cap, zs.take len, rfl, hl, ⟨by simp; omega, by omega, fun h0 => ?_⟩, fun u hu => ?_⟩
    · obtain ⟨b, off, spot⟩ := a
      have hspot : spot = none := by simpa [Addr.add] using World.cell?_spot (hcell 0 (by omega))
      subst hspot
      have hb : b < W.heap.size := l (.cell b off) (MemPlace.mem_row.2 ⟨0, by omega, by simp⟩)
      refine ⟨b, off, rfl, hb, hb, fun i hi => ?_⟩
      have h1 := hcell i (by omega)
      rw [add_plain] at h1
      have hi' : i < zs.length := by omega
      rw [h1, List.getElem?_map, List.getElem?_take, if_pos hi, List.getElem?_eq_getElem hi']
      simp only [Option.map_some, List.getD, List.getElem?_eq_getElem hi', Option.getD_some]
    · have := hwz u (List.mem_of_mem_take hu)
      simp [Lit.wf, IntKind.min, IntKind.max, IntKind.signed, IntKind.bits] at this
      omega
end
end Go.Proofs.Ytcmlfaolooglfaa
