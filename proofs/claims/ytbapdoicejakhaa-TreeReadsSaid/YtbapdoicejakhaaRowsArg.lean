/- An argument that is a slice of slices of bytes, opened. -/
import Derived.Test.YtbapdoicejakhaaArgsO
namespace Go.Proofs.Ytbapdoicejakhaa
open Go.Joins Go.ChangeShapes Go.WideShapes Go.ChangeAt Go.RowKit Go.Deep
set_option linter.unusedVariables false
section
variable {H : Type} {enc : TypeId × Value → H} {W : World}
theorem cellsRow : Try.prog.cellsOf 29 = 1 := by kernel_rfl
/-- Rows of bytes, each of the world's own. -/
def PiecesAt (W : World) (a : Option Addr) (len : Nat) : Prop :=
  len ≤ maxLen ∧ (0 < len → ∃ g off, a = some ⟨g, off, none⟩ ∧ g < W.heap.size ∧ ∀ k, k < len → ∃ aa ll cc bs, W.cell? ⟨g, off + k, none⟩ = some (.slice aa ll cc) ∧ ll ≤ cc ∧ RowAt (Old W) W aa ll ((bs : List UInt8).map bv))
theorem open_piecesT {fuel : Nat} {v : Value} {x : DataW H × List MemPlace} (h : DataW.trod enc Try.prog W 0 (fun _ => true) true fuel 22 [v] = some x) (l : ∀ p ∈ x.2, p.block < W.heap.size) :
    ∃ a len cap, v = .slice a len cap ∧ len ≤ cap ∧ PiecesAt W a len := by
  rcases open_slice Try.underlying22 h with ⟨hcs, hx⟩ | ⟨a, len, cap, m, n, D, Pl, hcs, _, hl, hm, hmm, hx, hi⟩
  · simp only [List.cons.injEq, and_true] at hcs
    subst hcs
    exact ⟨none, 0, 0, rfl, Nat.le_refl _, by simp, fun h => by omega⟩
  · simp only [List.cons.injEq, and_true] at hcs
    subst hcs
    subst hx
    simp only [if_true] at hmm
    subst hmm
    rw [cellsRow] at l hi
    refine ⟨some a, len, m, rfl, hl, by omega, fun h0 => ?_⟩
    have key : ∀ i, i < m → ∃ v', W.cell? (a.add i) = some v' ∧ DataW.trod enc Try.prog W 0 (fun _ => true) true n 29 [v'] = some (D i, Pl i) := by
      intro i hi'
      obtain ⟨cs', hc, ht⟩ := hi i hi'
      obtain ⟨_, hcl, hat⟩ := World.cells?_some hc
      match cs', hcl with
      | [v'], _ =>
        refine ⟨v', ?_, ht⟩
        have := hat 0 (by simp)
        rw [Nat.mul_one, Go.Deep.add_add] at this
        simpa using this
    obtain ⟨b, off, spot⟩ := a
    have hspot : spot = none := by
      obtain ⟨v', hc, _⟩ := key 0 (by omega)
      simpa [Addr.add] using World.cell?_spot hc
    subst hspot
    have hb : b < W.heap.size := l (.cell b off) (List.mem_append_left _ (MemPlace.mem_row.2 ⟨0, by simp; omega, by simp⟩))
    refine ⟨b, off, rfl, hb, fun k hk => ?_⟩
    obtain ⟨v', hc, ht⟩ := key k (by omega)
    obtain ⟨aa, ll, cc, bs, rfl, h1, h2⟩ := open_bytesT ht (fun p hp => l p (List.mem_append_right _ (List.mem_flatMap.2 ⟨k, List.mem_range.2 (by omega), hp⟩)))
    rw [add_plain] at hc
    exact ⟨aa, ll, cc, bs, hc, h1, h2⟩
end
end Go.Proofs.Ytbapdoicejakhaa
