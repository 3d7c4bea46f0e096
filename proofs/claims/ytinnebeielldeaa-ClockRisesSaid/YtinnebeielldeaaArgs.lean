/- Arguments opened: a slice of integers of one kind. -/
import Derived.Test.YtinnebeielldeaaLib
namespace Go.Proofs.Ytinnebeielldeaa
open Go.ChangeShapes Go.WideShapes Go.ChangeAt Go.RowKit

/-- The slice's elements are these integers; each of its cells lies below block B. -/
structure IntsAt (B : Nat) (w : World) (k : IntKind) (a : Option Addr) (len : Nat) (zs : List Int) : Prop where
  length : zs.length = len
  small : len ≤ maxLen
  wf : ∀ z ∈ zs, (Lit.int k z).wf = true
  at_ : 0 < len → ∃ b off, a = some ⟨b, off, none⟩ ∧ b < B ∧ ∀ i, i < len → w.cell? ⟨b, off + i, none⟩ = some (.int k (zs.getD i 0))

theorem open_intsAt {H : Type} {enc : TypeId × Value → H} {P : Program} {W : World} {base t e : Nat} {k : IntKind} {v : Value} {d : DataW H} {p : List MemPlace}
    (ht : P.underlying t = some (.slice e)) (he : P.underlying e = some (.int k)) (hc : P.cellsOf e = 1)
    (o : Value.okWide P W .any base t v) (h : DataW.Trod enc P W 0 (fun _ => true) true t v d p) (l : ∀ x ∈ p, x.block < W.heap.size) :
    ∃ a len cap zs, v = .slice a len cap ∧ IntsAt W.heap.size W k a len zs := by
  obtain ⟨a0, len, cap, rfl⟩ := okWide_slice ht o
  obtain ⟨fuel, hf⟩ := h
  rcases open_ints ht he hc hf with ⟨hcs, hx⟩ | ⟨a, len', cap', zs, hcs, _, hl, hm, hz, hx, hcell, hwz⟩
  · simp [Value.cells] at hcs
    obtain ⟨rfl, rfl, rfl⟩ := hcs
    exact ⟨none, 0, 0, [], rfl, rfl, by simp, by simp, fun h => by omega⟩
  · simp [Value.cells] at hcs
    obtain ⟨rfl, rfl, rfl⟩ := hcs
    simp only [Prod.mk.injEq] at hx
    obtain ⟨rfl, rfl⟩ := hx
    simp only [if_true] at hz
    refine ⟨some a, len, cap, zs.take len, rfl, by simp; omega, by omega, fun z hz' => hwz z (List.mem_of_mem_take hz'), fun h0 => ?_⟩
    obtain ⟨b, off, spot⟩ := a
    have hspot : spot = none := by simpa [Addr.add] using World.cell?_spot (hcell 0 (by omega))
    subst hspot
    refine ⟨b, off, rfl, l (.cell b off) (MemPlace.mem_row.2 ⟨0, by omega, by simp⟩), fun i hi => ?_⟩
    have h1 := hcell i (by omega)
    rw [add_plain] at h1
    rw [h1]
    simp [List.getD, hi]

theorem IntsAt.of_below {B : Nat} {w w' : World} {k : IntKind} {a : Option Addr} {len : Nat} {zs : List Int} (h : IntsAt B w k a len zs) (hb : Below B w w') : IntsAt B w' k a len zs := by
  refine ⟨h.length, h.small, h.wf, fun h0 => ?_⟩
  obtain ⟨b, off, e, hB, hc⟩ := h.at_ h0
  exact ⟨b, off, e, hB, fun i hi => (hb.cell (p := ⟨b, off + i, none⟩) hB).trans (hc i hi)⟩
end Go.Proofs.Ytinnebeielldeaa
