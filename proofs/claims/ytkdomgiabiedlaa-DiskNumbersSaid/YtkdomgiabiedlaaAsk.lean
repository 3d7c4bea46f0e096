/- Arguments opened: lists of permafrostlaw5.Ask. -/
import Derived.Test.YtkdomgiabiedlaaArgsO
namespace Go.Proofs.Ytkdomgiabiedlaa
open Go.Joins Go.ChangeShapes Go.WideShapes Go.ChangeAt Go.RowKit Go.Deep
set_option linter.unusedVariables false
section
variable {H : Type} {enc : TypeId × Value → H} {W : World}
theorem open_boolsT {fuel : Nat} {v : Value} {x : DataW H × List MemPlace} (h : DataW.trod enc Try.prog W 0 (fun _ => true) true fuel 34 [v] = some x) (l : ∀ p ∈ x.2, p.block < W.heap.size) :
    ∃ a len cap bs, v = .slice a len cap ∧ len ≤ cap ∧ RowAt (Old W) W a len ((bs : List Bool).map Value.bool) := by
  rcases open_bools Try.underlying34 Try.underlying4 (by kernel_rfl) h with ⟨hcs, hx⟩ | ⟨a, len, cap, B, hcs, _, hl, hm, hx, hcell⟩
  · simp only [List.cons.injEq, and_true] at hcs
    subst hcs
    exact ⟨none, 0, 0, [], rfl, Nat.le_refl _, RowAt.nil _ _ _⟩
  · simp only [List.cons.injEq, and_true] at hcs
    subst hcs
    subst hx
    refine ⟨some a, len, cap, (List.range len).map B, rfl, hl, by simp, by omega, fun h0 => ?_⟩
    obtain ⟨b, off, spot⟩ := a
    have hspot : spot = none := by simpa [Addr.add] using World.cell?_spot (hcell 0 (by omega))
    subst hspot
    have hb : b < W.heap.size := l (.cell b off) (MemPlace.mem_row.2 ⟨0, by omega, by simp⟩)
    refine ⟨b, off, rfl, hb, hb, fun i hi => ?_⟩
    have h1 := hcell i (by omega)
    rw [add_plain] at h1
    rw [h1]
    simp [hi]

structure AskM where
  kind : Int
  i : Int
  b : List UInt8
  keep : List Bool
  torn : Int
  cut : Int
/-- The six cells of an Ask. -/
structure AskAt (W : World) (g off : Nat) (x : AskM) : Prop where
  kind : W.cell? ⟨g, off, none⟩ = some (.int .i64 x.kind) ∧ (Lit.int .i64 x.kind).wf = true
  i : W.cell? ⟨g, off + 1, none⟩ = some (.int .i64 x.i) ∧ (Lit.int .i64 x.i).wf = true
  b : ∃ a n c, W.cell? ⟨g, off + 2, none⟩ = some (.slice a n c) ∧ n ≤ c ∧ RowAt (Old W) W a n (x.b.map bv)
  keep : ∃ a n c, W.cell? ⟨g, off + 3, none⟩ = some (.slice a n c) ∧ n ≤ c ∧ RowAt (Old W) W a n (x.keep.map Value.bool)
  torn : W.cell? ⟨g, off + 4, none⟩ = some (.int .i64 x.torn) ∧ (Lit.int .i64 x.torn).wf = true
  cut : W.cell? ⟨g, off + 5, none⟩ = some (.int .i64 x.cut) ∧ (Lit.int .i64 x.cut).wf = true
def AsksAt (W : World) (a : Option Addr) (len : Nat) : Prop :=
  len ≤ maxLen ∧ (0 < len → ∃ b off, a = some ⟨b, off, none⟩ ∧ b < W.heap.size ∧ ∀ k, k < len → ∃ x, AskAt W b (off + k * 6) x)

theorem open_asksT {fuel : Nat} {v : Value} {x : DataW H × List MemPlace} (h : DataW.trod enc Try.prog W 0 (fun _ => true) true fuel 40 [v] = some x) (l : ∀ p ∈ x.2, p.block < W.heap.size) :
    ∃ a len cap, v = .slice a len cap ∧ len ≤ cap ∧ AsksAt W a len := by
  rcases open_slice_fields Try.underlying40 Try.underlying45 (by kernel_rfl) (by kernel_rfl) h with ⟨hcs, hx⟩ | ⟨a, len, cap, m, D, Pl, hcs, _, hl, hm, hmm, hx, hi⟩
  · simp only [List.cons.injEq, and_true] at hcs
    subst hcs
    exact ⟨none, 0, 0, rfl, Nat.le_refl _, by simp, fun h => by omega⟩
  · simp only [List.cons.injEq, and_true] at hcs
    subst hcs
    subst hx
    simp only [if_true] at hmm
    subst hmm
    refine ⟨some a, len, m, rfl, hl, by omega, fun h0 => ?_⟩
    have hsub : ∀ (i : Nat) (ys : List (DataW H × List MemPlace)) (j : Nat) (y : DataW H × List MemPlace), i < m → Pl i = ys.flatMap (·.2) → ys[j]? = some y → ∀ p ∈ y.2, p.block < W.heap.size := by
      intro i ys j y hi' hp hy p hpy
      refine l p (List.mem_append_right _ (List.mem_flatMap.2 ⟨i, List.mem_range.2 hi', ?_⟩))
      rw [hp]
      exact List.mem_flatMap.2 ⟨y, List.mem_of_getElem? hy, hpy⟩
    obtain ⟨b, off, spot⟩ := a
    have hspot : spot = none := by
      obtain ⟨ys, n, _, _, _, hf⟩ := hi 0 (by omega)
      obtain ⟨v, y, hc, _⟩ := hf 0 _ rfl
      simpa [Addr.add] using World.cell?_spot hc
    subst hspot
    have hb : b < W.heap.size := l (.cell b off) (List.mem_append_left _ (MemPlace.mem_row.2 ⟨0, by simp; omega, by simp⟩))
    refine ⟨b, off, rfl, hb, fun k hk => ?_⟩
    obtain ⟨ys, n, hD, hP, hyl, hf⟩ := hi k (by omega)
    obtain ⟨v0, y0, c0, e0, t0⟩ := hf 0 _ rfl
    obtain ⟨v1, y1, c1, e1, t1⟩ := hf 1 _ rfl
    obtain ⟨v2, y2, c2, e2, t2⟩ := hf 2 _ rfl
    obtain ⟨v3, y3, c3, e3, t3⟩ := hf 3 _ rfl
    obtain ⟨v4, y4, c4, e4, t4⟩ := hf 4 _ rfl
    obtain ⟨v5, y5, c5, e5, t5⟩ := hf 5 _ rfl
    obtain ⟨z0, f0, _, g0⟩ := DataW.trod_int Try.underlying3 t0
    obtain ⟨z1, f1, _, g1⟩ := DataW.trod_int Try.underlying3 t1
    obtain ⟨a2, n2, k2, bs, rfl, q2, r2⟩ := open_bytesT t2 (hsub k ys 2 y2 (by omega) hP e2)
    obtain ⟨a3, n3, k3, ks, rfl, q3, r3⟩ := open_boolsT t3 (hsub k ys 3 y3 (by omega) hP e3)
    obtain ⟨z4, f4, _, g4⟩ := DataW.trod_int Try.underlying3 t4
    obtain ⟨z5, f5, _, g5⟩ := DataW.trod_int Try.underlying3 t5
    simp only [List.cons.injEq, and_true] at f0 f1 f4 f5
    subst f0 f1 f4 f5
    rw [add_plain] at c0 c1 c2 c3 c4 c5
    refine ⟨⟨z0, z1, bs, ks, z4, z5⟩, ⟨c0, g0⟩, ⟨?_, g1⟩, ⟨a2, n2, k2, ?_, q2, r2⟩, ⟨a3, n3, k3, ?_, q3, r3⟩, ⟨?_, g4⟩, ⟨?_, g5⟩⟩
    · rw [Nat.add_assoc]; exact c1
    · rw [Nat.add_assoc]; exact c2
    · rw [Nat.add_assoc]; exact c3
    · rw [Nat.add_assoc]; exact c4
    · rw [Nat.add_assoc]; exact c5
def AsksAtW (W : World) (a : Option Addr) (len : Nat) : Prop :=
  len ≤ maxLen ∧ (0 < len → ∃ b off, a = some ⟨b, off, none⟩ ∧ b < W.heap.size ∧ ∀ k, k < len → ∃ x, AskAt W b (off + k * 6) x ∧ x.b.length ≤ 140737488351232)
/-- .. each of its bytes within the reach. -/
theorem open_asksW {fuel : Nat} {v : Value} {x : DataW H × List MemPlace} (h : DataW.trod enc Try.prog W 0 (fun _ => true) true fuel 40 [v] = some x) (l : ∀ p ∈ x.2, p.block < W.heap.size) (hw : ∀ n ∈ x.1.weights Try.prog 40, n ≤ reachBytes) :
    ∃ a len cap, v = .slice a len cap ∧ len ≤ cap ∧ AsksAtW W a len := by
  rcases open_slice_fields Try.underlying40 Try.underlying45 (by kernel_rfl) (by kernel_rfl) h with ⟨hcs, hx⟩ | ⟨a, len, cap, m, D, Pl, hcs, _, hl, hm, hmm, hx, hi⟩
  · simp only [List.cons.injEq, and_true] at hcs
    subst hcs
    exact ⟨none, 0, 0, rfl, Nat.le_refl _, by simp, fun h => by omega⟩
  · simp only [List.cons.injEq, and_true] at hcs
    subst hcs
    subst hx
    simp only [if_true] at hmm
    subst hmm
    refine ⟨some a, len, m, rfl, hl, by omega, fun h0 => ?_⟩
    have hsub : ∀ (i : Nat) (ys : List (DataW H × List MemPlace)) (j : Nat) (y : DataW H × List MemPlace), i < m → Pl i = ys.flatMap (·.2) → ys[j]? = some y → ∀ p ∈ y.2, p.block < W.heap.size := by
      intro i ys j y hi' hp hy p hpy
      refine l p (List.mem_append_right _ (List.mem_flatMap.2 ⟨i, List.mem_range.2 hi', ?_⟩))
      rw [hp]
      exact List.mem_flatMap.2 ⟨y, List.mem_of_getElem? hy, hpy⟩
    obtain ⟨b, off, spot⟩ := a
    have hspot : spot = none := by
      obtain ⟨ys, n, _, _, _, hf⟩ := hi 0 (by omega)
      obtain ⟨v, y, hc, _⟩ := hf 0 _ rfl
      simpa [Addr.add] using World.cell?_spot hc
    subst hspot
    have hb : b < W.heap.size := l (.cell b off) (List.mem_append_left _ (MemPlace.mem_row.2 ⟨0, by simp; omega, by simp⟩))
    refine ⟨b, off, rfl, hb, fun k hk => ?_⟩
    obtain ⟨ys, n, hD, hP, hyl, hf⟩ := hi k (by omega)
    obtain ⟨v0, y0, c0, e0, t0⟩ := hf 0 _ rfl
    obtain ⟨v1, y1, c1, e1, t1⟩ := hf 1 _ rfl
    obtain ⟨v2, y2, c2, e2, t2⟩ := hf 2 _ rfl
    obtain ⟨v3, y3, c3, e3, t3⟩ := hf 3 _ rfl
    obtain ⟨v4, y4, c4, e4, t4⟩ := hf 4 _ rfl
    obtain ⟨v5, y5, c5, e5, t5⟩ := hf 5 _ rfl
    obtain ⟨z0, f0, _, g0⟩ := DataW.trod_int Try.underlying3 t0
    obtain ⟨z1, f1, _, g1⟩ := DataW.trod_int Try.underlying3 t1
    obtain ⟨a2, n2, k2, bs, rfl, q2, r2, r2w⟩ := open_bytesW t2 (hsub k ys 2 y2 (by omega) hP e2) (fun n hn => hw n (weights_elem Try.underlying40 (d := D k) (List.mem_map.2 ⟨k, List.mem_range.2 hk, rfl⟩) (by
      rw [hD]
      exact weights_part Try.underlying45 (j := 2) rfl (d := y2.1) (by rw [List.getElem?_map, e2]; rfl) hn)))
    obtain ⟨a3, n3, k3, ks, rfl, q3, r3⟩ := open_boolsT t3 (hsub k ys 3 y3 (by omega) hP e3)
    obtain ⟨z4, f4, _, g4⟩ := DataW.trod_int Try.underlying3 t4
    obtain ⟨z5, f5, _, g5⟩ := DataW.trod_int Try.underlying3 t5
    simp only [List.cons.injEq, and_true] at f0 f1 f4 f5
    subst f0 f1 f4 f5
    rw [add_plain] at c0 c1 c2 c3 c4 c5
    refine ⟨⟨z0, z1, bs, ks, z4, z5⟩, ⟨⟨c0, g0⟩, ⟨?_, g1⟩, ⟨a2, n2, k2, ?_, q2, r2⟩, ⟨a3, n3, k3, ?_, q3, r3⟩, ⟨?_, g4⟩, ⟨?_, g5⟩⟩, ?_⟩
    · rw [Nat.add_assoc]; exact c1
    · rw [Nat.add_assoc]; exact c2
    · rw [Nat.add_assoc]; exact c3
    · rw [Nat.add_assoc]; exact c4
    · rw [Nat.add_assoc]; exact c5
    · have := r2.length
      rw [List.length_map] at this
      show bs.length ≤ _
      omega
end
end Go.Proofs.Ytkdomgiabiedlaa
