/- An argument that is a slice of texts, opened; the world of a witness; the library's own number. -/
import Derived.Test.YtdgmndahfbmgfaaDoorPathG
import Derived.SliceStrings
namespace Go.Proofs.YtdgmndahfbmgfaaDoor
open Go.ChangeShapes Go.WideShapes Go.ChangeAt Go.RowKit
set_option linter.unusedVariables false

theorem cellsString : Tryd.prog.cellsOf 9 = 1 := by kernel_rfl

theorem open_strsAt {H : Type} {enc : TypeId × Value → H} {W : World} {base : Nat} {v : Value} {d : DataW H} {p : List MemPlace}
    (o : Value.okWide Tryd.prog W .any base 22 v) (h : DataW.Trod enc Tryd.prog W 0 (fun _ => true) true 22 v d p) (l : ∀ x ∈ p, x.block < W.heap.size) :
    ∃ a len cap ss rest, v = .slice a len cap ∧ len ≤ cap ∧ StrsAt (fun b => b < W.heap.size) W a len ss ∧ ((ss = [] ∧ d = .nil) ∨ d = .slice (ss.map fun s => .lit (.string s.data.toList)) rest) := by
  obtain ⟨a0, len, cap, rfl⟩ := okWide_slice Tryd.underlying22 o
  obtain ⟨fuel, hf⟩ := h
  rcases open_strings Tryd.underlying22 Tryd.underlying9 cellsString hf with ⟨hcs, hx⟩ | ⟨a, len', cap', ss, hcs, _, hl, hm, hz, hx, hcell, hws⟩
  · simp [Value.cells] at hcs
    obtain ⟨rfl, rfl, rfl⟩ := hcs
    simp only [Prod.mk.injEq] at hx
    exact ⟨none, 0, 0, [], [], rfl, Nat.le_refl _, ⟨RowAt.nil _ _ _, by simp⟩, Or.inl ⟨rfl, hx.1⟩⟩
  · simp [Value.cells] at hcs
    obtain ⟨rfl, rfl, rfl⟩ := hcs
    simp only [Prod.mk.injEq] at hx
    obtain ⟨hd, rfl⟩ := hx
    simp only [if_true] at hz
    refine ⟨some a, len, cap, ss.take len, _, rfl, hl, ⟨⟨by simp; omega, by omega, fun h0 => ?_⟩, fun s hs => hws s (List.mem_of_mem_take hs)⟩, Or.inr hd⟩
    obtain ⟨b, off, spot⟩ := a
    have hspot : spot = none := by simpa [Addr.add] using World.cell?_spot (hcell 0 (by omega))
    subst hspot
    have hb : b < W.heap.size := l (.cell b off) (MemPlace.mem_row.2 ⟨0, by omega, by simp⟩)
    refine ⟨b, off, rfl, hb, hb, fun i hi => ?_⟩
    have h1 := hcell i (by omega)
    rw [add_plain] at h1
    rw [h1]
    simp [List.getD, hi, List.getElem?_eq_getElem (show i < ss.length by omega)]

theorem open_strsAt_nil {H : Type} {enc : TypeId × Value → H} {W : World} {len cap : Nat} {d : DataW H} {p : List MemPlace}
    (h : DataW.Trod enc Tryd.prog W 0 (fun _ => true) true 22 (.slice none len cap) d p) : len = 0 ∧ cap = 0 := by
  obtain ⟨fuel, hf⟩ := h
  rcases open_strings Tryd.underlying22 Tryd.underlying9 cellsString hf with ⟨hcs, hx⟩ | ⟨a, len', cap', ss, hcs, _⟩
  · simp [Value.cells] at hcs
    exact hcs
  · simp [Value.cells] at hcs

theorem maxLen_cell {w : World} (h : w.ShapedOpen Tryd.prog) : ∃ m, w.cell? ⟨0, 0, none⟩ = some (.int .i64 m) ∧ 0 < w.heap.size := by
  obtain ⟨m, hm⟩ := Go.Proofs.cell_of_shapedOpen_int (zero := #[.int .i64 0]) (t := 3) h (of_decide_eq_true (by kernel_rfl)) (by kernel_rfl) rfl (by kernel_rfl) (by kernel_rfl) Tryd.underlying3
  exact ⟨m, hm, World.block_lt_of_cell? w _ hm⟩

/-- A world for the witnesses: the two listed tables of unicode/utf8 hold what their text lays. -/
def layFirst : Obj → Obj
  | .cells _ t frozen => .cells ((Go.Pinned.utf8FirstZ.map fun (n : Nat) => Value.int .u8 (n : Int)).toArray) t frozen
  | o => o
def layRanges : Obj → Obj
  | .cells _ t frozen => .cells ((([128, 191, 160, 191, 128, 159, 144, 191, 128, 143, 0, 0, 0, 0, 0, 0, 0, 0, 0, 0, 0, 0, 0, 0, 0, 0, 0, 0, 0, 0, 0, 0] : List Nat).map fun (n : Nat) => Value.int .u8 (n : Int)).toArray) t frozen
  | o => o
noncomputable def laidBase (os : Os) : World :=
  { World.holding Tryd.prog os ⟨#[], #[], []⟩ with heap := ((World.holding Tryd.prog os ⟨#[], #[], []⟩).heap.modify 1 layFirst).modify 2 layRanges }

theorem strs_new_at {w : World} {g : Nat} {e : TypeId} {ss : List ByteArray} {n : Nat} (hg : g = w.heap.size) (hn : ss.length = n) (hm : n ≤ maxLen) (hs : ∀ s ∈ ss, s.size ≤ maxLen) : StrsAt (Fresh w.heap.size) (w.alloc (.cells (ss.map Value.string).toArray e)) (some ⟨g, 0, none⟩) n ss := by
  subst hg; exact strs_new hn hm hs
theorem strs_then {S : Nat → Prop} {w : World} {a : Option Addr} {len : Nat} {ss : List ByteArray} (h : StrsAt S w a len ss) (o : Obj) : StrsAt S (w.alloc o) a len ss := h.below ((Below.refl _ _).alloc (Nat.le_refl _) _) (Nat.le_refl _)
theorem good_len (l : List UInt8) (h : goodL l = true) : l.length ≤ 16 := by
  simp only [goodL, Bool.and_eq_true, decide_eq_true_eq] at h
  exact h.1.1.2
theorem join_len (ls : List (List UInt8)) (hg : ls.all goodL = true) : (pathJoin ls).length ≤ 17 * ls.length + 1 := by
  cases ls with
  | nil => simp [pathJoin, Lib.join_nil]
  | cons x r =>
    rw [pathJoin_tail _ (by simp)]
    have h : ∀ l : List (List UInt8), l.all goodL = true → (Lib.joinTail [47] l).length ≤ 17 * l.length := by
      intro l
      induction l with
      | nil => intro _; simp [Lib.joinTail]
      | cons y t ih =>
        intro ha
        rw [List.all_cons, Bool.and_eq_true] at ha
        have h1 := good_len y ha.1
        have h2 := ih ha.2
        simp only [Lib.joinTail, List.map_cons, List.flatten_cons, List.length_append, List.length_cons, List.length_nil] at h2 ⊢
        omega
    have := h _ hg
    omega

theorem split_of_join (ls : List (List UInt8)) (hg : ls.all goodL = true) (h8 : ls.length ≤ 8) : pathSplit (pathJoin ls) = (ls, 0) := by
  cases ls with
  | nil => rfl
  | cons x r =>
    have hns : ∀ y ∈ x :: r, ∀ c ∈ y, c ≠ 47 := fun y hy => good_no_slash y (List.all_eq_true.1 hg y hy)
    have hs := split_join (x :: r) (by simp) hns
    have hx : x ≠ [] := by
      intro e
      have := List.all_eq_true.1 hg x (by simp)
      subst e
      exact absurd this (by decide)
    have hj : Lib.join (x :: r) [47] ≠ [] := by
      rw [Lib.join_cons]
      simp [hx]
    have hf : fineL (x :: r) = 0 := by rw [fine_all _ hg, if_neg (by omega)]
    simp only [pathJoin, pathSplit, ne_eq, not_true_eq_false, if_false, hj, hs, hf, if_true]

end Go.Proofs.YtdgmndahfbmgfaaDoor
