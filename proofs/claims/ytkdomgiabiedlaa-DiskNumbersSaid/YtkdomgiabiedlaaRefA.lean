/- The reference's disk in memory; its New, Read. -/
import Derived.Test.YtkdomgiabiedlaaDiskP
import Derived.Deep.RegionHeld3
namespace Go.Proofs.Ytkdomgiabiedlaa
open Go.ChangeShapes Go.WideShapes Go.ChangeAt Go.RowKit
set_option linter.unusedVariables false
set_option linter.unusedSimpArgs false

structure RefM where
  safe : List UInt8
  now : List UInt8
  dirty : List Bool
  writes : Int
structure RefAt (F : Nat → Prop) (w : World) (r sb nb tb : Nat) (R : RefM) : Prop where
  head : w.heap[r]? = some (.cells #[.slice (some ⟨sb, 0, none⟩) 8192 8192, .slice (some ⟨nb, 0, none⟩) 8192 8192, .slice (some ⟨tb, 0, none⟩) 64 64, .int .i64 R.writes] 48 (0, 0))
  safe : w.heap[sb]? = some (.cells (R.safe.map bv).toArray 5 (0, 0))
  now : w.heap[nb]? = some (.cells (R.now.map bv).toArray 5 (0, 0))
  dirty : w.heap[tb]? = some (.cells (R.dirty.map Value.bool).toArray 4 (0, 0))
  len : R.safe.length = 8192 ∧ R.now.length = 8192 ∧ R.dirty.length = 64
  own : F r ∧ F sb ∧ F nb ∧ F tb
  apart : r ≠ sb ∧ r ≠ nb ∧ r ≠ tb ∧ sb ≠ nb ∧ sb ≠ tb ∧ nb ≠ tb
  low : ∀ x, F x → x < w.heap.size
theorem RefAt.keeps {F fp : Nat → Prop} {w w' : World} {r sb nb tb : Nat} {R : RefM} (h : RefAt F w r sb nb tb R) (hk : Keeps fp w w') (hn : ∀ x, F x → ¬ fp x) : RefAt F w' r sb nb tb R := by
  have hkk : ∀ x, F x → w'.heap[x]? = w.heap[x]? := fun x hx => hk.block x (h.low x hx) (hn x hx)
  exact ⟨(hkk _ h.own.1).trans h.head, (hkk _ h.own.2.1).trans h.safe, (hkk _ h.own.2.2.1).trans h.now, (hkk _ h.own.2.2.2).trans h.dirty, h.len, h.own, h.apart, fun x hx => Nat.lt_of_lt_of_le (h.low x hx) hk.size⟩
theorem RefAt.below {F : Nat → Prop} {w w' : World} {B r sb nb tb : Nat} {R : RefM} (h : RefAt F w r sb nb tb R) (hb : Below B w w') (hB : w.heap.size ≤ B) : RefAt F w' r sb nb tb R :=
  h.keeps (fp := fun x => B ≤ x) (Keeps.below hb) fun x hx hf => by have := h.low x hx; omega
theorem ref_cells {F : Nat → Prop} {w : World} {r sb nb tb : Nat} {R : RefM} (h : RefAt F w r sb nb tb R) :
    w.cell? ⟨r, 0, none⟩ = some (.slice (some ⟨sb, 0, none⟩) 8192 8192) ∧ w.cell? ⟨r, 1, none⟩ = some (.slice (some ⟨nb, 0, none⟩) 8192 8192) ∧ w.cell? ⟨r, 2, none⟩ = some (.slice (some ⟨tb, 0, none⟩) 64 64) ∧ w.cell? ⟨r, 3, none⟩ = some (.int .i64 R.writes) := by
  have := h.head
  simp [World.cell?, this]

def refSec (i : Int) : Prop := 0 ≤ i ∧ i < 64
instance (i : Int) : Decidable (refSec i) := by unfold refSec; exact inferInstance
/-- Read gives these bytes, and this number. -/
def RefRead (F : Nat → Prop) (w : World) (bs : List UInt8) (k : Int) (e : Ending) (w' : World) : Prop :=
  ∃ a n c, e = .returned (.tuple #[.slice a n c, .int .i64 k]) ∧ RowAt F w a n (bs.map bv) ∧ w = w'
theorem rread_any {F : Nat → Prop} {r sb nb tb : Nat} {R : RefM} (i : Int) (w : World) (h : RefAt F w r sb nb tb R) :
    Calls Try.prog 36 #[.pointer (some ⟨r, 0, none⟩), .int .i64 i] w (RefRead F w (if refSec i then rowsOf R.now i.toNat else []) (if refSec i then 0 else 1)) := by
  obtain ⟨hc0, hc1, hc2, hc3⟩ := ref_cells h
  by_cases hi : refSec i
  · rw [if_pos hi, if_pos hi]
    obtain ⟨j, rfl⟩ : ∃ j : Nat, i = j := ⟨i.toNat, by have := hi.1; omega⟩
    have hj : j < 64 := by have := hi.2; omega
    have i0 : ¬ (j : Int) < 0 := by omega
    have i1 : decide ((64 : Int) ≤ (j : Int)) = false := by simp; omega
    have e1 : IntKind.i64.wrap ((j : Int) * 128) = (j : Int) * 128 := IntWalk.i64_in _ (by omega)
    have e2 : IntKind.i64.wrap ((j : Int) + 1) = (j : Int) + 1 := IntWalk.i64_in _ (by omega)
    have e3 : IntKind.i64.wrap (((j : Int) + 1) * 128) = ((j : Int) + 1) * 128 := IntWalk.i64_in _ (by omega)
    have HR : Hid (RowAt F w (some ⟨nb, j * 128, none⟩) 128 ((rowsOf R.now j).map bv)) := by
      refine ⟨by simp [rowsOf, h.len.2.1]; omega, by unfold maxLen; omega, fun _ => ⟨nb, j * 128, rfl, h.own.2.2.1, h.low _ h.own.2.2.1, fun i hi => ?_⟩⟩
      simp only [World.cell?, h.now]
      unfold rowsOf
      simp [hi]
    clear h
    go_enter Try.func36, Try.ntmps36
    go_wp2
    go_ret2
    exact ⟨some ⟨nb, j * 128, none⟩, 128, _, by
      show Ending.returned (.tuple #[.slice (some ⟨nb, j * 128, none⟩) ((j + 1) * 128 - j * 128) (8192 - j * 128), .int .i64 0]) = _
      rw [show (j + 1) * 128 - j * 128 = 128 by omega], HR.out, rfl⟩
  · rw [if_neg hi, if_neg hi]
    clear h
    by_cases h0 : i < 0
    · go_enter Try.func36, Try.ntmps36
      go_wp2
      go_ret2
      exact ⟨none, 0, 0, rfl, RowAt.nil _ _ _, rfl⟩
    · have i1 : (64 : Int) ≤ i := by unfold refSec at hi; omega
      clear hi
      go_enter Try.func36, Try.ntmps36
      go_wp2
      go_ret2
      exact ⟨none, 0, 0, rfl, RowAt.nil _ _ _, rfl⟩
end Go.Proofs.Ytkdomgiabiedlaa
