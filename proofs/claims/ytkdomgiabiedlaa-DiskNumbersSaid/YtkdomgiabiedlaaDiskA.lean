/- A disk in memory; disk.New. -/
import Derived.Test.YtkdomgiabiedlaaMapOps
import Derived.Test.YtkdomgiabiedlaaKeysD
import Derived.Test.YtkdomgiabiedlaaRows2
namespace Go.Proofs.Ytkdomgiabiedlaa
open Go.ChangeShapes Go.WideShapes Go.ChangeAt Go.RowKit
set_option linter.unusedVariables false

structure DiskM where
  safe : List UInt8
  dirty : List (Int × List UInt8)
  writes : Int

/-- A disk: the struct's block d, the safe bytes' block sb, the map's mb, rows of 128 bytes; F: the blocks that are its own. -/
structure DiskAt (F : Nat → Prop) (w : World) (d sb mb : Nat) (l : List (Int × Value)) (M : DiskM) : Prop where
  head : w.heap[d]? = some (.cells #[.slice (some ⟨sb, 0, none⟩) M.safe.length M.safe.length, .map (some mb), .int .i64 M.writes] 54 (0, 0))
  safe : w.heap[sb]? = some (.cells (M.safe.map bv).toArray 5 (0, 0))
  len : M.safe.length ≤ 524288 ∧ 8192 ≤ M.safe.length ∧ M.safe.length % 128 = 0
  map : MapAt intK w mb l
  sorted : ASorted (fun a b : Int => decide (a < b)) M.dirty
  rows : ∀ k : Int, RelO (RowV (fun x => F x ∧ x ≠ d ∧ x ≠ sb ∧ x ≠ mb) w 128) (aget k l) (aget k M.dirty)
  range : ∀ q ∈ M.dirty, 0 ≤ q.1 ∧ q.1 * 128 < M.safe.length
  own : F d ∧ F sb ∧ F mb
  apart : d ≠ sb ∧ d ≠ mb ∧ sb ≠ mb
  low : ∀ x, F x → x < w.heap.size
  writes : -9223372036854775808 ≤ M.writes ∧ M.writes ≤ 4611686018427387904

def RetNew (w : World) (n : Nat) (e : Ending) (w' : World) : Prop :=
  ∃ F d sb mb, e = .returned (.tuple #[.pointer (some ⟨d, 0, none⟩), .int .i64 0]) ∧ DiskAt F w' d sb mb [] ⟨List.replicate (n * 128) 0, [], 0⟩ ∧ (∀ x, F x → w.heap.size ≤ x) ∧ Below w.heap.size w w'
set_option maxHeartbeats 1000000 in
theorem dnew_any (n : Nat) (h1 : 64 ≤ n) (h2 : n ≤ 4096) (w : World) :
    Calls Try.prog 9 #[.int .i64 n] w (RetNew w n) := by
  obtain ⟨i0, hi, hz0, hz1, hz2⟩ := info_parts Try.info8
  have e1 : decide ((n : Int) < 64) = false := by simp; omega
  have e2 : decide ((4096 : Int) < n) = false := by simp; omega
  have e3 : IntKind.i64.wrap ((n : Int) * 128) = (n : Int) * 128 := IntWalk.i64_in _ (by omega)
  have hmm := @run_makeMap Try.prog
  go_enter Try.func9, Try.ntmps9
  go_wp2_with (at_make; refine wpList_make_full _ rfl _ _ 22 rfl w.heap.size 5 i0 (.int .u8 0) 1 Try.underlying22 hi hz0 hz1 .i64 .i64 ((n : Int) * 128) ((n : Int) * 128) (n * 128) rfl rfl (by omega) (by omega) (by rw [hz2]; omega) (by unfold maxLen; omega) (Nat.le_refl _) ?_; intro w2 hown2 hgrow2)
  go_ret2
  have hl := hown2.1
  rw [show Value.cells (.int .u8 0) = #[.int .u8 0] from rfl, toList_madeCells_one] at hown2
  obtain ⟨_, hown2⟩ := hown2
  rcases hown2 with ⟨hx, _⟩ | ⟨g, cap, cur, hx, hbg, hcur, _, _, hcs, htake⟩
  · cases hx
  · simp only [Value.slice.injEq, Option.some.injEq, Addr.mk.injEq, and_true, true_and] at hx
    obtain ⟨rfl, _, rfl⟩ := hx
    have hcl : cur = ((List.replicate (n * 128) (0 : UInt8)).map bv).toArray := by
      rw [List.take_of_length_le (by simp; omega)] at htake
      apply Array.toList_inj.1
      rw [htake]
      simp
    have hs2 := hgrow2.size
    have hB2 : Below w.heap.size w w2 := ⟨hgrow2.os, hgrow2.tape, hgrow2.output, hgrow2.size, fun i hi => hgrow2.block i hi (by simp)⟩
    have hgs : w.heap.size < w2.heap.size := (Array.getElem?_eq_some_iff.1 hcur).1
    refine ⟨fun x => w.heap.size ≤ x ∧ x < w2.heap.size + 2, w2.heap.size + 1, w.heap.size, w2.heap.size, by simp, ?_, fun x hx => hx.1, ?_⟩
    · constructor
      · have h := (MapKept.heap_alloc (w2.alloc (.map #[] 0)) (.cells #[.slice (some ⟨w.heap.size, 0, none⟩) (n * 128) (n * 128), .map (some w2.heap.size), .int .i64 0] 54)).1
        rw [World.size_alloc] at h
        simpa only [List.length_replicate] using h
      · rw [Below.heap_alloc _ _ _ (by simp; omega), Below.heap_alloc _ _ _ (by omega), hcur, hcl]
      · simp; omega
      · exact (MapAt.made (F := intK) w2).kept (Below.heap_alloc _ _ _ (by simp))
      · simp [ASorted]
      · intro k; simp [aget, RelO]
      · simp
      · exact ⟨by omega, by omega, by omega⟩
      · exact ⟨by omega, by omega, by omega⟩
      · intro x hx; simp; omega
      · simp
    · exact (hB2.alloc (by omega) _).alloc (by simp; omega) _
end Go.Proofs.Ytkdomgiabiedlaa
