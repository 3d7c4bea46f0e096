/- The reference's disk: New. -/
import Derived.Test.YtkdomgiabiedlaaRefC
namespace Go.Proofs.Ytkdomgiabiedlaa
open Go.ChangeShapes Go.WideShapes Go.ChangeAt Go.RowKit
set_option linter.unusedVariables false
set_option linter.unusedSimpArgs false

def R0 : RefM := ⟨Z64, Z64, List.replicate 64 false, 0⟩
theorem sim0 : Sim M0 R0 := by
  refine ⟨rfl, (imgM_clean (M := M0) rfl M0_mod).symm, ?_, rfl, Ok64.new, List.Pairwise.nil, by simp [M0, dkeys], by simp [M0, dkeys], by show _ ≤ (0 : Int) ∧ (0 : Int) ≤ _; omega⟩
  show List.replicate 64 false = _
  rfl
def NewRef (w : World) (e : Ending) (w' : World) : Prop :=
  ∃ F r sb nb tb, e = .returned (.pointer (some ⟨r, 0, none⟩)) ∧ RefAt F w' r sb nb tb R0 ∧ (∀ x, F x → w.heap.size ≤ x) ∧ Below w.heap.size w w'
theorem mk8 (zc : Array Value) (hz : zc = (Z64.map bv).toArray) (w : World) : (Instr.makeSlice 22 (.int .i64 8192) (.int .i64 8192)).run Try.prog w = .ok (.slice (some ⟨w.heap.size, 0, none⟩) 8192 8192) (w.alloc (.cells zc 5)) := by
  obtain ⟨i0, hi, hz0, hz1, hz2⟩ := info_parts Try.info8
  have h := run_make (P := Try.prog) w 22 5 i0 (.int .u8 0) Try.underlying22 hi hz0 .i64 .i64 8192 8192 (by omega) (by omega) (by rw [hz2]; omega) (by omega)
  rw [h, hz1]
  subst hz
  congr 3
  apply Array.toList_inj.1
  rw [show Value.cells (.int .u8 0) = #[.int .u8 0] from rfl, toList_madeCells_one]
  unfold Z64 zeros
  rw [List.map_replicate]
  rfl
theorem mkb (bc : Array Value) (hz : bc = ((List.replicate 64 false).map Value.bool).toArray) (w : World) : (Instr.makeSlice 34 (.int .i64 64) (.int .i64 64)).run Try.prog w = .ok (.slice (some ⟨w.heap.size, 0, none⟩) 64 64) (w.alloc (.cells bc 4)) := by
  obtain ⟨i0, hi, hz0, hz1, hz2⟩ := info_parts infoBool
  have h := run_make (P := Try.prog) w 34 4 i0 (.bool false) Try.underlying34 hi hz0 .i64 .i64 64 64 (by omega) (by omega) (by rw [hz2]; omega) (by omega)
  rw [h, hz1]
  subst hz
  congr 3
  apply Array.toList_inj.1
  rw [show Value.cells (.bool false) = #[.bool false] from rfl, toList_madeCells_one]
  rfl
theorem alloc4 (w : World) (o1 o2 o3 o4 : Obj) : ((((w.alloc o1).alloc o2).alloc o3).alloc o4).drew.heap[w.heap.size]? = some o1 ∧ ((((w.alloc o1).alloc o2).alloc o3).alloc o4).drew.heap[w.heap.size + 1]? = some o2 ∧ ((((w.alloc o1).alloc o2).alloc o3).alloc o4).drew.heap[w.heap.size + 1 + 1]? = some o3 ∧ ((((w.alloc o1).alloc o2).alloc o3).alloc o4).drew.heap[w.heap.size + 1 + 1 + 1]? = some o4 ∧ ((((w.alloc o1).alloc o2).alloc o3).alloc o4).drew.heap.size = w.heap.size + 4 := by
  refine ⟨?_, ?_, ?_, ?_, ?_⟩
  · show (((w.alloc o1).alloc o2).alloc o3).alloc o4 |>.heap[w.heap.size]? = _
    rw [Below.heap_alloc _ _ _ (by simp; omega), Below.heap_alloc _ _ _ (by simp; omega), Below.heap_alloc _ _ _ (by simp)]
    exact (MapKept.heap_alloc w o1).1
  · show (((w.alloc o1).alloc o2).alloc o3).alloc o4 |>.heap[w.heap.size + 1]? = _
    rw [Below.heap_alloc _ _ _ (by simp), Below.heap_alloc _ _ _ (by simp)]
    have := (MapKept.heap_alloc (w.alloc o1) o2).1
    rwa [World.size_alloc] at this
  · show (((w.alloc o1).alloc o2).alloc o3).alloc o4 |>.heap[w.heap.size + 1 + 1]? = _
    rw [Below.heap_alloc _ _ _ (by simp)]
    have := (MapKept.heap_alloc ((w.alloc o1).alloc o2) o3).1
    rwa [World.size_alloc, World.size_alloc] at this
  · show (((w.alloc o1).alloc o2).alloc o3).alloc o4 |>.heap[w.heap.size + 1 + 1 + 1]? = _
    have := (MapKept.heap_alloc (((w.alloc o1).alloc o2).alloc o3) o4).1
    rwa [World.size_alloc, World.size_alloc, World.size_alloc] at this
  · show ((((w.alloc o1).alloc o2).alloc o3).alloc o4).heap.size = _
    simp
theorem newref_mk (w : World) (o1 o2 o3 : Obj) (sb nb tb : Nat) (zc bc : Array Value) (hz : zc = (Z64.map bv).toArray) (hb : bc = ((List.replicate 64 false).map Value.bool).toArray)
    (h1 : (sb = w.heap.size ∧ o1 = .cells zc 5) ∨ (sb = w.heap.size + 1 ∧ o2 = .cells zc 5) ∨ (sb = w.heap.size + 1 + 1 ∧ o3 = .cells zc 5))
    (h2 : (nb = w.heap.size ∧ o1 = .cells zc 5) ∨ (nb = w.heap.size + 1 ∧ o2 = .cells zc 5) ∨ (nb = w.heap.size + 1 + 1 ∧ o3 = .cells zc 5))
    (h3 : (tb = w.heap.size ∧ o1 = .cells bc 4) ∨ (tb = w.heap.size + 1 ∧ o2 = .cells bc 4) ∨ (tb = w.heap.size + 1 + 1 ∧ o3 = .cells bc 4)) (d1 : sb ≠ nb) (d2 : sb ≠ tb) (d3 : nb ≠ tb) :
    NewRef w (.returned (.pointer (some ⟨w.heap.size + 1 + 1 + 1, 0, none⟩))) ((((w.alloc o1).alloc o2).alloc o3).alloc (.cells #[.slice (some ⟨sb, 0, none⟩) 8192 8192, .slice (some ⟨nb, 0, none⟩) 8192 8192, .slice (some ⟨tb, 0, none⟩) 64 64, .int .i64 0] 48)).drew := by
  obtain ⟨a1, a2, a3, a4, a5⟩ := alloc4 w o1 o2 o3 (.cells #[.slice (some ⟨sb, 0, none⟩) 8192 8192, .slice (some ⟨nb, 0, none⟩) 8192 8192, .slice (some ⟨tb, 0, none⟩) 64 64, .int .i64 0] 48)
  subst hz hb
  refine ⟨fun x => w.heap.size ≤ x ∧ x < w.heap.size + 4, w.heap.size + 1 + 1 + 1, sb, nb, tb, rfl, ⟨a4, ?_, ?_, ?_, ⟨Z64_len, Z64_len, by simp [R0]⟩, ⟨by omega, by omega, by omega, by omega⟩, ⟨by omega, by omega, by omega, d1, d2, d3⟩, fun x hx => by rw [a5]; exact hx.2⟩, fun x hx => hx.1, ?_⟩
  · rcases h1 with ⟨rfl, rfl⟩ | ⟨rfl, rfl⟩ | ⟨rfl, rfl⟩ <;> assumption
  · rcases h2 with ⟨rfl, rfl⟩ | ⟨rfl, rfl⟩ | ⟨rfl, rfl⟩ <;> assumption
  · rcases h3 with ⟨rfl, rfl⟩ | ⟨rfl, rfl⟩ | ⟨rfl, rfl⟩ <;> assumption
  · exact (((((Below.refl _ _).alloc (Nat.le_refl _) _).alloc (by simp) _).alloc (by simp; omega) _).alloc (by simp; omega) _).drew
set_option maxRecDepth 100000 in
set_option maxHeartbeats 2000000 in
theorem rnew_any (w : World) : Calls Try.prog 20 #[.int .i64 64] w (NewRef w) := by
  obtain ⟨zc, hzc⟩ : ∃ zc : Array Value, zc = (Z64.map bv).toArray := ⟨_, rfl⟩
  obtain ⟨bc, hbc⟩ : ∃ bc : Array Value, bc = ((List.replicate 64 false).map Value.bool).toArray := ⟨_, rfl⟩
  have hmk := mk8 zc hzc
  have hmb := mkb bc hbc
  have HZ := Lib.hid hzc
  have HB := Lib.hid hbc
  have e8 : IntKind.i64.wrap 8192 = 8192 := IntWalk.i64_in _ (by omega)
  clear hzc hbc
  go_enter Try.func20, Try.ntmps20
  go_wp2_with fail
  go_region_held3 (fun _ => True) (trivial) (fail)
  all_goals
    go_wp2
    go_ret
    exact newref_mk w _ _ _ _ _ _ zc bc HZ.out HB.out (by simp) (by simp) (by simp) (by omega) (by omega) (by omega)
end Go.Proofs.Ytkdomgiabiedlaa
