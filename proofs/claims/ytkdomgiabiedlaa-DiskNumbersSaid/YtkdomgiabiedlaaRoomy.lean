/- permafrostbook.Roomy of bytes. -/
import Derived.Test.YtkdomgiabiedlaaAppend
namespace Go.Proofs.Ytkdomgiabiedlaa
open Go.ChangeShapes Go.WideShapes Go.ChangeAt Go.RowKit
set_option linter.unusedVariables false

def roomyL (bs : List UInt8) (m : UInt8) : List UInt8 := bs ++ List.replicate 80 m
theorem roomy_take (bs : List UInt8) (m : UInt8) {n : Nat} (h : bs.length = n) : (roomyL bs m).take n = bs := by
  unfold roomyL
  rw [List.take_append_of_le_length (by omega), List.take_of_length_le (by omega)]
def Roomed (w : World) (n : Nat) (bs : List UInt8) (e : Ending) (w' : World) : Prop :=
  ∃ g, e = .returned (.slice (some ⟨g, 0, none⟩) n n) ∧ w.heap.size ≤ g ∧ w'.heap[g]? = some (.cells (bs.map bv).toArray 5 (0, 0)) ∧ Below w.heap.size w w'
def RoomRel (w : World) (g len : Nat) (bs : List UInt8) (m : UInt8) (i : Value) (wr : World) : Prop :=
  ∃ k : Nat, i = .int .i64 ((len : Int) + k) ∧ k ≤ 80 ∧ Hid (wr.heap[g]? = some (.cells ((bs ++ List.replicate k m ++ List.replicate (80 - k) 0).map bv).toArray 5 (0, 0))) ∧ Below w.heap.size w wr
theorem room_set (bs : List UInt8) (m : UInt8) {k : Nat} (hk : k < 80) : (((bs ++ List.replicate k m ++ List.replicate (80 - k) 0).map bv).toArray).setIfInBounds (bs.length + k) (bv m) = ((bs ++ List.replicate (k + 1) m ++ List.replicate (80 - (k + 1)) 0).map bv).toArray := by
  rw [show 80 - k = (80 - (k + 1)) + 1 by omega, List.replicate_succ (n := 80 - (k + 1)), List.replicate_succ' (n := k)]
  rw [List.setIfInBounds_toArray]
  congr 1
  simp only [List.map_append, List.map_cons, List.map_replicate, List.append_assoc, List.map_nil]
  rw [List.set_append_right _ _ (by simp), List.set_append_right _ _ (by simp)]
  simp
theorem made_zero {S : Nat → Prop} {w w2 : World} {a : Option Addr} {len n : Nat} {bs : List UInt8} (hown : w2.ownsRow w.heap.size 5 1 (.slice (some ⟨w.heap.size, 0, none⟩) n n) n (madeCells (Value.int .u8 0).cells (n * 1)).toList) (hg : w.grownBy w2 none) (h : RowAt S w a len (bs.map bv)) :
    Hid (w2.heap[w.heap.size]? = some (.cells ((List.replicate n (0 : UInt8)).map bv).toArray 5 (0, 0))) ∧ Below w.heap.size w w2 ∧ Hid (0 < bs.length → ∃ ad, a = some ad ∧ ∀ j v, (bs.map bv)[j]? = some v → w2.cell? (ad.add j) = some v) := by
  have hB : Below w.heap.size w w2 := ⟨hg.os, hg.tape, hg.output, hg.size, fun i hi => hg.block i hi (by simp)⟩
  refine ⟨?_, hB, fun h0 => ?_⟩
  · rw [show Value.cells (.int .u8 0) = #[.int .u8 0] from rfl, toList_madeCells_one] at hown
    obtain ⟨_, hown⟩ := hown
    rcases hown with ⟨hx, _⟩ | ⟨g, cap, cur, hx, _, hcur, _, _, hcs, htake⟩
    · cases hx
    · simp only [Value.slice.injEq, Option.some.injEq, Addr.mk.injEq, and_true, true_and] at hx
      obtain ⟨rfl, _, rfl⟩ := hx
      show _ = _
      rw [hcur]
      congr 2
      rw [List.take_of_length_le (by simp; omega)] at htake
      apply Array.toList_inj.1
      rw [htake]
      simp
  · have hl := h.length
    rw [List.length_map] at hl
    obtain ⟨b, off, rfl, hS, hb, hc⟩ := h.at_ (by omega)
    exact ⟨_, rfl, (h.below hB (Nat.le_refl _)).cells⟩
set_option maxHeartbeats 1000000 in
theorem roomy_any {S : Nat → Prop} (a : Option Addr) (len cap : Nat) (bs : List UInt8) (m : UInt8) (mi : Int) (hmi : mi = m.toNat) (w : World) (h : RowAt S w a len (bs.map bv)) (hlen : len ≤ 140737488355328) :
    Calls Try.prog 31 #[.slice a len cap, .int .u8 mi] w (Roomed w (len + 80) (roomyL bs m)) := by
  obtain ⟨i0, hi, hz0, hz1, hz2⟩ := info_parts Try.info8
  have hbl : bs.length = len := by have := h.length; simpa using this
  have e3 : IntKind.i64.wrap ((len : Int) + 80) = (len : Int) + 80 := IntWalk.i64_in _ (by omega)
  have HH := Lib.hid h
  have HBL := Lib.hid hbl
  clear h hbl
  go_enter Try.func31, Try.ntmps31
  subst hmi
  have hnm : bs.length = Nat.min len (len + 80) := by rw [HBL.out]; show _ = min _ _; omega
  have hfit : 0 + bs.length ≤ ((List.replicate (len + 80) (0 : UInt8)).map bv).length := by rw [List.length_map, List.length_replicate, HBL.out]; omega
  have HNM := Lib.hid hnm
  have HFIT := Lib.hid hfit
  clear hnm hfit
  go_wp2_with (first | (at_make; refine wpList_make_full _ rfl _ _ 22 rfl w.heap.size 5 i0 (.int .u8 0) 1 Try.underlying22 hi hz0 hz1 .i64 .i64 ((len : Int) + 80) ((len : Int) + 80) (len + 80) rfl rfl (by omega) (by omega) (by rw [hz2]; omega) (by unfold maxLen; omega) (Nat.le_refl _) ?_; intro w2 hown2 hgrow2; obtain ⟨HG2, hB2, hrow2⟩ := made_zero hown2 hgrow2 HH.out; clear hown2 hgrow2) | (with_reducible refine wpList_copy_v rfl _ _ 22 22 rfl 5 Try.underlying22 Try.size8 a w.heap.size 0 (len + 80) (len + 80) len cap rfl rfl _ 5 HG2.out bs HNM.out hrow2.out HFIT.out ?_; intro w3 HS3 hK3 hs3))
  have hs2 := hB2.size
  have hg2 := (Array.getElem?_eq_some_iff.1 HG2.out).1
  have hB3 : Below w.heap.size w w3 := ⟨hK3.os.trans hB2.os, hK3.tape.trans hB2.tape, hK3.output.trans hB2.output, by omega, fun x hx => (hK3.block x (by omega) (by omega)).trans (hB2.block x hx)⟩
  have hst : Hid (w3.heap[w.heap.size]? = some (.cells ((bs ++ List.replicate 0 m ++ List.replicate (80 - 0) 0).map bv).toArray 5 (0, 0))) := by
    have := HS3.out
    rw [splice_map] at this
    show _ = _
    rw [this]
    congr 4
    unfold splice
    simp [HBL.out]
  clear hK3 HS3 HG2 hrow2
  go_loopw [6] (fun i wr => RoomRel w w.heap.size len bs m i wr) (fun i _ => (len + 80) - (intOf i).toNat)
  case atStart => exact ⟨0, by simp, by omega, hst, hB3⟩
  case round =>
    obtain ⟨k, rfl, hk, HG, hB⟩ := hrel
    by_cases hlt : k < 80
    · have i1 : (len : Int) + k < (len : Int) + 80 := by omega
      have i0' : (0 : Int) ≤ (len : Int) + k := by omega
      have t0 : ((len : Int) + k).toNat = len + k := by omega
      have hfz : wr.frozen? ⟨w.heap.size, len + k, none⟩ = false := by simp [World.frozen?, HG.out]
      obtain ⟨u, hcu⟩ : ∃ u, wr.cell? ⟨w.heap.size, len + k, none⟩ = some u := by
        have hlt2 : len + k < ((bs ++ List.replicate k m ++ List.replicate (80 - k) 0).map bv).toArray.size := by simp [HBL.out]; omega
        exact ⟨_, by simp only [World.cell?, HG.out]; exact Array.getElem?_eq_getElem hlt2⟩
      have HNX : Hid ((wr.setCell ⟨w.heap.size, len + k, none⟩ (.int .u8 m.toNat)).heap[w.heap.size]? = some (.cells ((bs ++ List.replicate (k + 1) m ++ List.replicate (80 - (k + 1)) 0).map bv).toArray 5 (0, 0))) := by
        show _ = _
        rw [heap_set_same HG.out, ← room_set bs m hlt, HBL.out]
      go_wp2
      go_roundw
      case rel => exact ⟨k + 1, by go_num, by omega, HNX, hB.setCell (Nat.le_refl _) _⟩
      case measure => simp [intOf]; omega
    · obtain rfl : k = 80 := by omega
      have i1 : ¬ (len : Int) + (80 : Nat) < (len : Int) + 80 := by omega
      go_wp2
      go_ret
      have hg := HG.out
      simp only [Nat.sub_self, List.replicate_zero, List.append_nil] at hg
      exact ⟨w.heap.size, rfl, Nat.le_refl _, hg, hB⟩
end Go.Proofs.Ytkdomgiabiedlaa
