/- permafrostkeep: Cut, Sized. -/
import Derived.Test.YtkdomgiabiedlaaAppend
namespace Go.Proofs.Ytkdomgiabiedlaa
open Go.ChangeShapes Go.WideShapes Go.ChangeAt Go.RowKit
set_option linter.unusedVariables false

theorem cut_any (a : Option Addr) (len cap n : Nat) (hl : len ≤ cap) (hn : n ≤ 1048576) (hm : len ≤ maxLen) (w : World) :
    Calls Try.prog 25 #[.slice a len cap, .int .i64 n] w fun e w' => e = .returned (.slice a (min len n) cap) ∧ w = w' := by
  unfold maxLen at hm
  by_cases h : n < len
  · have e1 : n ≤ cap := by omega
    go_enter Try.func25, Try.ntmps25
    go_wp2
    go_ret
    rw [show min len n = n by omega]
    exact ⟨rfl, rfl⟩
  · go_enter Try.func25, Try.ntmps25
    go_wp2
    go_ret
    rw [show min len n = len by omega]
    exact ⟨rfl, rfl⟩

def sizedL (bs : List UInt8) (n : Nat) : List UInt8 := bs.take n ++ List.replicate (n - bs.length) 0
theorem sizedL_len (bs : List UInt8) (n : Nat) : (sizedL bs n).length = n := by simp [sizedL]; omega
/-- A new row of so many bytes. -/
def NewRowN (w : World) (n : Nat) (bs : List UInt8) (e : Ending) (w' : World) : Prop :=
  ∃ v, e = .returned v ∧ RowV (fun x => w.heap.size ≤ x ∧ x < w'.heap.size) w' n v bs ∧ Below w.heap.size w w'
def SizedRel (w : World) (bs : List UInt8) (n : Nat) (v : Value) (wr : World) : Prop :=
  ∃ (a : Option Addr) (m c : Nat) (xs : List UInt8), v = .slice a m c ∧ m ≤ n ∧ a ≠ none ∧ Hid (wr.ownsRow w.heap.size 5 1 (.slice a m c) m (xs.map bv)) ∧ Hid (xs ++ List.replicate (n - m) 0 = sizedL bs n) ∧ Below w.heap.size w wr
set_option maxHeartbeats 1000000 in
theorem sized_any {S : Nat → Prop} (a : Option Addr) (cap n : Nat) (bs : List UInt8) (w : World) (h : RowAt S w a bs.length (bs.map bv)) (hc : bs.length ≤ cap) (hn : n ≤ 1048576) :
    Calls Try.prog 10 #[.slice a bs.length cap, .int .i64 n] w (NewRowN w n (sizedL bs n)) := by
  obtain ⟨i0, hi, hz0, hz1, hz2⟩ := info_parts Try.info8
  have hlen := h.small
  have hmin : min bs.length n ≤ n := Nat.min_le_right _ _
  have hcut := cut_any a bs.length cap n hc hn h.small (w.alloc (.cells #[] 5))
  have hown0 : (w.alloc (.cells #[] 5)).ownsRow w.heap.size 5 1 (.slice (some ⟨w.heap.size, 0, none⟩) 0 0) 0 [] := ⟨rfl, .inr ⟨w.heap.size, 0, #[], rfl, Nat.le_refl _, (MapKept.heap_alloc w _).1, Nat.le_refl _, Nat.zero_le _, rfl, rfl⟩⟩
  have hrow : RowAt S (w.alloc (.cells #[] 5)) a (min bs.length n) ((bs.map bv).take n) := ((h.below ((Below.refl _ _).alloc (Nat.le_refl _) _) (Nat.le_refl _))).take n
  have hone : ∀ u ∈ (bs.map bv).take n, u.oneCell' = true := fun u hu => bytes_one bs u (List.mem_of_mem_take hu)
  unfold maxLen at hlen
  have HR := Lib.hid hrow
  have HO := Lib.hid hown0
  have HH := Lib.hid h
  have HONE := Lib.hid hone
  have hb1 : 0 + min bs.length n ≤ maxLen := by unfold maxLen; omega
  have hb2 : (0 + min bs.length n) * 1 ≤ 140737488355328 := by omega
  obtain ⟨k, hk⟩ : ∃ k, k = min bs.length n := ⟨_, rfl⟩
  rw [← hk] at hcut hb1 hb2 hmin HR
  have HK := Lib.hid hk
  clear hrow hown0 h hone hk
  go_enter Try.func10, Try.ntmps10
  go_wp2_with (first | (go_at_call 25; refine hcut.mono ?_; rintro e w' ⟨rfl, rfl⟩) | (at_builtin; refine wpList_append_row rfl _ _ 22 rfl w.heap.size 5 i0 (.int .u8 0) 1 Try.underlying22 hi hz0 hz1 hz2 rfl (.slice (some ⟨w.heap.size, 0, none⟩) 0 0) 0 [] rfl HO.out a k cap ((bs.map bv).take n) rfl HR.out HONE.out hb1 hb2 (by simp) ?_; intro A' c' w2 hown2 hgrow2 hnil2 hat2))
  simp only [Nat.zero_add, List.nil_append] at hown2
  simp only [Nat.zero_add] at hnil2
  have HO2 := Lib.hid hown2
  have hs2 := hgrow2.size
  clear hown2 hat2
  have hA : A' ≠ none := by
    rintro rfl
    rcases HO2.out.2 with ⟨h1, _⟩ | ⟨g, _, _, h1, _⟩
    · simp only [Value.slice.injEq] at h1
      have := hnil2.1 (by rw [h1.2.1, h1.2.2])
      exact absurd this.1 (by simp)
    · cases h1
  clear hnil2
  go_loopw [5] (fun v wr => SizedRel w bs n v wr) (fun v _ => n - slen v)
  case atStart =>
    refine ⟨A', k, c', bs.take n, rfl, by omega, hA, ?_, ?_, ((Below.refl _ _).alloc (Nat.le_refl _) _).grown hgrow2 (by simp) (fun k hk => by cases hk; exact Nat.le_refl _)⟩
    · have := HO2.out
      rw [← List.map_take] at this
      exact this
    · show _ = sizedL bs n
      have := HK.out
      unfold sizedL
      rw [show n - k = n - bs.length by omega]
  case round =>
    obtain ⟨ra, m, rc, xs, rfl, hmn, hra, hro, hxs, hB⟩ := hrel
    by_cases hlt : m < n
    · have hb3 : m + 1 ≤ maxLen := by unfold maxLen; omega
      have hsz := hB.size
      go_wp2_with (first | (at_builtin; refine wpList_append_row rfl _ _ 22 rfl w.heap.size 5 i0 (.int .u8 0) 1 Try.underlying22 hi hz0 hz1 hz2 rfl (.slice ra m rc) m (xs.map bv) rfl (hro.out.alloc _) (some ⟨wr.heap.size, 0, none⟩) 1 1 [.int .u8 0] rfl (one_row _ _) (by simp [Value.oneCell']) hb3 (by omega) (by simp; omega) ?_; intro A3 c3 w3 hown3 hgrow3 hnil3 hat3; have HO3 := Lib.hid hown3; have HN3 := Lib.hid hnil3; have HA3 := Lib.hid hat3; clear hown3 hnil3 hat3; go_frame))
      go_roundw
      case rel =>
        refine ⟨A3, m + 1, c3, xs ++ [0], rfl, by omega, ?_, ?_, ?_, ?_⟩
        · exact own_some HO3.out (by omega)
        · have := HO3.out
          show World.ownsRow _ _ _ _ _ _ _
          rw [List.map_append]
          exact this
        · show _ = sizedL bs n
          rw [← hxs.out, show n - m = (n - (m + 1)) + 1 by omega, List.replicate_succ]
          simp
        · exact (hB.alloc (by omega) _).grown hgrow3 (by simp; omega) (own_block_ge hro.out)
      case measure => simp only [slen]; omega
    · obtain rfl : m = n := by omega
      go_wp2
      go_ret
      refine ⟨.slice ra m rc, rfl, ?_, hB⟩
      have := hxs.out
      simp only [Nat.sub_self, List.replicate_zero, List.append_nil] at this
      rw [← this]
      exact RowV.of_own hro.out (by simp [hra])
theorem sized_at {S : Nat → Prop} (a : Option Addr) (len cap : Nat) (ni : Int) (n : Nat) (bs : List UInt8) (w : World) (h : RowAt S w a len (bs.map bv)) (hni : ni = n) (hc : len ≤ cap) (hn : n ≤ 1048576) :
    Calls Try.prog 10 #[.slice a len cap, .int .i64 ni] w (NewRowN w n (sizedL bs n)) := by
  obtain rfl : bs.length = len := by have := h.length; simpa using this
  subst hni
  exact sized_any a cap n bs w h hc hn
end Go.Proofs.Ytkdomgiabiedlaa
