/- disk: Read. -/
import Derived.Test.YtkdomgiabiedlaaDiskB
namespace Go.Proofs.Ytkdomgiabiedlaa
open Go.ChangeShapes Go.WideShapes Go.ChangeAt Go.RowKit
set_option linter.unusedVariables false

def rowsOf (s : List UInt8) (i : Nat) : List UInt8 := (s.drop (i * 128)).take 128
def readOf (M : DiskM) (i : Int) : List UInt8 := (aget i M.dirty).getD (rowsOf M.safe i.toNat)
def isSec (M : DiskM) (i : Int) : Prop := 0 ≤ i ∧ i < ((M.safe.length / 128 : Nat) : Int)

theorem Try.zero22 (w : World) : (zeroValue 22).run Try.prog w = .ok (.slice none 0 0) w := by kernel_rfl

theorem dread_none {F : Nat → Prop} {d sb mb : Nat} {l : List (Int × Value)} {M : DiskM} (i : Int) (hi : ¬ isSec M i) (w : World) (h : DiskAt F w d sb mb l M) :
    Calls Try.prog 17 #[.pointer (some ⟨d, 0, none⟩), .int .i64 i] w fun e w' => e = .returned (.tuple #[.slice none 0 0, .int .i64 1]) ∧ w = w' := by
  have e1 : decide (0 ≤ i ∧ i < ((M.safe.length / 128 : Nat) : Int)) = false := decide_eq_false hi
  have hd := dis_any i w h
  rw [e1] at hd
  clear h e1 hi
  go_enter Try.func17, Try.ntmps17
  go_wp2_with (go_at_call 26; refine hd.mono ?_; rintro e w' ⟨rfl, rfl⟩)
  go_ret2
  exact ⟨rfl, rfl⟩

set_option maxHeartbeats 1000000 in
theorem dread_some {F : Nat → Prop} {d sb mb : Nat} {l : List (Int × Value)} {M : DiskM} (i : Nat) (hi : isSec M i) (w : World) (h : DiskAt F w d sb mb l M) :
    Calls Try.prog 17 #[.pointer (some ⟨d, 0, none⟩), .int .i64 i] w fun e w' => ∃ v, e = .returned (.tuple #[v, .int .i64 0]) ∧ RowV (fun x => w.heap.size ≤ x ∧ x < w'.heap.size) w' 128 v (readOf M i) ∧ Below w.heap.size w w' := by
  have e1 : decide (0 ≤ (i : Int) ∧ (i : Int) < ((M.safe.length / 128 : Nat) : Int)) = true := decide_eq_true hi
  have hd := dis_any (i : Int) w h
  rw [e1] at hd
  have hlen := h.len
  have hib : i * 128 < M.safe.length := by
    have := hi.2
    omega
  have hat := dat_any i hib w h
  obtain ⟨_, hc1, _⟩ := head_cells h
  have hok : (Lit.int .i64 (i : Int)).wf = true := by simp [Lit.wf, IntKind.min, IntKind.max, IntKind.signed, IntKind.bits]; omega
  have hrel := h.rows (i : Int)
  rcases Option.eq_none_or_eq_some (aget (i : Int) M.dirty) with h2 | ⟨row, h2⟩
  · have h1 := relO_none hrel h2
    clear hrel
    have hr : readOf M i = rowsOf M.safe i := by simp [readOf, h2]
    rw [hr]
    have hM := Lib.hid h
    clear h
    have hmap := hM.out.map
    go_enter Try.func17, Try.ntmps17
    go_wp2_with (first | (go_at_call 26; refine hd.mono ?_; rintro e w' ⟨rfl, rfl⟩) | (at_lookup; refine wpList_look_ok intK rfl _ _ 52 22 rfl Try.underlying52 (Try.zero22 _) rfl hmap (i : Int) rfl hok ?_; rw [h1]) | (go_at_call 28; refine hat.mono ?_; rintro e w' ⟨rfl, rfl⟩))
    refine (bclone_any sb (i * 128) 128 _ (rowsOf M.safe i) w (by omega) (by simp [rowsOf]; omega) (by omega) ?_ ?_).mono ?_
    · intro j u hu
      rw [add_plain]
      have hs := hM.out.safe
      simp only [World.cell?, hs]
      simp only [rowsOf, List.getElem?_map, List.getElem?_take, List.getElem?_drop] at hu
      split at hu
      · simpa using hu
      · simp at hu
    · exact hM.out.low _ hM.out.own.2.1
    rintro e w1 ⟨v, rfl, hv, hB⟩
    go_wp2
    go_ret2
    exact ⟨v, rfl, hv, hB⟩
  · obtain ⟨p2, h3, hR⟩ := relO_some hrel h2
    clear hrel
    have hr : readOf M i = row := by simp [readOf, h2]
    rw [hr]
    obtain ⟨hl, b, cap, cur, rfl, hF, hcur, htk, hc1', hc2', hcs⟩ := hR
    have hblt := h.low _ hF.1
    have hcell : ∀ j u, (row.map bv)[j]? = some u → w.cell? ((⟨b, 0, none⟩ : Addr).add j) = some u := by
      intro j u hu
      rw [add_plain, ← htk] at *
      simp only [World.cell?, hcur, Nat.zero_add]
      rw [List.getElem?_take] at hu
      split at hu
      · simpa using hu
      · simp at hu
    have hmap := h.map
    clear h htk hcur hc1' hc2' hcs hF h2
    go_enter Try.func17, Try.ntmps17
    go_wp2_with (first | (go_at_call 26; refine hd.mono ?_; rintro e w' ⟨rfl, rfl⟩) | (at_lookup; refine wpList_look_ok intK rfl _ _ 52 22 rfl Try.underlying52 (Try.zero22 _) rfl hmap (i : Int) rfl hok ?_; rw [h3]))
    refine (bclone_any b 0 128 _ row w (by omega) hl (by omega) hcell hblt).mono ?_
    rintro e w1 ⟨v, rfl, hv, hB⟩
    go_wp2
    go_ret2
    exact ⟨v, rfl, hv, hB⟩
end Go.Proofs.Ytkdomgiabiedlaa
