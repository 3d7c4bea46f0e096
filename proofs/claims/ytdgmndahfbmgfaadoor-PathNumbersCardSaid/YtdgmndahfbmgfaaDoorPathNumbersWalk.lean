/- The walk of PathNumbers: it returns true. -/
import Derived.Test.YtdgmndahfbmgfaaDoorStrArg
namespace Go.Proofs.YtdgmndahfbmgfaaDoor.pathNumbers
open Go.ChangeShapes Go.WideShapes Go.ChangeAt Go.RowKit
set_option linter.unusedVariables false
def texts : List ByteArray := [⟨#[]⟩, ⟨#[47]⟩, ⟨#[47, 47]⟩, ⟨#[97]⟩, ⟨#[47, 97]⟩, ⟨#[47, 97, 47]⟩, ⟨#[47, 97, 47, 47, 98]⟩, ⟨#[47, 46]⟩, ⟨#[47, 46, 46]⟩, ⟨#[47, 46, 46, 46]⟩, ⟨#[47, 46, 97]⟩, ⟨#[47, 97, 47, 98, 47, 99, 47, 100, 47, 101, 47, 102, 47, 103, 47, 104]⟩, ⟨#[47, 97, 47, 98, 47, 99, 47, 100, 47, 101, 47, 102, 47, 103, 47, 104, 47, 105]⟩, ⟨#[47, 97, 47, 98, 47, 99, 47, 100, 47, 101, 47, 102, 47, 103, 47, 104, 47]⟩, ⟨#[47, 48, 49, 50, 51, 52, 53, 54, 55, 56, 57, 97, 98, 99, 100, 101, 102]⟩, ⟨#[47, 48, 49, 50, 51, 52, 53, 54, 55, 56, 57, 97, 98, 99, 100, 101, 102, 103]⟩, ⟨#[47, 65]⟩, ⟨#[47, 97, 32, 98]⟩, ⟨#[47, 97, 95, 98, 45, 99, 46, 100]⟩, ⟨#[47, 255]⟩, ⟨#[47, 97, 0]⟩, ⟨#[32, 47, 97]⟩, ⟨#[97, 45, 98]⟩, ⟨#[46]⟩]
theorem texts_short : ∀ s ∈ texts, s.size < 4294967281 := by decide
theorem texts_max : ∀ s ∈ texts, s.size ≤ maxLen := fun s hs => by have := texts_short s hs; unfold maxLen; omega

set_option maxHeartbeats 2000000 in
theorem walk (W : World) (hsh : W.ShapedOpen Tryd.prog) :
    Calls Tryd.prog 4 #[] W (Fine W) := by
  obtain ⟨m, hm, hz0⟩ := maxLen_cell hsh
  clear hsh
  have HM := Lib.hid hm
  clear hm
  go_enter Tryd.func4, Tryd.ntmps4
  go_wp2_with fail
  go_loopw [11] (fun i wr => ∃ k : Nat, k ≤ 24 ∧ i = .int .i64 k ∧ Below W.heap.size W wr ∧ StrsAt (Fresh W.heap.size) wr (some ⟨W.heap.size, 0, none⟩) 24 texts) (fun i _ => 24 - (intOf i).toNat)
  case atStart => exact ⟨0, by omega, rfl, (Below.refl _ _).alloc (Nat.le_refl _) _, strs_new (ss := texts) rfl (by decide) texts_max⟩
  case round =>
    obtain ⟨k, hk, rfl, hb, hS⟩ := hrel
    have hbz := hb.size
    by_cases hlt : k < 24
    · obtain ⟨b, off, x, hbo, hfr, hbw, hx, _, hcell⟩ := hS.cell k hlt
      simp only [Option.some.injEq, Addr.mk.injEq, and_true] at hbo
      obtain ⟨rfl, rfl⟩ := hbo
      have hxs : x.size < 4294967281 := texts_short x (List.mem_of_getElem? hx)
      clear hx
      have HS := Lib.hid hS
      clear hS
      rw [Nat.zero_add] at hcell
      go_wp2_with fail
      refine (same7_any x wr hxs m ((hb.cell (p := ⟨0, 0, none⟩) hz0).trans HM.out)).mono ?_
      rintro e w1 ⟨rfl, hB⟩
      go_wp2_with fail
      go_roundw
      case rel => exact ⟨k + 1, by omega, by go_num, hb.trans (hB.mono hbz), HS.out.below hB (Nat.le_refl _)⟩
      case measure => simp [intOf]; omega
    · clear hS
      go_wp2_with fail
      refine (parent_any (S := Fresh wr.heap.size) _ 3 3 [⟨#[97]⟩, ⟨#[98]⟩, ⟨#[99]⟩] _ (strs_new (ss := [⟨#[97]⟩, ⟨#[98]⟩, ⟨#[99]⟩]) rfl (by decide) (by decide)) (by decide) (Nat.le_refl _)).mono ?_
      rintro e w1 (⟨h, _, _⟩ | ⟨a1, c1, x1, hx1, rfl, hS1, hB1⟩)
      · cases h
      · simp only [List.getLast?_cons_cons, List.getLast?_singleton, Option.some.injEq] at hx1
        subst hx1
        have hb1 := (hb.alloc (by omega) _).trans (hB1.mono (by simp; omega))
        have hbz1 := hb1.size
        clear hb hB1
        go_wp2_with fail
        refine (parent_any (S := fun _ => False) none 0 0 [] w1 ⟨RowAt.nil _ _ _, by simp⟩ (by decide) (Nat.le_refl _)).mono ?_
        rintro e w2 (⟨_, rfl, rfl⟩ | ⟨a2, c2, x2, hx2, _⟩)
        · go_wp2_with fail
          refine (same_any _ _ _ _ _ _ _ [⟨#[97]⟩, ⟨#[98]⟩] _ (hS1.below ((Below.refl _ _).alloc (Nat.le_refl _) _) (Nat.le_refl _)) (strs_new (ss := [⟨#[97]⟩, ⟨#[98]⟩]) rfl (by decide) (by decide))).mono ?_
          rintro e w3 ⟨rfl, hB3⟩
          rw [show decide (([⟨#[97]⟩, ⟨#[98]⟩, ⟨#[99]⟩] : List ByteArray).dropLast = [⟨#[97]⟩, ⟨#[98]⟩]) = true by decide]
          have hb3 := (hb1.alloc (by omega) _).trans (hB3.mono (by simp; omega))
          have hbz3 := hb3.size
          clear hb1 hB3 hS1
          go_wp2_with fail
          refine (within_any (S := Fresh w3.heap.size) (S' := Fresh (w3.heap.size + 1)) _ _ 2 2 1 1 [⟨#[97]⟩, ⟨#[98]⟩] [⟨#[97]⟩] _ (strs_then (strs_new (w := w3) (ss := [⟨#[97]⟩, ⟨#[98]⟩]) rfl (by decide) (by decide)) _) ((strs_new_at (ss := [⟨#[97]⟩]) (by simp) rfl (by decide) (by decide)).mono (fun b hb => by simpa using hb)) (Nat.le_refl _)).mono ?_
          rintro e w4 ⟨rfl, hB4⟩
          rw [show withinB [⟨#[97]⟩, ⟨#[98]⟩] [⟨#[97]⟩] = true by decide]
          have hb4 := ((hb3.alloc (by omega) _).alloc (by simp; omega) _).trans (hB4.mono (by simp; omega))
          have hbz4 := hb4.size
          clear hb3 hB4
          go_wp2_with fail
          refine (within_any (S := fun _ => False) (S' := fun _ => False) none none 0 0 0 0 [] [] w4 ⟨RowAt.nil _ _ _, by simp⟩ ⟨RowAt.nil _ _ _, by simp⟩ (Nat.le_refl _)).mono ?_
          rintro e w5 ⟨rfl, hB5⟩
          rw [show withinB [] [] = true by decide]
          have hb5 := hb4.trans (hB5.mono (by omega))
          have hbz5 := hb5.size
          clear hb4 hB5
          go_wp2_with fail
          refine (within_any (S := Fresh w5.heap.size) (S' := Fresh (w5.heap.size + 1)) _ _ 1 1 2 2 [⟨#[97]⟩] [⟨#[97]⟩, ⟨#[98]⟩] _ (strs_then (strs_new (w := w5) (ss := [⟨#[97]⟩]) rfl (by decide) (by decide)) _) ((strs_new_at (ss := [⟨#[97]⟩, ⟨#[98]⟩]) (by simp) rfl (by decide) (by decide)).mono (fun b hb => by simpa using hb)) (Nat.le_refl _)).mono ?_
          rintro e w6 ⟨rfl, hB6⟩
          rw [show withinB [⟨#[97]⟩] [⟨#[97]⟩, ⟨#[98]⟩] = false by decide]
          have hb6 := ((hb5.alloc (by omega) _).alloc (by simp; omega) _).trans (hB6.mono (by simp; omega))
          have hbz6 := hb6.size
          clear hb5 hB6
          go_wp2_with fail
          refine (within_any (S := Fresh w6.heap.size) (S' := Fresh (w6.heap.size + 1)) _ _ 1 1 1 1 [⟨#[98]⟩] [⟨#[97]⟩] _ (strs_then (strs_new (w := w6) (ss := [⟨#[98]⟩]) rfl (by decide) (by decide)) _) ((strs_new_at (ss := [⟨#[97]⟩]) (by simp) rfl (by decide) (by decide)).mono (fun b hb => by simpa using hb)) (Nat.le_refl _)).mono ?_
          rintro e w7 ⟨rfl, hB7⟩
          rw [show withinB [⟨#[98]⟩] [⟨#[97]⟩] = false by decide]
          have hb7 := ((hb6.alloc (by omega) _).alloc (by simp; omega) _).trans (hB7.mono (by simp; omega))
          have hbz7 := hb7.size
          clear hb6 hB7
          go_wp2_with fail
          refine (known7_any w7 m ((hb7.cell (p := ⟨0, 0, none⟩) hz0).trans HM.out) (by omega)).mono ?_
          rintro e w8 ⟨rfl, hB8⟩
          go_wp2_with fail
          go_ret
          exact ⟨rfl, hb7.trans (hB8.mono hbz7)⟩
        · cases hx2
end Go.Proofs.YtdgmndahfbmgfaaDoor.pathNumbers
