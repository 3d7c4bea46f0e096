/- disk: Dirty, Of. -/
import Derived.Test.YtkdomgiabiedlaaDiskG
namespace Go.Proofs.Ytkdomgiabiedlaa
open Go.ChangeShapes Go.WideShapes Go.ChangeAt Go.RowKit
set_option linter.unusedVariables false

theorem keys_same {l : List (Int × Value)} {m : List (Int × List UInt8)} {R : Value → List UInt8 → Prop} (hl : ASorted (fun a b : Int => decide (a < b)) l) (hm : ASorted (fun a b : Int => decide (a < b)) m) (h : ∀ k, RelO R (aget k l) (aget k m)) : l.map (·.1) = m.map (·.1) := by
  have h1 : l.map (fun p => (p.1, ())) = m.map (fun p => (p.1, ())) := by
    refine asorted_ext intLt (by unfold ASorted at *; rw [List.pairwise_map]; exact hl) (by unfold ASorted at *; rw [List.pairwise_map]; exact hm) fun k => ?_
    rw [aget_map (fun _ => ()), aget_map (fun _ => ())]
    have := h k
    cases h2 : aget k l <;> cases h3 : aget k m <;> rw [h2, h3] at this <;> simp_all [RelO]
  have h2 := congrArg (List.map (·.1)) h1
  simpa [List.map_map, Function.comp_def] using h2
theorem intKeys_toD (l : List (Int × Value)) : intKeys (toD intK l) = l.map (·.1) := by
  unfold intKeys toD
  simp only [List.map_map]
  rfl
theorem sorted_keys {α : Type} {l : List (Int × α)} (hl : ASorted (fun a b : Int => decide (a < b)) l) {ss : List Int} (hp : ss.Perm (l.map (·.1))) : ss.mergeSort (fun x y => decide (x ≤ y)) = l.map (·.1) := by
  have h1 : (ss.mergeSort (fun x y => decide (x ≤ y))).Pairwise (fun a b => decide (a ≤ b) = true) := List.pairwise_mergeSort (fun a b c h1 h2 => by simp at *; omega) (fun a b => by simp; omega) ss
  have h2 : (l.map (·.1)).Pairwise (fun a b => decide (a ≤ b) = true) := by
    rw [List.pairwise_map]
    exact hl.imp fun {a b} h => by simp at *; omega
  exact ((List.mergeSort_perm ss _).trans hp).eq_of_pairwise (fun a b _ _ h1 h2 => by simp at *; omega) h1 h2

def dkeys (M : DiskM) : List Int := M.dirty.map (·.1)
/-- A new slice of ints. -/
def NewInts (w : World) (zs : List Int) (e : Ending) (w' : World) : Prop :=
  ∃ a cap, e = .returned (.slice a zs.length cap) ∧ RowAt (fun x => w.heap.size ≤ x ∧ x < w'.heap.size) w' a zs.length (zs.map (Value.int .i64)) ∧ Below w.heap.size w w'

theorem dkeys_len {F : Nat → Prop} {d sb mb : Nat} {l : List (Int × Value)} {M : DiskM} {w : World} (h : DiskAt F w d sb mb l M) : (dkeys M).length ≤ 4096 := by
  have h1 := keys_same h.map.sorted.1 h.sorted h.rows
  have h2 := h.small
  have h3 := congrArg List.length h1
  simp only [List.length_map] at h3
  simp only [dkeys, List.length_map]
  omega

set_option maxHeartbeats 1000000 in
theorem ddirty_any {F : Nat → Prop} {d sb mb : Nat} {l : List (Int × Value)} {M : DiskM} (w : World) (h : DiskAt F w d sb mb l M) :
    Calls Try.prog 15 #[.pointer (some ⟨d, 0, none⟩)] w (NewInts w (dkeys M)) := by
  obtain ⟨hc0, hc1, hc2⟩ := head_cells h
  have hsm := h.small
  have hks := keys_same h.map.sorted.1 h.sorted h.rows
  have hso := h.map.sorted.1
  have hk := Try.keysOfD (some mb) w
  have hs := Try.sortedOfD mb l.length (toD intK l) rawE w h.map (by rw [toD_size]; unfold maxLen; omega) (by rw [toD_size]; omega)
  have HK := Lib.hid hks
  have HSO := Lib.hid hso
  clear h hks hso
  go_enter Try.func15, Try.ntmps15
  go_wp2_with (first | (go_at_call 30; refine hk.mono ?_; rintro e w' ⟨rfl, rfl⟩) | (go_at_call 29; refine hs.mono ?_; rintro e w' ⟨v, ss, rfl, hp, hown, hnil, hB⟩))
  go_ret
  rw [intKeys_toD] at hp
  rw [sorted_keys HSO.out hp, HK.out] at hown
  have hlen : ss.length = (dkeys M).length := by
    have := hp.length_eq
    rw [HK.out] at this
    simpa [dkeys] using this
  have hB2 : Below w.heap.size w w' := ((Below.refl _ _).alloc (Nat.le_refl _) _).trans (hB.mono (by simp))
  have hs1 := hB.size
  rw [World.size_alloc] at hs1
  obtain ⟨h1, h2⟩ := hown
  simp only [List.length_map] at h1
  rcases h2 with ⟨rfl, h0⟩ | ⟨g, cap, cur, rfl, hg, hcur, hc1, hc2, hcs, htk⟩
  · have h00 : (dkeys M).length = 0 := by omega
    have : dkeys M = [] := List.eq_nil_of_length_eq_zero h00
    rw [this]
    exact ⟨none, 0, rfl, RowAt.nil _ _ _, hB2⟩
  · have hgw := (Array.getElem?_eq_some_iff.1 hcur).1
    rw [World.size_alloc] at hg
    refine ⟨some ⟨g, 0, none⟩, cap, by rw [← hlen]; rfl, ⟨by simp, by omega, fun h0 => ⟨g, 0, rfl, ⟨by omega, hgw⟩, hgw, fun i hi => ?_⟩⟩, hB2⟩
    simp only [World.cell?, hcur, Nat.zero_add]
    rw [show (dkeys M).map (Value.int .i64) = (M.dirty.map (·.1)).map encZ from rfl] 
    rw [← htk, List.getElem?_take, if_pos (show i < ss.length * 1 by rw [hlen]; omega)]
    simp
end Go.Proofs.Ytkdomgiabiedlaa
