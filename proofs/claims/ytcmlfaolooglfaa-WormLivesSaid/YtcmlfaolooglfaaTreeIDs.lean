/- tree: IDs. -/
import Derived.Test.YtcmlfaolooglfaaTreeIn
import Derived.Test.YtcmlfaolooglfaaKeysT
namespace Go.Proofs.Ytcmlfaolooglfaa
open Go.ChangeShapes Go.WideShapes Go.ChangeAt Go.RowKit
set_option linter.unusedVariables false
set_option linter.unusedSimpArgs false

theorem intKeys_toD (l : List (Int × Value)) : intKeys (toD intK l) = l.map (·.1) := by
  unfold intKeys toD
  simp only [List.map_map]
  rfl
theorem sorted_keys {α : Type} {l : List (Int × α)} (hl : ASorted (fun a b : Int => decide (a < b)) l) {ss : List Int} (hp : ss.Perm (l.map (·.1))) : ss.mergeSort (fun x y => decide (x ≤ y)) = l.map (·.1) := by
  have h1 : (ss.mergeSort (fun x y => decide (x ≤ y))).Pairwise (fun a b => decide (a ≤ b) = true) := List.pairwise_mergeSort (fun a b c h1 h2 => by simp at *; omega) (fun a b => by simp; omega) ss
  have h2 : (l.map (·.1)).Pairwise (fun a b => decide (a ≤ b) = true) := by
    rw [List.pairwise_map]
    exact hl.imp fun {a b} h => by simp at *; omega
  exact ((List.mergeSort_perm ss _).trans hp).eq_of_pairwise (fun a b _ _ h1 h2 => by simp at *; omega) h1 h2
/-- A new slice of ints. -/
def NewInts (w : World) (zs : List Int) (e : Ending) (w' : World) : Prop :=
  ∃ a cap, e = .returned (.slice a zs.length cap) ∧ zs.length ≤ cap ∧ RowAt (fun x => w.heap.size ≤ x ∧ x < w'.heap.size) w' a zs.length (zs.map (Value.int .i64)) ∧ Below w.heap.size w w'
def idsM (T : TrM) : List Int := T.map (·.1)
section
variable {g : Nat → Own} {D : Nat → Prop} {p mb : Nat} {ib nb : Int → Nat} {T : TrM}
set_option maxRecDepth 100000 in
set_option maxHeartbeats 1000000 in
theorem ids_any (w : World) (h : TreeAt g D w p mb ib nb T) (hl : T.length ≤ 100000) : Calls Try.prog 18 #[ptr p] w (NewInts w (idsM T)) := by
  obtain ⟨hc0, hpw, hmw⟩ := h.cell
  have hsz : (T.map fun q => (q.1, ptr (ib q.1))).length = T.length := List.length_map _
  have hkk : (T.map fun q => (q.1, ptr (ib q.1))).map (·.1) = idsM T := by unfold idsM; rw [List.map_map]; rfl
  have hso := h.map.sorted.1
  have hk := Try.keysOfT (some mb) w
  have hs := Try.sortedOfT mb (T.map fun q : Int × ItM => (q.1, ptr (ib q.1))).length (toD intK (T.map fun q : Int × ItM => (q.1, ptr (ib q.1)))) rawE w h.map (by rw [toD_size, hsz]; unfold maxLen; omega) (by rw [toD_size, hsz]; omega)
  have HSO := Lib.hid hso
  have HKK := Lib.hid hkk
  clear h hso hkk hsz
  go_enter Try.func18, Try.ntmps18
  go_wp2_with (first | (go_at_call 28; refine hk.mono ?_; rintro e w' ⟨rfl, rfl⟩) | (go_at_call 27; refine hs.mono ?_; rintro e w' ⟨v, ss, rfl, hp, hown, hnil, hB⟩))
  go_ret
  rw [intKeys_toD] at hp
  rw [sorted_keys HSO.out hp, HKK.out] at hown
  have hlen : ss.length = (idsM T).length := by
    have := hp.length_eq
    rw [HKK.out] at this
    exact this
  have hB2 : Below w.heap.size w w' := ((Below.refl _ _).alloc (Nat.le_refl _) _).trans (hB.mono (by simp))
  have hs1 := hB.size
  rw [World.size_alloc] at hs1
  obtain ⟨h1, h2⟩ := hown
  simp only [List.length_map] at h1
  rcases h2 with ⟨rfl, h0⟩ | ⟨g, cap, cur, rfl, hg, hcur, hc1, hc2, hcs, htk⟩
  · have h00 : (idsM T).length = 0 := by omega
    have : idsM T = [] := List.eq_nil_of_length_eq_zero h00
    rw [this]
    exact ⟨none, 0, rfl, Nat.le_refl _, RowAt.nil _ _ _, hB2⟩
  · have hgw := (Array.getElem?_eq_some_iff.1 hcur).1
    rw [World.size_alloc] at hg
    refine ⟨some ⟨g, 0, none⟩, cap, by rw [← hlen]; rfl, by omega, ⟨by simp, by omega, fun h0 => ⟨g, 0, rfl, ⟨by omega, hgw⟩, hgw, fun i hi => ?_⟩⟩, hB2⟩
    simp only [World.cell?, hcur, Nat.zero_add]
    rw [show (idsM T).map (Value.int .i64) = (idsM T).map encZ from rfl]
    rw [← htk, List.getElem?_take, if_pos (show i < ss.length * 1 by rw [hlen]; omega)]
    simp
end
end Go.Proofs.Ytcmlfaolooglfaa
