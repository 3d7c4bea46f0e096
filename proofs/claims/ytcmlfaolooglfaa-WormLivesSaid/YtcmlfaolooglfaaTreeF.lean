/- tree: fresh, fine. -/
import Derived.Test.YtcmlfaolooglfaaTreeAt
import Derived.Test.YtcmlfaolooglfaaPathP
namespace Go.Proofs.Ytcmlfaolooglfaa
open Go.ChangeShapes Go.WideShapes Go.ChangeAt Go.RowKit
set_option linter.unusedVariables false
set_option linter.unusedSimpArgs false

theorem bls_strOf (ls : List Nm) : bls (ls.map strOf) = ls := by
  unfold bls
  rw [List.map_map]
  have : (fun s : ByteArray => s.data.toList) ∘ strOf = id := by funext l; simp [strOf]
  rw [this, List.map_id]
theorem strOf_bls (ss : List ByteArray) : (bls ss).map strOf = ss := by
  unfold bls
  rw [List.map_map]
  have : strOf ∘ (fun s : ByteArray => s.data.toList) = id := by funext s; cases s; simp [strOf]
  rw [this, List.map_id]
theorem fineE_map (ls : List Nm) : fineE (ls.map strOf) = fineL ls := by
  have : ∀ l : Nm, badS (strOf l) = !goodL l := fun l => by simp [badS, strOf]
  unfold fineE fineL
  rw [List.any_map, List.length_map]
  have e : badS ∘ strOf = fun x => !goodL x := by funext l; exact this l
  rw [e]

theorem item_block {w : World} {i : Nat} {cs : Array Value} {t : TypeId} (h : w.heap[i]? = some (.cells cs t)) (j : Nat) : w.cell? ⟨i, j, none⟩ = cs[j]? := by simp [World.cell?, h]
/-- What fresh gives. -/
def RetFresh (k kind : Int) (w : World) (e : Ending) (w' : World) : Prop :=
  e = .returned (ptr w.heap.size) ∧ ItemAt (fun _ => False) w' k w.heap.size (w.heap.size + 1) (freshM kind) ∧ Below w.heap.size w w' ∧ w.heap.size < w'.heap.size ∧ (kind = 2 → w.heap.size + 1 < w'.heap.size)
set_option maxHeartbeats 1000000 in
theorem fresh_any (k kind : Int) (w : World) : Calls Try.prog 20 #[.int .i64 k, .int .i64 kind] w (RetFresh k kind w) := by
  have hmm := @run_makeMap Try.prog
  by_cases hk : kind = 2
  · subst hk
    go_enter Try.func20, Try.ntmps20
    go_wp2
    go_ret
    refine ⟨rfl, ⟨⟨none, 0, ?_, ⟨Nat.le_refl _, Nat.zero_le _⟩, RowAt.nil _ _ _⟩, fun _ => ?_⟩, ?_, ?_, fun _ => ?_⟩
    · rw [Below.heap_alloc _ _ _ (by simp)]
      exact (MapKept.heap_alloc w _).1
    · have := MapAt.made (F := strK) (w.alloc (.cells (itemCells k (freshM 2) none 0 (w.heap.size + 1)) 61))
      rw [World.size_alloc] at this
      exact this
    · exact ((Below.refl _ _).alloc (Nat.le_refl _) _).alloc (by simp) _
    · simp; omega
    · simp
  · have hk' : (kind == 2) = false := by simpa using hk
    go_enter Try.func20, Try.ntmps20
    go_wp2
    go_ret
    refine ⟨rfl, ⟨⟨none, 0, ?_, ⟨Nat.le_refl _, Nat.zero_le _⟩, RowAt.nil _ _ _⟩, fun h => absurd h hk⟩, (Below.refl _ _).alloc (Nat.le_refl _) _, by simp, fun h => absurd h hk⟩
    have e1 : itemCells k (freshM kind) none 0 (w.heap.size + 1) = #[.int .i64 k, .int .i64 kind, .int .i64 1, .int .i64 0, .int .u64 0, .bool false, .slice none 0 0, .map none] := by
      simp [itemCells, freshM, namesV, hk]
    rw [e1]
    exact (MapKept.heap_alloc w _).1

def fineAll : List (List Nm) → Int
  | [] => 0
  | p :: r => if fineL p ≠ 0 then fineL p else fineAll r
theorem fineAll_at : ∀ (pss : List (List Nm)) (k : Nat) (ls : List Nm), fineAll (pss.take k) = 0 → pss[k]? = some ls → fineL ls ≠ 0 → fineAll pss = fineL ls
  | p :: r, 0, ls, _, h, hn => by
    simp only [List.getElem?_cons_zero, Option.some.injEq] at h
    subst h
    rw [fineAll, if_pos hn]
  | p :: r, k + 1, ls, h, h2, hn => by
    simp only [List.take_succ_cons, fineAll] at h
    by_cases hp : fineL p ≠ 0
    · rw [if_pos hp] at h; exact absurd h hp
    · rw [if_neg hp] at h
      rw [fineAll, if_neg hp]
      exact fineAll_at r k ls h (by simpa using h2) hn
theorem fineAll_step : ∀ (pss : List (List Nm)) (k : Nat) (ls : List Nm), fineAll (pss.take k) = 0 → pss[k]? = some ls → fineL ls = 0 → fineAll (pss.take (k + 1)) = 0
  | p :: r, 0, ls, _, h, hn => by
    simp only [List.getElem?_cons_zero, Option.some.injEq] at h
    subst h
    simp [fineAll, hn]
  | p :: r, k + 1, ls, h, h2, hn => by
    simp only [List.take_succ_cons, fineAll] at h ⊢
    by_cases hp : fineL p ≠ 0
    · rw [if_pos hp] at h; exact absurd h hp
    · rw [if_neg hp] at h
      rw [if_neg hp]
      exact fineAll_step r k ls h (by simpa using h2) hn
theorem fineL_bd (ls : List Nm) : fineL ls = 0 ∨ fineL ls = 12 ∨ fineL ls = 3 := by
  unfold fineL
  split
  · simp
  · split <;> simp
set_option maxHeartbeats 1000000 in
theorem tfine_any {S : Nat → Prop} (B n : Nat) (pss : List (List Nm)) (w : World) (hn : n = pss.length) (hn2 : n ≤ 2) (hB : B < w.heap.size)
    (hc : ∀ k, k < n → ∃ a l c ls, w.cell? ⟨B, k, none⟩ = some (.slice a l c) ∧ StrsAt S w a l (ls.map strOf) ∧ pss[k]? = some ls) :
    Calls Try.prog 21 #[.slice (some ⟨B, 0, none⟩) n n] w fun e w' => e = .returned (.int .i64 (fineAll pss)) ∧ Below w.heap.size w w' := by
  have HN := Lib.hid hn
  have HC := Lib.hid hc
  clear hn hc
  go_enter Try.func21, Try.ntmps21
  go_wp2
  go_loopw [8] (fun i wr => ∃ k : Nat, k ≤ n ∧ i = .int .i64 k ∧ fineAll (pss.take k) = 0 ∧ Below w.heap.size w wr) (fun i _ => n - (intOf i).toNat)
  case atStart => exact ⟨0, by omega, rfl, rfl, Below.refl _ _⟩
  case round =>
    obtain ⟨k, hk, rfl, ha, hb⟩ := hrel
    have HA := Lib.hid ha
    clear ha
    by_cases hlt : k < n
    · obtain ⟨a, l, c, ls, hcell, hS, hp⟩ := HC.out k hlt
      have hcell' := (hb.cell (p := ⟨B, k, none⟩) hB).trans hcell
      have hF := fine_any a l c (ls.map strOf) wr (hS.below hb (Nat.le_refl _))
      rw [fineE_map] at hF
      have HF := Lib.hid hF
      have HP := Lib.hid hp
      clear hp hF hS hcell
      by_cases h0 : fineL ls = 0
      · have H0 := Lib.hid h0
        clear h0
        go_wp2_with fail
        (with_reducible refine HF.out.mono ?_)
        rintro e w1 ⟨rfl, hb1⟩
        rw [H0.out]
        go_wp2_with fail
        go_roundw
        case rel => exact ⟨k + 1, by omega, by go_num, fineAll_step _ _ _ HA.out HP.out H0.out, hb.trans (hb1.mono hb.size)⟩
        case measure => simp [intOf]; omega
      · have H0 := Lib.hid h0
        have hne : (fineL ls == 0) = false := by simpa using h0
        have hne2 : (fineL ls != 0) = true := by simpa using h0
        clear h0
        go_wp2_with fail
        (with_reducible refine HF.out.mono ?_)
        rintro e w1 ⟨rfl, hb1⟩
        go_wp2_with fail
        go_ret
        exact ⟨ret_int (fineAll_at _ _ _ HA.out HP.out H0.out).symm, hb.trans (hb1.mono hb.size)⟩
    · go_wp2
      go_ret
      exact ⟨ret_int (by have := HA.out; rw [List.take_of_length_le (by have := HN.out; omega)] at this; exact this.symm), hb⟩
end Go.Proofs.Ytcmlfaolooglfaa
