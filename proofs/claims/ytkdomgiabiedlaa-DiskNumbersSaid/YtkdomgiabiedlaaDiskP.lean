/- disk: plain laws of the model. -/
import Derived.Test.YtkdomgiabiedlaaDiskL
namespace Go.Proofs.Ytkdomgiabiedlaa
open Go.ChangeShapes Go.WideShapes Go.ChangeAt Go.RowKit
set_option linter.unusedVariables false

abbrev ltI : Int → Int → Bool := fun a b => decide (a < b)
theorem readOf_write {M : DiskM} {i : Int} {bs : List UInt8} (h : isSec M i) (hb : bs.length = 128) (j : Int) : readOf (writeM M i bs) j = if j = i then bs else readOf M j := by
  rw [writeM_ok h hb]
  unfold readOf
  split
  · rename_i e; subst e; simp only [aget_aput_same, Option.getD_some]
  · rename_i e; simp only [aget_aput_other _ e]
theorem readOf_clean {M : DiskM} (h : M.dirty = []) (i : Nat) : readOf M (i : Int) = rowsOf M.safe i := by simp [readOf, h, aget]
theorem rowsOf_img {F : Nat → Prop} {d sb mb : Nat} {l : List (Int × Value)} {M : DiskM} {w : World} (h : DiskAt F w d sb mb l M) {i : Nat} (hi : i < M.safe.length / 128) : rowsOf (imgM M) i = readOf M i :=
  rowsOf_mix hi fun j hj => readOf_len h hj
theorem in_rows {W w : World} {P : Nat → Prop} {d sb mb : Nat} {M : DiskM} (h : DiskIn W P w d sb mb M) {i : Nat} (hi : i < M.safe.length / 128) : rowsOf (imgM M) i = readOf M i := by
  obtain ⟨F, l, hD, hF⟩ := h.at_
  exact rowsOf_img hD hi
theorem in_crash_rows {W w : World} {P : Nat → Prop} {d sb mb : Nat} {M : DiskM} (h : DiskIn W P w d sb mb M) (keep : List Bool) (torn cut : Int) {i : Nat} (hi : i < M.safe.length / 128) : readOf (crashM M keep torn cut) (i : Int) = crashRow M keep torn cut i := by
  obtain ⟨F, l, hD, hF⟩ := h.at_
  rw [readOf_clean rfl]
  exact rowsOf_mix hi fun j hj => crashTo_len hD keep torn cut hj
theorem writeM_safe (M : DiskM) (i : Int) (bs : List UInt8) : (writeM M i bs).safe = M.safe := by unfold writeM; split <;> rfl
/-- So many writes of one row. -/
def writesM (M : DiskM) (ks : List Int) (bs : List UInt8) : DiskM := ks.foldl (fun M i => writeM M i bs) M
theorem writesM_snoc (M : DiskM) (ks : List Int) (k : Int) (bs : List UInt8) : writesM M (ks ++ [k]) bs = writeM (writesM M ks bs) k bs := by simp [writesM]
theorem writesM_safe (M : DiskM) (ks : List Int) (bs : List UInt8) : (writesM M ks bs).safe = M.safe := by
  unfold writesM
  induction ks generalizing M with
  | nil => rfl
  | cons k r ih => rw [List.foldl_cons, ih, writeM_safe]
/-- Sixty-four sectors, each a row. -/
def Ok64 (M : DiskM) : Prop := M.safe.length = 8192 ∧ ∀ i : Nat, i < 64 → (readOf M i).length = 128
theorem Ok64.len {M : DiskM} (h : Ok64 M) : M.safe.length / 128 = 64 := by rw [h.1]
theorem Ok64.new : Ok64 M0 := ⟨M0_len, fun i hi => by rw [readOf_clean rfl]; exact rowsOf_len (n := 64) M0_len hi⟩
theorem Ok64.write {M : DiskM} (h : Ok64 M) {i : Int} {bs : List UInt8} (hi : isSec M i) (hb : bs.length = 128) : Ok64 (writeM M i bs) :=
  ⟨by rw [writeM_safe]; exact h.1, fun j hj => by rw [readOf_write hi hb]; split; exact hb; exact h.2 j hj⟩
theorem Ok64.rows {M : DiskM} (h : Ok64 M) {i : Nat} (hi : i < 64) : rowsOf (imgM M) i = readOf M i := by
  unfold imgM
  rw [h.len]
  exact rowsOf_mix hi h.2
theorem Ok64.imgLen {M : DiskM} (h : Ok64 M) : (imgM M).length = 8192 := by
  unfold imgM
  rw [h.len, mix_len h.2]
theorem Ok64.flush {M : DiskM} (h : Ok64 M) : Ok64 (flushM M) := ⟨h.imgLen, fun i hi => by rw [readOf_clean rfl]; exact rowsOf_len (n := 64) h.imgLen hi⟩
theorem Ok64.read_flush {M : DiskM} (h : Ok64 M) {i : Nat} (hi : i < 64) : readOf (flushM M) (i : Int) = readOf M i := by
  rw [readOf_clean rfl]
  exact h.rows hi
theorem Ok64.crashLen {M : DiskM} (h : Ok64 M) (keep : List Bool) (torn cut : Int) {i : Nat} (hi : i < 64) : (crashRow M keep torn cut i).length = 128 := by
  have h1 := h.2 i hi
  have h2 := rowsOf_len (n := 64) (s := M.safe) h.1 hi
  unfold crashRow
  split
  · split
    · simp [h1, h2, clampN]; omega
    · split <;> assumption
  · exact h2
theorem Ok64.read_crash {M : DiskM} (h : Ok64 M) (keep : List Bool) (torn cut : Int) {i : Nat} (hi : i < 64) : readOf (crashM M keep torn cut) (i : Int) = crashRow M keep torn cut i := by
  rw [readOf_clean rfl]
  unfold crashM
  simp only [h.len]
  exact rowsOf_mix hi fun j hj => h.crashLen keep torn cut hj
theorem Ok64.crash {M : DiskM} (h : Ok64 M) (keep : List Bool) (torn cut : Int) : Ok64 (crashM M keep torn cut) := by
  refine ⟨?_, fun i hi => by rw [h.read_crash keep torn cut hi]; exact h.crashLen keep torn cut hi⟩
  unfold crashM
  simp only [h.len]
  exact mix_len fun j hj => h.crashLen keep torn cut hj
theorem Ok64.sec {M : DiskM} (h : Ok64 M) {i : Nat} (hi : i < 64) : isSec M (i : Int) := isSec64 h.1 (by omega) (by omega)
end Go.Proofs.Ytkdomgiabiedlaa
