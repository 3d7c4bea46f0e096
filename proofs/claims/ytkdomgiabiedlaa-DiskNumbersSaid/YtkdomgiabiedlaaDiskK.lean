/- disk: the contracts as callers take them. -/
import Derived.Test.YtkdomgiabiedlaaDiskJ
import Derived.Test.YtkdomgiabiedlaaAppend
namespace Go.Proofs.Ytkdomgiabiedlaa
open Go.ChangeShapes Go.WideShapes Go.ChangeAt Go.RowKit
set_option linter.unusedVariables false

instance (M : DiskM) (i : Int) : Decidable (isSec M i) := by unfold isSec; exact inferInstance
/-- What Write does, and answers. -/
def writeM (M : DiskM) (i : Int) (bs : List UInt8) : DiskM := if isSec M i ∧ bs.length = 128 then ⟨M.safe, aput (fun a b : Int => decide (a < b)) i bs M.dirty, M.writes + 1⟩ else M
def writeE (M : DiskM) (i : Int) (bs : List UInt8) : Int := if isSec M i ∧ bs.length = 128 then 0 else 1
def readM (M : DiskM) (i : Int) : List UInt8 := if isSec M i then readOf M i else []
def readE (M : DiskM) (i : Int) : Int := if isSec M i then 0 else 1
/-- The disk is turned, and it alone. -/
def Turned (F : Nat → Prop) (w : World) (d sb mb : Nat) (M : DiskM) (v : Value) (e : Ending) (w' : World) : Prop :=
  e = .returned v ∧ ∃ F' l', DiskAt F' w' d sb mb l' M ∧ (∀ x, F' x → F x ∨ w.heap.size ≤ x) ∧ Keeps F w w'
def ReadGives (w : World) (bs : List UInt8) (k : Int) (e : Ending) (w' : World) : Prop :=
  ∃ a c, e = .returned (.tuple #[.slice a bs.length c, .int .i64 k]) ∧ RowAt (fun x => w.heap.size ≤ x ∧ x < w'.heap.size) w' a bs.length (bs.map bv) ∧ Below w.heap.size w w' ∧ bs.length ≤ c

theorem dwrite_any {F S : Nat → Prop} {d sb mb : Nat} {l : List (Int × Value)} {M : DiskM} (i : Int) (a : Option Addr) (n cap : Nat) (bs : List UInt8) (hw : M.writes < 4611686018427387904) (w : World) (hr : RowAt S w a n (bs.map bv)) (h : DiskAt F w d sb mb l M) :
    Calls Try.prog 12 #[.pointer (some ⟨d, 0, none⟩), .int .i64 i, .slice a n cap] w (Turned F w d sb mb (writeM M i bs) (.int .i64 (writeE M i bs))) := by
  have hl : bs.length = n := by have := hr.length; simpa using this
  by_cases hc : isSec M i ∧ bs.length = 128
  · have e1 : writeM M i bs = ⟨M.safe, aput (fun a b : Int => decide (a < b)) i bs M.dirty, M.writes + 1⟩ := if_pos hc
    have e2 : writeE M i bs = 0 := if_pos hc
    rw [e1, e2]
    obtain ⟨j, rfl⟩ : ∃ j : Nat, i = j := ⟨i.toNat, by have := hc.1.1; omega⟩
    have hn : n = 128 := by omega
    subst hn
    obtain ⟨b, off, rfl, _, hb, _⟩ := hr.at_ (by omega)
    exact dwrite_some j hc.1 b off cap bs hw hc.2 w hr.cells hb h
  · have e1 : writeM M i bs = M := if_neg hc
    have e2 : writeE M i bs = 1 := if_neg hc
    rw [e1, e2]
    refine (dwrite_none i a n cap (by rw [← hl]; exact hc) w h).mono ?_
    rintro e w' ⟨rfl, rfl⟩
    exact ⟨rfl, F, l, h, fun x hx => .inl hx, Keeps.refl _ _⟩
theorem dread_any {F : Nat → Prop} {d sb mb : Nat} {l : List (Int × Value)} {M : DiskM} (i : Int) (w : World) (h : DiskAt F w d sb mb l M) :
    Calls Try.prog 17 #[.pointer (some ⟨d, 0, none⟩), .int .i64 i] w (ReadGives w (readM M i) (readE M i)) := by
  by_cases hc : isSec M i
  · have e1 : readM M i = readOf M i := if_pos hc
    have e2 : readE M i = 0 := if_pos hc
    rw [e1, e2]
    obtain ⟨j, rfl⟩ : ∃ j : Nat, i = j := ⟨i.toNat, by have := hc.1; omega⟩
    refine (dread_some j hc w h).mono ?_
    rintro e w' ⟨v, rfl, hv, hB⟩
    have hl : (readOf M j).length = 128 := hv.1
    obtain ⟨b, c, rfl, hc, hr⟩ := hv.row
    exact ⟨_, c, by rw [hl], by rw [hl]; exact hr, hB, by omega⟩
  · have e1 : readM M i = [] := if_neg hc
    have e2 : readE M i = 1 := if_neg hc
    rw [e1, e2]
    refine (dread_none i hc w h).mono ?_
    rintro e w' ⟨rfl, rfl⟩
    exact ⟨none, 0, rfl, RowAt.nil _ _ _, Below.refl _ _, Nat.le_refl _⟩
theorem dcrash_at {F S : Nat → Prop} {d sb mb : Nat} {l : List (Int × Value)} {M : DiskM} (keep : List Bool) (ka : Option Addr) (n kcap : Nat) (torn cut : Int) (w : World) (h : DiskAt F w d sb mb l M) (hkp : RowAt S w ka n (keep.map Value.bool)) (hS : ∀ b, S b → ¬ F b) :
    Calls Try.prog 16 #[.pointer (some ⟨d, 0, none⟩), .slice ka n kcap, .int .i64 torn, .int .i64 cut] w (FlushPost F w d sb mb (crashM M keep torn cut)) := by
  have hl : keep.length = n := by have := hkp.length; simpa using this
  subst hl
  exact dcrash_any keep ka kcap torn cut w h hkp hS
/-- Crash with a nil list. -/
theorem dcrash_nil {F : Nat → Prop} {d sb mb : Nat} {l : List (Int × Value)} {M : DiskM} (torn cut : Int) (w : World) (h : DiskAt F w d sb mb l M) :
    Calls Try.prog 16 #[.pointer (some ⟨d, 0, none⟩), .slice none 0 0, .int .i64 torn, .int .i64 cut] w (FlushPost F w d sb mb (crashM M [] torn cut)) :=
  dcrash_any (S := fun _ => False) [] none 0 torn cut w h (RowAt.nil _ _ _) (fun _ h => h.elim)
theorem Keeps.low {F : Nat → Prop} {B : Nat} {w w' : World} (h : Keeps F w w') (hB : B ≤ w.heap.size) (hF : ∀ x, F x → B ≤ x) : Below B w w' :=
  h.to_below hB fun x hx hf => by have := hF x hf; omega
theorem DiskAt.drew {F : Nat → Prop} {d sb mb : Nat} {l : List (Int × Value)} {M : DiskM} {w : World} (h : DiskAt F w d sb mb l M) : DiskAt F w.drew d sb mb l M := h.below (Below.refl _ _).drew (Nat.le_refl _)
theorem imgM_clean {M : DiskM} (h : M.dirty = []) (hl : M.safe.length % 128 = 0) : imgM M = M.safe := by
  unfold imgM
  rw [mix_congr (g := rowsOf M.safe) (fun i _ => by simp [readOf, h, aget]), mix_rowsOf (by omega)]
theorem imgM_len {F : Nat → Prop} {d sb mb : Nat} {l : List (Int × Value)} {M : DiskM} {w : World} (h : DiskAt F w d sb mb l M) : (imgM M).length = M.safe.length := by
  unfold imgM
  rw [mix_len (fun i hi => readOf_len h hi)]
  have := h.len
  omega
theorem flushM_safe (M : DiskM) : (flushM M).safe = imgM M := rfl
/-- Image, its bytes told. -/
theorem dimage_at {F : Nat → Prop} {d sb mb : Nat} {l : List (Int × Value)} {M : DiskM} (n : Nat) (w : World) (h : DiskAt F w d sb mb l M) (hn : M.safe.length = n) :
    Calls Try.prog 22 #[.pointer (some ⟨d, 0, none⟩)] w fun e w' => ∃ b c, e = .returned (.slice (some ⟨b, 0, none⟩) n c) ∧ n ≤ c ∧ RowAt (fun x => w.heap.size ≤ x ∧ x < w'.heap.size) w' (some ⟨b, 0, none⟩) n ((imgM M).map bv) ∧ Below w.heap.size w w' := by
  refine (dimage_any w h).mono ?_
  rintro e w' ⟨v, rfl, hv, hB⟩
  have hl := imgM_len h
  obtain ⟨b, c, rfl, hc, hr⟩ := hv.row
  rw [hl, hn] at hr hc
  exact ⟨b, c, by rw [hl, hn], hc, hr, hB⟩
end Go.Proofs.Ytkdomgiabiedlaa
