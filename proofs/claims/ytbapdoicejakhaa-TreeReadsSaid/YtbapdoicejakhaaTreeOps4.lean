/- tree: Part, Read, Append. -/
import Derived.Test.YtbapdoicejakhaaTreeOps3
import Derived.Lib.SliceRun
namespace Go.Proofs.Ytbapdoicejakhaa
open Go.ChangeShapes Go.WideShapes Go.ChangeAt Go.RowKit
set_option linter.unusedVariables false
set_option linter.unusedSimpArgs false

/-- A row of bytes in new memory, and a number. -/
def RetRow (w : World) (bs : List UInt8) (e : Ending) (w' : World) : Prop :=
  ∃ a n c, e = .returned (.slice a n c) ∧ n ≤ c ∧ RowAt (fun x => w.heap.size ≤ x ∧ x < w'.heap.size) w' a n (bs.map bv) ∧ Below w.heap.size w w'
set_option maxHeartbeats 1000000 in
theorem bclone_row {S : Nat → Prop} (a : Option Addr) (n cap : Nat) (bs : List UInt8) (w : World) (hm : n ≤ 1000000000) (hr : RowAt S w a n (bs.map bv)) :
    Calls Try.prog 32 #[.slice a n cap] w (RetRow w bs) := by
  obtain ⟨i0, hi, hz0, hz1, hz2⟩ := info_parts Try.info8
  have hll : bs.length = n := by have := hr.length; simpa using this
  have heq := fun w => Lib.run_eql_slice_nil (P := Try.prog) w 29 5 a n cap 0 0 Try.underlying29
  have HR := Lib.hid hr
  have HL := Lib.hid hll
  clear hr hll
  cases a with
  | none =>
    have h0 : n = 0 := by
      rcases Nat.eq_zero_or_pos n with h0 | h0
      · exact h0
      · obtain ⟨_, _, e, _⟩ := HR.out.at_ h0
        cases e
    subst h0
    have hb0 : bs = [] := List.eq_nil_of_length_eq_zero HL.out
    subst hb0
    go_enter Try.func32, Try.ntmps32
    go_wp2
    go_ret
    exact ⟨none, 0, _, rfl, Nat.zero_le _, RowAt.nil _ _ _, Below.refl _ _⟩
  | some ad =>
    have hsz : (w.alloc (.cells #[] 5)).heap.size = w.heap.size + 1 := by simp
    have HS := Lib.hid (HR.out.below (wall w (.cells #[] 5)) (Nat.le_refl _))
    go_enter Try.func32, Try.ntmps32
    go_wp2_with ((at_builtin; refine wpList_append_row (by rfl) _ _ 29 (by rfl) w.heap.size 5 i0 (.int .u8 0) 1 Try.underlying29 hi hz0 hz1 hz2 rfl _ 0 [] (by rfl) ⟨rfl, .inr ⟨w.heap.size, 0, #[], rfl, Nat.le_refl _, (MapKept.heap_alloc w _).1, Nat.le_refl _, Nat.zero_le _, rfl, rfl⟩⟩ (some ad) n cap (bs.map bv) (by rfl) HS.out (bytes_one bs) (by unfold maxLen; omega) (by omega) (by simp) ?_; intro A' c' w2 hown2 hgrow2 _ _))
    go_ret
    have hB2 : Below w.heap.size w w2 := (wall w _).grown hgrow2 (by simp) (fun k hk => by cases hk; exact Nat.le_refl _)
    obtain ⟨a3, c3, e3, hac⟩ := own_form hown2
    cases e3
    refine ⟨_, n, _, rfl, by omega, ?_, hB2⟩
    have hro := (RowAt.of_own hown2).2
    rw [List.nil_append] at hro
    simpa only [Nat.zero_add] using hro
theorem part_row {S : Nat → Prop} {a : Option Addr} {l k n : Nat} {bs : List UInt8} {w : World} (A N : Nat) (hr : RowAt S w a l (bs.map bv)) (hk : k = min A l) (hn : n = min N (l - A)) : RowAt S w (a.map fun x => x.add k) n (((bs.drop A).take N).map bv) := by
  have hl : bs.length = l := by have := hr.length; simpa using this
  have hs := hr.small
  subst hn
  refine ⟨by simp [hl], by omega, fun h0 => ?_⟩
  obtain ⟨b, off, rfl, hS, hb, hc⟩ := hr.at_ (by omega)
  have hA : k = A := by omega
  refine ⟨b, off + A, by simp [hA, add_plain], hS, hb, fun i hi => ?_⟩
  rw [Nat.add_assoc, hc (A + i) (by omega), List.getElem?_map, List.getElem?_map, List.getElem?_take, if_pos (by omega), List.getElem?_drop]
theorem part_rowS {S : Nat → Prop} {ad : Addr} {l k n : Nat} {bs : List UInt8} {w : World} (A N : Nat) (hr : RowAt S w (some ad) l (bs.map bv)) (hk : k = min A l) (hn : n = min N (l - A)) : RowAt S w (some (ad.add k)) n (((bs.drop A).take N).map bv) := part_row (a := some ad) A N hr hk hn
theorem part_rowN {S : Nat → Prop} {l n : Nat} {bs : List UInt8} {w : World} (A N : Nat) (hr : RowAt S w none l (bs.map bv)) (hn : n = min N (l - A)) : RowAt S w none n (((bs.drop A).take N).map bv) := part_row (a := none) A N hr rfl hn
theorem part_row0 {S : Nat → Prop} (a : Option Addr) {l n : Nat} {bs : List UInt8} {w : World} (A N : Nat) (hl : bs.length = l) (h : l ≤ A) (hn : n = min N (l - A)) : RowAt S w a n (((bs.drop A).take N).map bv) := by
  refine RowAt.zero a _ _ (by omega) ?_
  rw [List.drop_of_length_le (by omega), List.take_nil]
  rfl
/-- What Part, and Read, give. -/
def RetPart (w : World) (bs : List UInt8) (k : Int) (e : Ending) (w' : World) : Prop :=
  ∃ a n c, e = .returned (.tuple #[.slice a n c, .int .i64 k]) ∧ n ≤ c ∧ RowAt (fun x => w.heap.size ≤ x ∧ x < w'.heap.size) w' a n (bs.map bv) ∧ Below w.heap.size w w'
set_option maxHeartbeats 1000000 in
theorem part_ok {S : Nat → Prop} (a : Option Addr) (l c : Nat) (bs : List UInt8) (A N : Nat) (w : World) (hl : l ≤ 1000000000) (hlc : l ≤ c) (hc : c ≤ maxLen) (hA : A ≤ 9223372036854775807) (hN : N ≤ 9223372036854775807) (hr : RowAt S w a l (bs.map bv)) :
    Calls Try.prog 22 #[.slice a l c, .int .i64 A, .int .i64 N] w (RetPart w ((bs.drop A).take N) 0) := by
  unfold maxLen at hc
  have z1 : (0 : Int) ≤ (A : Int) := by omega
  have z2 : (0 : Int) ≤ (N : Int) := by omega
  have z3 : decide ((A : Int) < 0) = false := by simp
  have z4 : decide ((N : Int) < 0) = false := by simp
  have HR := Lib.hid hr
  have hL : bs.length = l := by have := hr.length; simpa using this
  have HL := Lib.hid hL
  clear hr hL
  by_cases hcap : c = min A l
  · subst hcap
    go_enter Try.func22, Try.ntmps22
    go_wp2_with fail
    (with_reducible refine (bclone_row (S := S) _ _ _ ((bs.drop A).take N) _ (by omega) (part_row0 _ A N HL.out (by omega) (by omega))).mono ?_)
    rintro e w1 ⟨a1, n1, c1, rfl, hn1, hr1, hb1⟩
    have HR1 := Lib.hid hr1
    have HB1 := Lib.hid hb1
    clear hr1 hb1
    go_wp2_with fail
    go_ret2
    exact ⟨a1, n1, c1, rfl, hn1, HR1.out, HB1.out⟩
  · cases a with
    | none =>
      go_enter Try.func22, Try.ntmps22
      go_wp2_with fail
      (with_reducible refine (bclone_row (S := S) _ _ _ ((bs.drop A).take N) _ (by omega) (part_rowN A N HR.out (by omega))).mono ?_)
      rintro e w1 ⟨a1, n1, c1, rfl, hn1, hr1, hb1⟩
      have HR1 := Lib.hid hr1
      have HB1 := Lib.hid hb1
      clear hr1 hb1
      go_wp2_with fail
      go_ret2
      exact ⟨a1, n1, c1, rfl, hn1, HR1.out, HB1.out⟩
    | some ad =>
      go_enter Try.func22, Try.ntmps22
      go_wp2_with fail
      (with_reducible refine (bclone_row (S := S) _ _ _ ((bs.drop A).take N) _ (by omega) (part_rowS A N HR.out (by omega) (by omega))).mono ?_)
      rintro e w1 ⟨a1, n1, c1, rfl, hn1, hr1, hb1⟩
      have HR1 := Lib.hid hr1
      have HB1 := Lib.hid hb1
      clear hr1 hb1
      go_wp2_with fail
      go_ret2
      exact ⟨a1, n1, c1, rfl, hn1, HR1.out, HB1.out⟩
end Go.Proofs.Ytbapdoicejakhaa
