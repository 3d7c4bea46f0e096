/- path.Parent; slices.Clone of texts. -/
import Derived.Test.YtcmlfaolooglfaaPathPure
import Derived.Test.YtcmlfaolooglfaaShelf
import Derived.BigQuiet
import Derived.Deep.QuietTactic
import Derived.Deep.RegionHeld3
import Derived.OwnWalk
import Derived.IntWalk
namespace Go.Proofs.Ytcmlfaolooglfaa
open Go.ChangeShapes Go.WideShapes Go.ChangeAt Go.RowKit
set_option linter.unusedVariables false

def bls (ss : List ByteArray) : List (List UInt8) := ss.map (fun s => s.data.toList)

/-- New from B on. -/
abbrev Fresh (B : Nat) : Nat → Prop := fun b => B ≤ b

theorem own_strs {w : World} {base : Nat} {e : TypeId} {v : Value} {n : Nat} {ss : List ByteArray} (h : w.ownsRow base e 1 v n (ss.map .string)) (hs : ∀ s ∈ ss, s.size ≤ maxLen) :
    ∃ a cap, v = .slice a n cap ∧ StrsAt (Fresh base) w a n ss := by
  have h0 := h
  obtain ⟨hl, h⟩ := h
  rcases h with ⟨rfl, rfl⟩ | ⟨g, cap, cur, rfl, hb, hh, hn, hm, hsz, ht⟩
  · obtain rfl : ss = [] := by simpa using hl
    exact ⟨none, 0, rfl, RowAt.nil _ _ _, by simp⟩
  · refine ⟨_, cap, rfl, ⟨by simpa using hl, by omega, fun _ => ⟨g, 0, rfl, hb, (Array.getElem?_eq_some_iff.1 hh).1, fun i hi => ?_⟩⟩, hs⟩
    rw [Nat.zero_add, h0.cellAt i (by omega)]

/-- One slice of texts, in new memory. -/
def RetStrs (w : World) (n : Nat) (ss : List ByteArray) (e : Ending) (w' : World) : Prop :=
  ∃ a cap, e = .returned (.slice a n cap) ∧ StrsAt (Fresh w.heap.size) w' a n ss ∧ Below w.heap.size w w'

theorem strs_getD {S : Nat → Prop} {w : World} {b off len : Nat} {ss : List ByteArray} (h : StrsAt S w (some ⟨b, off, none⟩) len ss) (j : Nat) (hj : j < ss.length) :
    w.cell? ⟨b, off + j, none⟩ = some (.string (ss.getD j ByteArray.empty)) := by
  obtain ⟨b', off', s, e, _, _, hs, _, hc⟩ := h.cell j (by have := h.length; omega)
  simp only [Option.some.injEq, Addr.mk.injEq, and_true] at e
  obtain ⟨rfl, rfl⟩ := e
  rw [hc]
  simp [List.getD, hs]

/-- .. that is not nil. -/
def RetSome (w : World) (n : Nat) (ss : List ByteArray) (e : Ending) (w' : World) : Prop :=
  ∃ g cap, e = .returned (.slice (some ⟨g, 0, none⟩) n cap) ∧ n ≤ cap ∧ StrsAt (Fresh w.heap.size) w' (some ⟨g, 0, none⟩) n ss ∧ Below w.heap.size w w'

theorem ownStrs_some {w : World} {base : Nat} {e : TypeId} {v : Value} {n : Nat} {ss : List ByteArray} (h : w.ownsRow base e 1 v n (ss.map .string)) (hs : ∀ s ∈ ss, s.size ≤ maxLen) (hv : v ≠ .slice none 0 0) :
    ∃ g cap, v = .slice (some ⟨g, 0, none⟩) n cap ∧ n ≤ cap ∧ StrsAt (Fresh base) w (some ⟨g, 0, none⟩) n ss := by
  obtain ⟨a, cap, rfl, hS⟩ := own_strs h hs
  obtain ⟨_, h⟩ := h
  rcases h with ⟨h, _⟩ | ⟨g, cap', cur, h, _, _, h2, _⟩
  · exact absurd h hv
  · simp only [Value.slice.injEq, true_and] at h
    obtain ⟨rfl, rfl⟩ := h
    exact ⟨g, _, rfl, h2, hS⟩

theorem clone_some {S : Nat → Prop} (ad : Addr) (len cap : Nat) (ss : List ByteArray) (w : World) (h : StrsAt S w (some ad) len ss) (hsz : len * 16 ≤ 140737488355328) :
    Calls Try.prog 38 #[.slice (some ad) len cap] w (RetSome w len ss) := by
  have hl := h.length
  by_cases h0 : len = 0
  · subst h0
    obtain rfl : ss = [] := by simpa using hl
    refine (Try.slices_Clone_string_zero ad cap w).mono ?_
    rintro e w' ⟨v, rfl, ho, hv, hb⟩
    obtain ⟨g, cap', rfl, hc, hS⟩ := ownStrs_some (ss := []) (by simpa using ho) (by simp) hv
    exact ⟨g, cap', rfl, hc, hS, hb⟩
  · obtain ⟨b, off, e, _, _, _⟩ := h.row.at_ (by omega)
    simp only [Option.some.injEq] at e
    subst e
    refine (Try.slices_Clone_string b off len cap ss w (by omega) hsz (fun j hj => strs_getD h j hj)).mono ?_
    rintro e w' ⟨v, rfl, ho, hv, hb⟩
    rw [List.take_of_length_le (by omega)] at ho
    obtain ⟨g, cap', rfl, hc, hS⟩ := ownStrs_some ho h.short hv
    exact ⟨g, cap', rfl, hc, hS, hb⟩

theorem clone_any {S : Nat → Prop} (a : Option Addr) (len cap : Nat) (ss : List ByteArray) (w : World) (h : StrsAt S w a len ss) (hsz : len * 16 ≤ 140737488355328) :
    Calls Try.prog 38 #[.slice a len cap] w (RetStrs w len ss) := by
  cases a with
  | none =>
    have hl := h.length
    have h0 : len = 0 := by
      rcases Nat.eq_zero_or_pos len with h0 | h0
      · exact h0
      · obtain ⟨b, off, e, _⟩ := h.row.at_ h0
        cases e
    subst h0
    obtain rfl : ss = [] := by simpa using hl
    refine (Try.slices_Clone_string_nil 0 cap w).mono ?_
    rintro e w' ⟨rfl, rfl⟩
    exact ⟨none, 0, rfl, ⟨RowAt.nil _ _ _, by simp⟩, Below.refl _ _⟩
  | some ad =>
    refine (clone_some ad len cap ss w h hsz).mono ?_
    rintro e w' ⟨g, c, rfl, _, hS, hb⟩
    exact ⟨_, c, rfl, hS, hb⟩

theorem StrsAt.take {S : Nat → Prop} {w : World} {a : Option Addr} {len : Nat} {ss : List ByteArray} (h : StrsAt S w a len ss) (k : Nat) (hk : k ≤ len) : StrsAt S w a k (ss.take k) := by
  have hl := h.length
  refine ⟨⟨by simp; omega, Nat.le_trans hk h.row.small, fun h0 => ?_⟩, fun s hs => h.short s (List.mem_of_mem_take hs)⟩
  obtain ⟨b, off, e, hS, hb, hc⟩ := h.row.at_ (by omega)
  refine ⟨b, off, e, hS, hb, fun i hi => ?_⟩
  rw [hc i (by omega), List.map_take, List.getElem?_take, if_pos hi]

/-- What path.Parent says. -/
def RetParent (w : World) (ss : List ByteArray) (e : Ending) (w' : World) : Prop :=
  (ss = [] ∧ e = .returned (.tuple #[.slice none 0 0, .string ⟨#[]⟩, .int .i64 1]) ∧ w = w') ∨
  ∃ g cap x, ss.getLast? = some x ∧ e = .returned (.tuple #[.slice (some ⟨g, 0, none⟩) (ss.length - 1) cap, .string x, .int .i64 0]) ∧ ss.length - 1 ≤ cap ∧ StrsAt (Fresh w.heap.size) w' (some ⟨g, 0, none⟩) (ss.length - 1) ss.dropLast ∧ Below w.heap.size w w'

theorem parent_any {S : Nat → Prop} (a : Option Addr) (len cap : Nat) (ss : List ByteArray) (w : World) (h : StrsAt S w a len ss) (hsz : len * 16 ≤ 140737488355328) (hcap : len ≤ cap) :
    Calls Try.prog 30 #[.slice a len cap] w (RetParent w ss) := by
  have hl := h.length
  by_cases h0 : len = 0
  · subst h0
    obtain rfl : ss = [] := by simpa using hl
    go_enter Try.func30, Try.ntmps30
    go_wp2
    go_ret3
    exact Or.inl ⟨rfl, rfl, rfl⟩
  · have hb0 : ((len : Int) == 0) = false := by simp [h0]
    obtain ⟨n, rfl⟩ : ∃ n, len = n + 1 := ⟨len - 1, by omega⟩
    obtain ⟨b, off, x, rfl, _, hbw, hx, hxs, hcell⟩ := h.cell n (by omega)
    have hT : ∀ w' : World, w'.heap = w.heap → StrsAt S w' (some ⟨b, off, none⟩) n (ss.take n) := fun w' e => (h.take n (by omega)).kept (by rw [e]; exact Nat.le_refl _) (fun _ _ _ => by rw [e])
    have hm := h.row.small
    unfold maxLen at hm
    have e1 : IntKind.i64.wrap (n : Int) = (n : Int) := IntWalk.i64_in _ (by omega)
    have e2 : (0 : Int) ≤ (n : Int) := by omega
    have e3 : (n : Int) ≤ (cap : Int) := by omega
    have e5 : n ≤ cap := by omega
    have e4 : (n : Int) < (n : Int) + 1 := by omega
    have E1 := Lib.hid hx
    have E2 := Lib.hid hl
    clear hx hl h hm hb0
    have hb0 : ((n : Int) + 1 == 0) = false := by simp; omega
    go_enter Try.func30, Try.ntmps30
    go_wp2
    go_region_held3 (fun w' => w'.cell? ⟨b, off + n, none⟩ = some (.string x)) (first | exact hcell | (rw [hb1.cell (p := ⟨b, off + n, none⟩) hbw]; exact hcell)) ((first | (go_at_call 38; refine (clone_some (S := S) _ _ _ (ss.take n) _ (hT w.drew rfl) (by omega)).mono ?_; rintro e w1 ⟨a1, cap1, rfl, hca, hS1, hb1⟩)))
    go_wp2
    go_ret3
    have hl := E2.out
    have hlast : ss.getLast? = some x := by
      rw [List.getLast?_eq_getElem?, hl]; exact E1.out
    have hdl : ss.dropLast = ss.take n := by rw [List.dropLast_eq_take, hl]; rfl
    have hn1 : ss.length - 1 = n := by omega
    refine Or.inr ⟨a1, cap1, x, hlast, ?_, ?_, ?_, ⟨hb1.os, hb1.tape, hb1.output, hb1.size, hb1.block⟩⟩
    · rw [hn1]; rfl
    · rw [hn1]; exact hca
    · rw [hn1, hdl]; exact hS1

end Go.Proofs.Ytcmlfaolooglfaa
