/- The contracts of package path, and of the helpers that hold lists of texts against each other. -/
import Derived.Test.YtdgmndahfbmgfaaDoorPathPure
import Derived.Test.YtdgmndahfbmgfaaDoorShelf
import Derived.BigQuiet
import Derived.Deep.QuietTactic
import Derived.Deep.RegionHeld3
import Derived.OwnWalk
import Derived.IntWalk
namespace Go.Proofs.YtdgmndahfbmgfaaDoor
open Go.ChangeShapes Go.WideShapes Go.ChangeAt Go.RowKit
set_option linter.unusedVariables false

def bls (ss : List ByteArray) : List (List UInt8) := ss.map (fun s => s.data.toList)

/-- New from B on. -/
abbrev Fresh (B : Nat) : Nat → Prop := fun b => B ≤ b

theorem own_strs {w : World} {base : Nat} {e : TypeId} {v : Value} {n : Nat} {ss : List ByteArray} (h : w.ownsRow base e 1 v n (ss.map .string)) (hs : ∀ s ∈ ss, s.size ≤ maxLen) :
    ∃ a cap, v = .slice a n cap ∧ StrsAt (Fresh base) w a n ss := by
  have h0 := h
  obtain ⟨hl, h⟩ := h
  rcases h with ⟨rfl, rfl⟩ | ⟨g, cap, cur, rfl, hb, hh, hn, hm, hsz, ht⟩
  · obtain rfl : ss = [] := by simpa using hl
    exact ⟨none, 0, rfl, RowAt.nil _ _ _, by simp⟩
  · refine ⟨_, cap, rfl, ⟨by simpa using hl, by omega, fun _ => ⟨g, 0, rfl, hb, (Array.getElem?_eq_some_iff.1 hh).1, fun i hi => ?_⟩⟩, hs⟩
    rw [Nat.zero_add, h0.cellAt i (by omega)]

/-- One slice of texts, in new memory. -/
def RetStrs (w : World) (n : Nat) (ss : List ByteArray) (e : Ending) (w' : World) : Prop :=
  ∃ a cap, e = .returned (.slice a n cap) ∧ StrsAt (Fresh w.heap.size) w' a n ss ∧ Below w.heap.size w w'

theorem strs_getD {S : Nat → Prop} {w : World} {b off len : Nat} {ss : List ByteArray} (h : StrsAt S w (some ⟨b, off, none⟩) len ss) (j : Nat) (hj : j < ss.length) :
    w.cell? ⟨b, off + j, none⟩ = some (.string (ss.getD j ByteArray.empty)) := by
  obtain ⟨b', off', s, e, _, _, hs, _, hc⟩ := h.cell j (by have := h.length; omega)
  simp only [Option.some.injEq, Addr.mk.injEq, and_true] at e
  obtain ⟨rfl, rfl⟩ := e
  rw [hc]
  simp [List.getD, hs]

/-- .. that is not nil. -/
def RetSome (w : World) (n : Nat) (ss : List ByteArray) (e : Ending) (w' : World) : Prop :=
  ∃ g cap, e = .returned (.slice (some ⟨g, 0, none⟩) n cap) ∧ n ≤ cap ∧ StrsAt (Fresh w.heap.size) w' (some ⟨g, 0, none⟩) n ss ∧ Below w.heap.size w w'

theorem own_some {w : World} {base : Nat} {e : TypeId} {v : Value} {n : Nat} {ss : List ByteArray} (h : w.ownsRow base e 1 v n (ss.map .string)) (hs : ∀ s ∈ ss, s.size ≤ maxLen) (hv : v ≠ .slice none 0 0) :
    ∃ g cap, v = .slice (some ⟨g, 0, none⟩) n cap ∧ n ≤ cap ∧ StrsAt (Fresh base) w (some ⟨g, 0, none⟩) n ss := by
  obtain ⟨a, cap, rfl, hS⟩ := own_strs h hs
  obtain ⟨_, h⟩ := h
  rcases h with ⟨h, _⟩ | ⟨g, cap', cur, h, _, _, h2, _⟩
  · exact absurd h hv
  · simp only [Value.slice.injEq, true_and] at h
    obtain ⟨rfl, rfl⟩ := h
    exact ⟨g, _, rfl, h2, hS⟩

theorem clone_some {S : Nat → Prop} (ad : Addr) (len cap : Nat) (ss : List ByteArray) (w : World) (h : StrsAt S w (some ad) len ss) (hsz : len * 16 ≤ 140737488355328) :
    Calls Tryd.prog 24 #[.slice (some ad) len cap] w (RetSome w len ss) := by
  have hl := h.length
  by_cases h0 : len = 0
  · subst h0
    obtain rfl : ss = [] := by simpa using hl
    refine (Tryd.slices_Clone_string_zero ad cap w).mono ?_
    rintro e w' ⟨v, rfl, ho, hv, hb⟩
    obtain ⟨g, cap', rfl, hc, hS⟩ := own_some (ss := []) (by simpa using ho) (by simp) hv
    exact ⟨g, cap', rfl, hc, hS, hb⟩
  · obtain ⟨b, off, e, _, _, _⟩ := h.row.at_ (by omega)
    simp only [Option.some.injEq] at e
    subst e
    refine (Tryd.slices_Clone_string b off len cap ss w (by omega) hsz (fun j hj => strs_getD h j hj)).mono ?_
    rintro e w' ⟨v, rfl, ho, hv, hb⟩
    rw [List.take_of_length_le (by omega)] at ho
    obtain ⟨g, cap', rfl, hc, hS⟩ := own_some ho h.short hv
    exact ⟨g, cap', rfl, hc, hS, hb⟩

theorem clone_any {S : Nat → Prop} (a : Option Addr) (len cap : Nat) (ss : List ByteArray) (w : World) (h : StrsAt S w a len ss) (hsz : len * 16 ≤ 140737488355328) :
    Calls Tryd.prog 24 #[.slice a len cap] w (RetStrs w len ss) := by
  cases a with
  | none =>
    have hl := h.length
    have h0 : len = 0 := by
      rcases Nat.eq_zero_or_pos len with h0 | h0
      · exact h0
      · obtain ⟨b, off, e, _⟩ := h.row.at_ h0
        cases e
    subst h0
    obtain rfl : ss = [] := by simpa using hl
    refine (Tryd.slices_Clone_string_nil 0 cap w).mono ?_
    rintro e w' ⟨rfl, rfl⟩
    exact ⟨none, 0, rfl, ⟨RowAt.nil _ _ _, by simp⟩, Below.refl _ _⟩
  | some ad =>
    refine (clone_some ad len cap ss w h hsz).mono ?_
    rintro e w' ⟨g, c, rfl, _, hS, hb⟩
    exact ⟨_, c, rfl, hS, hb⟩

theorem equal_any {S S' : Nat → Prop} (a a' : Option Addr) (len cap len' cap' : Nat) (ss ss' : List ByteArray) (w : World) (h : StrsAt S w a len ss) (h' : StrsAt S' w a' len' ss') :
    Calls Tryd.prog 25 #[.slice a len cap, .slice a' len' cap'] w fun e w' => e = .returned (.bool (decide (ss = ss'))) ∧ Below w.heap.size w w' := by
  have hl := h.length
  have hl' := h'.length
  have hm := h.row.small
  have hm' := h'.row.small
  unfold maxLen at hm hm'
  by_cases hne : len = len'
  · subst hne
    by_cases h0 : len = 0
    · subst h0
      refine (Tryd.slices_Equal_string_empty a a' cap 0 cap' w (by omega)).mono ?_
      rintro e w' ⟨rfl, rfl⟩
      obtain rfl : ss = [] := by simpa using hl
      obtain rfl : ss' = [] := by simpa using hl'
      exact ⟨rfl, Below.refl _ _⟩
    · obtain ⟨b, off, rfl, _, _, _⟩ := h.row.at_ (by omega)
      obtain ⟨b', off', rfl, _, _, _⟩ := h'.row.at_ (by omega)
      refine (Tryd.slices_Equal_string b off len cap b' off' len cap' ss ss' w (by omega) (by omega) (by omega) (by omega) (fun j hj => strs_getD h j hj) (fun j hj => strs_getD h' j hj)).mono ?_
      rintro e w' ⟨rfl, q, rfl⟩
      rw [List.take_of_length_le (by omega), List.take_of_length_le (by omega)]
      exact ⟨rfl, ⟨rfl, rfl, rfl, Nat.le_refl _, fun _ _ => rfl⟩⟩
  · refine (Tryd.slices_Equal_string_lens a a' len cap len' cap' w hne).mono ?_
    rintro e w' ⟨rfl, rfl⟩
    have : ss ≠ ss' := fun e => hne (by rw [← hl, ← hl', e])
    exact ⟨by simp [this], Below.refl _ _⟩

theorem StrsAt.take {S : Nat → Prop} {w : World} {a : Option Addr} {len : Nat} {ss : List ByteArray} (h : StrsAt S w a len ss) (k : Nat) (hk : k ≤ len) : StrsAt S w a k (ss.take k) := by
  have hl := h.length
  refine ⟨⟨by simp; omega, Nat.le_trans hk h.row.small, fun h0 => ?_⟩, fun s hs => h.short s (List.mem_of_mem_take hs)⟩
  obtain ⟨b, off, e, hS, hb, hc⟩ := h.row.at_ (by omega)
  refine ⟨b, off, e, hS, hb, fun i hi => ?_⟩
  rw [hc i (by omega), List.map_take, List.getElem?_take, if_pos hi]

/-- What path.Parent says. -/
def RetParent (w : World) (ss : List ByteArray) (e : Ending) (w' : World) : Prop :=
  (ss = [] ∧ e = .returned (.tuple #[.slice none 0 0, .string ⟨#[]⟩, .int .i64 1]) ∧ w = w') ∨
  ∃ g cap x, ss.getLast? = some x ∧ e = .returned (.tuple #[.slice (some ⟨g, 0, none⟩) (ss.length - 1) cap, .string x, .int .i64 0]) ∧ ss.length - 1 ≤ cap ∧ StrsAt (Fresh w.heap.size) w' (some ⟨g, 0, none⟩) (ss.length - 1) ss.dropLast ∧ Below w.heap.size w w'

theorem parent_any {S : Nat → Prop} (a : Option Addr) (len cap : Nat) (ss : List ByteArray) (w : World) (h : StrsAt S w a len ss) (hsz : len * 16 ≤ 140737488355328) (hcap : len ≤ cap) :
    Calls Tryd.prog 14 #[.slice a len cap] w (RetParent w ss) := by
  have hl := h.length
  by_cases h0 : len = 0
  · subst h0
    obtain rfl : ss = [] := by simpa using hl
    go_enter Tryd.func14, Tryd.ntmps14
    go_wp2
    go_ret3
    exact Or.inl ⟨rfl, rfl, rfl⟩
  · have hb0 : ((len : Int) == 0) = false := by simp [h0]
    obtain ⟨n, rfl⟩ : ∃ n, len = n + 1 := ⟨len - 1, by omega⟩
    obtain ⟨b, off, x, rfl, _, hbw, hx, hxs, hcell⟩ := h.cell n (by omega)
    have hT : ∀ w' : World, w'.heap = w.heap → StrsAt S w' (some ⟨b, off, none⟩) n (ss.take n) := fun w' e => (h.take n (by omega)).kept (by rw [e]; exact Nat.le_refl _) (fun _ _ _ => by rw [e])
    have hm := h.row.small
    unfold maxLen at hm
    have e1 : IntKind.i64.wrap (n : Int) = (n : Int) := IntWalk.i64_in _ (by omega)
    have e2 : (0 : Int) ≤ (n : Int) := by omega
    have e3 : (n : Int) ≤ (cap : Int) := by omega
    have e5 : n ≤ cap := by omega
    have e4 : (n : Int) < (n : Int) + 1 := by omega
    have E1 := Lib.hid hx
    have E2 := Lib.hid hl
    clear hx hl h hm hb0
    have hb0 : ((n : Int) + 1 == 0) = false := by simp; omega
    go_enter Tryd.func14, Tryd.ntmps14
    go_wp2
    go_region_held3 (fun w' => w'.cell? ⟨b, off + n, none⟩ = some (.string x)) (first | exact hcell | (rw [hb1.cell (p := ⟨b, off + n, none⟩) hbw]; exact hcell)) ((first | (go_at_call 24; refine (clone_some (S := S) _ _ _ (ss.take n) _ (hT w.drew rfl) (by omega)).mono ?_; rintro e w1 ⟨a1, cap1, rfl, hca, hS1, hb1⟩)))
    go_wp2
    go_ret3
    have hl := E2.out
    have hlast : ss.getLast? = some x := by
      rw [List.getLast?_eq_getElem?, hl]; exact E1.out
    have hdl : ss.dropLast = ss.take n := by rw [List.dropLast_eq_take, hl]; rfl
    have hn1 : ss.length - 1 = n := by omega
    refine Or.inr ⟨a1, cap1, x, hlast, ?_, ?_, ?_, ⟨hb1.os, hb1.tape, hb1.output, hb1.size, hb1.block⟩⟩
    · rw [hn1]; rfl
    · rw [hn1]; exact hca
    · rw [hn1, hdl]; exact hS1

def withinB (ss ss' : List ByteArray) : Bool := decide (ss.take ss'.length = ss')

theorem within_any {S S' : Nat → Prop} (a a' : Option Addr) (len cap len' cap' : Nat) (ss ss' : List ByteArray) (w : World) (h : StrsAt S w a len ss) (h' : StrsAt S' w a' len' ss') (hcap : len ≤ cap) :
    Calls Tryd.prog 15 #[.slice a len cap, .slice a' len' cap'] w fun e w' => e = .returned (.bool (withinB ss ss')) ∧ Below w.heap.size w w' := by
  have hl := h.length
  have hl' := h'.length
  have hm := h.row.small
  unfold maxLen at hm
  by_cases hle : len' ≤ len
  · have hT := h.take len' hle
    have hp : decide (ss.take len' = ss') = withinB ss ss' := by
      unfold withinB; rw [hl']
    have HP := Lib.hid hp
    clear hp hl hl'
    have e5 : len' ≤ cap := by omega
    cases a with
    | none =>
      have h0 : len' = 0 := by
        rcases Nat.eq_zero_or_pos len' with h0 | h0
        · exact h0
        · obtain ⟨b, off, e, _⟩ := h.row.at_ (by omega)
          cases e
      subst h0
      go_enter Tryd.func15, Tryd.ntmps15
      go_wp2_with fail
      refine (equal_any _ _ _ _ _ _ _ _ _ hT h').mono ?_
      rintro e w1 ⟨rfl, hb⟩
      rw [HP.out]
      go_wp2_with fail
      go_ret
      exact ⟨rfl, hb⟩
    | some ad =>
      go_enter Tryd.func15, Tryd.ntmps15
      go_wp2_with fail
      refine (equal_any _ _ _ _ _ _ _ _ _ hT h').mono ?_
      rintro e w1 ⟨rfl, hb⟩
      rw [HP.out]
      go_wp2_with fail
      go_ret
      exact ⟨rfl, hb⟩
  · have hp : withinB ss ss' = false := by
      unfold withinB
      rw [decide_eq_false_iff_not]
      intro hh
      have := congrArg List.length hh
      simp at this
      omega
    have HP := Lib.hid hp
    clear hp hl hl'
    go_enter Tryd.func15, Tryd.ntmps15
    go_wp2_with fail
    go_ret
    exact ⟨ret_bool HP.out.symm, Below.refl _ _⟩

theorem getElem_ne_of {α : Type} {l l' : List α} {k : Nat} {x y : α} (hx : l[k]? = some x) (hy : l'[k]? = some y) (h : x ≠ y) : l ≠ l' := by
  intro e; rw [e, hy] at hx; exact h (Option.some.inj hx).symm
theorem take_succ_eq {α : Type} {l l' : List α} {k : Nat} {x : α} (h : l.take k = l'.take k) (hx : l[k]? = some x) (hy : l'[k]? = some x) : l.take (k + 1) = l'.take (k + 1) := by
  rw [List.take_add_one, List.take_add_one, h, hx, hy]

theorem toList_ne {x y : ByteArray} (h : x ≠ y) : (x.toList == y.toList) = false := by
  rw [beq_eq_false_iff_ne, ByteArray.toList_eq, ByteArray.toList_eq]
  intro e
  exact h (WideShapes.bytes_inj e)

theorem same_any {S S' : Nat → Prop} (a a' : Option Addr) (len cap len' cap' : Nat) (ss ss' : List ByteArray) (w : World) (h : StrsAt S w a len ss) (h' : StrsAt S' w a' len' ss') :
    Calls Tryd.prog 11 #[.slice a len cap, .slice a' len' cap'] w fun e w' => e = .returned (.bool (decide (ss = ss'))) ∧ Below w.heap.size w w' := by
  have hl := h.length
  have hl' := h'.length
  have hm := h.row.small
  have hm' := h'.row.small
  unfold maxLen at hm hm'
  by_cases hne : len = len'
  · subst hne
    have HL := Lib.hid hl
    have HL' := Lib.hid hl'
    clear hl hl'
    go_enter Tryd.func11, Tryd.ntmps11
    go_wp2
    go_loopw [5] (fun i wr => ∃ k : Nat, k ≤ len ∧ i = .int .i64 k ∧ ss.take k = ss'.take k ∧ Below w.heap.size w wr) (fun i _ => len - (intOf i).toNat)
    case atStart => exact ⟨0, by omega, rfl, rfl, Below.refl _ _⟩
    case round =>
      obtain ⟨k, hk, rfl, ht, hb⟩ := hrel
      have HT := Lib.hid ht
      clear ht
      by_cases hlt : k < len
      · obtain ⟨b, off, x, rfl, _, _, hx, _, hc⟩ := (h.below hb (Nat.le_refl _)).cell k hlt
        obtain ⟨b', off', y, rfl, _, _, hy, _, hc'⟩ := (h'.below hb (Nat.le_refl _)).cell k hlt
        have HX := Lib.hid hx
        have HY := Lib.hid hy
        clear hx hy h h'
        have hk0 : (0 : Int) ≤ (k : Int) := by omega
        have hk1 : (k : Int) < (len : Int) := by omega
        by_cases hxy : x = y
        · subst hxy
          go_wp2
          go_quiet (fail)
          go_wp2
          go_roundw
          case rel => exact ⟨k + 1, by omega, by go_num, take_succ_eq HT.out HX.out HY.out, hb.trans ⟨rfl, rfl, rfl, Nat.le_refl _, fun _ _ => rfl⟩⟩
          case measure => simp [intOf]; omega
        · have hxl := toList_ne hxy
          have HN := Lib.hid hxy
          clear hxy
          go_wp2
          go_quiet (fail)
          go_wp2
          go_ret
          exact ⟨ret_bool (by simp [getElem_ne_of HX.out HY.out HN.out]), hb.trans ⟨rfl, rfl, rfl, Nat.le_refl _, fun _ _ => rfl⟩⟩
      · go_wp2
        go_ret
        refine ⟨ret_bool ?_, hb⟩
        have := HT.out
        rw [List.take_of_length_le (by have := HL.out; omega), List.take_of_length_le (by have := HL'.out; omega)] at this
        simp [this]
  · have hne' : ss ≠ ss' := fun e => hne (by rw [← hl, ← hl', e])
    have HN := Lib.hid hne'
    have hb0 : ((len : Int) != (len' : Int)) = true := by simp; omega
    clear hl hl' hne hne'
    go_enter Tryd.func11, Tryd.ntmps11
    go_wp2
    go_ret
    exact ⟨ret_bool (by simp [HN.out]), Below.refl _ _⟩
end Go.Proofs.YtdgmndahfbmgfaaDoor
