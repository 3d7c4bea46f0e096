/- path.Fine, and the slices functions that it calls. -/
import Derived.Test.YtcmlfaolooglfaaPathA
import Derived.Test.YtcmlfaolooglfaaHeap
namespace Go.Proofs.Ytcmlfaolooglfaa
open Go.ChangeShapes Go.WideShapes Go.ChangeAt Go.RowKit
set_option linter.unusedVariables false

def badS (s : ByteArray) : Bool := !goodL s.data.toList
def fineE (ss : List ByteArray) : Int := if ss.any badS then 12 else if 8 < ss.length then 3 else 0

theorem fine1_any (s : ByteArray) (w : World) (hs : s.size ≤ maxLen) :
    Calls Try.prog 36 #[.string s] w fun e w' => e = .returned (.bool (badS s)) ∧ Below w.heap.size w w' := by
  go_enter Try.func36, Try.ntmps36
  go_wp2_with fail
  refine (good_any _ _ hs).mono ?_
  rintro e w1 ⟨rfl, hb⟩
  go_wp2_with fail
  go_ret
  exact ⟨rfl, hb⟩

theorem indexFine_any {S : Nat → Prop} (a : Option Addr) (len cap : Nat) (ss : List ByteArray) (w : World) (h : StrsAt S w a len ss) :
    Calls Try.prog 42 #[.slice a len cap, .func (.func 36) #[] #[]] w fun e w' => e = .returned (.int .i64 (idxI badS ss)) ∧ Below w.heap.size w w' := by
  have hm := h.row.small
  unfold maxLen at hm
  go_enter Try.func42, Try.ntmps42
  go_wp2
  go_loopw [8] (fun i wr => ∃ k : Nat, k ≤ len ∧ i = .int .i64 k ∧ (ss.take k).any badS = false ∧ Below w.heap.size w wr) (fun i _ => len - (intOf i).toNat)
  case atStart => exact ⟨0, by omega, rfl, rfl, Below.refl _ _⟩
  case round =>
    obtain ⟨k, hk, rfl, ha, hb⟩ := hrel
    have HA := Lib.hid ha
    clear ha
    by_cases hlt : k < len
    · obtain ⟨b, off, s, rfl, _, hbw, hs, hsz, hcell⟩ := (h.below hb (Nat.le_refl _)).cell k hlt
      have HS := Lib.hid hs
      clear hs h
      cases hp : badS s
      · have HP := Lib.hid hp
        clear hp
        go_wp2_with (go_at_call 36; refine (fine1_any _ _ hsz).mono ?_; rintro e w1 ⟨rfl, hb1⟩; rw [HP.out])
        go_roundw
        case rel => exact ⟨k + 1, by omega, by go_num, any_take_succ HA.out HS.out HP.out, hb.trans (hb1.mono hb.size)⟩
        case measure => simp [intOf]; omega
      · have HP := Lib.hid hp
        clear hp
        go_wp2_with (go_at_call 36; refine (fine1_any _ _ hsz).mono ?_; rintro e w1 ⟨rfl, hb1⟩; rw [HP.out])
        go_ret
        exact ⟨ret_int (idxI_some HA.out HS.out HP.out).symm, hb.trans (hb1.mono hb.size)⟩
    · go_wp2
      go_ret
      exact ⟨ret_int (idxI_none (by have := HA.out; rwa [List.take_of_length_le (by have := h.length; omega)] at this)).symm, hb⟩

theorem containsFine_any {S : Nat → Prop} (a : Option Addr) (len cap : Nat) (ss : List ByteArray) (w : World) (h : StrsAt S w a len ss) :
    Calls Try.prog 35 #[.slice a len cap, .func (.func 36) #[] #[]] w fun e w' => e = .returned (.bool (ss.any badS)) ∧ Below w.heap.size w w' := by
  go_enter Try.func35, Try.ntmps35
  go_wp2_with fail
  refine (indexFine_any _ _ _ ss _ h).mono ?_
  rintro e w1 ⟨rfl, hb⟩
  go_wp2_with fail
  go_ret
  exact ⟨ret_bool (idxI_any _ _), hb⟩

theorem fine_any {S : Nat → Prop} (a : Option Addr) (len cap : Nat) (ss : List ByteArray) (w : World) (h : StrsAt S w a len ss) :
    Calls Try.prog 29 #[.slice a len cap] w fun e w' => e = .returned (.int .i64 (fineE ss)) ∧ Below w.heap.size w w' := by
  have hl := h.length
  have HL := Lib.hid hl
  clear hl
  cases hp : ss.any badS
  · by_cases h8 : 8 < len
    · go_enter Try.func29, Try.ntmps29
      go_wp2_with fail
      refine (containsFine_any _ _ _ ss _ h).mono ?_
      rintro e w1 ⟨rfl, hb⟩
      rw [hp]
      have HP := Lib.hid hp
      clear hp
      go_wp2_with fail
      go_ret
      exact ⟨ret_int (by simp [fineE, HP.out, HL.out, h8]), hb⟩
    · go_enter Try.func29, Try.ntmps29
      go_wp2_with fail
      refine (containsFine_any _ _ _ ss _ h).mono ?_
      rintro e w1 ⟨rfl, hb⟩
      rw [hp]
      have HP := Lib.hid hp
      clear hp
      go_wp2_with fail
      go_ret
      exact ⟨ret_int (by have h9 : ¬ 8 < len := by omega
                         simp [fineE, HP.out, HL.out, h9]), hb⟩
  · go_enter Try.func29, Try.ntmps29
    go_wp2_with fail
    refine (containsFine_any _ _ _ ss _ h).mono ?_
    rintro e w1 ⟨rfl, hb⟩
    rw [hp]
    have HP := Lib.hid hp
    clear hp
    go_wp2_with fail
    go_ret
    exact ⟨ret_int (by simp [fineE, HP.out]), hb⟩
end Go.Proofs.Ytcmlfaolooglfaa
