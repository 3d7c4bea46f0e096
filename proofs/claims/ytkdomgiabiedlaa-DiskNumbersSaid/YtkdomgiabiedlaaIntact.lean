/- permafrostbook.Intact of bytes. -/
import Derived.Test.YtkdomgiabiedlaaRoomy
import Derived.Test.YtkdomgiabiedlaaSameB
namespace Go.Proofs.Ytkdomgiabiedlaa
open Go.ChangeShapes Go.WideShapes Go.ChangeAt Go.RowKit
set_option linter.unusedVariables false

set_option maxHeartbeats 1000000 in
theorem intact_yes {S S' : Nat → Prop} (fa a : Option Addr) (n fc cap : Nat) (bs : List UInt8) (m : UInt8) (mi : Int) (hmi : mi = m.toNat) (w : World) (hf : RowAt S w fa (n + 80) ((roomyL bs m).map bv)) (hfc : n + 80 ≤ fc) (h : RowAt S' w a n (bs.map bv)) (hlen : n ≤ 140737488355328) :
    Calls Try.prog 33 #[.slice fa (n + 80) fc, .slice a n cap, .int .u8 mi] w (SameIsB w true) := by
  subst hmi
  have hbl : bs.length = n := by have := h.length; simpa using this
  have e3 : IntKind.i64.wrap ((n : Int) + 80) = (n : Int) + 80 := IntWalk.i64_in _ (by omega)
  have hft := hf.take n
  rw [Nat.min_eq_right (by omega), ← List.map_take, show (roomyL bs m).take n = bs by unfold roomyL; rw [List.take_append_of_le_length (by omega), List.take_of_length_le (by omega)]] at hft
  have hsm := sameB_yes fa a n fc cap bs w hft h
  have e1 : ((n : Int) + 80 != (n : Int) + 80) = false := by simp
  have HF := Lib.hid hf
  have HBL := Lib.hid hbl
  have HSM := Lib.hid hsm
  have hnf : n ≤ fc := by omega
  clear hf h hft hsm hbl
  go_enter Try.func33, Try.ntmps33
  go_wp2_with fail
  (with_reducible refine HSM.out.mono ?_)
  rintro e w' ⟨rfl, q, rfl⟩
  go_wp2_with fail
  go_loopw [7] (fun i wr => ∃ k : Nat, i = .int .i64 ((n : Int) + k) ∧ k ≤ 80 ∧ wr = w.drewN q) (fun i _ => (n + 80) - (intOf i).toNat)
  case atStart => exact ⟨0, by simp, by omega, rfl⟩
  case round =>
    obtain ⟨k, rfl, hk, rfl⟩ := hrel
    by_cases hlt : k < 80
    · have i1 : (n : Int) + k < (n : Int) + 80 := by omega
      have i0' : (0 : Int) ≤ (n : Int) + k := by omega
      have t0 : ((n : Int) + k).toNat = n + k := by omega
      obtain ⟨b, off, rfl, _, _, hc⟩ := HF.out.at_ (by omega)
      have hcell : w.cell? ⟨b, off + (n + k), none⟩ = some (.int .u8 m.toNat) := by
        rw [hc (n + k) (by omega), List.getElem?_map]
        unfold roomyL
        rw [List.getElem?_append_right (by rw [HBL.out]; omega), List.getElem?_replicate, if_pos (by rw [HBL.out]; omega)]
        rfl
      have hne : ((m.toNat : Int) != (m.toNat : Int)) = false := by simp
      clear hc
      go_wp2
      go_roundw
      case rel => exact ⟨k + 1, by go_num, by omega, trivial⟩
      case measure => simp [intOf]; omega
    · obtain rfl : k = 80 := by omega
      have i1 : ¬ (n : Int) + (80 : Nat) < (n : Int) + 80 := by omega
      go_wp2
      go_ret
      exact ⟨rfl, q, rfl⟩
end Go.Proofs.Ytkdomgiabiedlaa
