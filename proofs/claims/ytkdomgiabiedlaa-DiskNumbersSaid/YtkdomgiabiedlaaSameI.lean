/- permafrost/permafrostbook.Same[int]: are two slices the same? -/
import Derived.Test.YtkdomgiabiedlaaHeap
import Derived.BigQuiet
import Derived.Deep.QuietTactic
namespace Go.Proofs.Ytkdomgiabiedlaa
open Go.ChangeShapes Go.WideShapes Go.ChangeAt Go.RowKit
set_option linter.unusedVariables false

def SameIsI (w : World) (r : Bool) (e : Ending) (w' : World) : Prop := e = .returned (.bool r) ∧ ∃ q, w' = w.drewN q
theorem take_sameI {xs ys : List Int} {k : Nat} (hk : k < xs.length) (hk' : k < ys.length) (h : xs.take k = ys.take k) (he : xs[k] = ys[k]) : xs.take (k + 1) = ys.take (k + 1) := by
  rw [List.take_succ_eq_append_getElem hk, List.take_succ_eq_append_getElem hk', h, he]
set_option maxHeartbeats 1000000 in
theorem sameI_any {S S' : Nat → Prop} (a b : Option Addr) (ca cb : Nat) (xs ys : List Int) (w : World) (ha : RowAt S w a xs.length (xs.map (Value.int .i64))) (hb : RowAt S' w b ys.length (ys.map (Value.int .i64))) :
    Calls Try.prog 14 #[.slice a xs.length ca, .slice b ys.length cb] w (SameIsI w (decide (xs = ys))) := by
  have ha1 := ha.small
  have hb1 := hb.small
  unfold maxLen at ha1 hb1
  by_cases hl : xs.length = ys.length
  · have e1 : ((xs.length : Int) != (ys.length : Int)) = false := by simp [hl]
    obtain ⟨n, hn⟩ : ∃ n, n = xs.length := ⟨_, rfl⟩
    rw [← hn] at hl ha ha1 e1 ⊢
    rw [← hl] at hb hb1 e1 ⊢
    have HA := Lib.hid ha
    have HB := Lib.hid hb
    have HL := Lib.hid hl
    have HN := Lib.hid hn
    have e2 : ((n : Int) != (n : Int)) = false := by simp
    clear ha hb hl hn e1 hb1
    go_enter Try.func14, Try.ntmps14
    go_wp2
    go_loopw [5] (fun i wr => ∃ k q : Nat, k ≤ n ∧ i = .int .i64 k ∧ wr = w.drewN q ∧ Hid (xs.take k = ys.take k)) (fun i _ => n - (intOf i).toNat)
    case atStart => exact ⟨0, 0, by omega, rfl, rfl, show _ = _ by simp⟩
    case round =>
      obtain ⟨k, q, hk, rfl, rfl, hT⟩ := hrel
      by_cases hlt : k < n
      · obtain ⟨b1, o1, rfl, _, _, hc1⟩ := HA.out.at_ (by omega)
        obtain ⟨b2, o2, rfl, _, _, hc2⟩ := HB.out.at_ (by omega)
        have hx : k < xs.length := by rw [← HN.out]; exact hlt
        have hy : k < ys.length := by rw [← HL.out]; exact hlt
        have g1 : w.cell? ⟨b1, o1 + k, none⟩ = some ((Value.int .i64) xs[k]) := by rw [hc1 k hlt, List.getElem?_map, List.getElem?_eq_getElem hx]; rfl
        have g2 : w.cell? ⟨b2, o2 + k, none⟩ = some ((Value.int .i64) ys[k]) := by rw [hc2 k hlt, List.getElem?_map, List.getElem?_eq_getElem hy]; rfl
        have i0 : (0 : Int) ≤ (k : Int) := by omega
        have i1 : (k : Int) < (n : Int) := by omega
        clear hc1 hc2
        have HX := fun h => take_sameI hx hy hT.out h
        by_cases heq : xs[k] = ys[k]
        · have HX2 := Lib.hid (HX heq)
          have e3 : (xs[k] != ys[k]) = false := by simp [heq]
          clear HX
          generalize xs[k] = x at g1 e3 heq
          generalize ys[k] = y at g2 e3 heq
          have HEQ := Lib.hid heq
          clear heq
          go_wp2
          go_quiet (fail)
          go_wp2
          go_roundw
          case rel => exact ⟨k + 1, _, by omega, by go_num, rfl, HX2⟩
          case measure => simp [intOf]; omega
        · have hne : xs ≠ ys := fun h => heq (by subst h; rfl)
          have e3 : (xs[k] != ys[k]) = true := by simp; exact heq
          have HNE := Lib.hid hne
          clear HX hne
          generalize xs[k] = x at g1 e3 heq
          generalize ys[k] = y at g2 e3 heq
          have HEQ := Lib.hid heq
          clear heq
          go_wp2
          go_quiet (fail)
          go_wp2
          go_ret
          exact ⟨ret_bool (by simp [HNE.out]), _, World.drewN_drewN _ _ _⟩
      · obtain rfl : k = n := by omega
        have he : xs = ys := by
          have := hT.out
          rw [List.take_of_length_le (by rw [← HN.out]; omega), List.take_of_length_le (by rw [← HL.out]; omega)] at this
          exact this
        have HE := Lib.hid he
        clear he
        go_wp2
        go_ret
        exact ⟨ret_bool (by simp [HE.out]), _, rfl⟩
  · have e1 : ((xs.length : Int) != (ys.length : Int)) = true := by simp; omega
    have hne : xs ≠ ys := fun h => hl (by rw [h])
    have HNE := Lib.hid hne
    clear hne hl ha hb
    go_enter Try.func14, Try.ntmps14
    go_wp2
    go_ret
    exact ⟨ret_bool (by simp [HNE.out]), 0, rfl⟩
theorem sameI_yes {S S' : Nat → Prop} (a b : Option Addr) (n ca cb : Nat) (xs : List Int) (w : World) (ha : RowAt S w a n (xs.map (Value.int .i64))) (hb : RowAt S' w b n (xs.map (Value.int .i64))) :
    Calls Try.prog 14 #[.slice a n ca, .slice b n cb] w (SameIsI w true) := by
  have hl : xs.length = n := by have := ha.length; simpa using this
  subst hl
  have := sameI_any a b ca cb xs xs w ha hb
  rwa [show decide (xs = xs) = true by simp] at this
end Go.Proofs.Ytkdomgiabiedlaa
