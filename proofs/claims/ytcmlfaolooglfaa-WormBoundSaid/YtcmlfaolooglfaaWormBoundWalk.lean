/- WormBound: the walk. -/
import Derived.Test.YtcmlfaolooglfaaWormLive
import Derived.Test.YtcmlfaolooglfaaWormRules
import Derived.Test.YtcmlfaolooglfaaLits
namespace Go.Proofs.Ytcmlfaolooglfaa.wormBound
open Go.ChangeShapes Go.WideShapes Go.ChangeAt Go.RowKit
set_option linter.unusedVariables false
set_option linter.unusedSimpArgs false

def stW (c : Bool) (t : Int) : TrM := [(0, { freshM 2 with names := [([100], 2), ([102], 1)] }), (1, ⟨1, 1, t, c, [], []⟩), (2, freshM 2)]
def stV : TrM := [(0, { freshM 2 with names := [([102], 1)] }), (1, freshM 1)]
theorem st_make1 : makeM newM [[102]] 1 = ((1, 0), stV) := by kernel_rfl
theorem st_make2 : makeM stV [[100]] 2 = ((2, 0), stW false 0) := by kernel_rfl
theorem stW_get (c : Bool) (t : Int) : aget 1 (stW c t) = some ⟨1, 1, t, c, [], []⟩ := rfl
theorem stW_seal (t u : Int) (h : u ≤ 1099511627776) : sealM (stW false t) 1 u = (0, stW true u) := by
  have e : sealE (stW false t) 1 u = 0 := by
    unfold sealE
    rw [stW_get]
    simp only [show ¬ ((1 : Int) = 2) by decide, if_false, Bool.false_eq_true]
    rw [if_neg (by omega)]
  unfold sealM
  rw [e]
  simp only [if_pos]
  rfl
theorem stW_live0 (t now : Int) : liveM (stW false t) now = [] := by
  simp [liveM, stW, livesB, freshM]
theorem stW_live1 (t now : Int) (h : now < t) : liveM (stW true t) now = [1] := by
  simp [liveM, stW, livesB, freshM, h]
theorem stW_live2 (t now : Int) (h : ¬ now < t) : liveM (stW true t) now = [] := by
  simp [liveM, stW, livesB, freshM, h]
section
variable {W w : World} {P : Nat → Prop} {p : Nat} {T : TrM}
theorem bound_no (h : TreeIn W P w p T) (now : Int) (hl : liveM T now = []) : Calls Try.prog 8 #[ptr p, .int .u64 now] w fun e w' => e = .returned (.bool false) ∧ Below w.heap.size w w' := by
  have := in_bound h now
  rw [hl] at this
  exact this
theorem bound_yes (h : TreeIn W P w p T) (now : Int) (hl : liveM T now = [1]) : Calls Try.prog 8 #[ptr p, .int .u64 now] w fun e w' => e = .returned (.bool true) ∧ Below w.heap.size w w' := by
  have := in_bound h now
  rw [hl] at this
  exact this
theorem live_no (h : TreeIn W P w p T) (now : Int) (hl : liveM T now = []) : Calls Try.prog 7 #[ptr p, .int .u64 now] w fun e w' => ∃ a cap, e = .returned (.slice a 0 cap) ∧ Below w.heap.size w w' := by
  have := in_live h now
  rw [hl] at this
  refine this.mono ?_
  rintro e w' ⟨a, cap, rfl, _, _, hb⟩
  exact ⟨a, cap, rfl, hb⟩
theorem live_yes (h : TreeIn W P w p T) (now : Int) (hl : liveM T now = [1]) : Calls Try.prog 7 #[ptr p, .int .u64 now] w fun e w' => ∃ b off cap, e = .returned (.slice (some ⟨b, off, none⟩) 1 cap) ∧ b < w'.heap.size ∧ w'.cell? ⟨b, off, none⟩ = some (.int .i64 1) ∧ Below w.heap.size w w' := by
  have := in_live h now
  rw [hl] at this
  refine this.mono ?_
  rintro e w' ⟨a, cap, rfl, _, hr, hb⟩
  obtain ⟨b, off, rfl, _, hbw, hc⟩ := hr.at_ (by simp)
  exact ⟨b, off, cap, rfl, hbw, hc 0 (by simp), hb⟩
theorem sw_seal {t : Int} (h : TreeIn W P w p (stW false t)) (u : Int) (h0 : 0 ≤ u) (h1 : u ≤ 1099511627776) : Calls Try.prog 12 #[ptr p, .int .i64 1, .int .u64 u] w (InTurned W P w p (stW true u) (.int .i64 0)) := by
  have := in_seal h 1 u rfl h0 (by omega)
  rw [stW_seal t u h1] at this
  exact this
theorem sw_make1 (h : TreeIn W P w p newM) : Calls Try.prog 11 #[ptr p, .slice (some ⟨w.heap.size, 0, none⟩) 1 1, .int .i64 1] (w.alloc (.cells #[.string ⟨#[102]⟩] 9)) fun e w' => InTurned W P (w.alloc (.cells #[.string ⟨#[102]⟩] 9)) p stV (.tuple #[.int .i64 1, .int .i64 0]) e w' := by
  have := in_make (h.grow (wall w (.cells #[.string ⟨#[102]⟩] 9))) (some ⟨w.heap.size, 0, none⟩) 1 1 [[102]] 1 (strs_lit (w := w) (vs := [.string ⟨#[102]⟩]) 9 rfl rfl (by simp) (by simp)) (Nat.le_refl _) (by omega)
  rw [st_make1] at this
  exact this
theorem sw_make2 (h : TreeIn W P w p stV) : Calls Try.prog 11 #[ptr p, .slice (some ⟨w.heap.size, 0, none⟩) 1 1, .int .i64 2] (w.alloc (.cells #[.string ⟨#[100]⟩] 9)) fun e w' => InTurned W P (w.alloc (.cells #[.string ⟨#[100]⟩] 9)) p (stW false 0) (.tuple #[.int .i64 2, .int .i64 0]) e w' := by
  have := in_make (h.grow (wall w (.cells #[.string ⟨#[100]⟩] 9))) (some ⟨w.heap.size, 0, none⟩) 1 1 [[100]] 2 (strs_lit (w := w) (vs := [.string ⟨#[100]⟩]) 9 rfl rfl (by simp) (by simp)) (Nat.le_refl _) (by omega)
  rw [st_make2] at this
  exact this
end
set_option maxRecDepth 100000 in
set_option maxHeartbeats 8000000 in
theorem walk (W : World) (a0 : Int) (w0 : (Lit.int .u64 a0).wf = true) (a1 : Int) (w1 : (Lit.int .u64 a1).wf = true) (a2 : Bool) :
    Calls Try.prog 5 #[.int .u64 a0, .int .u64 a1, .bool a2] W (Fine W) := by
  have b0 : 0 ≤ a0 := by simp [Lit.wf, IntKind.min, IntKind.max, IntKind.signed, IntKind.bits] at w0; omega
  have b1 : 0 ≤ a1 := by simp [Lit.wf, IntKind.min, IntKind.max, IntKind.signed, IntKind.bits] at w1; omega
  have t0 : 0 ≤ a0 % 50 := by omega
  have t0' : a0 % 50 < 50 := by omega
  have t1 : 0 ≤ a1 % 60 := by omega
  have t1' : a1 % 60 < 60 := by omega
  clear w0 w1
  go_enter Try.func5, Try.ntmps5
  go_wp2_with fail
  (with_reducible refine (in_new W _ (Below.refl _ _)).mono ?_)
  rintro e w2 ⟨p, rfl, hT1, hb1⟩
  have HT := Lib.hid hT1
  clear hT1 hb1
  go_wp2_with fail
  (with_reducible refine (sw_make1 HT.out).mono ?_)
  rintro e w3 ⟨rfl, hT2, hK2⟩
  have HT := Lib.hid hT2
  clear hT2 hK2
  go_wp2_with fail
  (with_reducible refine (sw_make2 HT.out).mono ?_)
  rintro e w4 ⟨rfl, hT2, hK2⟩
  have HT := Lib.hid hT2
  clear hT2 hK2
  go_wp2_with fail
  (with_reducible refine (bound_no HT.out (a1 % 60) (stW_live0 _ _)).mono ?_)
  rintro e w5 ⟨rfl, hB5⟩
  have HT := Lib.hid (HT.out.grow hB5)
  clear hB5
  cases a2 with
  | true =>
    go_wp2_with fail
    (with_reducible refine (live_no HT.out (a1 % 60) (stW_live0 _ _)).mono ?_)
    rintro e w7 ⟨al, cap, rfl, hB7⟩
    have HT := Lib.hid (HT.out.grow hB7)
    clear hB7
    go_wp2_with fail
    (with_reducible refine (bound_no HT.out (a1 % 60) (stW_live0 _ _)).mono ?_)
    rintro e w8 ⟨rfl, hB8⟩
    have HT := Lib.hid (HT.out.grow hB8)
    clear hB8
    go_wp2_with fail
    (with_reducible refine (bound_no HT.out (a0 % 50) (stW_live0 _ _)).mono ?_)
    rintro e w9 ⟨rfl, hB9⟩
    have HT := Lib.hid (HT.out.grow hB9)
    clear hB9
    go_wp2_with fail
    (with_reducible refine (known12_any _).mono ?_)
    rintro e w10 ⟨rfl, hB10⟩
    go_wp2_with fail
    go_ret
    exact ⟨rfl, HT.out.below.trans (hB10.mono HT.out.below.size)⟩
  | false =>
    go_wp2_with fail
    (with_reducible refine (sw_seal HT.out (a0 % 50) (by omega) (by omega)).mono ?_)
    rintro e w6 ⟨rfl, hT2, hK2⟩
    have HT := Lib.hid hT2
    clear hT2 hK2
    by_cases hlt : a1 % 60 < a0 % 50
    · have hd : decide (a1 % 60 < a0 % 50) = true := by simpa using hlt
      go_wp2_with fail
      (with_reducible refine (live_yes HT.out (a1 % 60) (stW_live1 _ _ (by omega))).mono ?_)
      rintro e w7 ⟨b, off, cap, rfl, hbw, hcell, hB7⟩
      have HT := Lib.hid (HT.out.grow hB7)
      clear hB7
      go_wp2_with fail
      (with_reducible refine (bound_yes HT.out (a1 % 60) (stW_live1 _ _ (by omega))).mono ?_)
      rintro e w8 ⟨rfl, hB8⟩
      have hcell8 : w8.cell? ⟨b, off, none⟩ = some (.int .i64 1) := (hB8.cell (p := ⟨b, off, none⟩) hbw).trans hcell
      have HT := Lib.hid (HT.out.grow hB8)
      clear hB8
      go_wp2_with fail
      (with_reducible refine (bound_no HT.out (a0 % 50) (stW_live2 _ _ (by omega))).mono ?_)
      rintro e w9 ⟨rfl, hB9⟩
      have HT := Lib.hid (HT.out.grow hB9)
      clear hB9
      go_wp2_with fail
      (with_reducible refine (known12_any _).mono ?_)
      rintro e w10 ⟨rfl, hB10⟩
      go_wp2_with fail
      go_ret
      exact ⟨rfl, HT.out.below.trans (hB10.mono HT.out.below.size)⟩
    · have hd : decide (a1 % 60 < a0 % 50) = false := by simpa using hlt
      go_wp2_with fail
      (with_reducible refine (live_no HT.out (a1 % 60) (stW_live2 _ _ (by omega))).mono ?_)
      rintro e w7 ⟨al, cap, rfl, hB7⟩
      have HT := Lib.hid (HT.out.grow hB7)
      clear hB7
      go_wp2_with fail
      (with_reducible refine (bound_no HT.out (a1 % 60) (stW_live2 _ _ (by omega))).mono ?_)
      rintro e w8 ⟨rfl, hB8⟩
      have HT := Lib.hid (HT.out.grow hB8)
      clear hB8
      go_wp2_with fail
      (with_reducible refine (bound_no HT.out (a0 % 50) (stW_live2 _ _ (by omega))).mono ?_)
      rintro e w9 ⟨rfl, hB9⟩
      have HT := Lib.hid (HT.out.grow hB9)
      clear hB9
      go_wp2_with fail
      (with_reducible refine (known12_any _).mono ?_)
      rintro e w10 ⟨rfl, hB10⟩
      go_wp2_with fail
      go_ret
      exact ⟨rfl, HT.out.below.trans (hB10.mono HT.out.below.size)⟩
end Go.Proofs.Ytcmlfaolooglfaa.wormBound
