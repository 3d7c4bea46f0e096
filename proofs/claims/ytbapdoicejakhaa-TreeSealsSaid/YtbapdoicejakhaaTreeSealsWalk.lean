/- TreeSeals: the walk. -/
import Derived.Test.YtbapdoicejakhaaTreeS
namespace Go.Proofs.Ytbapdoicejakhaa.treeSeals
open Go.ChangeShapes Go.WideShapes Go.ChangeAt Go.RowKit
set_option linter.unusedVariables false
set_option linter.unusedSimpArgs false

set_option maxRecDepth 100000 in
set_option maxHeartbeats 8000000 in
theorem walk {H : Type} {enc : TypeId × Value → H} (W : World) (base : Nat) (v0 : Value) (d0 : DataW H) (p0 : List MemPlace) (o0 : Value.okWide Try.prog W .any base 29 v0) (h0 : DataW.Trod enc Try.prog W 0 (fun _ => true) true 29 v0 d0 p0) (l0 : ∀ x ∈ p0, x.block < W.heap.size) (a1 : Int) (w1 : (Lit.int .u64 a1).wf = true) (a2 : Int) (w2 : (Lit.int .u64 a2).wf = true) (a3 : Int) (w3 : (Lit.int .u64 a3).wf = true) (hsz : (DataW.weightsEach Try.prog [29, 36, 36, 36] ([d0, .lit (.int .u64 a1), .lit (.int .u64 a2), .lit (.int .u64 a3)] : List (DataW H))).all (· ≤ reachBytes) = true) :
    Calls Try.prog 4 #[v0, .int .u64 a1, .int .u64 a2, .int .u64 a3] W (Fine W) := by
  obtain ⟨a, len, cap, bs, rfl, hlc, hr⟩ : ∃ a len cap bs, v0 = .slice a len cap ∧ len ≤ cap ∧ RowAt (Old W) W a len ((bs : List UInt8).map bv) := by
    obtain ⟨a0, len, cap, rfl⟩ := okWide_slice Try.underlying29 o0
    obtain ⟨fuel, hf⟩ := h0
    exact open_bytesT hf l0
  have hlm := hr.small
  obtain ⟨b1, b1'⟩ := wf_u64 w1
  obtain ⟨b2, b2'⟩ := wf_u64 w2
  obtain ⟨b3, b3'⟩ := wf_u64 w3
  have t1 : 0 ≤ a1 % 1000 := by omega
  have t1' : a1 % 1000 < 1000 := by omega
  have t2 : 0 ≤ a2 % 1000 := by omega
  have t2' : a2 % 1000 < 1000 := by omega
  have hcut : ∀ w, Calls Try.prog 7 #[.slice a len cap, .int .i64 200] w fun e w' => e = .returned (.slice a (min len 200) cap) ∧ w = w' := fun w => cut_any a len cap 200 hlc (by omega) hlm w
  have HCUT := Lib.hid hcut
  clear hcut
  have HX : Hid (RowAt (Old W) W a (min len 200) ((bs.take 200).map bv)) := by
    have := hr.take 200
    rw [← List.map_take] at this
    exact this
  have hxl : (bs.take 200).length ≤ 200 := by rw [List.length_take]; omega
  generalize bs.take 200 = xs at HX hxl
  obtain ⟨m, hm⟩ : ∃ m, m = min len 200 := ⟨_, rfl⟩
  have hxm : xs.length = m := by have := HX.out.length; rw [hm]; simpa using this
  have hm2 : m ≤ 200 := by omega
  have hmc : m ≤ cap := by omega
  rw [← hm] at HX HCUT
  clear o0 h0 l0 hsz w1 w2 w3 hr hlm hm hlc hxl
  have HXM := Lib.hid hxm
  clear hxm
  go_enter Try.func4, Try.ntmps4
  go_wp2_with fail
  (with_reducible refine (in_new W _ (Below.refl _ _)).mono ?_)
  rintro e w1 ⟨p, rfl, hT1, hb1⟩
  have HT := Lib.hid hT1
  clear hT1 hb1
  go_wp2_with fail
  (with_reducible refine (sf_make HT.out).mono ?_)
  rintro e w2 ⟨rfl, hT2, hK2⟩
  have HT := Lib.hid hT2
  clear hT2 hK2
  go_wp2_with fail
  (with_reducible refine (HCUT.out _).mono ?_)
  rintro e w3 ⟨rfl, rfl⟩
  have HR := Lib.hid (fun w' (hb : Below W.heap.size W w') => HX.out.below hb (Nat.le_refl _))
  go_wp2_with fail
  (with_reducible refine (sf_append HT.out a m cap xs (HR.out _ HT.out.below) (by have := HXM.out; simp; omega)).mono ?_)
  rintro e w3 ⟨rfl, hT3, hK3⟩
  rw [List.nil_append] at hT3
  have HT := Lib.hid hT3
  clear hT3 hK3
  go_wp2_with fail
  (with_reducible refine (sf_keep_busy HT.out (a1 % 1000) (by omega) (by omega)).mono ?_)
  rintro e w4 ⟨rfl, hT4, hK4⟩
  have HT := Lib.hid hT4
  clear hT4 hK4
  go_wp2_with fail
  (with_reducible refine (sf_seal HT.out (a1 % 1000) (by omega) (by omega)).mono ?_)
  rintro e w5 ⟨rfl, hT5, hK5⟩
  have HT := Lib.hid hT5
  clear hT5 hK5
  go_wp2_with fail
  (with_reducible refine (sf_append_no (HT.out.grow (wall _ _)) (some ⟨w5.heap.size, 0, none⟩) 1 1 [1] (new_row [bv 1] 5 (by unfold maxLen; simp)) (by omega)).mono ?_)
  rintro e w6 ⟨rfl, hT6, hK6⟩
  have HT := Lib.hid hT6
  clear hT6 hK6
  go_wp2_with fail
  (with_reducible refine (sf_seal_no HT.out _ (by omega) (by omega)).mono ?_)
  rintro e w7 ⟨rfl, hT7, hK7⟩
  have HT := Lib.hid hT7
  clear hT7 hK7
  go_wp2_with fail
  (with_reducible refine (sf_drop_no HT.out).mono ?_)
  rintro e w8 ⟨rfl, hT8, hK8⟩
  have HT := Lib.hid hT8
  clear hT8 hK8
  go_wp2_with fail
  (with_reducible refine (sf_keep HT.out _ (by omega) (by omega) (by omega)).mono ?_)
  rintro e w9 ⟨rfl, hT9, hK9⟩
  have HT := Lib.hid hT9
  clear hT9 hK9

  have HE : Hid ((xs.drop 0).take 4096 = xs) := by
    have := HXM.out
    show (xs.drop 0).take 4096 = xs
    rw [List.drop_zero, List.take_of_length_le (by omega)]
  obtain ⟨q, hq⟩ : ∃ q, q = a1 % 1000 + a2 % 1000 := ⟨_, rfl⟩
  have hq0 : 0 ≤ q := by omega
  have hq1 : q < 2000 := by omega
  rw [← hq] at HT ⊢
  clear hq
  by_cases hmore : 0 < q
  · have hd : decide (0 < q) = true := by simpa using hmore
    have m1 : 0 ≤ a3 % q := Int.emod_nonneg _ (by omega)
    have m2 : a3 % q < q := Int.emod_lt_of_pos _ hmore
    have hq9 : (q == 0) = false := by simp; omega
    go_wp2_with fail
    (with_reducible refine (sf_keep_less HT.out (a3 % q) (by omega) (by omega) (by omega)).mono ?_)
    rintro e wa ⟨rfl, hTa, hKa⟩
    have HT := Lib.hid hTa
    clear hTa hKa
    go_wp2_with fail
    (with_reducible refine (sf_keep_far HT.out (by omega)).mono ?_)
    rintro e wb ⟨rfl, hTb, hKb⟩
    have HT := Lib.hid hTb
    clear hTb hKb
    go_wp2_with fail
    (with_reducible refine (sf_node HT.out).mono ?_)
    rintro e wc ⟨rfl, hBc⟩
    have HT := Lib.hid (HT.out.grow hBc)
    clear hBc
    go_wp2_with fail
    (with_reducible refine (sf_read (HT.out.grow (wall _ _)) 0 4096 (by omega) (by omega) (by omega) (by omega)).mono ?_)
    rintro e wd ⟨a5, n5, c5, rfl, hn5, hr5, hBd⟩
    have HBD : Hid (Below W.heap.size W wd) := HT.out.below.trans (((wall _ _).trans (hBd.mono (by simp))).mono HT.out.below.size)
    rw [show List.take (Int.toNat 4096) (List.drop (Int.toNat 0) xs) = xs from HE.out] at hr5
    have hcv1 := conv_row (c := c5) hr5
    have hcv2 := conv_row (c := cap) (HR.out wd HBD.out)
    have g3 : wd.cell? ⟨wc.heap.size, 3, none⟩ = some (.int .i64 xs.length) := (hBd.cell (p := ⟨wc.heap.size, 3, none⟩) (by simp)).trans (item_block (MapKept.heap_alloc wc _).1 3)
    have g4 : wd.cell? ⟨wc.heap.size, 4, none⟩ = some (.int .u64 q) := (hBd.cell (p := ⟨wc.heap.size, 4, none⟩) (by simp)).trans (item_block (MapKept.heap_alloc wc _).1 4)
    have g5 : wd.cell? ⟨wc.heap.size, 5, none⟩ = some (.bool true) := (hBd.cell (p := ⟨wc.heap.size, 5, none⟩) (by simp)).trans (item_block (MapKept.heap_alloc wc _).1 5)
    have hxe : ((xs.length : Int) == (m : Int)) = true := by have := HXM.out; simp [this]
    clear hr5 hBd
    go_wp2_with fail
    (with_reducible refine (known11_any _).mono ?_)
    rintro e we ⟨rfl, hBe⟩
    go_wp2_with fail
    go_ret
    exact ⟨rfl, HBD.out.trans (hBe.mono HBD.out.size)⟩
  · have hd : decide (0 < q) = false := by simpa using hmore
    go_wp2_with fail
    (with_reducible refine (sf_keep_far HT.out (by omega)).mono ?_)
    rintro e wb ⟨rfl, hTb, hKb⟩
    have HT := Lib.hid hTb
    clear hTb hKb
    go_wp2_with fail
    (with_reducible refine (sf_node HT.out).mono ?_)
    rintro e wc ⟨rfl, hBc⟩
    have HT := Lib.hid (HT.out.grow hBc)
    clear hBc
    go_wp2_with fail
    (with_reducible refine (sf_read (HT.out.grow (wall _ _)) 0 4096 (by omega) (by omega) (by omega) (by omega)).mono ?_)
    rintro e wd ⟨a5, n5, c5, rfl, hn5, hr5, hBd⟩
    have HBD : Hid (Below W.heap.size W wd) := HT.out.below.trans (((wall _ _).trans (hBd.mono (by simp))).mono HT.out.below.size)
    rw [show List.take (Int.toNat 4096) (List.drop (Int.toNat 0) xs) = xs from HE.out] at hr5
    have hcv1 := conv_row (c := c5) hr5
    have hcv2 := conv_row (c := cap) (HR.out wd HBD.out)
    have g3 : wd.cell? ⟨wc.heap.size, 3, none⟩ = some (.int .i64 xs.length) := (hBd.cell (p := ⟨wc.heap.size, 3, none⟩) (by simp)).trans (item_block (MapKept.heap_alloc wc _).1 3)
    have g4 : wd.cell? ⟨wc.heap.size, 4, none⟩ = some (.int .u64 q) := (hBd.cell (p := ⟨wc.heap.size, 4, none⟩) (by simp)).trans (item_block (MapKept.heap_alloc wc _).1 4)
    have g5 : wd.cell? ⟨wc.heap.size, 5, none⟩ = some (.bool true) := (hBd.cell (p := ⟨wc.heap.size, 5, none⟩) (by simp)).trans (item_block (MapKept.heap_alloc wc _).1 5)
    have hxe : ((xs.length : Int) == (m : Int)) = true := by have := HXM.out; simp [this]
    clear hr5 hBd
    go_wp2_with fail
    (with_reducible refine (known11_any _).mono ?_)
    rintro e we ⟨rfl, hBe⟩
    go_wp2_with fail
    go_ret
    exact ⟨rfl, HBD.out.trans (hBe.mono HBD.out.size)⟩
end Go.Proofs.Ytbapdoicejakhaa.treeSeals
