/- DiskPlays: the walk. -/
import Derived.Test.YtkdomgiabiedlaaDo
namespace Go.Proofs.Ytkdomgiabiedlaa.diskPlays
open Go.ChangeShapes Go.WideShapes Go.ChangeAt Go.RowKit
set_option linter.unusedVariables false
set_option linter.unusedSimpArgs false

def PRel (W : World) (d r : Nat) (i : Value) (wr : World) : Prop := ∃ (k : Nat) (Q : Nat → Prop) (M : DiskM), i = .int .i64 k ∧ k ≤ 60 ∧ Both W Q wr d r M ∧ M.writes ≤ k ∧ Below W.heap.size W wr
def PDone (W : World) (d r : Nat) (wr : World) : Prop := ∃ (Q : Nat → Prop) (M : DiskM), Both W Q wr d r M ∧ Below W.heap.size W wr
set_option maxRecDepth 100000 in
set_option maxHeartbeats 8000000 in
theorem walk {H : Type} {enc : TypeId × Value → H} (W : World) (base : Nat) (v0 : Value) (d0 : DataW H) (p0 : List MemPlace) (o0 : Value.okWide Try.prog W .any base 40 v0) (h0 : DataW.Trod enc Try.prog W 0 (fun _ => true) true 40 v0 d0 p0) (l0 : ∀ x ∈ p0, x.block < W.heap.size) (hsz : (DataW.weightsEach Try.prog [40] ([d0] : List (DataW H))).all (· ≤ reachBytes) = true) :
    Calls Try.prog 4 #[v0] W (Fine W) := by
  obtain ⟨a, len, cap, rfl, hlc, hA⟩ : ∃ a len cap, v0 = .slice a len cap ∧ len ≤ cap ∧ AsksAtW W a len := by
    obtain ⟨a0, len, cap, rfl⟩ := okWide_slice Try.underlying40 o0
    obtain ⟨fuel, hf⟩ := h0
    refine open_asksW hf l0 fun n hn => ?_
    have h1 := List.all_eq_true.1 hsz n (List.mem_append_left _ hn)
    simpa using h1
  clear o0 h0 l0 hsz hlc
  have hlm := hA.1
  unfold maxLen at hlm
  have HA := Lib.hid hA
  clear hA
  go_enter Try.func4, Try.ntmps4
  go_wp2_with fail
  (with_reducible refine (in_new W _ (Below.refl _ _)).mono ?_)
  rintro e w1 ⟨d, sb, mb, rfl, hD1, hB1⟩
  have HD1 := Lib.hid hD1
  clear hD1
  go_wp2_with fail
  (with_reducible refine (rnew_any _).mono ?_)
  rintro e w2 ⟨Fr, r, s, n, t, rfl, hR2, hF2, hB2⟩
  have hs1 := hB1.size
  have hD2 := HD1.out.shield hB2
  have HBoth : Hid (Both W (fun x => False ∨ (w1.heap.size ≤ x ∧ x < w2.heap.size)) w2 d r M0) := ⟨sb, mb, s, n, t, Fr, R0, hD2, hR2, fun x hx => ⟨.inr ⟨hF2 x hx, hR2.low x hx⟩, Nat.le_trans hs1 (hF2 x hx)⟩, sim0.c⟩
  have HBW := Lib.hid hD2.below
  clear hD2 hR2 hF2
  go_upto_block 0 with (fail)
  go_cut [6] from 18 to 35 (fun s wx => PDone W d r wx)
  case first =>
    go_wp2_with fail
    go_loopw [6] (fun i wr => PRel W d r i wr) (fun i _ => 60 - (intOf i).toNat)
    case atStart => exact ⟨0, _, M0, rfl, by omega, HBoth.out, Int.le_refl _, HBW.out⟩
    case round =>
      obtain ⟨k, Q, M, rfl, hk60, hBo, hwr, hB⟩ := hrel
      have HBO := Lib.hid hBo
      clear hBo
      by_cases hlt : k < len
      · have hd1 : decide (k < len) = true := by simpa using hlt
        by_cases h60 : k < 60
        · obtain ⟨g, off, rfl, hgw, hAk⟩ := HA.out.2 (by omega)
          obtain ⟨x, hx, hxl⟩ := hAk k hlt
          have i0 : (0 : Int) ≤ (k : Int) := by omega
          have i1 : (k : Int) < (len : Int) := by omega
          have i2 : (k : Int) < 60 := by omega
          have hd2 : decide ((k : Int) < 60) = true := by simpa using i2
          clear hAk
          obtain ⟨ba, bn, bc, hcb, hbc, hbr⟩ := hx.b
          obtain ⟨ka, kn, kc, hck, hkc, hkr⟩ := hx.keep
          have hbn : bn ≤ 140737488351232 := by have := hbr.length; rw [List.length_map] at this; omega
          have q0 : wr.cell? ⟨g, off + k * 6, none⟩ = some (.int .i64 x.kind) := (hB.cell hgw).trans hx.kind.1
          have q1 : wr.cell? ⟨g, off + k * 6 + 1, none⟩ = some (.int .i64 x.i) := (hB.cell hgw).trans hx.i.1
          have q2 : wr.cell? ⟨g, off + k * 6 + 2, none⟩ = some (.slice ba bn bc) := (hB.cell hgw).trans hcb
          have q3 : wr.cell? ⟨g, off + k * 6 + 3, none⟩ = some (.slice ka kn kc) := (hB.cell hgw).trans hck
          have q4 : wr.cell? ⟨g, off + k * 6 + 4, none⟩ = some (.int .i64 x.torn) := (hB.cell hgw).trans hx.torn.1
          have q5 : wr.cell? ⟨g, off + k * 6 + 5, none⟩ = some (.int .i64 x.cut) := (hB.cell hgw).trans hx.cut.1
          have hdo := do_any x ba bn bc ka kn kc HBO.out (by omega) hbr hbc hbn hkr
          unfold askV at hdo
          have HDO := Lib.hid hdo
          clear hdo
          clear hcb hck hbr hkr hx hxl
          go_wp2_with fail
          (with_reducible refine HDO.out.mono ?_)
          rintro e w3 ⟨rfl, Q', M', hBo', hw'⟩
          have hBd : Hid (Below W.heap.size W w3) := by
            obtain ⟨_, _, _, _, _, _, _, hDD, _⟩ := hBo'
            exact hDD.below
          have HBO' := Lib.hid hBo'
          clear hBo' HDO
          go_wp2
          go_roundw
          case rel => exact ⟨k + 1, Q', M', by go_num, by omega, HBO'.out, by omega, hBd.out⟩
          case measure => simp [intOf]; omega
        · have hd2 : decide ((k : Int) < 60) = false := by simp; omega
          go_wp2_with fail
          go_meet
          exact ⟨Q, M, HBO.out, hB⟩
      · have hd1 : decide (k < len) = false := by simpa using hlt
        go_wp2_with fail
        go_meet
        exact ⟨Q, M, HBO.out, hB⟩
  case rest =>
    obtain ⟨Q, M, ⟨sb, mb, s, n, t, Fr, R, hD, hR, hF, hS⟩, hB⟩ := hcut
    obtain ⟨w3, rfl⟩ : ∃ w3 : World, w3 = wc := ⟨_, rfl⟩
    have hSim := hS.full hD hR
    obtain ⟨q0, q1, q2, q3⟩ := ref_cells hR
    have hrw : r < w3.heap.size := hR.low _ hR.own.1
    have hnr : RowAt Fr w3 (some ⟨n, 0, none⟩) 8192 ((imgM M).map bv) := by
      rw [← hS.now]
      exact row_take hR.now (by rw [List.take_of_length_le (by simp [hR.len.2.1])]) hR.len.2.1 (by unfold maxLen; omega) hR.own.2.2.1
    have HNR := Lib.hid hnr
    have HIM := Lib.hid (fun w' (hw' : Below w3.heap.size w3 w') => in_image (hD.grow hw') 8192 _ hSim.ok.1 rfl)
    have HKP : Hid (∀ w', Below w3.heap.size w3 w' → Below w3.heap.size w3 w' ∧ w'.cell? ⟨r, 1, none⟩ = some (.slice (some ⟨n, 0, none⟩) 8192 8192) ∧ (convert 22 9 (.slice (some ⟨n, 0, none⟩) 8192 8192)).run Try.prog w' = .ok (.string (strOf (imgM M))) w') := fun w' hw' => ⟨hw', (hw'.cell (p := ⟨r, 1, none⟩) hrw).trans q1, conv_row (hnr.below hw' (Nat.le_refl _))⟩
    clear q0 q1 q2 q3 hD hR hF hS hSim hnr
    go_wp2_with fail
    refine wp_region_noPanic ?_
    refine wp_region_held_drew (S := (fun w' => Below w3.heap.size w3 w' ∧ w'.cell? ⟨r, 1, none⟩ = some (.slice (some ⟨n, 0, none⟩) 8192 8192) ∧ (convert 22 9 (.slice (some ⟨n, 0, none⟩) 8192 8192)).run Try.prog w' = .ok (.string (strOf (imgM M))) w')) (by kernel_rfl) ?_ (fun hS => ?_)
    · exact HKP.out _ (Below.refl _ _).drew
    refine wpAnyH_take (i := 0) (oi := ?oi1) (v := ?v1) ?hi1 (by kernel_rfl) (by kernel_rfl) (by kernel_rfl) ?hq1 (Or.inl ⟨?hw1, ?hy1⟩) hS ?rest1
    case hi1 => simp only [List.getElem?_toArray, List.getElem?_cons_succ, List.getElem?_cons_zero]; rfl
    case hq1 => exact fun _ _ _ h => h
    case hw1 => rfl
    case hy1 => intro w hSw; (try dsimp only at hSw); go_simp; (try with_reducible rfl)
    try simp only [Act.put, List.setIfInBounds_toArray, List.set_cons_zero, List.set_cons_succ]
    refine wpAnyH_take (i := 3) (oi := ?oi2) (v := ?v2) ?hi2 (by kernel_rfl) (by kernel_rfl) (by kernel_rfl) ?hq2 (Or.inl ⟨?hw2, ?hy2⟩) hS ?rest2
    case hi2 => simp only [List.getElem?_toArray, List.getElem?_cons_succ, List.getElem?_cons_zero]; rfl
    case hq2 => exact fun _ _ _ h => h
    case hw2 => rfl
    case hy2 => intro w hSw; (try dsimp only at hSw); go_simp; (try with_reducible rfl)
    try simp only [Act.put, List.setIfInBounds_toArray, List.set_cons_zero, List.set_cons_succ]
    refine wpAnyH_take (i := 4) (oi := ?oi3) (v := ?v3) ?hi3 (by kernel_rfl) (by kernel_rfl) (by kernel_rfl) ?hq3 (Or.inl ⟨?hw3, ?hy3⟩) hS ?rest3
    case hi3 => simp only [List.getElem?_toArray, List.getElem?_cons_succ, List.getElem?_cons_zero]; rfl
    case hq3 => exact fun _ _ _ h => h
    case hw3 => rfl
    case hy3 => intro w hSw; (try dsimp only at hSw); go_simp; (try with_reducible rfl)
    try simp only [Act.put, List.setIfInBounds_toArray, List.set_cons_zero, List.set_cons_succ]
    refine wpAnyH_take (i := 5) (oi := ?oi4) (v := ?v4) ?hi4 (by kernel_rfl) (by kernel_rfl) (by kernel_rfl) ?hq4 (Or.inl ⟨?hw4, ?hy4⟩) hS ?rest4
    case hi4 => simp only [List.getElem?_toArray, List.getElem?_cons_succ, List.getElem?_cons_zero]; rfl
    case hq4 => exact fun _ _ _ h => h
    case hw4 => rfl
    case hy4 => intro w hSw; (try dsimp only at hSw); go_simp; (try with_reducible rfl)
    try simp only [Act.put, List.setIfInBounds_toArray, List.set_cons_zero, List.set_cons_succ]
    refine wpAnyH_take (i := 6) (oi := ?oi5) (v := ?v5) ?hi5 (by kernel_rfl) (by kernel_rfl) (by kernel_rfl) ?hq5 (Or.inl ⟨?hw5, ?hy5⟩) hS ?rest5
    case hi5 => simp only [List.getElem?_toArray, List.getElem?_cons_succ, List.getElem?_cons_zero]; rfl
    case hq5 => exact fun _ _ _ h => h
    case hw5 => rfl
    case hy5 => intro w hSw; (try dsimp only at hSw); go_simp; (try with_reducible rfl)
    try simp only [Act.put, List.setIfInBounds_toArray, List.set_cons_zero, List.set_cons_succ]
    refine wpAnyH_take (i := 7) (oi := ?oi6) (v := ?v6) ?hi6 (by kernel_rfl) (by kernel_rfl) (by kernel_rfl) ?hq6 (Or.inl ⟨?hw6, ?hy6⟩) hS ?rest6
    case hi6 => simp only [List.getElem?_toArray, List.getElem?_cons_succ, List.getElem?_cons_zero]; rfl
    case hq6 => exact fun _ _ _ h => h
    case hw6 => rfl
    case hy6 => intro w hSw; (try dsimp only at hSw); go_simp; (try with_reducible rfl)
    try simp only [Act.put, List.setIfInBounds_toArray, List.set_cons_zero, List.set_cons_succ]
    refine wpAnyH_ready (rs := [1]) (by kernel_rfl) (by simp) ?_
    refine AllReadyH.cons (o := ?o7) ?ho7 (fun K hK => ?_) AllReadyH.nil
    case ho7 => simp only [List.getElem?_toArray, List.getElem?_cons_succ, List.getElem?_cons_zero]; rfl
    go_simp
    (with_reducible refine (HIM.out _ hS.1).mono ?_)
    rintro e w4 ⟨b4, c4, rfl, hc4, hr4, hB4⟩
    go_wp2_with fail
    have hB34 := hS.1.trans (hB4.mono hS.1.size)
    refine hK.out _ _ (HKP.out _ hB34) (fun hS => ?_)
    clear hK K
    try simp only [Act.put, List.setIfInBounds_toArray, List.set_cons_zero, List.set_cons_succ]
    refine wpAnyH_mono (S' := fun w' => (Below w3.heap.size w3 w' ∧ w'.cell? ⟨r, 1, none⟩ = some (.slice (some ⟨n, 0, none⟩) 8192 8192) ∧ (convert 22 9 (.slice (some ⟨n, 0, none⟩) 8192 8192)).run Try.prog w' = .ok (.string (strOf (imgM M))) w') ∧ (convert 22 9 (.slice (some ⟨b4, 0, none⟩) 8192 c4)).run Try.prog w' = .ok (.string (strOf (imgM M))) w') (fun _ h => h.1) _ _ _ _ ?_
    have hSx8 := And.intro hS (conv_row (c := c4) hr4)
    clear hS
    have hS := hSx8
    clear hSx8
    have HR4 := Lib.hid hr4
    clear hr4
    refine wpAnyH_take (i := 2) (oi := ?oi9) (v := ?v9) ?hi9 (by kernel_rfl) (by kernel_rfl) (by kernel_rfl) ?hq9 (Or.inl ⟨?hw9, ?hy9⟩) hS ?rest9
    case hi9 => simp only [List.getElem?_toArray, List.getElem?_cons_succ, List.getElem?_cons_zero]; rfl
    case hq9 => exact fun _ _ _ h => h
    case hw9 => rfl
    case hy9 => intro w hSw; (try dsimp only at hSw); go_simp; (try with_reducible rfl)
    try simp only [Act.put, List.setIfInBounds_toArray, List.set_cons_zero, List.set_cons_succ]
    refine wpAnyH_take (i := 8) (oi := ?oi10) (v := ?v10) ?hi10 (by kernel_rfl) (by kernel_rfl) (by kernel_rfl) ?hq10 (Or.inl ⟨?hw10, ?hy10⟩) hS ?rest10
    case hi10 => simp only [List.getElem?_toArray, List.getElem?_cons_succ, List.getElem?_cons_zero]; rfl
    case hq10 => exact fun _ _ _ h => h
    case hw10 => rfl
    case hy10 => intro w hSw; (try dsimp only at hSw); go_simp; (try with_reducible rfl)
    try simp only [Act.put, List.setIfInBounds_toArray, List.set_cons_zero, List.set_cons_succ]
    refine wpAnyH_take (i := 9) (oi := ?oi11) (v := ?v11) ?hi11 (by kernel_rfl) (by kernel_rfl) (by kernel_rfl) ?hq11 (Or.inl ⟨?hw11, ?hy11⟩) hS ?rest11
    case hi11 => simp only [List.getElem?_toArray, List.getElem?_cons_succ, List.getElem?_cons_zero]; rfl
    case hq11 => exact fun _ _ _ h => h
    case hw11 => rfl
    case hy11 => intro w hSw; (try dsimp only at hSw); go_simp; (try with_reducible rfl)
    try simp only [Act.put, List.setIfInBounds_toArray, List.set_cons_zero, List.set_cons_succ]
    refine wpAnyH_ready (rs := [10]) (by kernel_rfl) (by simp) ?_
    refine AllReadyH.cons (o := ?o12) ?ho12 (fun K hK => ?_) AllReadyH.nil
    case ho12 => simp only [List.getElem?_toArray, List.getElem?_cons_succ, List.getElem?_cons_zero]; rfl
    go_simp
    (with_reducible refine (known5_any _).mono ?_)
    rintro e w5 ⟨rfl, hB5⟩
    go_wp2_with fail
    have hB35 := hB34.trans (hB5.mono hB34.size)
    refine hK.out _ _ (⟨HKP.out _ hB35, conv_row (c := c4) (HR4.out.below hB5 (Nat.le_refl _))⟩) (fun hS => ?_)
    clear hK K
    try simp only [Act.put, List.setIfInBounds_toArray, List.set_cons_zero, List.set_cons_succ]
    refine wpAnyH_take (i := 11) (oi := ?oi13) (v := ?v13) ?hi13 (by kernel_rfl) (by kernel_rfl) (by kernel_rfl) ?hq13 (Or.inl ⟨?hw13, ?hy13⟩) hS ?rest13
    case hi13 => simp only [List.getElem?_toArray, List.getElem?_cons_succ, List.getElem?_cons_zero]; rfl
    case hq13 => exact fun _ _ _ h => h
    case hw13 => rfl
    case hy13 => intro w hSw; (try dsimp only at hSw); go_simp; (try with_reducible rfl)
    try simp only [Act.put, List.setIfInBounds_toArray, List.set_cons_zero, List.set_cons_succ]
    refine wpAnyH_take (i := 12) (oi := ?oi14) (v := ?v14) ?hi14 (by kernel_rfl) (by kernel_rfl) (by kernel_rfl) ?hq14 (Or.inl ⟨?hw14, ?hy14⟩) hS ?rest14
    case hi14 => simp only [List.getElem?_toArray, List.getElem?_cons_succ, List.getElem?_cons_zero]; rfl
    case hq14 => exact fun _ _ _ h => h
    case hw14 => rfl
    case hy14 => intro w hSw; (try dsimp only at hSw); go_simp; (try with_reducible rfl)
    try simp only [Act.put, List.setIfInBounds_toArray, List.set_cons_zero, List.set_cons_succ]
    refine wpAnyH_done (by kernel_rfl) ?_ _
    refine NoPanic.normal ?_
    clear hS
    go_wp2
    go_ret
    exact ⟨rfl, hB.trans (hB35.mono hB.size)⟩
end Go.Proofs.Ytkdomgiabiedlaa.diskPlays
