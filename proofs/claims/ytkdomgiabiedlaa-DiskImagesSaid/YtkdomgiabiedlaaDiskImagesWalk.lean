/- DiskImages: the walk. -/
import Derived.Test.YtkdomgiabiedlaaWLoop
namespace Go.Proofs.Ytkdomgiabiedlaa.diskImages
open Go.ChangeShapes Go.WideShapes Go.ChangeAt Go.RowKit
set_option linter.unusedVariables false
set_option linter.unusedSimpArgs false

set_option maxRecDepth 100000 in
set_option maxHeartbeats 8000000 in
theorem walk {H : Type} {enc : TypeId × Value → H} (W : World) (base : Nat) (v0 : Value) (d0 : DataW H) (p0 : List MemPlace) (o0 : Value.okWide Try.prog W .any base 40 v0) (h0 : DataW.Trod enc Try.prog W 0 (fun _ => true) true 40 v0 d0 p0) (l0 : ∀ x ∈ p0, x.block < W.heap.size) (hsz : (DataW.weightsEach Try.prog [40] ([d0] : List (DataW H))).all (· ≤ reachBytes) = true) :
    Calls Try.prog 7 #[v0] W (Fine W) := by
  obtain ⟨a, len, cap, rfl, hlc, hA⟩ : ∃ a len cap, v0 = .slice a len cap ∧ len ≤ cap ∧ AsksAt W a len := by
    obtain ⟨a0, len, cap, rfl⟩ := okWide_slice Try.underlying40 o0
    obtain ⟨fuel, hf⟩ := h0
    exact open_asksT hf l0
  clear o0 h0 l0 hsz hlc
  have hlm := hA.1
  unfold maxLen at hlm
  have HA := Lib.hid hA
  clear hA
  go_enter Try.func7, Try.ntmps7
  go_wp2_with fail
  (with_reducible refine (in_new W _ (Below.refl _ _)).mono ?_)
  rintro e w1 ⟨d, sb, mb, rfl, hD1, hB1⟩
  have HD1 := Lib.hid hD1
  clear hD1
  go_upto_block 0 with (fail)
  go_cut [5] from 24 to 47 (fun s wx => WDone W (fun _ => False) w1 d sb mb M0.safe 0 wx)
  case first =>
    go_wp2_with fail
    go_loopw [5] (fun i wr => WLoop W (fun _ => False) w1 d sb mb M0.safe 0 i wr) (fun i _ => 20 - (intOf i).toNat)
    case atStart => exact ⟨0, M0, rfl, by omega, HD1.out, Ok64.new, rfl, Int.le_refl _, Keeps.refl _ _⟩
    case round =>
      obtain ⟨k, M, rfl, hk20, hD, hok, hsf, hwr, hK⟩ := hrel
      have HD := Lib.hid hD
      have HOK := Lib.hid hok
      have HSF := Lib.hid hsf
      have HKK := Lib.hid hK
      have hB := hD.below
      have hszr := hB.size
      have hlow := hD.low
      clear hD hok hsf hK
      have HLOW := Lib.hid hlow
      clear hlow
      by_cases hlt : k < len
      · have hd1 : decide (k < len) = true := by simpa using hlt
        by_cases h20 : k < 20
        · obtain ⟨g, off, rfl, hgw, hAk⟩ := HA.out.2 (by omega)
          obtain ⟨x, hx⟩ := hAk k hlt
          have i0 : (0 : Int) ≤ (k : Int) := by omega
          have i1 : (k : Int) < (len : Int) := by omega
          have i2 : (k : Int) < 20 := by omega
          have hd2 : decide ((k : Int) < 20) = true := by simpa using i2
          clear hAk
          obtain ⟨a2, n2, k2, hc2c, hk2, hr2c⟩ := hx.b
          have HSZ : Hid (∀ w', Below W.heap.size W w' → Calls Try.prog 10 #[.slice a2 n2 k2, .int .i64 128] w' (NewRowN w' 128 (sizedL x.b 128))) := fun w' hw' => sized_at (S := Old W) a2 n2 k2 128 128 x.b w' (hr2c.below hw' (Nat.le_refl _)) rfl hk2 (by omega)
          have HKP : Hid (∀ w', Below W.heap.size W w' → Below W.heap.size W w' ∧ w'.cell? ⟨g, off + k * 6 + 1, none⟩ = some (.int .i64 x.i) ∧ w'.cell? ⟨g, off + k * 6 + 2, none⟩ = some (.slice a2 n2 k2)) := fun w' hw' => ⟨hw', (hw'.cell hgw).trans hx.i.1, (hw'.cell hgw).trans hc2c⟩
          have hxi := hx.i.2
          have hwb := withinI_bd x.i 0 63 (by omega)
          have HB0 := Lib.hid hB.drew
          have HX := Lib.hid hx
          have hszd : W.heap.size ≤ wr.drew.heap.size := hszr
          clear hx hr2c hc2c
          go_wp2_with fail
          go_region_held3 (fun w' => Below W.heap.size W w' ∧ w'.cell? ⟨g, off + k * 6 + 1, none⟩ = some (.int .i64 x.i) ∧ w'.cell? ⟨g, off + k * 6 + 2, none⟩ = some (.slice a2 n2 k2)) ((first | exact HKP.out _ HB0.out | assumption | exact HKP.out _ (HB0.out.trans (hB3.mono hszd)) | exact HKP.out _ hD4.below)) ((first | (go_at_call 11; refine (within_any _ 0 63 _ hxi (by omega) (by omega) (by omega)).mono ?_; rintro e w' ⟨rfl, rfl⟩) | (go_at_call 10; refine (HSZ.out _ HB0.out).mono ?_; rintro e w3 ⟨v3, rfl, hv3, hB3⟩; obtain ⟨b3, c3, rfl, hc3, hr3⟩ := hv3.row) | (go_at_call 12; refine (in_write ((HD.out.grow (Below.refl _ _).drew).grow hB3) _ _ _ _ _ (by omega) hr3).mono ?_; rintro e w4 ⟨rfl, hD4, hK4⟩)))
          have HD4 := Lib.hid hD4
          have HK4 := Lib.hid hK4
          clear hD4 hK4
          go_wp2
          go_roundw
          case rel => exact wloop_step h20 hwb (sizedL_len _ _) HOK.out HSF.out hwr HKK.out HLOW.out hszr ((Below.refl _ _).drew.trans hB3) HD4.out HK4.out
          case measure => simp [intOf]; omega
        · have hd2 : decide ((k : Int) < 20) = false := by simp; omega
          go_wp2_with fail
          go_meet
          exact ⟨M, HD.out, HOK.out, HSF.out, by omega, HKK.out⟩
      · have hd1 : decide (k < len) = false := by simpa using hlt
        go_wp2_with fail
        go_meet
        exact ⟨M, HD.out, HOK.out, HSF.out, by omega, HKK.out⟩
  case rest =>
    obtain ⟨M, hD, hok, hsf, hwr, hK⟩ := hcut
    have hI := hok.imgLen
    have him := in_imageV hD 8192 _ hok.1 rfl
    generalize hIe : imgM M = I at him hI
    have HIM := Lib.hid him
    have HI := Lib.hid hI
    have HIe := Lib.hid hIe
    have HD := Lib.hid hD
    have hcB := hD.below
    have hcs := hcB.size
    have HOK := Lib.hid hok
    clear him hI hIe hD hok hsf hwr
    go_wp2_with fail
    (with_reducible refine HIM.out.mono ?_)
    rintro e w2 ⟨g, c, cur, rfl, hg, hcur, htk, hc1, hc2, hB2⟩
    clear HIM
    have hs2 := hB2.size
    have hgw := (Array.getElem?_eq_some_iff.1 hcur).1
    have hRI : RowAt (fun x => x = g) w2 (some ⟨g, 0, none⟩) 8192 (I.map bv) := row_take hcur htk HI.out (by omega) rfl
    have h8 : Bytes8 w2 g 8192 := Bytes8.of_take hcur htk HI.out
    have HOF := Lib.hid (dof_at _ 8192 c 64 I w2 hRI rfl (by omega) (by omega))
    have HRI := Lib.hid hRI
    have H8 := Lib.hid h8
    clear hRI h8 htk hcur
    go_wp2_with fail
    (with_reducible refine HOF.out.mono ?_)
    rintro e w3 ⟨F2, d2, sb2, mb2, rfl, hD2, hF2, hB3⟩
    clear HOF
    have hs3 := hB3.size
    have HC3 : Hid (DiskIn W (fun x => x < w2.heap.size) w3 d2 sb2 mb2 ⟨I, [], 0⟩) := ⟨⟨F2, [], hD2, fun x hx => ⟨by have := hF2 x hx; omega, by have := hF2 x hx; omega⟩⟩, (hcB.trans (hB2.mono hcs)).trans (hB3.mono (by omega)), fun x hx => by omega⟩
    clear hD2
    have hcv : (convert 22 9 (.slice (some ⟨g, 0, none⟩) 8192 c)).run Try.prog w3 = .ok (.string (strOf I)) w3 := conv_row (HRI.out.below hB3 (Nat.le_refl _))
    have H83 : Hid (Bytes8 w3 g 8192) := by
      obtain ⟨cu, h1, h2⟩ := H8.out
      exact ⟨cu, (hB3.block g hgw).trans h1, h2⟩
    go_wp2_with fail
    go_loopw [10] (fun i wr => ∃ k : Nat, i = .int .i64 k ∧ k ≤ 8198 ∧ Hid (Bytes8 wr g 8192) ∧ Keeps (fun x => x = g) w3 wr) (fun i _ => 8199 - (intOf i).toNat)
    case atStart => exact ⟨0, rfl, by omega, H83, Keeps.refl _ _⟩
    case round =>
      obtain ⟨k, rfl, hk, hb8, hK3⟩ := hrel
      clear hcv
      by_cases hlt : k < 8192
      · obtain ⟨z, hz1, hz2, hz3, hz4⟩ := hb8.out.cell hlt
        have i0 : (0 : Int) ≤ (k : Int) := by omega
        have i1 : (k : Int) < 8192 := by omega
        obtain ⟨z', hz'⟩ : ∃ z', z' = IntKind.u8.wrap (z + 1) := ⟨_, rfl⟩
        have hwz := wrap_u8 (z + 1)
        have hzr : IntKind.u8.wrap (z + 1) = z' := hz'.symm
        rw [hzr] at hwz
        clear hz'
        go_wp2
        go_roundw
        case rel => exact ⟨k + 7, by go_num, by omega, hb8.out.set_ z' hwz.1 hwz.2, hK3.trans (Keeps.set_ _ _ _) fun x _ h => h⟩
        case measure => simp [intOf]; omega
      · have hge : ¬ (k : Int) < 8192 := by omega
        have hBt := (hB2.trans (hB3.mono hs2)).trans (hK3.low (B := wc.heap.size) (by omega) (fun x hx => by omega))
        have hsr := hK3.size
        have HDr := Lib.hid (HD.out.grow hBt)
        have HCr := Lib.hid (HC3.out.touch hK3 (fun x hx => ⟨by omega, by omega⟩))
        have HRD := Lib.hid (in_readV HDr.out 0 0 rfl _ (HOK.out.sec (i := 0) (by omega)) rfl)
        have hr0 := HOK.out.2 0 (by omega)
        have HR0 := Lib.hid hr0
        clear hr0 hK3 hb8
        go_wp2_with fail
        (with_reducible refine HRD.out.mono ?_)
        rintro e w5 ⟨g5, c5, cur5, rfl, hg5, hcur5, htk5, hc51, hc52, hB5⟩
        clear HRD
        have hs5 := hB5.size
        have hgw5 := (Array.getElem?_eq_some_iff.1 hcur5).1
        have H85 := Lib.hid (Bytes8.of_take hcur5 htk5 HR0.out)
        have HC5 := Lib.hid (HCr.out.shield hB5)
        have HD5 := Lib.hid (HDr.out.grow hB5)
        have hBt5 := hBt.trans (hB5.mono (by omega))
        clear hcur5 htk5
        go_wp2_with fail
        go_loopw [13] (fun i wq => ∃ k : Nat, i = .int .i64 k ∧ k ≤ 128 ∧ Hid (Bytes8 wq g5 128) ∧ Keeps (fun x => x = g5) w5 wq) (fun i _ => 128 - (intOf i).toNat)
        case atStart => exact ⟨0, rfl, by omega, H85, Keeps.refl _ _⟩
        case round =>
          obtain ⟨k, rfl, hk, hb8, hK3⟩ := hrel
          by_cases hlt : k < 128
          · obtain ⟨z, hz1, hz2, hz3, hz4⟩ := hb8.out.cell hlt
            have i0 : (0 : Int) ≤ (k : Int) := by omega
            have i1 : (k : Int) < 128 := by omega
            obtain ⟨z', hz'⟩ : ∃ z', z' = IntKind.u8.wrap (z + 1) := ⟨_, rfl⟩
            have hwz := wrap_u8 (z + 1)
            have hzr : IntKind.u8.wrap (z + 1) = z' := hz'.symm
            rw [hzr] at hwz
            clear hz'
            go_wp2
            go_roundw
            case rel => exact ⟨k + 1, by go_num, by omega, hb8.out.set_ z' hwz.1 hwz.2, hK3.trans (Keeps.set_ _ _ _) fun x _ h => h⟩
            case measure => simp [intOf]; omega
          · have hge : ¬ (k : Int) < 128 := by omega
            have hBt6 := hBt5.trans (hK3.low (B := wc.heap.size) (by omega) (fun x hx => by omega))
            have hs6 := hK3.size
            have HD6 := Lib.hid (HD.out.grow hBt6)
            have HC6 := Lib.hid (HC5.out.touch hK3 (fun x hx => ⟨.inr (by omega), by omega⟩))
            have hcr := in_crash_nil HC6.out 0 0
            rw [crash_clean rfl (by show I.length % 128 = 0; rw [HI.out])] at hcr
            have HCR := Lib.hid hcr
            clear hcr hK3 hb8
            go_wp2_with fail
            (with_reducible refine HCR.out.mono ?_)
            rintro e w7 ⟨rfl, hC7, hK7⟩
            have hC7 : DiskIn W (fun x => x < w2.heap.size ∨ _) w7 d2 sb2 mb2 ⟨I, [], 0⟩ := hC7
            have hBt7 := hBt6.trans (hK7.low (B := wc.heap.size) (by omega) (fun x hx => by have := hx.2; omega))
            have hs7 := hK7.size
            have HD7 := Lib.hid (HD.out.grow hBt7)
            have HIM7 := Lib.hid (in_image hC7 8192 I (by exact HI.out) (imgM_clean (M := ⟨I, [], 0⟩) rfl (by show I.length % 128 = 0; rw [HI.out])))
            have HC7 := Lib.hid hC7
            clear hC7 hK7 HCR
            go_wp2_with fail
            (with_reducible refine HIM7.out.mono ?_)
            rintro e w8 ⟨b8, c8, rfl, hc8, hr8, hB8⟩
            have hs8 := hB8.size
            have hcv8 : (convert 22 9 (.slice (some ⟨b8, 0, none⟩) 8192 c8)).run Try.prog w8 = .ok (.string (strOf I)) w8 := conv_row hr8
            have HIM8 := Lib.hid (in_image (HD7.out.grow hB8) 8192 I HOK.out.1 HIe.out)
            clear hr8 HIM7
            go_wp2_with fail
            (with_reducible refine HIM8.out.mono ?_)
            rintro e w9 ⟨b9, c9, rfl, hc9, hr9, hB9⟩
            have hs9 := hB9.size
            have hcv9 : (convert 22 9 (.slice (some ⟨b9, 0, none⟩) 8192 c9)).run Try.prog w9 = .ok (.string (strOf I)) w9 := conv_row hr9
            have HS9 := Lib.hid (in_sectors ((HC7.out.grow hB8).grow hB9) 64 64 (by exact HI.out) rfl)
            have HT9 := Lib.hid (in_sectors ((HD7.out.grow hB8).grow hB9) 64 64 HOK.out.1 rfl)
            clear hr9 HIM8 hcv8
            go_wp2_with fail
            (with_reducible refine HS9.out.mono ?_)
            rintro e w10 ⟨rfl, rfl⟩
            go_wp2_with fail
            (with_reducible refine HT9.out.mono ?_)
            rintro e w10 ⟨rfl, rfl⟩
            go_wp2_with fail
            (with_reducible refine (known5_any _).mono ?_)
            rintro e w10 ⟨rfl, hB10⟩
            go_wp2_with fail
            go_ret
            exact ⟨rfl, (((hcB.trans (hBt7.mono hcs)).trans (hB8.mono (by omega))).trans (hB9.mono (by omega))).trans (hB10.mono (by omega))⟩
end Go.Proofs.Ytkdomgiabiedlaa.diskImages
