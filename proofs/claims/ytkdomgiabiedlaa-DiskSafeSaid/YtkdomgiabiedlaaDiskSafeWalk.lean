/- DiskSafe: the walk. -/
import Derived.Test.YtkdomgiabiedlaaDiskSafeP
namespace Go.Proofs.Ytkdomgiabiedlaa.diskSafe
open Go.ChangeShapes Go.WideShapes Go.ChangeAt Go.RowKit
set_option linter.unusedVariables false
set_option linter.unusedSimpArgs false

set_option maxRecDepth 100000 in
set_option maxHeartbeats 16000000 in
theorem walk {H : Type} {enc : TypeId × Value → H} (W : World) (base : Nat) (v0 : Value) (d0 : DataW H) (p0 : List MemPlace) (o0 : Value.okWide Try.prog W .any base 40 v0) (h0 : DataW.Trod enc Try.prog W 0 (fun _ => true) true 40 v0 d0 p0) (l0 : ∀ x ∈ p0, x.block < W.heap.size) (v1 : Value) (d1 : DataW H) (p1 : List MemPlace) (o1 : Value.okWide Try.prog W .any base 40 v1) (h1 : DataW.Trod enc Try.prog W 0 (fun _ => true) true 40 v1 d1 p1) (l1 : ∀ x ∈ p1, x.block < W.heap.size) (v2 : Value) (d2 : DataW H) (p2 : List MemPlace) (o2 : Value.okWide Try.prog W .any base 34 v2) (h2 : DataW.Trod enc Try.prog W 0 (fun _ => true) true 34 v2 d2 p2) (l2 : ∀ x ∈ p2, x.block < W.heap.size) (a3 : Int) (w3 : (Lit.int .i64 a3).wf = true) (a4 : Int) (w4 : (Lit.int .i64 a4).wf = true) (hsz : (DataW.weightsEach Try.prog [40, 40, 34, 3, 3] ([d0, d1, d2, .lit (.int .i64 a3), .lit (.int .i64 a4)] : List (DataW H))).all (· ≤ reachBytes) = true) :
    Calls Try.prog 5 #[v0, v1, v2, .int .i64 a3, .int .i64 a4] W (Fine W) := by
  obtain ⟨la, len0, lc, rfl, _, hA0⟩ : ∃ a len cap, v0 = .slice a len cap ∧ len ≤ cap ∧ AsksAt W a len := by
    obtain ⟨a0, len, cap, rfl⟩ := okWide_slice Try.underlying40 o0
    obtain ⟨fuel, hf⟩ := h0
    exact open_asksT hf l0
  obtain ⟨ma, len1, mc, rfl, _, hA1⟩ : ∃ a len cap, v1 = .slice a len cap ∧ len ≤ cap ∧ AsksAt W a len := by
    obtain ⟨a0, len, cap, rfl⟩ := okWide_slice Try.underlying40 o1
    obtain ⟨fuel, hf⟩ := h1
    exact open_asksT hf l1
  obtain ⟨ka, kn, kc, ks, rfl, _, hKP⟩ : ∃ a len cap bs, v2 = .slice a len cap ∧ len ≤ cap ∧ RowAt (Old W) W a len ((bs : List Bool).map Value.bool) := by
    obtain ⟨a0, len, cap, rfl⟩ := okWide_slice Try.underlying34 o2
    obtain ⟨fuel, hf⟩ := h2
    exact open_boolsT hf l2
  clear o0 h0 l0 o1 h1 l1 o2 h2 l2 hsz
  have hlm0 := hA0.1
  have hlm1 := hA1.1
  unfold maxLen at hlm0 hlm1
  have HA0 := Lib.hid hA0
  have HA1 := Lib.hid hA1
  have HKP := Lib.hid hKP
  clear hA0 hA1 hKP
  go_enter Try.func5, Try.ntmps5
  go_wp2_with fail
  (with_reducible refine (in_new W _ (Below.refl _ _)).mono ?_)
  rintro e w1 ⟨d, sb, mb, rfl, hD1, hB1⟩
  have HD1 := Lib.hid hD1
  clear hD1
  go_upto_block 0 with (fail)
  go_cut [13] from 36 to 59 (fun s wx => WDone W (fun _ => False) w1 d sb mb M0.safe 0 wx)
  case first =>
    go_wp2_with fail
    go_loopw [13] (fun i wr => WLoop W (fun _ => False) w1 d sb mb M0.safe 0 i wr) (fun i _ => 20 - (intOf i).toNat)
    case atStart => exact ⟨0, M0, rfl, by omega, HD1.out, Ok64.new, rfl, Int.le_refl _, Keeps.refl _ _⟩
    case round =>
      obtain ⟨k, M, rfl, hk20, hD, hok, hsf, hwr, hK⟩ := hrel
      have HD := Lib.hid hD
      have HOK := Lib.hid hok
      have HSF := Lib.hid hsf
      have HKK := Lib.hid hK
      have hB := hD.below
      have hszr := hB.size
      have hlow := hD.low
      clear hD hok hsf hK
      have HLOW := Lib.hid hlow
      clear hlow
      by_cases hlt : k < len0
      · have hd1 : decide (k < len0) = true := by simpa using hlt
        by_cases h20 : k < 20
        · obtain ⟨g, off, rfl, hgw, hAk⟩ := HA0.out.2 (by omega)
          obtain ⟨x, hx⟩ := hAk k hlt
          have i0 : (0 : Int) ≤ (k : Int) := by omega
          have i1 : (k : Int) < (len0 : Int) := by omega
          have i2 : (k : Int) < 20 := by omega
          have hd2 : decide ((k : Int) < 20) = true := by simpa using i2
          clear hAk
          obtain ⟨a2, n2, k2, hc2c, hk2, hr2c⟩ := hx.b
          have HSZ : Hid (∀ w', Below W.heap.size W w' → Calls Try.prog 10 #[.slice a2 n2 k2, .int .i64 128] w' (NewRowN w' 128 (sizedL x.b 128))) := fun w' hw' => sized_at (S := Old W) a2 n2 k2 128 128 x.b w' (hr2c.below hw' (Nat.le_refl _)) rfl hk2 (by omega)
          have HKP : Hid (∀ w', Below W.heap.size W w' → Below W.heap.size W w' ∧ w'.cell? ⟨g, off + k * 6 + 1, none⟩ = some (.int .i64 x.i) ∧ w'.cell? ⟨g, off + k * 6 + 2, none⟩ = some (.slice a2 n2 k2)) := fun w' hw' => ⟨hw', (hw'.cell hgw).trans hx.i.1, (hw'.cell hgw).trans hc2c⟩
          have hxi := hx.i.2
          have hwb := withinI_bd x.i 0 63 (by omega)
          have HB0 := Lib.hid hB.drew
          have HX := Lib.hid hx
          have hszd : W.heap.size ≤ wr.drew.heap.size := hszr
          clear hx hr2c hc2c
          go_wp2_with fail
          go_region_held3 (fun w' => Below W.heap.size W w' ∧ w'.cell? ⟨g, off + k * 6 + 1, none⟩ = some (.int .i64 x.i) ∧ w'.cell? ⟨g, off + k * 6 + 2, none⟩ = some (.slice a2 n2 k2)) ((first | exact HKP.out _ HB0.out | assumption | exact HKP.out _ (HB0.out.trans (hB3.mono hszd)) | exact HKP.out _ hD4.below)) ((first | (go_at_call 11; refine (within_any _ 0 63 _ hxi (by omega) (by omega) (by omega)).mono ?_; rintro e w' ⟨rfl, rfl⟩) | (go_at_call 10; refine (HSZ.out _ HB0.out).mono ?_; rintro e w3 ⟨v3, rfl, hv3, hB3⟩; obtain ⟨b3, c3, rfl, hc3, hr3⟩ := hv3.row) | (go_at_call 12; refine (in_write ((HD.out.grow (Below.refl _ _).drew).grow hB3) _ _ _ _ _ (by omega) hr3).mono ?_; rintro e w4 ⟨rfl, hD4, hK4⟩)))
          have HD4 := Lib.hid hD4
          have HK4 := Lib.hid hK4
          clear hD4 hK4
          go_wp2
          go_roundw
          case rel => exact wloop_step h20 hwb (sizedL_len _ _) HOK.out HSF.out hwr HKK.out HLOW.out hszr ((Below.refl _ _).drew.trans hB3) HD4.out HK4.out
          case measure => simp [intOf]; omega
        · have hd2 : decide ((k : Int) < 20) = false := by simp; omega
          go_wp2_with fail
          go_meet
          exact ⟨M, HD.out, HOK.out, HSF.out, by omega, HKK.out⟩
      · have hd1 : decide (k < len0) = false := by simpa using hlt
        go_wp2_with fail
        go_meet
        exact ⟨M, HD.out, HOK.out, HSF.out, by omega, HKK.out⟩
  case rest =>
    obtain ⟨M1, hD, hok1, _, hwr1, _⟩ := hcut
    clear HD1
    have HFL := Lib.hid (in_flush hD)
    have HOKF := Lib.hid hok1.flush
    have hwrf : (flushM M1).writes ≤ 20 := by show M1.writes ≤ 20; omega
    have hMFd : (flushM M1).dirty = [] := rfl
    obtain ⟨wa, rfl⟩ : ∃ wa : World, wa = wc := ⟨_, rfl⟩
    generalize flushM M1 = MF at HFL HOKF hwrf hMFd
    clear hD hok1 hwr1
    go_wp2_with fail
    (with_reducible refine HFL.out.mono ?_)
    rintro e w2 ⟨rfl, hD2, _⟩
    have HIM := Lib.hid (in_image hD2 8192 MF.safe HOKF.out.1 (imgM_clean hMFd (by rw [HOKF.out.1])))
    have HD2 := Lib.hid hD2
    clear hD2 HFL hMFd
    go_wp2_with fail
    (with_reducible refine HIM.out.mono ?_)
    rintro e w5 ⟨go, co, rfl, hco, hro, hB5⟩
    have HRO := Lib.hid hro
    have hD5 := HD2.out.shield hB5
    have hs5 := hB5.size
    generalize hP1 : (fun x => False ∨ (w2.heap.size ≤ x ∧ x < w5.heap.size)) = P1 at hD5
    have HP1 := Lib.hid hP1
    have HD5 := Lib.hid hD5
    clear hro hD5 hP1 HIM
    have HO5 : Hid (RowAt P1 w5 (some ⟨go, 0, none⟩) 8192 (MF.safe.map bv)) := HRO.out.mono fun b hb => by rw [← HP1.out]; exact .inr hb
    go_upto_block 2 with (fail)
    go_cut [15] from 64 to 87 (fun s wx => WDone W P1 w5 d sb mb MF.safe 20 wx)
    case first =>
      go_wp2_with fail
      go_loopw [15] (fun i wr => WLoop W P1 w5 d sb mb MF.safe 20 i wr) (fun i _ => 20 - (intOf i).toNat)
      case atStart => exact ⟨0, MF, rfl, by omega, HD5.out, HOKF.out, rfl, by omega, Keeps.refl _ _⟩
      case round =>
        obtain ⟨k, M, rfl, hk20, hD, hok, hsf, hwr, hK⟩ := hrel
        have HD := Lib.hid hD
        have HOK := Lib.hid hok
        have HSF := Lib.hid hsf
        have HKK := Lib.hid hK
        have hB := hD.below
        have hszr := hB.size
        have hlow := hD.low
        clear hD hok hsf hK
        have HLOW := Lib.hid hlow
        clear hlow
        by_cases hlt : k < len1
        · have hd1 : decide (k < len1) = true := by simpa using hlt
          by_cases h20 : k < 20
          · obtain ⟨g, off, rfl, hgw, hAk⟩ := HA1.out.2 (by omega)
            obtain ⟨x, hx⟩ := hAk k hlt
            have i0 : (0 : Int) ≤ (k : Int) := by omega
            have i1 : (k : Int) < (len1 : Int) := by omega
            have i2 : (k : Int) < 20 := by omega
            have hd2 : decide ((k : Int) < 20) = true := by simpa using i2
            clear hAk
            obtain ⟨a2, n2, k2, hc2c, hk2, hr2c⟩ := hx.b
            have HSZ : Hid (∀ w', Below W.heap.size W w' → Calls Try.prog 10 #[.slice a2 n2 k2, .int .i64 128] w' (NewRowN w' 128 (sizedL x.b 128))) := fun w' hw' => sized_at (S := Old W) a2 n2 k2 128 128 x.b w' (hr2c.below hw' (Nat.le_refl _)) rfl hk2 (by omega)
            have HKP : Hid (∀ w', Below W.heap.size W w' → Below W.heap.size W w' ∧ w'.cell? ⟨g, off + k * 6 + 1, none⟩ = some (.int .i64 x.i) ∧ w'.cell? ⟨g, off + k * 6 + 2, none⟩ = some (.slice a2 n2 k2)) := fun w' hw' => ⟨hw', (hw'.cell hgw).trans hx.i.1, (hw'.cell hgw).trans hc2c⟩
            have hxi := hx.i.2
            have hwb := withinI_bd x.i 0 63 (by omega)
            have HB0 := Lib.hid hB.drew
            have HX := Lib.hid hx
            have hszd : W.heap.size ≤ wr.drew.heap.size := hszr
            clear hx hr2c hc2c
            go_wp2_with fail
            go_region_held3 (fun w' => Below W.heap.size W w' ∧ w'.cell? ⟨g, off + k * 6 + 1, none⟩ = some (.int .i64 x.i) ∧ w'.cell? ⟨g, off + k * 6 + 2, none⟩ = some (.slice a2 n2 k2)) ((first | exact HKP.out _ HB0.out | assumption | exact HKP.out _ (HB0.out.trans (hB3.mono hszd)) | exact HKP.out _ hD4.below)) ((first | (go_at_call 11; refine (within_any _ 0 63 _ hxi (by omega) (by omega) (by omega)).mono ?_; rintro e w' ⟨rfl, rfl⟩) | (go_at_call 10; refine (HSZ.out _ HB0.out).mono ?_; rintro e w3 ⟨v3, rfl, hv3, hB3⟩; obtain ⟨b3, c3, rfl, hc3, hr3⟩ := hv3.row) | (go_at_call 12; refine (in_write ((HD.out.grow (Below.refl _ _).drew).grow hB3) _ _ _ _ _ (by omega) hr3).mono ?_; rintro e w4 ⟨rfl, hD4, hK4⟩)))
            have HD4 := Lib.hid hD4
            have HK4 := Lib.hid hK4
            clear hD4 hK4
            go_wp2
            go_roundw
            case rel => exact wloop_step h20 hwb (sizedL_len _ _) HOK.out HSF.out hwr HKK.out HLOW.out hszr ((Below.refl _ _).drew.trans hB3) HD4.out HK4.out
            case measure => simp [intOf]; omega
          · have hd2 : decide ((k : Int) < 20) = false := by simp; omega
            go_wp2_with fail
            go_meet
            exact ⟨M, HD.out, HOK.out, HSF.out, by omega, HKK.out⟩
        · have hd1 : decide (k < len1) = false := by simpa using hlt
          go_wp2_with fail
          go_meet
          exact ⟨M, HD.out, HOK.out, HSF.out, by omega, HKK.out⟩
    case rest =>
      obtain ⟨M2, hD, hok2, hsf2, hwr2, hK⟩ := hcut
      obtain ⟨wb, rfl⟩ : ∃ wb : World, wb = wc := ⟨_, rfl⟩
      have HO6 : Hid (RowAt P1 wb (some ⟨go, 0, none⟩) 8192 (MF.safe.map bv)) := HO5.out.keeps hK fun b hb hf => hf.2 hb
      have HIM := Lib.hid (in_image hD 8192 _ hok2.1 rfl)
      have HD6 := Lib.hid hD
      have HOK2 := Lib.hid hok2
      have HSF2 := Lib.hid hsf2
      clear hD hok2 hsf2 hK HD5 HO5 HRO HD2
      go_wp2_with fail
      (with_reducible refine HIM.out.mono ?_)
      rintro e w6 ⟨gn, cn, rfl, hcn, hrn, hB6⟩
      have hs6 := hB6.size
      have HRN := Lib.hid hrn
      have HDI := Lib.hid (in_dirty (HD6.out.grow hB6) _ _ rfl rfl)
      clear hrn HIM
      go_wp2_with fail
      (with_reducible refine HDI.out.mono ?_)
      rintro e w7 ⟨ad, cd, rfl, hrd, hB7⟩
      have hs7 := hB7.size
      have hD7 := HD6.out.shield (hB6.trans (hB7.mono hs6))
      generalize hP3 : (fun x => P1 x ∨ (wb.heap.size ≤ x ∧ x < w7.heap.size)) = P3 at hD7
      have hPP : ∀ x, (P1 x ∨ (wb.heap.size ≤ x ∧ x < w7.heap.size)) → P3 x := fun x hx => by rw [← hP3]; exact hx
      have HPP := Lib.hid hPP
      have HO7 : Hid (RowAt P3 w7 (some ⟨go, 0, none⟩) 8192 (MF.safe.map bv)) := (HO6.out.below (hB6.trans (hB7.mono hs6)) (Nat.le_refl _)).mono fun b hb => HPP.out b (.inl hb)
      have HN7 : Hid (RowAt P3 w7 (some ⟨gn, 0, none⟩) 8192 ((imgM M2).map bv)) := HRN.out.move hs7 fun b hb hbw => ⟨HPP.out b (.inr ⟨hb.1, by omega⟩), hB7.block b hbw⟩
      have HK7 : Hid (RowAt P3 w7 ad (dkeys M2).length ((dkeys M2).map (Value.int .i64))) := hrd.mono fun b hb => HPP.out b (.inr ⟨by omega, hb.2⟩)
      have HCR := Lib.hid (in_crash hD7 ks ka kn kc a3 a4 (HKP.out.below hD7.below (Nat.le_refl _)) (fun b hb => .inl hb))
      have HB7 := Lib.hid hD7.below
      clear hD7 hP3 hPP hrd HRN HO6 HDI
      go_wp2_with fail
      (with_reducible refine HCR.out.mono ?_)
      rintro e w8 ⟨rfl, hD8, hK8⟩
      have hWP : ∀ b, P3 b → ¬ Wild W P3 b := fun b hb hf => hf.2 hb
      have HO8 := Lib.hid (HO7.out.keeps hK8 hWP)
      have HN8 := Lib.hid (HN7.out.keeps hK8 hWP)
      have HK8 := Lib.hid (HK7.out.keeps hK8 hWP)
      have hok8 := HOK2.out.crash ks a3 a4
      have HIM := Lib.hid (in_image hD8 8192 _ hok8.1 rfl)
      have HD8 := Lib.hid hD8
      clear hWP hD8 hok8 hK8 HO7 HN7 HK7 HCR
      go_wp2_with fail
      (with_reducible refine HIM.out.mono ?_)
      rintro e w9 ⟨gg, cg, rfl, hcg, hrg, hB9⟩
      have hs9 := hB9.size
      have HG9 := Lib.hid hrg
      have HDI := Lib.hid (in_dirty (HD8.out.grow hB9) [] 0 rfl rfl)
      clear hrg HIM
      go_wp2_with fail
      (with_reducible refine HDI.out.mono ?_)
      rintro e w10 ⟨az, cz, rfl, hrz, hB10⟩
      have hs10 := hB10.size
      have hB810 := hB9.trans (hB10.mono hs9)
      have HO := Lib.hid (HO8.out.below hB810 (Nat.le_refl _))
      have HN := Lib.hid (HN8.out.below hB810 (Nat.le_refl _))
      have HK := Lib.hid (HK8.out.below hB810 (Nat.le_refl _))
      have HG := Lib.hid (HG9.out.below hB10 (Nat.le_refl _))
      have HBW := Lib.hid (HD8.out.below.trans (hB810.mono HD8.out.below.size))
      clear hrz HDI HO8 HN8 HK8 HG9
      obtain ⟨nk, hnk⟩ : ∃ nk, nk = (dkeys M2).length := ⟨_, rfl⟩
      have hnl : nk ≤ 4096 := by
        obtain ⟨F, l, hD, _⟩ := HD6.out.at_
        rw [hnk]
        exact dkeys_len hD
      rw [← hnk] at HK ⊢
      have HNK := Lib.hid hnk
      clear hnk
      go_wp2_with fail
      go_loopw [19, 20] (fun m i wr => ∃ k mm : Nat, i = .int .i64 k ∧ k ≤ 64 ∧ m = .int .i64 mm ∧ Hid (Mixed (dkeys M2) a3 k mm) ∧ Below w10.heap.size w10 wr) (fun _ i _ => 64 - (intOf i).toNat)
      case atStart => exact ⟨0, 0, rfl, by omega, rfl, .inl rfl, Below.refl _ _⟩
      case round =>
        obtain ⟨k, mm, rfl, hk64, rfl, hmix, hB⟩ := hrel
        by_cases hlt : k < 64
        · have i2 : (k : Int) < 64 := by omega
          have i0 : (0 : Int) ≤ (k : Int) := by omega
          have hc1 : k * 128 < co := by omega
          have hc2 : k * 128 < cn := by omega
          have hc3 : k * 128 < cg := by omega
          have hc4 : k * 128 + 128 ≤ co := by omega
          have hc5 : k * 128 + 128 ≤ cn := by omega
          have hc6 : k * 128 + 128 ≤ cg := by omega
          go_wp2_with fail
          have e1 : IntKind.i64.wrap ((k : Int) * 128) = (k : Int) * 128 := IntWalk.i64_in _ (by omega)
          have e2 : IntKind.i64.wrap ((k : Int) * 128 + 128) = (k : Int) * 128 + 128 := IntWalk.i64_in _ (by omega)
          have j0 : (0 : Int) ≤ (k : Int) * 128 := by omega
          have j9 : (0 : Int) ≤ (k : Int) * 128 + 128 := by omega
          have j1 : (k : Int) * 128 + 128 ≤ (co : Int) := by omega
          have j2 : (k : Int) * 128 + 128 ≤ (cn : Int) := by omega
          have j3 : (k : Int) * 128 + 128 ≤ (cg : Int) := by omega
          have j4 : (k : Int) * 128 ≤ (k : Int) * 128 + 128 := by omega
          have j5 : max ((k : Int) * 128 + 128) 0 = (k : Int) * 128 + 128 := by omega
          have t0 : ((k : Int) * 128).toNat = k * 128 := by omega
          have t1 : ((k : Int) * 128 + 128).toNat = k * 128 + 128 := by omega
          have q1 : ¬ co = k * 128 := by omega
          have q2 : ¬ cn = k * 128 := by omega
          have q3 : ¬ cg = k * 128 := by omega
          have t2 : k * 128 + 128 - k * 128 = 128 := by omega
          obtain ⟨th1, th2⟩ := three HOK2.out ks a3 a4 hlt
          rw [HSF2.out] at th1 th2
          have hra := row_sec HO.out hlt
          have hrb := row_sec HN.out hlt
          have hrc := row_sec HG.out hlt
          generalize rowsOf MF.safe k = rA at th1 th2 hra
          generalize rowsOf (imgM M2) k = rB at th1 th2 hrb
          generalize rowsOf (imgM (crashM M2 ks a3 a4)) k = rC at th1 th2 hrc
          have HCV : Hid (∀ w', Below w10.heap.size w10 w' → (convert 22 9 (.slice (some ⟨go, k * 128, none⟩) 128 (co - k * 128))).run Try.prog w' = .ok (.string (strOf rA)) w' ∧ (convert 22 9 (.slice (some ⟨gn, k * 128, none⟩) 128 (cn - k * 128))).run Try.prog w' = .ok (.string (strOf rB)) w' ∧ (convert 22 9 (.slice (some ⟨gg, k * 128, none⟩) 128 (cg - k * 128))).run Try.prog w' = .ok (.string (strOf rC)) w') := fun w' hw' => ⟨conv_row (hra.below hw' (Nat.le_refl _)), conv_row (hrb.below hw' (Nat.le_refl _)), conv_row (hrc.below hw' (Nat.le_refl _))⟩
          have TH1 := Lib.hid th1
          have TH2 := Lib.hid th2
          clear th1 th2 hra hrb hrc
          refine wp_region_noPanic ?_
          refine wp_region_held_drew (S := (fun w' => (convert 22 9 (.slice (some ⟨go, k * 128, none⟩) 128 (co - k * 128))).run Try.prog w' = .ok (.string (strOf rA)) w' ∧ (convert 22 9 (.slice (some ⟨gn, k * 128, none⟩) 128 (cn - k * 128))).run Try.prog w' = .ok (.string (strOf rB)) w' ∧ (convert 22 9 (.slice (some ⟨gg, k * 128, none⟩) 128 (cg - k * 128))).run Try.prog w' = .ok (.string (strOf rC)) w')) (by kernel_rfl) ?_ (fun hS => ?_)
          · exact HCV.out _ hB.drew
          refine wpAnyH_take (i := 0) (oi := ?oi1) (v := ?v1) ?hi1 (by kernel_rfl) (by kernel_rfl) (by kernel_rfl) ?hq1 (Or.inl ⟨?hw1, ?hy1⟩) hS ?rest1
          case hi1 => simp only [List.getElem?_toArray, List.getElem?_cons_succ, List.getElem?_cons_zero]; rfl
          case hq1 => exact fun _ _ _ h => h
          case hw1 => rfl
          case hy1 => intro w hSw; (try dsimp only at hSw); go_simp; (try with_reducible rfl)
          try simp only [Act.put, List.setIfInBounds_toArray, List.set_cons_zero, List.set_cons_succ]
          refine wpAnyH_take (i := 1) (oi := ?oi2) (v := ?v2) ?hi2 (by kernel_rfl) (by kernel_rfl) (by kernel_rfl) ?hq2 (Or.inl ⟨?hw2, ?hy2⟩) hS ?rest2
          case hi2 => simp only [List.getElem?_toArray, List.getElem?_cons_succ, List.getElem?_cons_zero]; rfl
          case hq2 => exact fun _ _ _ h => h
          case hw2 => rfl
          case hy2 => intro w hSw; (try dsimp only at hSw); go_simp; (try with_reducible rfl)
          try simp only [Act.put, List.setIfInBounds_toArray, List.set_cons_zero, List.set_cons_succ]
          refine wpAnyH_take (i := 2) (oi := ?oi3) (v := ?v3) ?hi3 (by kernel_rfl) (by kernel_rfl) (by kernel_rfl) ?hq3 (Or.inl ⟨?hw3, ?hy3⟩) hS ?rest3
          case hi3 => simp only [List.getElem?_toArray, List.getElem?_cons_succ, List.getElem?_cons_zero]; rfl
          case hq3 => exact fun _ _ _ h => h
          case hw3 => rfl
          case hy3 => intro w hSw; (try dsimp only at hSw); go_simp; (try with_reducible rfl)
          try simp only [Act.put, List.setIfInBounds_toArray, List.set_cons_zero, List.set_cons_succ]
          refine wpAnyH_take (i := 3) (oi := ?oi4) (v := ?v4) ?hi4 (by kernel_rfl) (by kernel_rfl) (by kernel_rfl) ?hq4 (Or.inl ⟨?hw4, ?hy4⟩) hS ?rest4
          case hi4 => simp only [List.getElem?_toArray, List.getElem?_cons_succ, List.getElem?_cons_zero]; rfl
          case hq4 => exact fun _ _ _ h => h
          case hw4 => rfl
          case hy4 => intro w hSw; (try dsimp only at hSw); go_simp; (try with_reducible rfl)
          try simp only [Act.put, List.setIfInBounds_toArray, List.set_cons_zero, List.set_cons_succ]
          refine wpAnyH_take (i := 4) (oi := ?oi5) (v := ?v5) ?hi5 (by kernel_rfl) (by kernel_rfl) (by kernel_rfl) ?hq5 (Or.inl ⟨?hw5, ?hy5⟩) hS ?rest5
          case hi5 => simp only [List.getElem?_toArray, List.getElem?_cons_succ, List.getElem?_cons_zero]; rfl
          case hq5 => exact fun _ _ _ h => h
          case hw5 => rfl
          case hy5 => intro w hSw; (try dsimp only at hSw); go_simp; (try with_reducible rfl)
          try simp only [Act.put, List.setIfInBounds_toArray, List.set_cons_zero, List.set_cons_succ]
          refine wpAnyH_take (i := 5) (oi := ?oi6) (v := ?v6) ?hi6 (by kernel_rfl) (by kernel_rfl) (by kernel_rfl) ?hq6 (Or.inl ⟨?hw6, ?hy6⟩) hS ?rest6
          case hi6 => simp only [List.getElem?_toArray, List.getElem?_cons_succ, List.getElem?_cons_zero]; rfl
          case hq6 => exact fun _ _ _ h => h
          case hw6 => rfl
          case hy6 => intro w hSw; (try dsimp only at hSw); go_simp; (try with_reducible rfl)
          try simp only [Act.put, List.setIfInBounds_toArray, List.set_cons_zero, List.set_cons_succ]
          refine wpAnyH_take (i := 6) (oi := ?oi7) (v := ?v7) ?hi7 (by kernel_rfl) (by kernel_rfl) (by kernel_rfl) ?hq7 (Or.inl ⟨?hw7, ?hy7⟩) hS ?rest7
          case hi7 => simp only [List.getElem?_toArray, List.getElem?_cons_succ, List.getElem?_cons_zero]; rfl
          case hq7 => exact fun _ _ _ h => h
          case hw7 => rfl
          case hy7 => intro w hSw; (try dsimp only at hSw); go_simp; (try with_reducible rfl)
          try simp only [Act.put, List.setIfInBounds_toArray, List.set_cons_zero, List.set_cons_succ]
          refine wpAnyH_take (i := 7) (oi := ?oi8) (v := ?v8) ?hi8 (by kernel_rfl) (by kernel_rfl) (by kernel_rfl) ?hq8 (Or.inl ⟨?hw8, ?hy8⟩) hS ?rest8
          case hi8 => simp only [List.getElem?_toArray, List.getElem?_cons_succ, List.getElem?_cons_zero]; rfl
          case hq8 => exact fun _ _ _ h => h
          case hw8 => rfl
          case hy8 => intro w hSw; (try dsimp only at hSw); go_simp; (try with_reducible rfl)
          try simp only [Act.put, List.setIfInBounds_toArray, List.set_cons_zero, List.set_cons_succ]
          refine wpAnyH_take (i := 8) (oi := ?oi9) (v := ?v9) ?hi9 (by kernel_rfl) (by kernel_rfl) (by kernel_rfl) ?hq9 (Or.inl ⟨?hw9, ?hy9⟩) hS ?rest9
          case hi9 => simp only [List.getElem?_toArray, List.getElem?_cons_succ, List.getElem?_cons_zero]; rfl
          case hq9 => exact fun _ _ _ h => h
          case hw9 => rfl
          case hy9 => intro w hSw; (try dsimp only at hSw); go_simp; (try with_reducible rfl)
          try simp only [Act.put, List.setIfInBounds_toArray, List.set_cons_zero, List.set_cons_succ]
          refine wpAnyH_take (i := 9) (oi := ?oi10) (v := ?v10) ?hi10 (by kernel_rfl) (by kernel_rfl) (by kernel_rfl) ?hq10 (Or.inl ⟨?hw10, ?hy10⟩) hS ?rest10
          case hi10 => simp only [List.getElem?_toArray, List.getElem?_cons_succ, List.getElem?_cons_zero]; rfl
          case hq10 => exact fun _ _ _ h => h
          case hw10 => rfl
          case hy10 => intro w hSw; (try dsimp only at hSw); go_simp; (try with_reducible rfl)
          try simp only [Act.put, List.setIfInBounds_toArray, List.set_cons_zero, List.set_cons_succ]
          refine wpAnyH_take (i := 10) (oi := ?oi11) (v := ?v11) ?hi11 (by kernel_rfl) (by kernel_rfl) (by kernel_rfl) ?hq11 (Or.inl ⟨?hw11, ?hy11⟩) hS ?rest11
          case hi11 => simp only [List.getElem?_toArray, List.getElem?_cons_succ, List.getElem?_cons_zero]; rfl
          case hq11 => exact fun _ _ _ h => h
          case hw11 => rfl
          case hy11 => intro w hSw; (try dsimp only at hSw); go_simp; (try with_reducible rfl)
          try simp only [Act.put, List.setIfInBounds_toArray, List.set_cons_zero, List.set_cons_succ]
          refine wpAnyH_take (i := 11) (oi := ?oi12) (v := ?v12) ?hi12 (by kernel_rfl) (by kernel_rfl) (by kernel_rfl) ?hq12 (Or.inl ⟨?hw12, ?hy12⟩) hS ?rest12
          case hi12 => simp only [List.getElem?_toArray, List.getElem?_cons_succ, List.getElem?_cons_zero]; rfl
          case hq12 => exact fun _ _ _ h => h
          case hw12 => rfl
          case hy12 => intro w hSw; (try dsimp only at hSw); go_simp; (try with_reducible rfl)
          try simp only [Act.put, List.setIfInBounds_toArray, List.set_cons_zero, List.set_cons_succ]
          refine wpAnyH_take (i := 12) (oi := ?oi13) (v := ?v13) ?hi13 (by kernel_rfl) (by kernel_rfl) (by kernel_rfl) ?hq13 (Or.inl ⟨?hw13, ?hy13⟩) hS ?rest13
          case hi13 => simp only [List.getElem?_toArray, List.getElem?_cons_succ, List.getElem?_cons_zero]; rfl
          case hq13 => exact fun _ _ _ h => h
          case hw13 => rfl
          case hy13 => intro w hSw; (try dsimp only at hSw); go_simp; (try with_reducible rfl)
          try simp only [Act.put, List.setIfInBounds_toArray, List.set_cons_zero, List.set_cons_succ]
          refine wpAnyH_take (i := 13) (oi := ?oi14) (v := ?v14) ?hi14 (by kernel_rfl) (by kernel_rfl) (by kernel_rfl) ?hq14 (Or.inl ⟨?hw14, ?hy14⟩) hS ?rest14
          case hi14 => simp only [List.getElem?_toArray, List.getElem?_cons_succ, List.getElem?_cons_zero]; rfl
          case hq14 => exact fun _ _ _ h => h
          case hw14 => rfl
          case hy14 => intro w hSw; (try dsimp only at hSw); go_simp; (try with_reducible rfl)
          try simp only [Act.put, List.setIfInBounds_toArray, List.set_cons_zero, List.set_cons_succ]
          refine wpAnyH_take (i := 14) (oi := ?oi15) (v := ?v15) ?hi15 (by kernel_rfl) (by kernel_rfl) (by kernel_rfl) ?hq15 (Or.inl ⟨?hw15, ?hy15⟩) hS ?rest15
          case hi15 => simp only [List.getElem?_toArray, List.getElem?_cons_succ, List.getElem?_cons_zero]; rfl
          case hq15 => exact fun _ _ _ h => h
          case hw15 => rfl
          case hy15 => intro w hSw; (try dsimp only at hSw); go_simp; (try with_reducible rfl)
          try simp only [Act.put, List.setIfInBounds_toArray, List.set_cons_zero, List.set_cons_succ]
          refine wpAnyH_take (i := 15) (oi := ?oi16) (v := ?v16) ?hi16 (by kernel_rfl) (by kernel_rfl) (by kernel_rfl) ?hq16 (Or.inl ⟨?hw16, ?hy16⟩) hS ?rest16
          case hi16 => simp only [List.getElem?_toArray, List.getElem?_cons_succ, List.getElem?_cons_zero]; rfl
          case hq16 => exact fun _ _ _ h => h
          case hw16 => rfl
          case hy16 => intro w hSw; (try dsimp only at hSw); go_simp; (try with_reducible rfl)
          try simp only [Act.put, List.setIfInBounds_toArray, List.set_cons_zero, List.set_cons_succ]
          refine wpAnyH_take (i := 16) (oi := ?oi17) (v := ?v17) ?hi17 (by kernel_rfl) (by kernel_rfl) (by kernel_rfl) ?hq17 (Or.inl ⟨?hw17, ?hy17⟩) hS ?rest17
          case hi17 => simp only [List.getElem?_toArray, List.getElem?_cons_succ, List.getElem?_cons_zero]; rfl
          case hq17 => exact fun _ _ _ h => h
          case hw17 => rfl
          case hy17 => intro w hSw; (try dsimp only at hSw); go_simp; (try with_reducible rfl)
          try simp only [Act.put, List.setIfInBounds_toArray, List.set_cons_zero, List.set_cons_succ]
          refine wpAnyH_take (i := 17) (oi := ?oi18) (v := ?v18) ?hi18 (by kernel_rfl) (by kernel_rfl) (by kernel_rfl) ?hq18 (Or.inl ⟨?hw18, ?hy18⟩) hS ?rest18
          case hi18 => simp only [List.getElem?_toArray, List.getElem?_cons_succ, List.getElem?_cons_zero]; rfl
          case hq18 => exact fun _ _ _ h => h
          case hw18 => rfl
          case hy18 => intro w hSw; (try dsimp only at hSw); go_simp; (try with_reducible rfl)
          try simp only [Act.put, List.setIfInBounds_toArray, List.set_cons_zero, List.set_cons_succ]
          refine wpAnyH_take (i := 18) (oi := ?oi19) (v := ?v19) ?hi19 (by kernel_rfl) (by kernel_rfl) (by kernel_rfl) ?hq19 (Or.inl ⟨?hw19, ?hy19⟩) hS ?rest19
          case hi19 => simp only [List.getElem?_toArray, List.getElem?_cons_succ, List.getElem?_cons_zero]; rfl
          case hq19 => exact fun _ _ _ h => h
          case hw19 => rfl
          case hy19 => intro w hSw; (try dsimp only at hSw); go_simp; (try with_reducible rfl)
          try simp only [Act.put, List.setIfInBounds_toArray, List.set_cons_zero, List.set_cons_succ]
          refine wpAnyH_take (i := 19) (oi := ?oi20) (v := ?v20) ?hi20 (by kernel_rfl) (by kernel_rfl) (by kernel_rfl) ?hq20 (Or.inl ⟨?hw20, ?hy20⟩) hS ?rest20
          case hi20 => simp only [List.getElem?_toArray, List.getElem?_cons_succ, List.getElem?_cons_zero]; rfl
          case hq20 => exact fun _ _ _ h => h
          case hw20 => rfl
          case hy20 => intro w hSw; (try dsimp only at hSw); go_simp; (try with_reducible rfl)
          try simp only [Act.put, List.setIfInBounds_toArray, List.set_cons_zero, List.set_cons_succ]
          refine wpAnyH_take (i := 20) (oi := ?oi21) (v := ?v21) ?hi21 (by kernel_rfl) (by kernel_rfl) (by kernel_rfl) ?hq21 (Or.inl ⟨?hw21, ?hy21⟩) hS ?rest21
          case hi21 => simp only [List.getElem?_toArray, List.getElem?_cons_succ, List.getElem?_cons_zero]; rfl
          case hq21 => exact fun _ _ _ h => h
          case hw21 => rfl
          case hy21 => intro w hSw; (try dsimp only at hSw); go_simp; (try with_reducible rfl)
          try simp only [Act.put, List.setIfInBounds_toArray, List.set_cons_zero, List.set_cons_succ]
          refine wpAnyH_take (i := 21) (oi := ?oi22) (v := ?v22) ?hi22 (by kernel_rfl) (by kernel_rfl) (by kernel_rfl) ?hq22 (Or.inl ⟨?hw22, ?hy22⟩) hS ?rest22
          case hi22 => simp only [List.getElem?_toArray, List.getElem?_cons_succ, List.getElem?_cons_zero]; rfl
          case hq22 => exact fun _ _ _ h => h
          case hw22 => rfl
          case hy22 => intro w hSw; (try dsimp only at hSw); go_simp; (try with_reducible rfl)
          try simp only [Act.put, List.setIfInBounds_toArray, List.set_cons_zero, List.set_cons_succ]
          refine wpAnyH_take (i := 22) (oi := ?oi23) (v := ?v23) ?hi23 (by kernel_rfl) (by kernel_rfl) (by kernel_rfl) ?hq23 (Or.inl ⟨?hw23, ?hy23⟩) hS ?rest23
          case hi23 => simp only [List.getElem?_toArray, List.getElem?_cons_succ, List.getElem?_cons_zero]; rfl
          case hq23 => exact fun _ _ _ h => h
          case hw23 => rfl
          case hy23 => intro w hSw; (try dsimp only at hSw); go_simp; (try with_reducible rfl)
          try simp only [Act.put, List.setIfInBounds_toArray, List.set_cons_zero, List.set_cons_succ]
          refine wpAnyH_take (i := 23) (oi := ?oi24) (v := ?v24) ?hi24 (by kernel_rfl) (by kernel_rfl) (by kernel_rfl) ?hq24 (Or.inl ⟨?hw24, ?hy24⟩) hS ?rest24
          case hi24 => simp only [List.getElem?_toArray, List.getElem?_cons_succ, List.getElem?_cons_zero]; rfl
          case hq24 => exact fun _ _ _ h => h
          case hw24 => rfl
          case hy24 => intro w hSw; (try dsimp only at hSw); go_simp; (try with_reducible rfl)
          try simp only [Act.put, List.setIfInBounds_toArray, List.set_cons_zero, List.set_cons_succ]
          refine wpAnyH_take (i := 24) (oi := ?oi25) (v := ?v25) ?hi25 (by kernel_rfl) (by kernel_rfl) (by kernel_rfl) ?hq25 (Or.inl ⟨?hw25, ?hy25⟩) hS ?rest25
          case hi25 => simp only [List.getElem?_toArray, List.getElem?_cons_succ, List.getElem?_cons_zero]; rfl
          case hq25 => exact fun _ _ _ h => h
          case hw25 => rfl
          case hy25 => intro w hSw; (try dsimp only at hSw); go_simp; (try with_reducible rfl)
          try simp only [Act.put, List.setIfInBounds_toArray, List.set_cons_zero, List.set_cons_succ]
          refine wpAnyH_take (i := 25) (oi := ?oi26) (v := ?v26) ?hi26 (by kernel_rfl) (by kernel_rfl) (by kernel_rfl) ?hq26 (Or.inl ⟨?hw26, ?hy26⟩) hS ?rest26
          case hi26 => simp only [List.getElem?_toArray, List.getElem?_cons_succ, List.getElem?_cons_zero]; rfl
          case hq26 => exact fun _ _ _ h => h
          case hw26 => rfl
          case hy26 => intro w hSw; (try dsimp only at hSw); go_simp; (try with_reducible rfl)
          try simp only [Act.put, List.setIfInBounds_toArray, List.set_cons_zero, List.set_cons_succ]
          refine wpAnyH_take (i := 26) (oi := ?oi27) (v := ?v27) ?hi27 (by kernel_rfl) (by kernel_rfl) (by kernel_rfl) ?hq27 (Or.inl ⟨?hw27, ?hy27⟩) hS ?rest27
          case hi27 => simp only [List.getElem?_toArray, List.getElem?_cons_succ, List.getElem?_cons_zero]; rfl
          case hq27 => exact fun _ _ _ h => h
          case hw27 => rfl
          case hy27 => intro w hSw; (try dsimp only at hSw); go_simp; (try with_reducible rfl)
          try simp only [Act.put, List.setIfInBounds_toArray, List.set_cons_zero, List.set_cons_succ]
          refine wpAnyH_done (by kernel_rfl) ?_ _
          refine NoPanic.normal ?_
          clear hS e1 e2 j0 j9 j1 j2 j3 j4 j5 t0 t1 t2 q1 q2 q3
          go_wp2_with fail
          obtain ⟨wo, rfl⟩ : ∃ wo : World, wo = wr := ⟨_, rfl⟩
          go_loop [24, 25] (fun b j => ∃ jj : Nat, j = .int .i64 jj ∧ jj ≤ nk ∧ b = .bool (((dkeys M2).take jj).contains (k : Int))) (fun _ j => nk - (intOf j).toNat)
          case atStart => exact ⟨0, rfl, by omega, by simp⟩
          case round =>
            obtain ⟨jj, rfl, hjj, rfl⟩ := hrel
            by_cases hj : jj < nk
            · obtain ⟨bd, od, rfl, _, hbd, hcd⟩ := HK.out.at_ (by omega)
              have hjl : jj < (dkeys M2).length := by rw [← HNK.out]; exact hj
              have hcell : wo.drew.cell? ⟨bd, od + jj, none⟩ = some (.int .i64 ((dkeys M2)[jj])) := by
                have h1 := hcd jj hj
                rw [List.getElem?_map, List.getElem?_eq_getElem hjl] at h1
                exact (hB.drew.cell (p := ⟨bd, od + jj, none⟩) hbd).trans h1
              have hsn : ((dkeys M2).take (jj + 1)).contains (k : Int) = (((dkeys M2).take jj).contains (k : Int) || ((dkeys M2)[jj] == (k : Int))) := by
                rw [List.take_succ_eq_append_getElem hjl, List.contains_append]
                rw [contains_one]
              generalize (dkeys M2)[jj] = z at hcell hsn
              generalize ((dkeys M2).take jj).contains (k : Int) = c0 at hsn ⊢
              have i3 : (0 : Int) ≤ (jj : Int) := by omega
              have i4 : (jj : Int) < (nk : Int) := by omega
              clear hcd hjl
              cases c0
              · by_cases hzk : z = (k : Int)
                · have e3 : (z == (k : Int)) = true := by simpa using hzk
                  rw [e3] at hsn
                  have HSN := Lib.hid hsn
                  clear hsn hzk
                  go_wp2
                  go_round
                  case rel => exact ⟨jj + 1, by go_num, by omega, by rw [HSN.out]; rfl⟩
                  case measure => simp [intOf]; omega
                · have e3 : (z == (k : Int)) = false := by simpa using hzk
                  rw [e3] at hsn
                  have HSN := Lib.hid hsn
                  clear hsn hzk
                  go_wp2
                  go_round
                  case rel => exact ⟨jj + 1, by go_num, by omega, by rw [HSN.out]; rfl⟩
                  case measure => simp [intOf]; omega
              · have HSN := Lib.hid hsn
                clear hsn
                go_wp2
                go_round
                case rel => exact ⟨jj + 1, by go_num, by omega, by rw [HSN.out]; rfl⟩
                case measure => simp [intOf]; omega
            · obtain rfl : jj = nk := by omega
              have hct : ((dkeys M2).take jj).contains (k : Int) = (dkeys M2).contains (k : Int) := by rw [List.take_of_length_le (by rw [← HNK.out]; omega)]
              rw [hct]
              clear hct
              have hBd := Lib.hid hB.drew
              by_cases hm : (k : Int) ∈ dkeys M2
              · have hmc : (dkeys M2).contains (k : Int) = true := by simpa using hm
                rw [hmc]
                clear hmc
                by_cases hca : rC = rA
                · subst hca
                  clear hm TH1 TH2
                  go_wp2
                  go_roundw
                  case rel => exact ⟨k + 1, mm, by go_num, by omega, rfl, hmix.out.same, hBd.out⟩
                  case measure => simp [intOf]; omega
                · obtain ⟨n1, n2⟩ := strOf_ne hca
                  have hmm := hmix.out.le
                  by_cases hcb : rC = rB
                  · subst hcb
                    clear hm TH1 TH2 hca
                    go_wp2
                    go_roundw
                    case rel => exact ⟨k + 1, mm, by go_num, by omega, rfl, hmix.out.same, hBd.out⟩
                    case measure => simp [intOf]; omega
                  · obtain ⟨n3, n4⟩ := strOf_ne hcb
                    have HT := Lib.hid (TH2.out hca hcb)
                    clear hm TH1 TH2 hca hcb
                    go_wp2
                    go_roundw
                    case rel => exact ⟨k + 1, mm + 1, by go_num, by omega, by go_num, hmix.out.more HT.out, hBd.out⟩
                    case measure => simp [intOf]; omega
              · have hmc : (dkeys M2).contains (k : Int) = false := by simpa using hm
                rw [hmc]
                obtain ⟨hx1, hx2⟩ := TH1.out hm
                subst hx1
                subst hx2
                clear hmc hm TH1 TH2
                go_wp2
                go_roundw
                case rel => exact ⟨k + 1, mm, by go_num, by omega, rfl, hmix.out.same, hBd.out⟩
                case measure => simp [intOf]; omega
        · obtain rfl : k = 64 := by omega
          have hm1 := hmix.out.le
          have hm2 : (mm : Int) ≤ 1 := by omega
          go_wp2_with fail
          (with_reducible refine (known5_any _).mono ?_)
          rintro e w12 ⟨rfl, hB12⟩
          go_wp2_with fail
          go_ret
          exact ⟨rfl, (HBW.out.trans (hB.mono HBW.out.size)).trans (hB12.mono (by have := HBW.out.size; have := hB.size; omega))⟩
end Go.Proofs.Ytkdomgiabiedlaa.diskSafe
