/- DiskFlush: the walk. -/
import Derived.Test.YtkdomgiabiedlaaKnown5
import Derived.Test.YtkdomgiabiedlaaAsk
import Derived.Test.YtkdomgiabiedlaaWithin
import Derived.Deep.RegionHeld3
namespace Go.Proofs.Ytkdomgiabiedlaa.diskFlush
open Go.ChangeShapes Go.WideShapes Go.ChangeAt Go.RowKit
set_option linter.unusedVariables false
set_option linter.unusedSimpArgs false

def FRel (W : World) (d sb mb : Nat) (i sv : Value) (wr : World) : Prop :=
  ∃ (k : Nat) (F : Nat → Prop) (l : List (Int × Value)) (M : DiskM) (ga : Option Addr) (gc : Nat), i = .int .i64 k ∧ k ≤ 40 ∧ DiskAt F wr d sb mb l M ∧ M.safe.length = 8192 ∧ M.writes ≤ k ∧ (∀ x, F x → W.heap.size ≤ x) ∧ Below W.heap.size W wr ∧ sv = .slice ga 8192 gc ∧
    Hid (RowAt (fun x => W.heap.size ≤ x ∧ ¬ F x) wr ga 8192 (M.safe.map bv))

set_option maxHeartbeats 4000000 in
theorem walk {H : Type} {enc : TypeId × Value → H} (W : World) (base : Nat) (v0 : Value) (d0 : DataW H) (p0 : List MemPlace) (o0 : Value.okWide Try.prog W .any base 40 v0) (h0 : DataW.Trod enc Try.prog W 0 (fun _ => true) true 40 v0 d0 p0) (l0 : ∀ x ∈ p0, x.block < W.heap.size) (hsz : (DataW.weightsEach Try.prog [40] ([d0] : List (DataW H))).all (· ≤ reachBytes) = true) :
    Calls Try.prog 6 #[v0] W (Fine W) := by
  obtain ⟨a, len, cap, rfl, hlc, hA⟩ : ∃ a len cap, v0 = .slice a len cap ∧ len ≤ cap ∧ AsksAt W a len := by
    obtain ⟨a0, len, cap, rfl⟩ := okWide_slice Try.underlying40 o0
    obtain ⟨fuel, hf⟩ := h0
    exact open_asksT hf l0
  clear o0 h0 l0 hsz hlc
  have hlm := hA.1
  unfold maxLen at hlm
  have HA := Lib.hid hA
  clear hA
  go_enter Try.func6, Try.ntmps6
  go_wp2_with fail
  (with_reducible refine (dnew_64 _).mono ?_)
  rintro e w1 ⟨F, d, sb, mb, rfl, hD1, hF, hB1⟩
  have him := dimage_at 8192 w1 hD1 M0_len
  rw [imgM_clean (M := M0) rfl M0_mod] at him
  have HI := Lib.hid him
  have HD1 := Lib.hid hD1
  clear hD1 him
  go_wp2_with fail
  (with_reducible refine HI.out.mono ?_)
  clear HI
  rintro e w2 ⟨b2, c2, rfl, hc2, hr2, hB2⟩
  have HR2 := Lib.hid hr2
  clear hr2
  have hs1 := hB1.size
  have hs2 := hB2.size
  go_wp2_with fail
  go_loopw [5, 6] (fun sv i wr => FRel W d sb mb i sv wr) (fun _ i _ => 40 - (intOf i).toNat)
  case atStart =>
    refine ⟨0, F, [], M0, _, _, rfl, by omega, HD1.out.below hB2 (Nat.le_refl _), M0_len, Int.le_refl _, hF, hB1.trans (hB2.mono hs1), rfl, ?_⟩
    exact HR2.out.move (Nat.le_refl _) fun b hb _ => ⟨⟨by omega, fun hf => by have := HD1.out.low b hf; omega⟩, rfl⟩
  case round =>
    obtain ⟨k, F, l, M, ga, gc, rfl, hk40, hD, hsl, hwr, hF, hB, rfl, HR⟩ := hrel
    have HD := Lib.hid hD
    have hlowD := hD.low
    clear hD
    have hszr := hB.size
    by_cases hlt : k < len
    · by_cases h40 : k < 40
      · obtain ⟨g, off, rfl, hgw, hAk⟩ := HA.out.2 (by omega)
        obtain ⟨x, hx⟩ := hAk k hlt
        have i0 : (0 : Int) ≤ (k : Int) := by omega
        have i1 : (k : Int) < (len : Int) := by omega
        have i2 : (k : Int) < 40 := by omega
        have hck : wr.cell? ⟨g, off + k * 6, none⟩ = some (.int .i64 x.kind) := (hB.cell hgw).trans hx.kind.1
        have hd1 : decide (k < len) = true := by simpa using hlt
        have hd2 : decide ((k : Int) < 40) = true := by simpa using i2
        clear hAk
        by_cases hk1 : x.kind = 1
        · have e1 : (x.kind == 1) = true := by simpa using hk1
          clear hk1
          obtain ⟨a2, n2, k2, hc2c, hk2, hr2c⟩ := hx.b
          have HSZ : Hid (∀ w', Below W.heap.size W w' → Calls Try.prog 10 #[.slice a2 n2 k2, .int .i64 128] w' (NewRowN w' 128 (sizedL x.b 128))) := fun w' hw' => sized_at (S := Old W) a2 n2 k2 128 128 x.b w' (hr2c.below hw' (Nat.le_refl _)) rfl hk2 (by omega)
          have HKP : Hid (∀ w', Below W.heap.size W w' → Below W.heap.size W w' ∧ w'.cell? ⟨g, off + k * 6 + 1, none⟩ = some (.int .i64 x.i) ∧ w'.cell? ⟨g, off + k * 6 + 2, none⟩ = some (.slice a2 n2 k2)) := fun w' hw' => ⟨hw', (hw'.cell hgw).trans hx.i.1, (hw'.cell hgw).trans hc2c⟩
          have hxi := hx.i.2
          have hwb := withinI_bd x.i 0 63 (by omega)
          have HB0 := Lib.hid hB.drew
          have HX := Lib.hid hx
          have hszd : W.heap.size ≤ wr.drew.heap.size := hszr
          clear hx hr2c hc2c
          go_wp2_with fail
          go_region_held3 (fun w' => Below W.heap.size W w' ∧ w'.cell? ⟨g, off + k * 6 + 1, none⟩ = some (.int .i64 x.i) ∧ w'.cell? ⟨g, off + k * 6 + 2, none⟩ = some (.slice a2 n2 k2))
            ((first | exact HKP.out _ HB0.out | assumption | exact HKP.out _ (HB0.out.trans (hB3.mono hszd)) | exact HKP.out _ ((HB0.out.trans (hB3.mono hszd)).trans (hK4.low (Nat.le_trans hszd hB3.size) hF))))
            ((first | (go_at_call 11; refine (within_any _ 0 63 _ hxi (by omega) (by omega) (by omega)).mono ?_; rintro e w' ⟨rfl, rfl⟩) | (go_at_call 10; refine (HSZ.out _ HB0.out).mono ?_; rintro e w3 ⟨v3, rfl, hv3, hB3⟩; obtain ⟨b3, c3, rfl, hc3, hr3⟩ := hv3.row) | (go_at_call 12; refine (dwrite_any _ _ _ _ _ (by omega) _ hr3 (HD.out.drew.below hB3 (Nat.le_refl _))).mono ?_; rintro e w4 ⟨rfl, F4, l4, hD4, hF4, hK4⟩)))
          have hsec : isSec M (withinI x.i 0 63) := by unfold isSec; rw [hsl]; omega
          have hwm : writeM M (withinI x.i 0 63) (sizedL x.b 128) = ⟨M.safe, aput (fun a b : Int => decide (a < b)) (withinI x.i 0 63) (sizedL x.b 128) M.dirty, M.writes + 1⟩ := if_pos ⟨hsec, sizedL_len _ _⟩
          rw [hwm] at hD4
          have HD4 := Lib.hid hD4
          clear hD4 hwm hsec
          have hs3 := hB3.size
          have hs4 := hK4.size
          go_wp2
          go_roundw
          case rel =>
            refine ⟨k + 1, F4, l4, _, ga, gc, by go_num, by omega, HD4.out, hsl, by show M.writes + 1 ≤ _; omega, fun y hy => ?_, (HB0.out.trans (hB3.mono hszd)).trans (hK4.low (Nat.le_trans hszd hB3.size) hF), rfl, ?_⟩
            · rcases hF4 y hy with h | h
              · exact hF y h
              · exact Nat.le_trans hszd (Nat.le_trans hs3 h)
            · refine HR.out.move (Nat.le_trans (show wr.heap.size ≤ wr.drew.heap.size from Nat.le_refl _) (Nat.le_trans hs3 hs4)) fun y hy hyw => ⟨⟨hy.1, fun hf => ?_⟩, ?_⟩
              · rcases hF4 y hf with h | h
                · exact hy.2 h
                · have : w3.heap.size ≥ wr.heap.size := hs3
                  omega
              · exact (hK4.block y (Nat.lt_of_lt_of_le hyw hs3) hy.2).trans (hB3.block y hyw)
          case measure => simp [intOf]; omega
        · have e1 : (x.kind == 1) = false := by simpa using hk1
          clear hk1
          have hB0 := hB
          by_cases hk2 : x.kind = 2
          · have e2 : (x.kind == 2) = true := by simpa using hk2
            clear hk2
            have HFL := Lib.hid (dflush_any wr HD.out)
            go_wp2_with fail
            (with_reducible refine HFL.out.mono ?_)
            rintro e w3 ⟨rfl, hD3, hK3⟩
            have hl3 : (flushM M).safe.length = 8192 := (imgM_len HD.out).trans hsl
            have HL3 := Lib.hid hl3
            clear hl3 HFL
            have hi3 := dimage_at 8192 w3 hD3 HL3.out
            rw [imgM_clean (M := flushM M) rfl (by rw [HL3.out])] at hi3
            have HI3 := Lib.hid hi3
            have HD3 := Lib.hid hD3
            have hs3 := hK3.size
            clear hi3 hD3
            go_wp2_with fail
            (with_reducible refine HI3.out.mono ?_)
            rintro e w4 ⟨b4, c4, rfl, hc4, hr4, hB4⟩
            have HR4 := Lib.hid hr4
            clear hr4 HI3
            have hs4 := hB4.size
            have hdd := ddirty_any w4 (HD3.out.below hB4 (Nat.le_refl _))
            have hdk : dkeys (flushM M) = [] := rfl
            rw [hdk] at hdd
            have HDD := Lib.hid hdd
            clear hdd hdk
            go_wp2_with fail
            (with_reducible refine HDD.out.mono ?_)
            rintro e w5 ⟨a5, c5, rfl, hr5, hB5⟩
            clear hr5 HDD
            have hs5 := hB5.size
            go_wp2
            go_roundw
            case rel =>
              refine ⟨k + 1, F, [], flushM M, some ⟨b4, 0, none⟩, c4, by go_num, by omega, (HD3.out.below hB4 (Nat.le_refl _)).below hB5 (Nat.le_refl _), HL3.out, by show M.writes ≤ _; omega, hF, ((hB0.trans (hK3.low hszr hF)).trans (hB4.mono (by omega))).trans (hB5.mono (by omega)), rfl, ?_⟩
              refine HR4.out.move hs5 fun y hy hyw => ⟨⟨by omega, fun hf => by have := hlowD y hf; omega⟩, hB5.block y hyw⟩
            case measure => simp [intOf]; omega
          · have e2 : (x.kind == 2) = false := by simpa using hk2
            clear hk2
            have hcr := dcrash_nil (-1) 0 wr HD.out
            rw [crash_nothing (by have := HD.out.len; exact this.2.2) 0] at hcr
            have HCR := Lib.hid hcr
            clear hcr
            go_wp2_with fail
            (with_reducible refine HCR.out.mono ?_)
            rintro e w3 ⟨rfl, hD3, hK3⟩
            have hs3 := hK3.size
            have HR3 : Hid (RowAt (fun x => W.heap.size ≤ x ∧ ¬ F x) w3 ga 8192 (M.safe.map bv)) := HR.out.move hs3 fun y hy hyw => ⟨hy, hK3.block y hyw hy.2⟩
            have HIM : Hid (∀ w', Below w3.heap.size w3 w' → Calls Try.prog 22 #[.pointer (some ⟨d, 0, none⟩)] w' fun e w'' => ∃ b c, e = .returned (.slice (some ⟨b, 0, none⟩) 8192 c) ∧ 8192 ≤ c ∧ RowAt (fun x => w'.heap.size ≤ x ∧ x < w''.heap.size) w'' (some ⟨b, 0, none⟩) 8192 (M.safe.map bv) ∧ Below w'.heap.size w' w'') := fun w' hw' => by
              have h := dimage_at 8192 w' (hD3.below hw' (Nat.le_refl _)) hsl
              rw [imgM_clean (M := ⟨M.safe, [], M.writes⟩) rfl (by rw [hsl])] at h
              exact h
            have HCV : Hid (∀ w', Below w3.heap.size w3 w' → (convert 22 9 (.slice ga 8192 gc)).run Try.prog w' = .ok (.string (strOf M.safe)) w') := fun w' hw' => conv_row (HR3.out.below hw' (Nat.le_refl _))
            have HD3 := Lib.hid hD3
            clear hD3 HCR
            go_wp2_with fail
            refine wp_region_noPanic ?_
            refine wp_region_held_drew (S := (fun w' => Below w3.heap.size w3 w' ∧ (convert 22 9 (.slice ga 8192 gc)).run Try.prog w' = .ok (.string (strOf M.safe)) w')) (by kernel_rfl) ?_ (fun hS => ?_)
            · exact ⟨(Below.refl _ _).drew, HCV.out _ (Below.refl _ _).drew⟩
            refine wpAnyH_take (i := 0) (oi := ?oi1) (v := ?v1) ?hi1 (by kernel_rfl) (by kernel_rfl) (by kernel_rfl) ?hq1 (Or.inl ⟨?hw1, ?hy1⟩) hS ?rest1
            case hi1 => simp only [List.getElem?_toArray, List.getElem?_cons_succ, List.getElem?_cons_zero]; rfl
            case hq1 => exact fun _ _ _ h => h
            case hw1 => rfl
            case hy1 => intro w hSw; (try dsimp only at hSw); go_simp; (try with_reducible rfl)
            try simp only [Act.put, List.setIfInBounds_toArray, List.set_cons_zero, List.set_cons_succ]
            refine wpAnyH_take (i := 3) (oi := ?oi2) (v := ?v2) ?hi2 (by kernel_rfl) (by kernel_rfl) (by kernel_rfl) ?hq2 (Or.inl ⟨?hw2, ?hy2⟩) hS ?rest2
            case hi2 => simp only [List.getElem?_toArray, List.getElem?_cons_succ, List.getElem?_cons_zero]; rfl
            case hq2 => exact fun _ _ _ h => h
            case hw2 => rfl
            case hy2 => intro w hSw; (try dsimp only at hSw); go_simp; (try with_reducible rfl)
            try simp only [Act.put, List.setIfInBounds_toArray, List.set_cons_zero, List.set_cons_succ]
            refine wpAnyH_take (i := 4) (oi := ?oi3) (v := ?v3) ?hi3 (by kernel_rfl) (by kernel_rfl) (by kernel_rfl) ?hq3 (Or.inl ⟨?hw3, ?hy3⟩) hS ?rest3
            case hi3 => simp only [List.getElem?_toArray, List.getElem?_cons_succ, List.getElem?_cons_zero]; rfl
            case hq3 => exact fun _ _ _ h => h
            case hw3 => rfl
            case hy3 => intro w hSw; (try dsimp only at hSw); go_simp; (try with_reducible rfl)
            try simp only [Act.put, List.setIfInBounds_toArray, List.set_cons_zero, List.set_cons_succ]
            refine wpAnyH_ready (rs := [1]) (by kernel_rfl) (by simp) ?_
            refine AllReadyH.cons (o := ?o4) ?ho4 (fun K hK => ?_) AllReadyH.nil
            case ho4 => simp only [List.getElem?_toArray, List.getElem?_cons_succ, List.getElem?_cons_zero]; rfl
            go_simp
            (with_reducible refine (HIM.out _ hS.1).mono ?_)
            rintro e w4 ⟨b4, c4, rfl, hc4, hr4, hB4⟩
            go_wp2_with fail
            have hB34 := hS.1.trans (hB4.mono hS.1.size)
            refine hK.out _ _ (⟨hB34, HCV.out _ hB34⟩) (fun hS => ?_)
            clear hK K
            try simp only [Act.put, List.setIfInBounds_toArray, List.set_cons_zero, List.set_cons_succ]
            refine wpAnyH_mono (S' := fun w' => (Below w3.heap.size w3 w' ∧ (convert 22 9 (.slice ga 8192 gc)).run Try.prog w' = .ok (.string (strOf M.safe)) w') ∧ (convert 22 9 (.slice (some ⟨b4, 0, none⟩) 8192 c4)).run Try.prog w' = .ok (.string (strOf M.safe)) w') (fun _ h => h.1) _ _ _ _ ?_
            have hSx5 := And.intro hS (conv_row (c := c4) hr4)
            clear hS
            have hS := hSx5
            clear hSx5
            refine wpAnyH_take (i := 2) (oi := ?oi6) (v := ?v6) ?hi6 (by kernel_rfl) (by kernel_rfl) (by kernel_rfl) ?hq6 (Or.inl ⟨?hw6, ?hy6⟩) hS ?rest6
            case hi6 => simp only [List.getElem?_toArray, List.getElem?_cons_succ, List.getElem?_cons_zero]; rfl
            case hq6 => exact fun _ _ _ h => h
            case hw6 => rfl
            case hy6 => intro w hSw; (try dsimp only at hSw); go_simp; (try with_reducible rfl)
            try simp only [Act.put, List.setIfInBounds_toArray, List.set_cons_zero, List.set_cons_succ]
            refine wpAnyH_take (i := 5) (oi := ?oi7) (v := ?v7) ?hi7 (by kernel_rfl) (by kernel_rfl) (by kernel_rfl) ?hq7 (Or.inl ⟨?hw7, ?hy7⟩) hS ?rest7
            case hi7 => simp only [List.getElem?_toArray, List.getElem?_cons_succ, List.getElem?_cons_zero]; rfl
            case hq7 => exact fun _ _ _ h => h
            case hw7 => rfl
            case hy7 => intro w hSw; (try dsimp only at hSw); go_simp; (try with_reducible rfl)
            try simp only [Act.put, List.setIfInBounds_toArray, List.set_cons_zero, List.set_cons_succ]
            refine wpAnyH_done (by kernel_rfl) ?_ _
            refine NoPanic.normal ?_
            clear hS hr4
            go_wp2
            go_roundw
            case rel =>
              refine ⟨k + 1, F, [], ⟨M.safe, [], M.writes⟩, ga, gc, by go_num, by omega, HD3.out.below hB34 (Nat.le_refl _), hsl, by show M.writes ≤ _; omega, hF, (hB0.trans (hK3.low hszr hF)).trans (hB34.mono (by omega)), rfl, ?_⟩
              exact HR3.out.below hB34 (Nat.le_refl _)
            case measure => simp [intOf]; omega
      · have hd1 : decide (k < len) = true := by simpa using hlt
        have hd2 : decide ((k : Int) < 40) = false := by simp; omega
        have hB0 := hB
        have hcr := dcrash_nil (-1) 0 wr HD.out
        rw [crash_nothing (by have := HD.out.len; exact this.2.2) 0] at hcr
        have HCR := Lib.hid hcr
        clear hcr
        go_wp2_with fail
        (with_reducible refine HCR.out.mono ?_)
        rintro e w3 ⟨rfl, hD3, hK3⟩
        have hs3 := hK3.size
        have HR3 : Hid (RowAt (fun x => W.heap.size ≤ x ∧ ¬ F x) w3 ga 8192 (M.safe.map bv)) := HR.out.move hs3 fun y hy hyw => ⟨hy, hK3.block y hyw hy.2⟩
        have HIM : Hid (∀ w', Below w3.heap.size w3 w' → Calls Try.prog 22 #[.pointer (some ⟨d, 0, none⟩)] w' fun e w'' => ∃ b c, e = .returned (.slice (some ⟨b, 0, none⟩) 8192 c) ∧ 8192 ≤ c ∧ RowAt (fun x => w'.heap.size ≤ x ∧ x < w''.heap.size) w'' (some ⟨b, 0, none⟩) 8192 (M.safe.map bv) ∧ Below w'.heap.size w' w'') := fun w' hw' => by
          have h := dimage_at 8192 w' (hD3.below hw' (Nat.le_refl _)) hsl
          rw [imgM_clean (M := ⟨M.safe, [], M.writes⟩) rfl (by rw [hsl])] at h
          exact h
        have HCV : Hid (∀ w', Below w3.heap.size w3 w' → (convert 22 9 (.slice ga 8192 gc)).run Try.prog w' = .ok (.string (strOf M.safe)) w') := fun w' hw' => conv_row (HR3.out.below hw' (Nat.le_refl _))
        have HD3 := Lib.hid hD3
        clear hD3 HCR
        go_wp2_with fail
        refine wp_region_noPanic ?_
        refine wp_region_held_drew (S := (fun w' => Below w3.heap.size w3 w' ∧ (convert 22 9 (.slice ga 8192 gc)).run Try.prog w' = .ok (.string (strOf M.safe)) w')) (by kernel_rfl) ?_ (fun hS => ?_)
        · exact ⟨(Below.refl _ _).drew, HCV.out _ (Below.refl _ _).drew⟩
        refine wpAnyH_take (i := 0) (oi := ?oi8) (v := ?v8) ?hi8 (by kernel_rfl) (by kernel_rfl) (by kernel_rfl) ?hq8 (Or.inl ⟨?hw8, ?hy8⟩) hS ?rest8
        case hi8 => simp only [List.getElem?_toArray, List.getElem?_cons_succ, List.getElem?_cons_zero]; rfl
        case hq8 => exact fun _ _ _ h => h
        case hw8 => rfl
        case hy8 => intro w hSw; (try dsimp only at hSw); go_simp; (try with_reducible rfl)
        try simp only [Act.put, List.setIfInBounds_toArray, List.set_cons_zero, List.set_cons_succ]
        refine wpAnyH_take (i := 3) (oi := ?oi9) (v := ?v9) ?hi9 (by kernel_rfl) (by kernel_rfl) (by kernel_rfl) ?hq9 (Or.inl ⟨?hw9, ?hy9⟩) hS ?rest9
        case hi9 => simp only [List.getElem?_toArray, List.getElem?_cons_succ, List.getElem?_cons_zero]; rfl
        case hq9 => exact fun _ _ _ h => h
        case hw9 => rfl
        case hy9 => intro w hSw; (try dsimp only at hSw); go_simp; (try with_reducible rfl)
        try simp only [Act.put, List.setIfInBounds_toArray, List.set_cons_zero, List.set_cons_succ]
        refine wpAnyH_take (i := 4) (oi := ?oi10) (v := ?v10) ?hi10 (by kernel_rfl) (by kernel_rfl) (by kernel_rfl) ?hq10 (Or.inl ⟨?hw10, ?hy10⟩) hS ?rest10
        case hi10 => simp only [List.getElem?_toArray, List.getElem?_cons_succ, List.getElem?_cons_zero]; rfl
        case hq10 => exact fun _ _ _ h => h
        case hw10 => rfl
        case hy10 => intro w hSw; (try dsimp only at hSw); go_simp; (try with_reducible rfl)
        try simp only [Act.put, List.setIfInBounds_toArray, List.set_cons_zero, List.set_cons_succ]
        refine wpAnyH_ready (rs := [1]) (by kernel_rfl) (by simp) ?_
        refine AllReadyH.cons (o := ?o11) ?ho11 (fun K hK => ?_) AllReadyH.nil
        case ho11 => simp only [List.getElem?_toArray, List.getElem?_cons_succ, List.getElem?_cons_zero]; rfl
        go_simp
        (with_reducible refine (HIM.out _ hS.1).mono ?_)
        rintro e w4 ⟨b4, c4, rfl, hc4, hr4, hB4⟩
        go_wp2_with fail
        have hB34 := hS.1.trans (hB4.mono hS.1.size)
        refine hK.out _ _ (⟨hB34, HCV.out _ hB34⟩) (fun hS => ?_)
        clear hK K
        try simp only [Act.put, List.setIfInBounds_toArray, List.set_cons_zero, List.set_cons_succ]
        refine wpAnyH_mono (S' := fun w' => (Below w3.heap.size w3 w' ∧ (convert 22 9 (.slice ga 8192 gc)).run Try.prog w' = .ok (.string (strOf M.safe)) w') ∧ (convert 22 9 (.slice (some ⟨b4, 0, none⟩) 8192 c4)).run Try.prog w' = .ok (.string (strOf M.safe)) w') (fun _ h => h.1) _ _ _ _ ?_
        have hSx12 := And.intro hS (conv_row (c := c4) hr4)
        clear hS
        have hS := hSx12
        clear hSx12
        have HR4 := Lib.hid hr4
        clear hr4
        refine wpAnyH_take (i := 2) (oi := ?oi13) (v := ?v13) ?hi13 (by kernel_rfl) (by kernel_rfl) (by kernel_rfl) ?hq13 (Or.inl ⟨?hw13, ?hy13⟩) hS ?rest13
        case hi13 => simp only [List.getElem?_toArray, List.getElem?_cons_succ, List.getElem?_cons_zero]; rfl
        case hq13 => exact fun _ _ _ h => h
        case hw13 => rfl
        case hy13 => intro w hSw; (try dsimp only at hSw); go_simp; (try with_reducible rfl)
        try simp only [Act.put, List.setIfInBounds_toArray, List.set_cons_zero, List.set_cons_succ]
        refine wpAnyH_take (i := 5) (oi := ?oi14) (v := ?v14) ?hi14 (by kernel_rfl) (by kernel_rfl) (by kernel_rfl) ?hq14 (Or.inl ⟨?hw14, ?hy14⟩) hS ?rest14
        case hi14 => simp only [List.getElem?_toArray, List.getElem?_cons_succ, List.getElem?_cons_zero]; rfl
        case hq14 => exact fun _ _ _ h => h
        case hw14 => rfl
        case hy14 => intro w hSw; (try dsimp only at hSw); go_simp; (try with_reducible rfl)
        try simp only [Act.put, List.setIfInBounds_toArray, List.set_cons_zero, List.set_cons_succ]
        refine wpAnyH_take (i := 6) (oi := ?oi15) (v := ?v15) ?hi15 (by kernel_rfl) (by kernel_rfl) (by kernel_rfl) ?hq15 (Or.inl ⟨?hw15, ?hy15⟩) hS ?rest15
        case hi15 => simp only [List.getElem?_toArray, List.getElem?_cons_succ, List.getElem?_cons_zero]; rfl
        case hq15 => exact fun _ _ _ h => h
        case hw15 => rfl
        case hy15 => intro w hSw; (try dsimp only at hSw); go_simp; (try with_reducible rfl)
        try simp only [Act.put, List.setIfInBounds_toArray, List.set_cons_zero, List.set_cons_succ]
        refine wpAnyH_ready (rs := [7]) (by kernel_rfl) (by simp) ?_
        refine AllReadyH.cons (o := ?o16) ?ho16 (fun K hK => ?_) AllReadyH.nil
        case ho16 => simp only [List.getElem?_toArray, List.getElem?_cons_succ, List.getElem?_cons_zero]; rfl
        go_simp
        (with_reducible refine (known5_any _).mono ?_)
        rintro e w5 ⟨rfl, hB5⟩
        go_wp2_with fail
        have hB35 := hB34.trans (hB5.mono hB34.size)
        refine hK.out _ _ (⟨⟨hB35, HCV.out _ hB35⟩, conv_row (c := c4) (HR4.out.below hB5 (Nat.le_refl _))⟩) (fun hS => ?_)
        clear hK K
        try simp only [Act.put, List.setIfInBounds_toArray, List.set_cons_zero, List.set_cons_succ]
        refine wpAnyH_take (i := 8) (oi := ?oi17) (v := ?v17) ?hi17 (by kernel_rfl) (by kernel_rfl) (by kernel_rfl) ?hq17 (Or.inl ⟨?hw17, ?hy17⟩) hS ?rest17
        case hi17 => simp only [List.getElem?_toArray, List.getElem?_cons_succ, List.getElem?_cons_zero]; rfl
        case hq17 => exact fun _ _ _ h => h
        case hw17 => rfl
        case hy17 => intro w hSw; (try dsimp only at hSw); go_simp; (try with_reducible rfl)
        try simp only [Act.put, List.setIfInBounds_toArray, List.set_cons_zero, List.set_cons_succ]
        refine wpAnyH_take (i := 9) (oi := ?oi18) (v := ?v18) ?hi18 (by kernel_rfl) (by kernel_rfl) (by kernel_rfl) ?hq18 (Or.inl ⟨?hw18, ?hy18⟩) hS ?rest18
        case hi18 => simp only [List.getElem?_toArray, List.getElem?_cons_succ, List.getElem?_cons_zero]; rfl
        case hq18 => exact fun _ _ _ h => h
        case hw18 => rfl
        case hy18 => intro w hSw; (try dsimp only at hSw); go_simp; (try with_reducible rfl)
        try simp only [Act.put, List.setIfInBounds_toArray, List.set_cons_zero, List.set_cons_succ]
        refine wpAnyH_done (by kernel_rfl) ?_ _
        refine NoPanic.normal ?_
        clear hS
        go_wp2
        go_ret
        exact ⟨rfl, (hB0.trans (hK3.low hszr hF)).trans (hB35.mono (by omega))⟩
    · have hd1 : decide (k < len) = false := by simpa using hlt
      have hB0 := hB
      have hcr := dcrash_nil (-1) 0 wr HD.out
      rw [crash_nothing (by have := HD.out.len; exact this.2.2) 0] at hcr
      have HCR := Lib.hid hcr
      clear hcr
      go_wp2_with fail
      (with_reducible refine HCR.out.mono ?_)
      rintro e w3 ⟨rfl, hD3, hK3⟩
      have hs3 := hK3.size
      have HR3 : Hid (RowAt (fun x => W.heap.size ≤ x ∧ ¬ F x) w3 ga 8192 (M.safe.map bv)) := HR.out.move hs3 fun y hy hyw => ⟨hy, hK3.block y hyw hy.2⟩
      have HIM : Hid (∀ w', Below w3.heap.size w3 w' → Calls Try.prog 22 #[.pointer (some ⟨d, 0, none⟩)] w' fun e w'' => ∃ b c, e = .returned (.slice (some ⟨b, 0, none⟩) 8192 c) ∧ 8192 ≤ c ∧ RowAt (fun x => w'.heap.size ≤ x ∧ x < w''.heap.size) w'' (some ⟨b, 0, none⟩) 8192 (M.safe.map bv) ∧ Below w'.heap.size w' w'') := fun w' hw' => by
        have h := dimage_at 8192 w' (hD3.below hw' (Nat.le_refl _)) hsl
        rw [imgM_clean (M := ⟨M.safe, [], M.writes⟩) rfl (by rw [hsl])] at h
        exact h
      have HCV : Hid (∀ w', Below w3.heap.size w3 w' → (convert 22 9 (.slice ga 8192 gc)).run Try.prog w' = .ok (.string (strOf M.safe)) w') := fun w' hw' => conv_row (HR3.out.below hw' (Nat.le_refl _))
      have HD3 := Lib.hid hD3
      clear hD3 HCR
      go_wp2_with fail
      refine wp_region_noPanic ?_
      refine wp_region_held_drew (S := (fun w' => Below w3.heap.size w3 w' ∧ (convert 22 9 (.slice ga 8192 gc)).run Try.prog w' = .ok (.string (strOf M.safe)) w')) (by kernel_rfl) ?_ (fun hS => ?_)
      · exact ⟨(Below.refl _ _).drew, HCV.out _ (Below.refl _ _).drew⟩
      refine wpAnyH_take (i := 0) (oi := ?oi19) (v := ?v19) ?hi19 (by kernel_rfl) (by kernel_rfl) (by kernel_rfl) ?hq19 (Or.inl ⟨?hw19, ?hy19⟩) hS ?rest19
      case hi19 => simp only [List.getElem?_toArray, List.getElem?_cons_succ, List.getElem?_cons_zero]; rfl
      case hq19 => exact fun _ _ _ h => h
      case hw19 => rfl
      case hy19 => intro w hSw; (try dsimp only at hSw); go_simp; (try with_reducible rfl)
      try simp only [Act.put, List.setIfInBounds_toArray, List.set_cons_zero, List.set_cons_succ]
      refine wpAnyH_take (i := 3) (oi := ?oi20) (v := ?v20) ?hi20 (by kernel_rfl) (by kernel_rfl) (by kernel_rfl) ?hq20 (Or.inl ⟨?hw20, ?hy20⟩) hS ?rest20
      case hi20 => simp only [List.getElem?_toArray, List.getElem?_cons_succ, List.getElem?_cons_zero]; rfl
      case hq20 => exact fun _ _ _ h => h
      case hw20 => rfl
      case hy20 => intro w hSw; (try dsimp only at hSw); go_simp; (try with_reducible rfl)
      try simp only [Act.put, List.setIfInBounds_toArray, List.set_cons_zero, List.set_cons_succ]
      refine wpAnyH_take (i := 4) (oi := ?oi21) (v := ?v21) ?hi21 (by kernel_rfl) (by kernel_rfl) (by kernel_rfl) ?hq21 (Or.inl ⟨?hw21, ?hy21⟩) hS ?rest21
      case hi21 => simp only [List.getElem?_toArray, List.getElem?_cons_succ, List.getElem?_cons_zero]; rfl
      case hq21 => exact fun _ _ _ h => h
      case hw21 => rfl
      case hy21 => intro w hSw; (try dsimp only at hSw); go_simp; (try with_reducible rfl)
      try simp only [Act.put, List.setIfInBounds_toArray, List.set_cons_zero, List.set_cons_succ]
      refine wpAnyH_ready (rs := [1]) (by kernel_rfl) (by simp) ?_
      refine AllReadyH.cons (o := ?o22) ?ho22 (fun K hK => ?_) AllReadyH.nil
      case ho22 => simp only [List.getElem?_toArray, List.getElem?_cons_succ, List.getElem?_cons_zero]; rfl
      go_simp
      (with_reducible refine (HIM.out _ hS.1).mono ?_)
      rintro e w4 ⟨b4, c4, rfl, hc4, hr4, hB4⟩
      go_wp2_with fail
      have hB34 := hS.1.trans (hB4.mono hS.1.size)
      refine hK.out _ _ (⟨hB34, HCV.out _ hB34⟩) (fun hS => ?_)
      clear hK K
      try simp only [Act.put, List.setIfInBounds_toArray, List.set_cons_zero, List.set_cons_succ]
      refine wpAnyH_mono (S' := fun w' => (Below w3.heap.size w3 w' ∧ (convert 22 9 (.slice ga 8192 gc)).run Try.prog w' = .ok (.string (strOf M.safe)) w') ∧ (convert 22 9 (.slice (some ⟨b4, 0, none⟩) 8192 c4)).run Try.prog w' = .ok (.string (strOf M.safe)) w') (fun _ h => h.1) _ _ _ _ ?_
      have hSx23 := And.intro hS (conv_row (c := c4) hr4)
      clear hS
      have hS := hSx23
      clear hSx23
      have HR4 := Lib.hid hr4
      clear hr4
      refine wpAnyH_take (i := 2) (oi := ?oi24) (v := ?v24) ?hi24 (by kernel_rfl) (by kernel_rfl) (by kernel_rfl) ?hq24 (Or.inl ⟨?hw24, ?hy24⟩) hS ?rest24
      case hi24 => simp only [List.getElem?_toArray, List.getElem?_cons_succ, List.getElem?_cons_zero]; rfl
      case hq24 => exact fun _ _ _ h => h
      case hw24 => rfl
      case hy24 => intro w hSw; (try dsimp only at hSw); go_simp; (try with_reducible rfl)
      try simp only [Act.put, List.setIfInBounds_toArray, List.set_cons_zero, List.set_cons_succ]
      refine wpAnyH_take (i := 5) (oi := ?oi25) (v := ?v25) ?hi25 (by kernel_rfl) (by kernel_rfl) (by kernel_rfl) ?hq25 (Or.inl ⟨?hw25, ?hy25⟩) hS ?rest25
      case hi25 => simp only [List.getElem?_toArray, List.getElem?_cons_succ, List.getElem?_cons_zero]; rfl
      case hq25 => exact fun _ _ _ h => h
      case hw25 => rfl
      case hy25 => intro w hSw; (try dsimp only at hSw); go_simp; (try with_reducible rfl)
      try simp only [Act.put, List.setIfInBounds_toArray, List.set_cons_zero, List.set_cons_succ]
      refine wpAnyH_take (i := 6) (oi := ?oi26) (v := ?v26) ?hi26 (by kernel_rfl) (by kernel_rfl) (by kernel_rfl) ?hq26 (Or.inl ⟨?hw26, ?hy26⟩) hS ?rest26
      case hi26 => simp only [List.getElem?_toArray, List.getElem?_cons_succ, List.getElem?_cons_zero]; rfl
      case hq26 => exact fun _ _ _ h => h
      case hw26 => rfl
      case hy26 => intro w hSw; (try dsimp only at hSw); go_simp; (try with_reducible rfl)
      try simp only [Act.put, List.setIfInBounds_toArray, List.set_cons_zero, List.set_cons_succ]
      refine wpAnyH_ready (rs := [7]) (by kernel_rfl) (by simp) ?_
      refine AllReadyH.cons (o := ?o27) ?ho27 (fun K hK => ?_) AllReadyH.nil
      case ho27 => simp only [List.getElem?_toArray, List.getElem?_cons_succ, List.getElem?_cons_zero]; rfl
      go_simp
      (with_reducible refine (known5_any _).mono ?_)
      rintro e w5 ⟨rfl, hB5⟩
      go_wp2_with fail
      have hB35 := hB34.trans (hB5.mono hB34.size)
      refine hK.out _ _ (⟨⟨hB35, HCV.out _ hB35⟩, conv_row (c := c4) (HR4.out.below hB5 (Nat.le_refl _))⟩) (fun hS => ?_)
      clear hK K
      try simp only [Act.put, List.setIfInBounds_toArray, List.set_cons_zero, List.set_cons_succ]
      refine wpAnyH_take (i := 8) (oi := ?oi28) (v := ?v28) ?hi28 (by kernel_rfl) (by kernel_rfl) (by kernel_rfl) ?hq28 (Or.inl ⟨?hw28, ?hy28⟩) hS ?rest28
      case hi28 => simp only [List.getElem?_toArray, List.getElem?_cons_succ, List.getElem?_cons_zero]; rfl
      case hq28 => exact fun _ _ _ h => h
      case hw28 => rfl
      case hy28 => intro w hSw; (try dsimp only at hSw); go_simp; (try with_reducible rfl)
      try simp only [Act.put, List.setIfInBounds_toArray, List.set_cons_zero, List.set_cons_succ]
      refine wpAnyH_take (i := 9) (oi := ?oi29) (v := ?v29) ?hi29 (by kernel_rfl) (by kernel_rfl) (by kernel_rfl) ?hq29 (Or.inl ⟨?hw29, ?hy29⟩) hS ?rest29
      case hi29 => simp only [List.getElem?_toArray, List.getElem?_cons_succ, List.getElem?_cons_zero]; rfl
      case hq29 => exact fun _ _ _ h => h
      case hw29 => rfl
      case hy29 => intro w hSw; (try dsimp only at hSw); go_simp; (try with_reducible rfl)
      try simp only [Act.put, List.setIfInBounds_toArray, List.set_cons_zero, List.set_cons_succ]
      refine wpAnyH_done (by kernel_rfl) ?_ _
      refine NoPanic.normal ?_
      clear hS
      go_wp2
      go_ret
      exact ⟨rfl, (hB0.trans (hK3.low hszr hF)).trans (hB35.mono (by omega))⟩
end Go.Proofs.Ytkdomgiabiedlaa.diskFlush
