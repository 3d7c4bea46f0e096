/- StateRefused: the walk. -/
import Derived.Test.YtpgklnhkfgbpgaaGreatDoorM45
import Derived.Test.YtpgklnhkfgbpgaaGreatDoorM48
import Derived.Test.YtpgklnhkfgbpgaaGreatDoorM55
import Derived.Test.YtpgklnhkfgbpgaaGreatDoorM49
import Derived.Test.YtpgklnhkfgbpgaaGreatDoorM26
namespace Go.Proofs.YtpgklnhkfgbpgaaGreatDoor.stateRefused
open Go.ChangeShapes Go.WideShapes Go.ChangeAt Go.RowKit
set_option linter.unusedVariables false
set_option linter.unusedSimpArgs false

set_option maxRecDepth 100000 in
theorem open_arg {H : Type} {enc : TypeId × Value → H} {W : World} {base : Nat} {v0 : Value} {d0 : DataW H} {p0 : List MemPlace} (h0 : DataW.Trod enc Tryz.prog W 0 (fun _ => true) true 23 v0 d0 p0) (l0 : ∀ x ∈ p0, x.block < W.heap.size) (o0 : Value.okWide Tryz.prog W .any base 23 v0) (hw : ∀ n ∈ d0.weights Tryz.prog 23, n ≤ reachBytes) :
    ∃ a len cap, v0 = .slice a len cap ∧ len ≤ cap ∧ OpsAt W a len := by
  obtain ⟨a0, len, cap, rfl⟩ := okWide_slice Tryz.underlying23 o0
  obtain ⟨fuel, hf⟩ := h0
  exact open_ops hf l0 hw
theorem _root_.Go.Proofs.YtpgklnhkfgbpgaaGreatDoor.StW.okM {W : World} {o : Mark} {i : Nat} {w : World} {p : Nat} {c : Int} {M : StM} (h : StW W o i w p c M) : OkM M.t := h.ok.t.1
theorem turns_any (x : OpM) (da : Option Addr) (dc : Nat) (w : World) : Calls Tryz.prog 30 #[.agg (opC x da dc)] w fun e w' => e = .returned (.bool (turnsB x)) ∧ Below w.heap.size w w' := by
  obtain ⟨kd, pa, to_, fd, at_, nn, til, sn, dt⟩ := x
  unfold opC
  have key : ∀ (kd : Int), turnsB ⟨kd, pa, to_, fd, at_, nn, til, sn, dt⟩ = decide (1 ≤ kd ∧ kd ≤ 17 ∧ kd ≠ 4 ∧ kd ≠ 11 ∧ kd ≠ 12 ∧ kd ≠ 17) := fun _ => rfl
  rw [key]
  clear key
  by_cases h4 : kd = 4
  · subst h4
    go_enter Tryz.func30, Tryz.ntmps30
    go_wp2_with fail
    go_ret
    exact ⟨rfl, wall w _⟩
  by_cases h11 : kd = 11
  · subst h11
    go_enter Tryz.func30, Tryz.ntmps30
    go_wp2_with fail
    go_ret
    exact ⟨rfl, wall w _⟩
  by_cases h12 : kd = 12
  · subst h12
    go_enter Tryz.func30, Tryz.ntmps30
    go_wp2_with fail
    go_ret
    exact ⟨rfl, wall w _⟩
  by_cases h17 : kd = 17
  · subst h17
    go_enter Tryz.func30, Tryz.ntmps30
    go_wp2_with fail
    go_ret
    exact ⟨rfl, wall w _⟩
  have e4 : (kd == 4) = false := by simpa using h4
  have e11 : (kd == 11) = false := by simpa using h11
  have e12 : (kd == 12) = false := by simpa using h12
  have e17 : (kd == 17) = false := by simpa using h17
  by_cases h1 : 1 ≤ kd
  · by_cases h2 : kd ≤ 17
    · have hr : Hid (decide (1 ≤ kd ∧ kd ≤ 17 ∧ kd ≠ 4 ∧ kd ≠ 11 ∧ kd ≠ 12 ∧ kd ≠ 17) = true) := Lib.hid (by simp; omega)
      have g1 : decide (1 ≤ kd) = true := by simpa using h1
      have g2 : decide (kd ≤ 17) = true := by simpa using h2
      clear h4 h11 h12 h17
      rw [hr.out]
      go_enter Tryz.func30, Tryz.ntmps30
      go_wp2_with fail
      go_ret
      exact ⟨rfl, wall w _⟩
    · have hr : Hid (decide (1 ≤ kd ∧ kd ≤ 17 ∧ kd ≠ 4 ∧ kd ≠ 11 ∧ kd ≠ 12 ∧ kd ≠ 17) = false) := Lib.hid (by simp; omega)
      have g1 : decide (1 ≤ kd) = true := by simpa using h1
      have g2 : decide (kd ≤ 17) = false := by simpa using h2
      clear h4 h11 h12 h17
      rw [hr.out]
      go_enter Tryz.func30, Tryz.ntmps30
      go_wp2_with fail
      go_ret
      exact ⟨rfl, wall w _⟩
  · have hr : Hid (decide (1 ≤ kd ∧ kd ≤ 17 ∧ kd ≠ 4 ∧ kd ≠ 11 ∧ kd ≠ 12 ∧ kd ≠ 17) = false) := Lib.hid (by simp; omega)
    have g1 : decide (1 ≤ kd) = false := by simpa using h1
    clear h4 h11 h12 h17
    rw [hr.out]
    go_enter Tryz.func30, Tryz.ntmps30
    go_wp2_with fail
    go_ret
    exact ⟨rfl, wall w _⟩
def FRel (W : World) (p : Nat) (iv : Value) (wr : World) : Prop := ∃ (k : Nat) (o : Mark) (M : StM), iv = .int .i64 k ∧ k ≤ 60 ∧ StW W o 1 wr p (1 + k) M ∧ SnIds M.s
set_option maxRecDepth 100000 in
set_option maxHeartbeats 64000000 in
theorem walk {H : Type} {enc : TypeId × Value → H} (W : World) (base : Nat) (hsh : W.ShapedOpen Tryz.prog) (v0 : Value) (d0 : DataW H) (p0 : List MemPlace) (o0 : Value.okWide Tryz.prog W .any base 23 v0) (h0 : DataW.Trod enc Tryz.prog W 0 (fun _ => true) true 23 v0 d0 p0) (l0 : ∀ x ∈ p0, x.block < W.heap.size) (hsz : (DataW.weightsEach Tryz.prog [23] ([d0] : List (DataW H))).all (· ≤ reachBytes) = true) :
    Calls Tryz.prog 10 #[v0] W (Fine W) := by
  obtain ⟨m, hm, -⟩ := maxLen_cell hsh
  obtain ⟨a, len, cap, rfl, hlc, hops⟩ := open_arg h0 l0 o0 (fun n hn => by
    rw [List.all_eq_true] at hsz
    exact of_decide_eq_true (hsz n (weightsEach_at (j := 0) rfl rfl n hn)))
  have hlm := hops.1
  unfold maxLen at hlm
  have HM := Lib.hid hm
  have HO := Lib.hid hops
  clear hm hops o0 h0 l0 hsz hsh
  go_enter Tryz.func10, Tryz.ntmps10
  go_wp2_with fail
  (with_reducible refine (st_new (i := 1) (marks0 W) (by omega)).mono ?_)
  rintro e w1 ⟨p, o1, rfl, hs1, hS1⟩
  have HS1 := Lib.hid hS1
  clear hs1 hS1
  go_wp2_with fail
  go_loopw [4, 5, 6, 7, 8, 9, 10, 11, 12] (fun iv _ _ _ _ _ _ _ _ wr => FRel W p iv wr) (fun iv _ _ _ _ _ _ _ _ _ => 60 - (intOf iv).toNat)
  case atStart => exact ⟨0, o1, newSt, rfl, by omega, HS1.out, SnIds.new⟩
  case round =>
    obtain ⟨k, o2, M, rfl, hk, hS, hID⟩ := hrel
    have HS := Lib.hid hS
    have HID := Lib.hid hID
    have hbW := hS.below
    clear hS hID
    by_cases hlt : k < len
    · by_cases h60 : k < 60
      · obtain ⟨b, off, rfl, hbl, hat⟩ := HO.out.2 (by omega)
        obtain ⟨x, da, dc, hx⟩ := hat k hlt
        obtain ⟨d0, d1, d2, d3, d4, d5, d6, d7, d8⟩ := hx.up hbW hbl
        have HX := Lib.hid hx
        have hd1 : decide ((k : Int) < (len : Int)) = true := by simp; omega
        have hd2 : decide ((k : Int) < 60) = true := by simp; omega
        have i0 : (0 : Int) ≤ (k : Int) := by omega
        have i1 : (k : Int) < (len : Int) := by omega
        have HT := Lib.hid (tame_any wr x hx.ok da dc hx.cap (hx.row.below hbW (Nat.le_refl _)))
        unfold opC at HT
        clear hx hat
        go_wp2_with fail
        (with_reducible refine HT.out.mono ?_)
        rintro e w2 ⟨y, dc2, rfl, hty, hcap, hrow, hb2⟩
        have HYOK := Lib.hid (hty.ok HX.out.ok)
        have HROW := Lib.hid hrow
        have HS2 := Lib.hid (HS.out.grow hb2)
        clear hty hcap hrow hb2 HT HS d0 d1 d2 d3 d4 d5 d6 d7 d8 hbW
        go_wp2_with (refine wpList_store_rep (by rfl) 36 _ _ (by rfl) _ (opC y da dc2) (by rfl) (by rfl) _ (MapKept.heap_alloc _ _).1 opSize rfl (opC_one _ _ _) ?_; intro w3 hs3; obtain ⟨o3, hs3x, hv3⟩ := op_var HS2.out.marks 9 hs3; have HR3 := Lib.hid (HROW.out.below (hs3.below (wall w2 (.cells opZ 36)) (Nat.le_refl _)) (by have := HS2.out.below.size; omega)); have HV3 := Lib.hid hv3; have HS3 := Lib.hid (HS2.out.one (by omega) hs3x); clear hs3 hs3x hv3 HS2 HROW)
        have hsv3 : SvOk M.s := HS3.out.ok.sv (by omega) HID.out
        have HSV := Lib.hid hsv3
        clear hsv3
        have HZ3 := Lib.hid (HS3.out.grow (Below.refl _ _).drew)
        have HZV := Lib.hid (HV3.out.grow HS3.out.marks (Below.refl _ _).drew)
        have HSA := Lib.hid (stsave_any HZ3.out.st HZ3.out.marks HZ3.out.ok HSV.out)
        refine wp_region_noPanic ?_
        refine wp_region_held_drew (S := (fun _ => True)) (by kernel_rfl) ?_ (fun hS => ?_)
        · exact trivial
        refine wpAnyH_take (i := 0) (oi := ?oi1) (v := ?v1) ?hi1 (by kernel_rfl) (by kernel_rfl) (by kernel_rfl) ?hq1 (Or.inl ⟨?hw1, ?hy1⟩) hS ?rest1
        case hi1 => simp only [List.getElem?_toArray, List.getElem?_cons_succ, List.getElem?_cons_zero]; rfl
        case hq1 => exact fun _ _ _ h => h
        case hw1 => rfl
        case hy1 => intro w hSw; (try dsimp only at hSw); go_simp; (try with_reducible rfl)
        try simp only [Act.put, List.setIfInBounds_toArray, List.set_cons_zero, List.set_cons_succ]
        refine wpAnyH_take (i := 3) (oi := ?oi2) (v := ?v2) ?hi2 (by kernel_rfl) (by kernel_rfl) (by kernel_rfl) ?hq2 (Or.inl ⟨?hw2, ?hy2⟩) hS ?rest2
        case hi2 => simp only [List.getElem?_toArray, List.getElem?_cons_succ, List.getElem?_cons_zero]; rfl
        case hq2 => exact fun _ _ _ h => h
        case hw2 => rfl
        case hy2 => intro w hSw; (try dsimp only at hSw); go_simp; (try with_reducible rfl)
        try simp only [Act.put, List.setIfInBounds_toArray, List.set_cons_zero, List.set_cons_succ]
        refine wpAnyH_ready (rs := [1]) (by kernel_rfl) (by simp) ?_
        refine AllReadyH.cons (o := ?o3) ?ho3 (fun K hK => ?_) AllReadyH.nil
        case ho3 => simp only [List.getElem?_toArray, List.getElem?_cons_succ, List.getElem?_cons_zero]; rfl
        go_simp
        (with_reducible refine HSA.out.mono ?_)
        rintro e w4 ⟨ra, rn, rc, rfl, hrc, hrr, hb4⟩
        have HRR := Lib.hid hrr
        have HS4 := Lib.hid (HZ3.out.grow hb4)
        have HV4 := Lib.hid (HZV.out.grow HZ3.out.marks hb4)
        have HR4 := Lib.hid ((HR3.out.below (Below.refl _ _).drew (Nat.le_refl _)).below hb4 (Nat.le_refl _))
        clear hrr hb4 HSA HZ3 HZV HS3 HV3 HR3
        go_wp2_with fail
        refine hK.out _ _ (trivial) (fun hS => ?_)
        clear hK K
        try simp only [Act.put, List.setIfInBounds_toArray, List.set_cons_zero, List.set_cons_succ]
        refine wpAnyH_mono (S' := fun w' => True ∧ (convert 22 9 (.slice ra rn rc)).run Tryz.prog w' = .ok (.string (strOf (saveSt M))) w') (fun _ h => h.1) _ _ _ _ ?_
        have hSx4 := And.intro hS (conv_row (c := rc) HRR.out)
        clear hS
        have hS := hSx4
        clear hSx4
        refine wpAnyH_take (i := 2) (oi := ?oi5) (v := ?v5) ?hi5 (by kernel_rfl) (by kernel_rfl) (by kernel_rfl) ?hq5 (Or.inl ⟨?hw5, ?hy5⟩) hS ?rest5
        case hi5 => simp only [List.getElem?_toArray, List.getElem?_cons_succ, List.getElem?_cons_zero]; rfl
        case hq5 => exact fun _ _ _ h => h
        case hw5 => rfl
        case hy5 => intro w hSw; (try dsimp only at hSw); go_simp; (try with_reducible rfl)
        try simp only [Act.put, List.setIfInBounds_toArray, List.set_cons_zero, List.set_cons_succ]
        refine wpAnyH_ready (rs := [4]) (by kernel_rfl) (by simp) ?_
        refine AllReadyH.cons (o := ?o6) ?ho6 (fun K hK => ?_) AllReadyH.nil
        case ho6 => simp only [List.getElem?_toArray, List.getElem?_cons_succ, List.getElem?_cons_zero]; rfl
        go_simp
        (with_reducible refine (stw_now HS4.out).mono ?_)
        rintro e w5 ⟨rfl, hb5⟩
        have HS5 := Lib.hid (HS4.out.grow hb5)
        have HV5 := Lib.hid (HV4.out.grow HS4.out.marks hb5)
        have HR5 := Lib.hid (HR4.out.below hb5 (Nat.le_refl _))
        have hcv := conv_row (c := rc) (HRR.out.kept hb5.size (fun b hb _ => hb5.block b hb.2))
        clear hb5 HS4 HV4 HR4 HRR
        go_wp2_with fail
        refine hK.out _ _ (⟨trivial, hcv⟩) (fun hS => ?_)
        clear hK K
        try simp only [Act.put, List.setIfInBounds_toArray, List.set_cons_zero, List.set_cons_succ]
        refine wpAnyH_take (i := 5) (oi := ?oi7) (v := ?v7) ?hi7 (by kernel_rfl) (by kernel_rfl) (by kernel_rfl) ?hq7 (Or.inl ⟨?hw7, ?hy7⟩) hS ?rest7
        case hi7 => simp only [List.getElem?_toArray, List.getElem?_cons_succ, List.getElem?_cons_zero]; rfl
        case hq7 => exact fun _ _ _ h => h
        case hw7 => rfl
        case hy7 => intro w hSw; (try dsimp only at hSw); go_simp; (try with_reducible rfl)
        try simp only [Act.put, List.setIfInBounds_toArray, List.set_cons_zero, List.set_cons_succ]
        refine wpAnyH_take (i := 6) (oi := ?oi8) (v := ?v8) ?hi8 (by kernel_rfl) (by kernel_rfl) (by kernel_rfl) ?hq8 (Or.inl ⟨?hw8, ?hy8⟩) hS ?rest8
        case hi8 => simp only [List.getElem?_toArray, List.getElem?_cons_succ, List.getElem?_cons_zero]; rfl
        case hq8 => exact fun _ _ _ h => h
        case hw8 => rfl
        case hy8 => intro w hSw; (try dsimp only at hSw); go_simp; (try with_reducible rfl)
        try simp only [Act.put, List.setIfInBounds_toArray, List.set_cons_zero, List.set_cons_succ]
        refine wpAnyH_take (i := 7) (oi := ?oi9) (v := ?v9) ?hi9 (by kernel_rfl) (by kernel_rfl) (by kernel_rfl) ?hq9 (Or.inl ⟨?hw9, ?hy9⟩) hS ?rest9
        case hi9 => simp only [List.getElem?_toArray, List.getElem?_cons_succ, List.getElem?_cons_zero]; rfl
        case hq9 => exact fun _ _ _ h => h
        case hw9 => rfl
        case hy9 => intro w hSw; (try dsimp only at hSw); go_simp; (try with_reducible rfl)
        try simp only [Act.put, List.setIfInBounds_toArray, List.set_cons_zero, List.set_cons_succ]
        refine wpAnyH_done (by kernel_rfl) ?_ _
        refine NoPanic.normal ?_
        clear hcv hS
        go_wp2_with fail
        (with_reducible refine (stree_any HS5.out.st HS5.out.marks HS5.out.okM).mono ?_)
        rintro e w6 ⟨q, rfl, hq, hb6⟩
        have HQ6 := Lib.hid hq
        have HS6 := Lib.hid (HS5.out.grow hb6)
        have HV6 := Lib.hid (HV5.out.grow HS5.out.marks hb6)
        have HR6 := Lib.hid (HR5.out.below hb6 (Nat.le_refl _))
        clear hq hb6 HS5 HV5 HR5
        go_wp2_with fail
        (with_reducible refine (om_save HQ6.out HS6.out.okM).mono ?_)
        rintro e w7 ⟨ta, tn, tc, rfl, htc, htr, hb7⟩
        have hcv := conv_row (c := tc) htr
        have HS7 := Lib.hid (HS6.out.grow hb7)
        have HV7 := Lib.hid (HV6.out.grow HS6.out.marks hb7)
        have HR7 := Lib.hid (HR6.out.below hb7 (Nat.le_refl _))
        clear htr hb7 HS6 HV6 HR6 HQ6
        go_wp2_with fail
        clear hcv
        (with_reducible refine (sopens_any HS7.out.st).mono ?_)
        rintro e w8 ⟨oa, oc, rfl, hoc, hor, hb8⟩
        have HS8 := Lib.hid (HS7.out.grow hb8)
        have HV8 := Lib.hid (HV7.out.grow HS7.out.marks hb8)
        have HR8 := Lib.hid (HR7.out.below hb8 (Nat.le_refl _))
        clear hor hb8 HS7 HV7 HR7
        obtain ⟨y0, y1, y2, y3, y4, y5, y6, y7, y8, -⟩ := HV8.out.cells
        by_cases her : (sdoM M y).1.er = 0
        · by_cases htn : turnsB y = true
          · obtain ⟨R, M2, he⟩ : ∃ R M2, sdoM M y = (R, M2) := ⟨_, _, rfl⟩
            have hR0 : R.er = 0 := by rw [he] at her; exact her
            have HID2 : Hid (SnIds M2.s) := by
              have := HID.out.do_ HS8.out.ok.next.1 y
              rw [he] at this; exact Lib.hid this
            have HC := Lib.hid (st_doE HS8.out (by omega) (by omega) y HYOK.out da dc2 HR8.out m HM.out (.agg (opC y da dc2)) rfl he)
            unfold opC at HC
            have HR0 := Lib.hid hR0
            clear he her hR0
            go_wp2_with fail
            (with_reducible refine HC.out.mono ?_)
            rintro e w9 ⟨o9, ⟨v9, rfl, da9, la9, dc9, lc9, rfl, p1, p2, p3, p4⟩, hs9, hS9⟩
            have HR9 := Lib.hid (And.intro p1 (And.intro p2 (And.intro p3 p4)))
            have HS9 := Lib.hid hS9
            have HV9 := Lib.hid (HV8.out.five (by omega) hs9)
            clear hs9 hS9 p1 p2 p3 p4 HC HS8 HV8 HR8 y0 y1 y2 y3 y4 y5 y6 y7 y8
            go_wp2_with (refine wpList_store_rep (by rfl) 33 _ _ (by rfl) _ (reC R da9 la9 dc9 lc9) (by rfl) (by rfl) _ (MapKept.heap_alloc _ _).1 repSize rfl (reC_one _ _ _ _ _) ?_; intro wa hsa; obtain ⟨hva, hba⟩ := rep_var HS9.out.marks HR9.out.1 HR9.out.2.1 HR9.out.2.2.1 HR9.out.2.2.2 hsa; have HRA := Lib.hid hva; have HSB := Lib.hid (HS9.out.grow hba); have HVB := Lib.hid (HV9.out.grow HS9.out.marks hba); clear hsa hva hba HR9 HS9 HV9)
            (with_reducible refine (stree_any HSB.out.st HSB.out.marks HSB.out.okM).mono ?_)
            rintro e wb ⟨qb, rfl, hqb, hbb⟩
            have HQB := Lib.hid hqb
            have HSC := Lib.hid (HSB.out.grow hbb)
            have HVC := Lib.hid (HVB.out.grow HSB.out.marks hbb)
            have HRC := Lib.hid (HRA.out.grow HSB.out.marks hbb)
            clear hqb hbb HSB HVB HRA
            have x0 := HRC.out.er
            rw [HR0.out] at x0
            obtain ⟨y0, y1, y2, y3, y4, y5, y6, y7, y8, -⟩ := HVC.out.cells
            have HTU := Lib.hid (turns_any y da dc2 wb)
            unfold opC at HTU
            go_wp2_with fail
            (with_reducible refine HTU.out.mono ?_)
            rintro e wc ⟨rfl, hbc⟩
            rw [htn]
            have HSD := Lib.hid (HSC.out.grow hbc)
            have HQD := Lib.hid (HQB.out.grow hbc)
            clear hbc HTU HSC HVC HRC HQB x0 y0 y1 y2 y3 y4 y5 y6 y7 y8
            go_wp2_with fail
            go_roundw
            case rel => exact ⟨k + 1, _, M2, by go_num, by omega, HSD.out.mono (by omega), HID2.out⟩
            case measure => simp [intOf]; omega
          · obtain ⟨R, M2, he⟩ : ∃ R M2, sdoM M y = (R, M2) := ⟨_, _, rfl⟩
            have hR0 : R.er = 0 := by rw [he] at her; exact her
            have hM2 : M2 = M := by
              have := sdo_asks M y (fun h => htn (by unfold turnsB; exact decide_eq_true h))
              rw [he] at this; exact this
            subst hM2
            have htn2 : turnsB y = false := by simpa using htn
            have HC := Lib.hid (st_doE HS8.out (by omega) (by omega) y HYOK.out da dc2 HR8.out m HM.out (.agg (opC y da dc2)) rfl he)
            unfold opC at HC
            have HR0 := Lib.hid hR0
            clear he her hR0 htn
            go_wp2_with fail
            (with_reducible refine HC.out.mono ?_)
            rintro e w9 ⟨o9, ⟨v9, rfl, da9, la9, dc9, lc9, rfl, p1, p2, p3, p4⟩, hs9, hS9⟩
            have HR9 := Lib.hid (And.intro p1 (And.intro p2 (And.intro p3 p4)))
            have HS9 := Lib.hid hS9
            have HV9 := Lib.hid (HV8.out.five (by omega) hs9)
            clear hs9 hS9 p1 p2 p3 p4 HC HS8 HV8 HR8 y0 y1 y2 y3 y4 y5 y6 y7 y8
            go_wp2_with (refine wpList_store_rep (by rfl) 33 _ _ (by rfl) _ (reC R da9 la9 dc9 lc9) (by rfl) (by rfl) _ (MapKept.heap_alloc _ _).1 repSize rfl (reC_one _ _ _ _ _) ?_; intro wa hsa; obtain ⟨hva, hba⟩ := rep_var HS9.out.marks HR9.out.1 HR9.out.2.1 HR9.out.2.2.1 HR9.out.2.2.2 hsa; have HRA := Lib.hid hva; have HSB := Lib.hid (HS9.out.grow hba); have HVB := Lib.hid (HV9.out.grow HS9.out.marks hba); clear hsa hva hba HR9 HS9 HV9)
            (with_reducible refine (stree_any HSB.out.st HSB.out.marks HSB.out.okM).mono ?_)
            rintro e wb ⟨qb, rfl, hqb, hbb⟩
            have HQB := Lib.hid hqb
            have HSC := Lib.hid (HSB.out.grow hbb)
            have HVC := Lib.hid (HVB.out.grow HSB.out.marks hbb)
            have HRC := Lib.hid (HRA.out.grow HSB.out.marks hbb)
            clear hqb hbb HSB HVB HRA
            have x0 := HRC.out.er
            rw [HR0.out] at x0
            obtain ⟨y0, y1, y2, y3, y4, y5, y6, y7, y8, -⟩ := HVC.out.cells
            have HTU := Lib.hid (turns_any y da dc2 wb)
            unfold opC at HTU
            go_wp2_with fail
            (with_reducible refine HTU.out.mono ?_)
            rintro e wc ⟨rfl, hbc⟩
            rw [htn2]
            have HSD := Lib.hid (HSC.out.grow hbc)
            have HQD := Lib.hid (HQB.out.grow hbc)
            clear hbc HTU HSC HVC HRC HQB x0 y0 y1 y2 y3 y4 y5 y6 y7 y8
            go_wp2_with fail
            have HSE := Lib.hid (stsave_any HSD.out.st HSD.out.marks HSD.out.ok HSV.out)
            (with_reducible refine HSE.out.mono ?_)
            rintro e wd ⟨sa, sn, sc, rfl, hsc, hsr, hbd⟩
            have hcv := conv_row (c := sc) hsr
            have HSF := Lib.hid (HSD.out.grow hbd)
            have HQF := Lib.hid (HQD.out.grow hbd)
            clear hsr hbd HSE HSD HQD
            go_wp2_with fail
            clear hcv
            (with_reducible refine (om_save HQF.out HSF.out.okM).mono ?_)
            rintro e we ⟨ua, un, uc, rfl, huc, hur, hbe⟩
            have hcv := conv_row (c := uc) hur
            have HSG := Lib.hid (HSF.out.grow hbe)
            clear hur hbe HSF HQF
            go_wp2_with fail
            clear hcv
            (with_reducible refine (stw_now HSG.out).mono ?_)
            rintro e wf ⟨rfl, hbf⟩
            have HSH := Lib.hid (HSG.out.grow hbf)
            clear hbf HSG
            go_wp2_with fail
            go_roundw
            case rel => exact ⟨k + 1, _, M2, by go_num, by omega, HSH.out.mono (by omega), HID.out⟩
            case measure => simp [intOf]; omega
        · obtain ⟨E, hE⟩ : ∃ E, E = (sdoM M y).1.er := ⟨_, rfl⟩
          have he : sdoM M y = (noM E, M) := by rw [hE]; exact sdo_refused M y her
          have hE0 : (E != 0) = true := by rw [hE]; simpa using her
          have HC := Lib.hid (st_doE HS8.out (by omega) (by omega) y HYOK.out da dc2 HR8.out m HM.out (.agg (opC y da dc2)) rfl he)
          unfold opC at HC
          clear he her hE
          go_wp2_with fail
          (with_reducible refine HC.out.mono ?_)
          rintro e w9 ⟨o9, ⟨v9, rfl, da9, la9, dc9, lc9, rfl, p1, p2, p3, p4⟩, hs9, hS9⟩
          have HR9 := Lib.hid (And.intro p1 (And.intro p2 (And.intro p3 p4)))
          have HS9 := Lib.hid hS9
          have HV9 := Lib.hid (HV8.out.five (by omega) hs9)
          clear hs9 hS9 p1 p2 p3 p4 HC HS8 HV8 HR8 y0 y1 y2 y3 y4 y5 y6 y7 y8
          go_wp2_with (refine wpList_store_rep (by rfl) 33 _ _ (by rfl) _ (reC (noM E) da9 la9 dc9 lc9) (by rfl) (by rfl) _ (MapKept.heap_alloc _ _).1 repSize rfl (reC_one _ _ _ _ _) ?_; intro wa hsa; obtain ⟨hva, hba⟩ := rep_var HS9.out.marks HR9.out.1 HR9.out.2.1 HR9.out.2.2.1 HR9.out.2.2.2 hsa; have HRA := Lib.hid hva; have HSB := Lib.hid (HS9.out.grow hba); have HVB := Lib.hid (HV9.out.grow HS9.out.marks hba); clear hsa hva hba HR9 HS9 HV9)
          (with_reducible refine (stree_any HSB.out.st HSB.out.marks HSB.out.okM).mono ?_)
          rintro e wb ⟨qb, rfl, hqb, hbb⟩
          have HQB := Lib.hid hqb
          have HSC := Lib.hid (HSB.out.grow hbb)
          have HVC := Lib.hid (HVB.out.grow HSB.out.marks hbb)
          have HRC := Lib.hid (HRA.out.grow HSB.out.marks hbb)
          clear hqb hbb HSB HVB HRA
          have x0 := HRC.out.er
          have x1 := HRC.out.n
          have x2 := HRC.out.dat
          have x3 := HRC.out.nam
          have xat := HRC.out.at_
          unfold reC noM at xat
          have n0 : wb.cell? ⟨w9.heap.size, 4, none⟩ = some (.int .i64 0) := by simp [World.cell?, xat]
          have n1 : wb.cell? ⟨w9.heap.size, 5, none⟩ = some (.int .i64 0) := by simp [World.cell?, xat]
          have n2 : wb.cell? ⟨w9.heap.size, 6, none⟩ = some (.int .i64 0) := by simp [World.cell?, xat]
          have n3 : wb.cell? ⟨w9.heap.size, 7, none⟩ = some (.int .i64 0) := by simp [World.cell?, xat]
          have n4 : wb.cell? ⟨w9.heap.size, 8, none⟩ = some (.int .u64 0) := by simp [World.cell?, xat]
          have n5 : wb.cell? ⟨w9.heap.size, 9, none⟩ = some (.bool false) := by simp [World.cell?, xat]
          unfold noM at x0 x1 x2 x3
          dsimp only [List.length_nil] at x0 x1 x2 x3
          clear xat
          go_wp2_with fail
          (with_reducible refine (sopens_any HSC.out.st).mono ?_)
          rintro e wc ⟨ob, od, rfl, hod, hob, hbc⟩
          have HSD := Lib.hid (HSC.out.grow hbc)
          have HVD := Lib.hid (HVC.out.grow HSC.out.marks hbc)
          have HRD := Lib.hid (HRC.out.grow HSC.out.marks hbc)
          have HQD := Lib.hid (HQB.out.grow hbc)
          clear hob hbc HSC HVC HRC HQB x0 x1 x2 x3 n0 n1 n2 n3 n4 n5
          have x0 := HRD.out.er
          have x1 := HRD.out.n
          have x2 := HRD.out.dat
          have x3 := HRD.out.nam
          have xat := HRD.out.at_
          unfold reC noM at xat
          have n0 : wc.cell? ⟨w9.heap.size, 4, none⟩ = some (.int .i64 0) := by simp [World.cell?, xat]
          have n1 : wc.cell? ⟨w9.heap.size, 5, none⟩ = some (.int .i64 0) := by simp [World.cell?, xat]
          have n2 : wc.cell? ⟨w9.heap.size, 6, none⟩ = some (.int .i64 0) := by simp [World.cell?, xat]
          have n3 : wc.cell? ⟨w9.heap.size, 7, none⟩ = some (.int .i64 0) := by simp [World.cell?, xat]
          have n4 : wc.cell? ⟨w9.heap.size, 8, none⟩ = some (.int .u64 0) := by simp [World.cell?, xat]
          have n5 : wc.cell? ⟨w9.heap.size, 9, none⟩ = some (.bool false) := by simp [World.cell?, xat]
          unfold noM at x0 x1 x2 x3
          dsimp only [List.length_nil] at x0 x1 x2 x3
          clear xat
          go_wp2_with fail
          have HSE := Lib.hid (stsave_any HSD.out.st HSD.out.marks HSD.out.ok HSV.out)
          clear x0 x1 x2 x3 n0 n1 n2 n3 n4 n5
          (with_reducible refine HSE.out.mono ?_)
          rintro e wd ⟨sa, sn, sc, rfl, hsc, hsr, hbd⟩
          have hcv := conv_row (c := sc) hsr
          have HSF := Lib.hid (HSD.out.grow hbd)
          have HQF := Lib.hid (HQD.out.grow hbd)
          clear hsr hbd HSE HSD HQD
          go_wp2_with fail
          clear hcv
          (with_reducible refine (om_save HQF.out HSF.out.okM).mono ?_)
          rintro e we ⟨ua, un, uc, rfl, huc, hur, hbe⟩
          have hcv := conv_row (c := uc) hur
          have HSG := Lib.hid (HSF.out.grow hbe)
          clear hur hbe HSF HQF
          go_wp2_with fail
          clear hcv
          (with_reducible refine (stw_now HSG.out).mono ?_)
          rintro e wf ⟨rfl, hbf⟩
          have HSH := Lib.hid (HSG.out.grow hbf)
          clear hbf HSG
          go_wp2_with fail
          go_roundw
          case rel => exact ⟨k + 1, _, M, by go_num, by omega, HSH.out.mono (by omega), HID.out⟩
          case measure => simp [intOf]; omega
      · have hd1 : decide ((k : Int) < (len : Int)) = true := by simp; omega
        have hd2 : decide ((k : Int) < 60) = false := by simp; omega
        have hmr : wr.cell? ⟨0, 0, none⟩ = some (.int .i64 m) := (hbW.cell (p := ⟨0, 0, none⟩) (World.block_lt_of_cell? W _ HM.out)).trans HM.out
        have HK := Lib.hid (known14_any wr m hmr)
        clear hmr
        go_wp2_with fail
        (with_reducible refine HK.out.mono ?_)
        rintro e w2 ⟨rfl, hb2⟩
        go_wp2_with fail
        go_ret
        exact ⟨rfl, hbW.trans (hb2.mono hbW.size)⟩
    · have hd1 : decide ((k : Int) < (len : Int)) = false := by simp; omega
      have hmr : wr.cell? ⟨0, 0, none⟩ = some (.int .i64 m) := (hbW.cell (p := ⟨0, 0, none⟩) (World.block_lt_of_cell? W _ HM.out)).trans HM.out
      have HK := Lib.hid (known14_any wr m hmr)
      clear hmr
      go_wp2_with fail
      (with_reducible refine HK.out.mono ?_)
      rintro e w2 ⟨rfl, hb2⟩
      go_wp2_with fail
      go_ret
      exact ⟨rfl, hbW.trans (hb2.mono hbW.size)⟩
end Go.Proofs.YtpgklnhkfgbpgaaGreatDoor.stateRefused
