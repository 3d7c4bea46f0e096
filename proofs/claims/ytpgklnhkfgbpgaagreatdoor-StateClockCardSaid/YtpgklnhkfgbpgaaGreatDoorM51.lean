/- StateClock: the walk. -/
import Derived.Test.YtpgklnhkfgbpgaaGreatDoorM45
import Derived.Test.YtpgklnhkfgbpgaaGreatDoorM48
namespace Go.Proofs.YtpgklnhkfgbpgaaGreatDoor.stateClock
open Go.ChangeShapes Go.WideShapes Go.ChangeAt Go.RowKit
set_option linter.unusedVariables false
set_option linter.unusedSimpArgs false

set_option maxRecDepth 100000 in
theorem open_arg {H : Type} {enc : TypeId × Value → H} {W : World} {base : Nat} {v0 : Value} {d0 : DataW H} {p0 : List MemPlace} (h0 : DataW.Trod enc Tryz.prog W 0 (fun _ => true) true 23 v0 d0 p0) (l0 : ∀ x ∈ p0, x.block < W.heap.size) (o0 : Value.okWide Tryz.prog W .any base 23 v0) (hw : ∀ n ∈ d0.weights Tryz.prog 23, n ≤ reachBytes) :
    ∃ a len cap, v0 = .slice a len cap ∧ len ≤ cap ∧ OpsAt W a len := by
  obtain ⟨a0, len, cap, rfl⟩ := okWide_slice Tryz.underlying23 o0
  obtain ⟨fuel, hf⟩ := h0
  exact open_ops hf l0 hw
def CRel (W : World) (p : Nat) (iv : Value) (wr : World) : Prop := ∃ (k : Nat) (o : Mark) (M : StM), iv = .int .i64 k ∧ k ≤ 60 ∧ StW W o 1 wr p (1 + k) M
set_option maxRecDepth 100000 in
set_option maxHeartbeats 64000000 in
theorem walk {H : Type} {enc : TypeId × Value → H} (W : World) (base : Nat) (hsh : W.ShapedOpen Tryz.prog) (v0 : Value) (d0 : DataW H) (p0 : List MemPlace) (o0 : Value.okWide Tryz.prog W .any base 23 v0) (h0 : DataW.Trod enc Tryz.prog W 0 (fun _ => true) true 23 v0 d0 p0) (l0 : ∀ x ∈ p0, x.block < W.heap.size) (hsz : (DataW.weightsEach Tryz.prog [23] ([d0] : List (DataW H))).all (· ≤ reachBytes) = true) :
    Calls Tryz.prog 6 #[v0] W (Fine W) := by
  obtain ⟨m, hm, -⟩ := maxLen_cell hsh
  obtain ⟨a, len, cap, rfl, hlc, hops⟩ := open_arg h0 l0 o0 (fun n hn => by
    rw [List.all_eq_true] at hsz
    exact of_decide_eq_true (hsz n (weightsEach_at (j := 0) rfl rfl n hn)))
  have hlm := hops.1
  unfold maxLen at hlm
  have HM := Lib.hid hm
  have HO := Lib.hid hops
  clear hm hops o0 h0 l0 hsz hsh
  go_enter Tryz.func6, Tryz.ntmps6
  go_wp2_with fail
  (with_reducible refine (st_new (i := 1) (marks0 W) (by omega)).mono ?_)
  rintro e w1 ⟨p, o1, rfl, hs1, hS1⟩
  have HS1 := Lib.hid hS1
  clear hs1 hS1
  go_wp2_with fail
  go_loopw [4, 5, 6] (fun iv _ _ wr => CRel W p iv wr) (fun iv _ _ _ => 60 - (intOf iv).toNat)
  case atStart => exact ⟨0, o1, newSt, rfl, by omega, HS1.out⟩
  case round =>
    obtain ⟨k, o2, M, rfl, hk, hS⟩ := hrel
    have HS := Lib.hid hS
    have hbW := hS.below
    clear hS
    by_cases hlt : k < len
    · by_cases h60 : k < 60
      · obtain ⟨b, off, rfl, hbl, hat⟩ := HO.out.2 (by omega)
        obtain ⟨x, da, dc, hx⟩ := hat k hlt
        obtain ⟨d0, d1, d2, d3, d4, d5, d6, d7, d8⟩ := hx.up hbW hbl
        have HX := Lib.hid hx
        have hd1 : decide ((k : Int) < (len : Int)) = true := by simp; omega
        have hd2 : decide ((k : Int) < 60) = true := by simp; omega
        have i0 : (0 : Int) ≤ (k : Int) := by omega
        have i1 : (k : Int) < (len : Int) := by omega
        have HT := Lib.hid (tame_any wr x hx.ok da dc hx.cap (hx.row.below hbW (Nat.le_refl _)))
        unfold opC at HT
        clear hx hat
        go_wp2_with fail
        (with_reducible refine HT.out.mono ?_)
        rintro e w2 ⟨y, dc2, rfl, hty, hcap, hrow, hb2⟩
        have HTY := Lib.hid hty
        have HROW := Lib.hid hrow
        have HS2 := Lib.hid (HS.out.grow hb2)
        clear hty hcap hrow hb2 HT HS d0 d1 d2 d3 d4 d5 d6 d7 d8 hbW
        cases hb3 : (x.n.tmod 3 == 0) with
        | false =>
          go_wp2_with (refine wpList_store_rep (by rfl) 36 _ _ (by rfl) _ (opC y da dc2) (by rfl) (by rfl) _ (MapKept.heap_alloc _ _).1 opSize rfl (opC_one _ _ _) ?_; intro w3 hs3; obtain ⟨o3, hs3', hv3⟩ := op_var HS2.out.marks 9 hs3; have hr3 := HROW.out.below (hs3.below (wall w2 (.cells opZ 36)) (Nat.le_refl _)) (by have := HS2.out.below.size; omega); have HR3 := Lib.hid hr3; have HV3 := Lib.hid hv3; have HS3 := Lib.hid (HS2.out.one (by omega) hs3'); obtain ⟨d0, d1, d2, d3, d4, d5, d6, d7, d8⟩ := HX.out.up HS3.out.below hbl; obtain ⟨-, -, -, -, -, -, y6, -, -, yf⟩ := HV3.out.cells; clear hs3 hs3' hv3 hr3 HS2 HROW d0 d1 d2 d3 d4 d7 d8)
          obtain ⟨z, hz⟩ : ∃ z, z = y := ⟨_, rfl⟩
          have HZ : Hid (OpOk z ∧ z.kind = x.kind) := by rw [hz]; exact Lib.hid ⟨HTY.out.ok HX.out.ok, HTY.out.kind⟩
          have HVA := Lib.hid HV3.out
          rw [← hz] at HVA HR3
          have HSA := Lib.hid HS3.out
          have HRA := Lib.hid HR3.out
          have HRB : Hid (w3.heap.size ≤ w3.heap.size) := Lib.hid (Nat.le_refl _)
          clear hz HV3 HS3 HR3
          (with_reducible refine (stw_now HSA.out).mono ?_)
          rintro e w4 ⟨rfl, hb4⟩
          have HV4 := Lib.hid (HVA.out.grow HSA.out.marks hb4)
          have HS4 := Lib.hid (HSA.out.grow hb4)
          obtain ⟨y0, y1, y2, y3, y4, y5, y6, y7, y8, -⟩ := HV4.out.cells
          have HC := Lib.hid (st_do HS4.out (by omega) (by omega) z HZ.out.1 da dc2 (HRA.out.below hb4 (HRB.out)) m HM.out)
          unfold opC at HC
          clear hb4 HVA HSA
          go_wp2_with fail
          (with_reducible refine HC.out.mono ?_)
          rintro e w5 ⟨o5, ⟨v5, rfl, da5, la5, dc5, lc5, rfl, -, -, -, -⟩, hs5, hS5⟩
          obtain ⟨n1, n2⟩ := (sdo_chg M z).now
          have n3 := hS5.ok.now
          obtain ⟨M5, hM5⟩ : ∃ M5, M5 = (sdoM M z).2 := ⟨_, rfl⟩
          rw [← hM5] at n1 n2 n3 hS5
          have HV5 := Lib.hid (HV4.out.five (by omega) hs5)
          have HS5 := Lib.hid hS5
          clear hs5 hS5 hM5 HC HV4 HS4 y0 y1 y2 y3 y4 y5 y6 y7 y8
          obtain ⟨y0, -⟩ := HV5.out.cells
          have f1 : decide (M5.now < M.now) = false := by simp; omega
          have f3 : decide ((1099511627776 : Int) < M5.now) = false := by simp; omega
          by_cases h16 : z.kind = 16
          · have f2 : (z.kind != 16) = false := by simp [h16]
            clear h16 n2
            go_wp2_with fail
            (with_reducible refine (stw_now HS5.out).mono ?_)
            rintro e w6 ⟨rfl, hb⟩
            have HV6 := Lib.hid (HV5.out.grow HS5.out.marks hb)
            have HS6 := Lib.hid (HS5.out.grow hb)
            have y06 := HV6.out.cells.1
            clear hb
            go_wp2_with fail
            (with_reducible refine (stw_now HS6.out).mono ?_)
            rintro e w7 ⟨rfl, hb⟩
            have HV7 := Lib.hid (HV6.out.grow HS6.out.marks hb)
            have HS7 := Lib.hid (HS6.out.grow hb)
            have y07 := HV7.out.cells.1
            clear hb
            go_wp2_with fail
            go_roundw
            case rel => exact ⟨k + 1, _, M5, by go_num, by omega, HS7.out.mono (by omega)⟩
            case measure => simp [intOf]; omega
          · have f2 : (z.kind != 16) = true := by simpa using h16
            have f4 : (M5.now != M.now) = false := by simp [n2 h16]
            clear h16 n2
            go_wp2_with fail
            (with_reducible refine (stw_now HS5.out).mono ?_)
            rintro e w6 ⟨rfl, hb⟩
            have HV6 := Lib.hid (HV5.out.grow HS5.out.marks hb)
            have HS6 := Lib.hid (HS5.out.grow hb)
            have y06 := HV6.out.cells.1
            clear hb
            go_wp2_with fail
            (with_reducible refine (stw_now HS6.out).mono ?_)
            rintro e w7 ⟨rfl, hb⟩
            have HV7 := Lib.hid (HV6.out.grow HS6.out.marks hb)
            have HS7 := Lib.hid (HS6.out.grow hb)
            have y07 := HV7.out.cells.1
            clear hb
            go_wp2_with fail
            (with_reducible refine (stw_now HS7.out).mono ?_)
            rintro e w8 ⟨rfl, hb⟩
            have HV8 := Lib.hid (HV7.out.grow HS7.out.marks hb)
            have HS8 := Lib.hid (HS7.out.grow hb)
            have y08 := HV8.out.cells.1
            clear hb
            go_wp2_with fail
            go_roundw
            case rel => exact ⟨k + 1, _, M5, by go_num, by omega, HS8.out.mono (by omega)⟩
            case measure => simp [intOf]; omega
        | true =>
          go_wp2_with (refine wpList_store_rep (by rfl) 36 _ _ (by rfl) _ (opC y da dc2) (by rfl) (by rfl) _ (MapKept.heap_alloc _ _).1 opSize rfl (opC_one _ _ _) ?_; intro w3 hs3; obtain ⟨o3, hs3', hv3⟩ := op_var HS2.out.marks 9 hs3; have hr3 := HROW.out.below (hs3.below (wall w2 (.cells opZ 36)) (Nat.le_refl _)) (by have := HS2.out.below.size; omega); have HR3 := Lib.hid hr3; have HV3 := Lib.hid hv3; have HS3 := Lib.hid (HS2.out.one (by omega) hs3'); obtain ⟨d0, d1, d2, d3, d4, d5, d6, d7, d8⟩ := HX.out.up HS3.out.below hbl; obtain ⟨-, -, -, -, -, -, y6, -, -, yf⟩ := HV3.out.cells; clear hs3 hs3' hv3 hr3 HS2 HROW d0 d1 d2 d3 d4 d7 d8)
          obtain ⟨z, hz⟩ : ∃ z, z = { y with til := x.til } := ⟨_, rfl⟩
          have HZ : Hid (OpOk z ∧ z.kind = x.kind) := by
            rw [hz]
            have h9 := HTY.out.ok HX.out.ok
            exact Lib.hid ⟨⟨h9.wk, h9.wf, h9.wa, h9.wn, h9.ws, HX.out.ok.wt, h9.wp, h9.wq, h9.wd⟩, HTY.out.kind⟩
          have HGE : Hid (W.heap.size ≤ w2.heap.size) := Lib.hid (Decidable.byContradiction fun h9 => by have := (HS3.out.marks.new w2.heap.size (by rw [HV3.out.own]; omega)).1; omega)
          obtain ⟨hsA, hvA⟩ := HV3.out.setTil HS3.out.marks x.til
          have hSA := HS3.out.one (by omega) hsA
          have HRA : Hid (RowAt (fun b => b < W.heap.size) w3 da z.data.length (z.data.map bv)) := by rw [hz]; exact HR3
          rw [← hz] at hvA
          have HVA := Lib.hid hvA
          have HSA := Lib.hid hSA
          clear hz hsA hvA hSA HV3 HR3 y6 yf
          (with_reducible refine (stw_now HSA.out).mono ?_)
          rintro e w4 ⟨rfl, hb4⟩
          have HV4 := Lib.hid (HVA.out.grow HSA.out.marks hb4)
          have HS4 := Lib.hid (HSA.out.grow hb4)
          obtain ⟨y0, y1, y2, y3, y4, y5, y6, y7, y8, -⟩ := HV4.out.cells
          have HC := Lib.hid (st_do HS4.out (by omega) (by omega) z HZ.out.1 da dc2 ((HRA.out.kept (by rw [size_set]; exact Nat.le_refl _) (fun b (hb : b < W.heap.size) _ => heap_set_other _ _ _ _ (show b ≠ w2.heap.size by have := HGE.out; omega))).below hb4 (Nat.le_refl _)) m HM.out)
          unfold opC at HC
          clear hb4 HVA HSA
          go_wp2_with fail
          (with_reducible refine HC.out.mono ?_)
          rintro e w5 ⟨o5, ⟨v5, rfl, da5, la5, dc5, lc5, rfl, -, -, -, -⟩, hs5, hS5⟩
          obtain ⟨n1, n2⟩ := (sdo_chg M z).now
          have n3 := hS5.ok.now
          obtain ⟨M5, hM5⟩ : ∃ M5, M5 = (sdoM M z).2 := ⟨_, rfl⟩
          rw [← hM5] at n1 n2 n3 hS5
          have HV5 := Lib.hid (HV4.out.five (by omega) hs5)
          have HS5 := Lib.hid hS5
          clear hs5 hS5 hM5 HC HV4 HS4 y0 y1 y2 y3 y4 y5 y6 y7 y8
          obtain ⟨y0, -⟩ := HV5.out.cells
          have f1 : decide (M5.now < M.now) = false := by simp; omega
          have f3 : decide ((1099511627776 : Int) < M5.now) = false := by simp; omega
          by_cases h16 : z.kind = 16
          · have f2 : (z.kind != 16) = false := by simp [h16]
            clear h16 n2
            go_wp2_with fail
            (with_reducible refine (stw_now HS5.out).mono ?_)
            rintro e w6 ⟨rfl, hb⟩
            have HV6 := Lib.hid (HV5.out.grow HS5.out.marks hb)
            have HS6 := Lib.hid (HS5.out.grow hb)
            have y06 := HV6.out.cells.1
            clear hb
            go_wp2_with fail
            (with_reducible refine (stw_now HS6.out).mono ?_)
            rintro e w7 ⟨rfl, hb⟩
            have HV7 := Lib.hid (HV6.out.grow HS6.out.marks hb)
            have HS7 := Lib.hid (HS6.out.grow hb)
            have y07 := HV7.out.cells.1
            clear hb
            go_wp2_with fail
            go_roundw
            case rel => exact ⟨k + 1, _, M5, by go_num, by omega, HS7.out.mono (by omega)⟩
            case measure => simp [intOf]; omega
          · have f2 : (z.kind != 16) = true := by simpa using h16
            have f4 : (M5.now != M.now) = false := by simp [n2 h16]
            clear h16 n2
            go_wp2_with fail
            (with_reducible refine (stw_now HS5.out).mono ?_)
            rintro e w6 ⟨rfl, hb⟩
            have HV6 := Lib.hid (HV5.out.grow HS5.out.marks hb)
            have HS6 := Lib.hid (HS5.out.grow hb)
            have y06 := HV6.out.cells.1
            clear hb
            go_wp2_with fail
            (with_reducible refine (stw_now HS6.out).mono ?_)
            rintro e w7 ⟨rfl, hb⟩
            have HV7 := Lib.hid (HV6.out.grow HS6.out.marks hb)
            have HS7 := Lib.hid (HS6.out.grow hb)
            have y07 := HV7.out.cells.1
            clear hb
            go_wp2_with fail
            (with_reducible refine (stw_now HS7.out).mono ?_)
            rintro e w8 ⟨rfl, hb⟩
            have HV8 := Lib.hid (HV7.out.grow HS7.out.marks hb)
            have HS8 := Lib.hid (HS7.out.grow hb)
            have y08 := HV8.out.cells.1
            clear hb
            go_wp2_with fail
            go_roundw
            case rel => exact ⟨k + 1, _, M5, by go_num, by omega, HS8.out.mono (by omega)⟩
            case measure => simp [intOf]; omega
      · have hd1 : decide ((k : Int) < (len : Int)) = true := by simp; omega
        have hd2 : decide ((k : Int) < 60) = false := by simp; omega
        have hmr : wr.cell? ⟨0, 0, none⟩ = some (.int .i64 m) := (hbW.cell (p := ⟨0, 0, none⟩) (World.block_lt_of_cell? W _ HM.out)).trans HM.out
        have HK := Lib.hid (known14_any wr m hmr)
        clear hmr
        go_wp2_with fail
        (with_reducible refine HK.out.mono ?_)
        rintro e w2 ⟨rfl, hb2⟩
        go_wp2_with fail
        go_ret
        exact ⟨rfl, hbW.trans (hb2.mono hbW.size)⟩
    · have hd1 : decide ((k : Int) < (len : Int)) = false := by simp; omega
      have hmr : wr.cell? ⟨0, 0, none⟩ = some (.int .i64 m) := (hbW.cell (p := ⟨0, 0, none⟩) (World.block_lt_of_cell? W _ HM.out)).trans HM.out
      have HK := Lib.hid (known14_any wr m hmr)
      clear hmr
      go_wp2_with fail
      (with_reducible refine HK.out.mono ?_)
      rintro e w2 ⟨rfl, hb2⟩
      go_wp2_with fail
      go_ret
      exact ⟨rfl, hbW.trans (hb2.mono hbW.size)⟩
end Go.Proofs.YtpgklnhkfgbpgaaGreatDoor.stateClock
