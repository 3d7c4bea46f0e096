/- DiskTorn: the walk. -/
import Derived.Test.YtkdomgiabiedlaaDiskTornP
import Derived.Test.YtkdomgiabiedlaaArgsO
import Derived.Test.YtkdomgiabiedlaaWithin
import Derived.Test.YtkdomgiabiedlaaSameI
import Derived.Deep.DeepCutAuto
namespace Go.Proofs.Ytkdomgiabiedlaa.diskTorn
open Go.ChangeShapes Go.WideShapes Go.ChangeAt Go.RowKit
set_option linter.unusedVariables false
set_option linter.unusedSimpArgs false

def RelA (W w3 : World) (P : Nat → Prop) (d sb mb : Nat) (A : List UInt8) (k : Nat) (i : Value) (wr : World) : Prop :=
  ∃ j : Nat, i = .int .i64 j ∧ j ≤ 3 ∧ DiskIn W P wr d sb mb (MA A k j) ∧ Keeps (Wild W P) w3 wr
def RelB (W w3 : World) (P : Nat → Prop) (d sb mb : Nat) (A B : List UInt8) (k : Nat) (i : Value) (wr : World) : Prop :=
  ∃ r : Nat, i = .int .i64 (2 - (r : Int)) ∧ r ≤ 3 ∧ DiskIn W P wr d sb mb (MB A B k r) ∧ Keeps (Wild W P) w3 wr

set_option maxRecDepth 100000 in
set_option maxHeartbeats 8000000 in
theorem walk {H : Type} {enc : TypeId × Value → H} (W : World) (base : Nat) (v0 : Value) (d0 : DataW H) (p0 : List MemPlace) (o0 : Value.okWide Try.prog W .any base 22 v0) (h0 : DataW.Trod enc Try.prog W 0 (fun _ => true) true 22 v0 d0 p0) (l0 : ∀ x ∈ p0, x.block < W.heap.size) (v1 : Value) (d1 : DataW H) (p1 : List MemPlace) (o1 : Value.okWide Try.prog W .any base 22 v1) (h1 : DataW.Trod enc Try.prog W 0 (fun _ => true) true 22 v1 d1 p1) (l1 : ∀ x ∈ p1, x.block < W.heap.size) (a2 : Int) (w2 : (Lit.int .i64 a2).wf = true) (a3 : Int) (w3 : (Lit.int .i64 a3).wf = true) (a4 : Bool) (hsz : (DataW.weightsEach Try.prog [22, 22, 3, 3, 4] ([d0, d1, .lit (.int .i64 a2), .lit (.int .i64 a3), .lit (.bool a4)] : List (DataW H))).all (· ≤ reachBytes) = true) :
    Calls Try.prog 3 #[v0, v1, .int .i64 a2, .int .i64 a3, .bool a4] W (Fine W) := by
  obtain ⟨ra, rn, rc, old, rfl, hrc, hR0⟩ : ∃ a len cap bs, v0 = .slice a len cap ∧ len ≤ cap ∧ RowAt (Old W) W a len ((bs : List UInt8).map bv) := by
    obtain ⟨a0, len, cap, rfl⟩ := okWide_slice Try.underlying22 o0
    obtain ⟨fuel, hf⟩ := h0
    exact open_bytesT hf l0
  obtain ⟨sa, sn, sc, new0, rfl, hsc, hS0⟩ : ∃ a len cap bs, v1 = .slice a len cap ∧ len ≤ cap ∧ RowAt (Old W) W a len ((bs : List UInt8).map bv) := by
    obtain ⟨a0, len, cap, rfl⟩ := okWide_slice Try.underlying22 o1
    obtain ⟨fuel, hf⟩ := h1
    exact open_bytesT hf l1
  clear o0 h0 l0 o1 h1 l1 hsz
  have HR0 := Lib.hid hR0
  have HS0 := Lib.hid hS0
  clear hR0 hS0
  have hA : (sizedL old 128).length = 128 := sizedL_len _ _
  have hB : (sizedL new0 128).length = 128 := sizedL_len _ _
  generalize hAe : sizedL old 128 = A at hA
  generalize hBe : sizedL new0 128 = B at hB
  have HAe := Lib.hid hAe
  have HBe := Lib.hid hBe
  have HA := Lib.hid hA
  have HB := Lib.hid hB
  have hkb := withinI_bd a2 0 61 (by omega)
  have hnb := withinI_bd a3 0 128 (by omega)
  generalize hke : withinI a2 0 61 = ki at hkb
  generalize hne : withinI a3 0 128 = ni at hnb
  obtain ⟨k, rfl⟩ : ∃ k : Nat, ki = k := ⟨ki.toNat, by omega⟩
  obtain ⟨n, rfl⟩ : ∃ n : Nat, ni = n := ⟨ni.toNat, by omega⟩
  have HKe := Lib.hid hke
  have HNe := Lib.hid hne
  clear hA hB hAe hBe hke hne
  go_enter Try.func3, Try.ntmps3
  go_wp2_with fail
  (with_reducible refine (in_new W _ (Below.refl _ _)).mono ?_)
  rintro e w1 ⟨d, sb, mb, rfl, hD1, hB1⟩
  have HD1 := Lib.hid hD1
  clear hD1
  have hz1 := sized_at (S := Old W) ra rn rc 128 128 old w1 (HR0.out.below hB1 (Nat.le_refl _)) rfl hrc (by omega)
  rw [HAe.out] at hz1
  have HZ := Lib.hid hz1
  clear hz1
  go_wp2_with fail
  (with_reducible refine HZ.out.mono ?_)
  rintro e w2' ⟨va, rfl, hva, hB2⟩
  obtain ⟨ba, ca, rfl, hca, hra⟩ := hva.row
  clear hva HZ
  have hz1 := sized_at (S := Old W) sa sn sc 128 128 new0 w2' (HS0.out.below (hB1.trans (hB2.mono hB1.size)) (Nat.le_refl _)) rfl hsc (by omega)
  rw [HBe.out] at hz1
  have HZ := Lib.hid hz1
  have HRA := Lib.hid hra
  clear hz1 hra
  go_wp2_with fail
  (with_reducible refine HZ.out.mono ?_)
  rintro e w4 ⟨vb, rfl, hvb, hB3⟩
  obtain ⟨bb, cb, rfl, hcb, hrb⟩ := hvb.row
  have HRB := Lib.hid hrb
  clear hvb HZ hrb
  go_wp2_with fail
  (with_reducible refine (within_any a2 0 61 _ w2 (by omega) (by omega) (by omega)).mono ?_)
  rintro e w5 ⟨rfl, rfl⟩
  rw [HKe.out]
  go_wp2_with fail
  (with_reducible refine (within_any a3 0 128 _ w3 (by omega) (by omega) (by omega)).mono ?_)
  rintro e w5 ⟨rfl, rfl⟩
  rw [HNe.out]
  have hs2 := hB2.size
  have hs3 := hB3.size
  have HD4 := Lib.hid (HD1.out.shield (hB2.trans (hB3.mono hs2)))
  generalize hP : (fun x => False ∨ (w1.heap.size ≤ x ∧ x < w4.heap.size)) = P at HD4
  have HP := Lib.hid hP
  clear hP
  have HRA4 : Hid (RowAt P w4 (some ⟨ba, 0, none⟩) 128 (A.map bv)) := HRA.out.move hs3 fun b hb hbw => ⟨by rw [← HP.out]; exact .inr ⟨by omega, by omega⟩, hB3.block b hbw⟩
  have HRB4 : Hid (RowAt P w4 (some ⟨bb, 0, none⟩) 128 (B.map bv)) := HRB.out.mono fun b hb => by rw [← HP.out]; exact .inr ⟨by omega, by omega⟩
  go_wp2_with fail
  go_loopw [17] (fun i wr => RelA W w4 P d sb mb A k i wr) (fun i _ => 3 - (intOf i).toNat)
  case atStart => exact ⟨0, rfl, by omega, HD4.out, Keeps.refl _ _⟩
  case round =>
    obtain ⟨j, rfl, hj, hD, hK⟩ := hrel
    by_cases hlt : j < 3
    · have hlt' : (j : Int) < 3 := by omega
      have hcw := in_write hD ((k : Int) + j) (some ⟨ba, 0, none⟩) 128 ca A (by rw [(MA_ok HA.out (by omega) hj).2.1]; omega) (HRA4.out.keeps hK fun b hb hf => hf.2 hb)
      rw [← MA_succ (A := A) (k := k) hlt] at hcw
      have HCW := Lib.hid hcw
      clear hcw hD
      go_wp2_with fail
      (with_reducible refine HCW.out.mono ?_)
      rintro e w5 ⟨rfl, hD5, hK5⟩
      have HD5 := Lib.hid hD5
      clear hD5
      go_wp2
      go_roundw
      case rel => exact ⟨j + 1, by go_num, by omega, HD5.out, hK.trans hK5 fun x _ h => h⟩
      case measure => simp [intOf]; omega
    · obtain rfl : j = 3 := by omega
      have HK := Lib.hid hK
      have hfl := in_flush hD
      have HFL := Lib.hid hfl
      clear hK hfl hD
      go_wp2_with fail
      (with_reducible refine HFL.out.mono ?_)
      rintro e w5 ⟨rfl, hD5, hK5⟩
      have HD5 : Hid (DiskIn W P w5 d sb mb (MB A B k 0)) := hD5
      have hK5' := HK.out.trans hK5 fun x _ h => h
      clear hD5
      go_wp2_with fail
      go_loopw [18] (fun i wr => RelB W w4 P d sb mb A B k i wr) (fun i _ => (intOf i + 1).toNat)
      case atStart => exact ⟨0, rfl, by omega, HD5.out, hK5'⟩
      case round =>
        obtain ⟨r, rfl, hr, hD, hK⟩ := hrel
        by_cases hlt : r < 3
        · have hlt' : (0 : Int) ≤ 2 - (r : Int) := by omega
          have hcw := in_write hD ((k : Int) + (2 - r)) (some ⟨bb, 0, none⟩) 128 cb B (by rw [(MB_ok HA.out HB.out (by omega) hr).2.1]; omega) (HRB4.out.keeps hK fun b hb hf => hf.2 hb)
          rw [← MB_succ (A := A) (k := k) hlt] at hcw
          have HCW := Lib.hid hcw
          clear hcw hD
          go_wp2_with fail
          (with_reducible refine HCW.out.mono ?_)
          rintro e w5 ⟨rfl, hD5, hK5⟩
          have HD5 := Lib.hid hD5
          clear hD5
          go_wp2
          go_roundw
          case rel => exact ⟨r + 1, by go_num, by omega, HD5.out, hK.trans hK5 fun x _ h => h⟩
          case measure => simp [intOf]; omega
        · obtain rfl : r = 3 := by omega
          have HK := Lib.hid hK
          have HD := Lib.hid hD
          clear hK hD
          have HDI := Lib.hid (in_dirty HD.out _ 3 (MB_keys HA.out HB.out (by omega)) rfl)
          go_wp2_with fail
          (with_reducible refine HDI.out.mono ?_)
          rintro e w6 ⟨a6, c6, rfl, hr6, hB6⟩
          clear HDI
          go_wp2_with fail
          have hrn : RowAt (fun x => x = w6.heap.size) (w6.alloc (.cells #[.int .i64 (k : Int), .int .i64 ((k : Int) + 1), .int .i64 ((k : Int) + 2)] 3)) (some ⟨w6.heap.size, 0, none⟩) 3 (([(k : Int), k + 1, k + 2] : List Int).map (Value.int .i64)) := new_row (w := w6) [.int .i64 (k : Int), .int .i64 ((k : Int) + 1), .int .i64 ((k : Int) + 2)] 3 (show 3 ≤ maxLen by decide)
          (with_reducible refine (sameI_yes _ _ _ _ _ [(k : Int), k + 1, k + 2] _ (hr6.below ((Below.refl _ _).alloc (Nat.le_refl _) _) (Nat.le_refl _)) (by exact hrn)).mono ?_)
          rintro e w7 ⟨rfl, q, rfl⟩
          have hs6 := hB6.size
          have hB7 : Below w6.heap.size w6 ((w6.alloc (.cells #[.int .i64 (k : Int), .int .i64 ((k : Int) + 1), .int .i64 ((k : Int) + 2)] 3)).drewN q) := below_drewq ((Below.refl _ _).alloc (Nat.le_refl _) _) q
          generalize hw7 : (w6.alloc (.cells #[.int .i64 (k : Int), .int .i64 ((k : Int) + 1), .int .i64 ((k : Int) + 2)] 3)).drewN q = w7 at hB7
          have hB67 := hB6.trans (hB7.mono hs6)
          have HD7 := Lib.hid (HD.out.grow hB67)
          have HM : Hid (Keeps (Wild W P) w4 w7) := HK.out.trans (Keeps.below hB67) fun x hx h => by have := HK.out.size; omega
          clear hr6 hrn hw7 hB6 hB7
          go_wp2_with fail
          have hcr := in_crash_new HD7.out ((Below.refl _ _).alloc (Nat.le_refl _) (.cells #[.bool a4, .bool a4, .bool (!a4)] 4)) [a4, a4, !a4] _ 3 3 1 n (new_row ([a4, a4, !a4].map Value.bool) 4 (show 3 ≤ maxLen by decide)) (fun b hb => by simp; omega)
          have HCR := Lib.hid hcr
          clear hcr
          (with_reducible refine HCR.out.mono ?_)
          rintro e w8 ⟨rfl, hD8, hK8⟩
          obtain ⟨mk, m1, m2, m3⟩ := MB_ok HA.out HB.out (by omega : k ≤ 61) (r := 3) (by omega)
          obtain ⟨c1, c2, c3⟩ := crash_rows HA.out HB.out (by omega : k ≤ 61) a4 n (by omega)
          have hCok := mk.crash [a4, a4, !a4] 1 n
          generalize hX1 : (if a4 = true then B else A) = X1 at c1
          generalize hX2 : (if a4 = true then A else B) = X2 at c3
          have HX1 := Lib.hid hX1
          have HX2 := Lib.hid hX2
          clear hX1 hX2
          have hwr6 : (crashM (MB A B k 3) [a4, a4, !a4] 1 n).writes = 6 := by show (MB A B k 3).writes = 6; rw [m1]; rfl
          have hdk : dkeys (crashM (MB A B k 3) [a4, a4, !a4] 1 n) = [] := rfl
          generalize crashM (MB A B k 3) [a4, a4, !a4] 1 n = MC at hD8 c1 c2 c3 hCok hwr6 hdk
          have HM8 : Hid (Keeps (Wild W P) w4 w8) := (HM.out.trans (Keeps.below ((Below.refl w7.heap.size w7).alloc (Nat.le_refl _) _)) fun x hx h => by have := HM.out.size; omega).trans hK8 fun x _ h => h
          have r1 := in_read_sec hD8 (k : Int) _ (hCok.sec (by omega)) c1
          have R1 := Lib.hid r1
          have HD8 := Lib.hid hD8
          clear hD8 r1 hK8 mk m1 m2 m3 HCR
          go_wp2_with fail
          (with_reducible refine R1.out.mono ?_)
          rintro e w9 ⟨ax, cx, rfl, hx, hB9⟩
          have hs9 := hB9.size
          have r2 := in_read_sec (HD8.out.grow hB9) ((k : Int) + 1) _ (hCok.sec (i := k + 1) (by omega)) c2
          have R2 := Lib.hid r2
          have HX := Lib.hid hx
          clear hx r2 R1
          go_wp2_with fail
          (with_reducible refine R2.out.mono ?_)
          rintro e w10 ⟨ay, cy, rfl, hy, hB10⟩
          have hs10 := hB10.size
          have r3 := in_read_sec ((HD8.out.grow hB9).grow hB10) ((k : Int) + 2) _ (hCok.sec (i := k + 2) (by omega)) c3
          have R3 := Lib.hid r3
          have HY := Lib.hid hy
          clear hy r3 R2
          go_wp2_with fail
          (with_reducible refine R3.out.mono ?_)
          rintro e w11 ⟨az, cz, rfl, hz, hB11⟩
          have hs11 := hB11.size
          have HZ := Lib.hid hz
          clear hz R3
          go_wp2_with fail
          have hPw : ∀ x, P x → x < w4.heap.size := HD4.out.low
          have hWP : ∀ b, P b → ¬ Wild W P b := fun b hb hf => hf.2 hb
          have hB811 := (hB9.trans (hB10.mono hs9)).trans (hB11.mono (by omega))
          have HRA11 := Lib.hid ((HRA4.out.keeps HM8.out hWP).below hB811 (Nat.le_refl _))
          have HRB11 := Lib.hid ((HRB4.out.keeps HM8.out hWP).below hB811 (Nat.le_refl _))
          have HX11 := Lib.hid (HX.out.below (hB10.trans (hB11.mono hs10)) (Nat.le_refl _))
          have HY11 := Lib.hid (HY.out.below hB11 (Nat.le_refl _))
          have HD11 := Lib.hid (HD8.out.grow hB811)
          have HCA : Hid (∀ w', Below w11.heap.size w11 w' → (convert 22 9 (.slice (some ⟨ba, 0, none⟩) 128 ca)).run Try.prog w' = .ok (.string (strOf A)) w') := fun w' hw' => conv_row (HRA11.out.below hw' (Nat.le_refl _))
          have HCB : Hid (∀ w', Below w11.heap.size w11 w' → (convert 22 9 (.slice (some ⟨bb, 0, none⟩) 128 cb)).run Try.prog w' = .ok (.string (strOf B)) w') := fun w' hw' => conv_row (HRB11.out.below hw' (Nat.le_refl _))
          refine wp_region_noPanic ?_
          refine wp_region_held_drew (S := (fun w' => (convert 22 9 (.slice (some ⟨ba, 0, none⟩) 128 ca)).run Try.prog w' = .ok (.string (strOf A)) w' ∧ (convert 22 9 (.slice (some ⟨bb, 0, none⟩) 128 cb)).run Try.prog w' = .ok (.string (strOf B)) w')) (by kernel_rfl) ?_ (fun hS => ?_)
          · exact ⟨HCA.out _ (Below.refl _ _).drew, HCB.out _ (Below.refl _ _).drew⟩
          refine wpAnyH_take (i := 0) (oi := ?oi1) (v := ?v1) ?hi1 (by kernel_rfl) (by kernel_rfl) (by kernel_rfl) ?hq1 (Or.inl ⟨?hw1, ?hy1⟩) hS ?rest1
          case hi1 => simp only [List.getElem?_toArray, List.getElem?_cons_succ, List.getElem?_cons_zero]; rfl
          case hq1 => exact fun _ _ _ h => h
          case hw1 => rfl
          case hy1 => intro w hSw; (try dsimp only at hSw); go_simp; (try with_reducible rfl)
          try simp only [Act.put, List.setIfInBounds_toArray, List.set_cons_zero, List.set_cons_succ]
          refine wpAnyH_take (i := 1) (oi := ?oi2) (v := ?v2) ?hi2 (by kernel_rfl) (by kernel_rfl) (by kernel_rfl) ?hq2 (Or.inl ⟨?hw2, ?hy2⟩) hS ?rest2
          case hi2 => simp only [List.getElem?_toArray, List.getElem?_cons_succ, List.getElem?_cons_zero]; rfl
          case hq2 => exact fun _ _ _ h => h
          case hw2 => rfl
          case hy2 => intro w hSw; (try dsimp only at hSw); go_simp; (try with_reducible rfl)
          try simp only [Act.put, List.setIfInBounds_toArray, List.set_cons_zero, List.set_cons_succ]
          refine wpAnyH_take (i := 2) (oi := ?oi3) (v := ?v3) ?hi3 (by kernel_rfl) (by kernel_rfl) (by kernel_rfl) ?hq3 (Or.inl ⟨?hw3, ?hy3⟩) hS ?rest3
          case hi3 => simp only [List.getElem?_toArray, List.getElem?_cons_succ, List.getElem?_cons_zero]; rfl
          case hq3 => exact fun _ _ _ h => h
          case hw3 => rfl
          case hy3 => intro w hSw; (try dsimp only at hSw); go_simp; (try with_reducible rfl)
          try simp only [Act.put, List.setIfInBounds_toArray, List.set_cons_zero, List.set_cons_succ]
          refine wpAnyH_take (i := 3) (oi := ?oi4) (v := ?v4) ?hi4 (by kernel_rfl) (by kernel_rfl) (by kernel_rfl) ?hq4 (Or.inl ⟨?hw4, ?hy4⟩) hS ?rest4
          case hi4 => simp only [List.getElem?_toArray, List.getElem?_cons_succ, List.getElem?_cons_zero]; rfl
          case hq4 => exact fun _ _ _ h => h
          case hw4 => rfl
          case hy4 => intro w hSw; (try dsimp only at hSw); go_simp; (try with_reducible rfl)
          try simp only [Act.put, List.setIfInBounds_toArray, List.set_cons_zero, List.set_cons_succ]
          refine wpAnyH_take (i := 4) (oi := ?oi5) (v := ?v5) ?hi5 (by kernel_rfl) (by kernel_rfl) (by kernel_rfl) ?hq5 (Or.inl ⟨?hw5, ?hy5⟩) hS ?rest5
          case hi5 => simp only [List.getElem?_toArray, List.getElem?_cons_succ, List.getElem?_cons_zero]; rfl
          case hq5 => exact fun _ _ _ h => h
          case hw5 => rfl
          case hy5 => intro w hSw; (try dsimp only at hSw); go_simp; (try with_reducible rfl)
          try simp only [Act.put, List.setIfInBounds_toArray, List.set_cons_zero, List.set_cons_succ]
          refine wpAnyH_take (i := 5) (oi := ?oi6) (v := ?v6) ?hi6 (by kernel_rfl) (by kernel_rfl) (by kernel_rfl) ?hq6 (Or.inl ⟨?hw6, ?hy6⟩) hS ?rest6
          case hi6 => simp only [List.getElem?_toArray, List.getElem?_cons_succ, List.getElem?_cons_zero]; rfl
          case hq6 => exact fun _ _ _ h => h
          case hw6 => rfl
          case hy6 => intro w hSw; (try dsimp only at hSw); go_simp; (try with_reducible rfl)
          try simp only [Act.put, List.setIfInBounds_toArray, List.set_cons_zero, List.set_cons_succ]
          refine wpAnyH_done (by kernel_rfl) ?_ _
          refine NoPanic.normal ?_
          clear hS
          go_upto_if 109 with (fail)
          go_cut [25, 26] (fun s25 s26 wx => s25 = .string (strOf X1) ∧ s26 = .string (strOf X2) ∧ wx = w11.drew)
          case first =>
            cases a4
            · obtain rfl : A = X1 := HX1.out
              obtain rfl : B = X2 := HX2.out
              go_wp2_with fail
              go_meet
              exact ⟨rfl, rfl, rfl⟩
            · obtain rfl : B = X1 := HX1.out
              obtain rfl : A = X2 := HX2.out
              go_wp2_with fail
              go_meet
              exact ⟨rfl, rfl, rfl⟩
          case rest =>
            obtain ⟨rfl, rfl, rfl⟩ := hcut
            have HBN : Hid (∀ w', Below w11.heap.size w11 w' → (convert 22 9 (.slice (some ⟨bb, 0, none⟩) n cb)).run Try.prog w' = .ok (.string (strOf (B.take n))) w') := fun w' hw' => by
              have h := (HRB11.out.below hw' (Nat.le_refl _)).take n
              rw [Nat.min_eq_right (by omega), ← List.map_take] at h
              exact conv_row h
            have hcb' : n ≤ cb := by omega
            have hca' : n ≤ ca := by omega
            have HAN : Hid (∀ w', Below w11.heap.size w11 w' → (convert 22 9 (.slice (if ca = n then some ⟨ba, 0, none⟩ else some ⟨ba, n, none⟩) (128 - n) (ca - n))).run Try.prog w' = .ok (.string (strOf (A.drop n))) w') := fun w' hw' => by
              have h := (HRA11.out.below hw' (Nat.le_refl _)).drop n
              rw [← List.map_drop, Nat.zero_add] at h
              refine conv_row (S := P) ?_
              split
              · refine RowAt.zero _ _ _ (by omega) ?_
                rw [List.drop_eq_nil_of_le (by rw [HA.out]; omega)]
                rfl
              · exact h
            have HKP : Hid (∀ w', Below w11.heap.size w11 w' → Below w11.heap.size w11 w' ∧ (convert 22 9 (.slice ax 128 cx)).run Try.prog w' = .ok (.string (strOf X1)) w' ∧ (convert 22 9 (.slice ay 128 cy)).run Try.prog w' = .ok (.string (strOf (B.take n ++ A.drop n))) w' ∧ (convert 22 9 (.slice az 128 cz)).run Try.prog w' = .ok (.string (strOf X2)) w' ∧ (convert 22 9 (.slice (some ⟨bb, 0, none⟩) n cb)).run Try.prog w' = .ok (.string (strOf (B.take n))) w' ∧ (convert 22 9 (.slice (if ca = n then some ⟨ba, 0, none⟩ else some ⟨ba, n, none⟩) (128 - n) (ca - n))).run Try.prog w' = .ok (.string (strOf (A.drop n))) w') := fun w' hw' => ⟨hw', conv_row (HX11.out.below hw' (Nat.le_refl _)), conv_row (HY11.out.below hw' (Nat.le_refl _)), conv_row (HZ.out.below hw' (Nat.le_refl _)), HBN.out _ hw', HAN.out _ hw'⟩
            go_wp2_with fail
            refine wp_region_noPanic ?_
            refine wp_region_held_drew (S := (fun w' => Below w11.heap.size w11 w' ∧ (convert 22 9 (.slice ax 128 cx)).run Try.prog w' = .ok (.string (strOf X1)) w' ∧ (convert 22 9 (.slice ay 128 cy)).run Try.prog w' = .ok (.string (strOf (B.take n ++ A.drop n))) w' ∧ (convert 22 9 (.slice az 128 cz)).run Try.prog w' = .ok (.string (strOf X2)) w' ∧ (convert 22 9 (.slice (some ⟨bb, 0, none⟩) n cb)).run Try.prog w' = .ok (.string (strOf (B.take n))) w' ∧ (convert 22 9 (.slice (if ca = n then some ⟨ba, 0, none⟩ else some ⟨ba, n, none⟩) (128 - n) (ca - n))).run Try.prog w' = .ok (.string (strOf (A.drop n))) w')) (by kernel_rfl) ?_ (fun hS => ?_)
            · exact HKP.out _ (below_drewq (Below.refl _ _) 2)
            have hsum : ¬ 9223372036854775807 < (strOf (B.take n)).size + (strOf (A.drop n)).size := by
              rw [strOf_size, strOf_size, List.length_take, List.length_drop, HA.out, HB.out]
              omega
            have hadd := strOf_append (B.take n) (A.drop n)
            refine wpAnyH_take (i := 0) (oi := ?oi7) (v := ?v7) ?hi7 (by kernel_rfl) (by kernel_rfl) (by kernel_rfl) ?hq7 (Or.inl ⟨?hw7, ?hy7⟩) hS ?rest7
            case hi7 => simp only [List.getElem?_toArray, List.getElem?_cons_succ, List.getElem?_cons_zero]; rfl
            case hq7 => exact fun _ _ _ h => h
            case hw7 => rfl
            case hy7 => intro w hSw; (try dsimp only at hSw); go_simp; (try with_reducible rfl)
            try simp only [Act.put, List.setIfInBounds_toArray, List.set_cons_zero, List.set_cons_succ]
            refine wpAnyH_take (i := 1) (oi := ?oi8) (v := ?v8) ?hi8 (by kernel_rfl) (by kernel_rfl) (by kernel_rfl) ?hq8 (Or.inl ⟨?hw8, ?hy8⟩) hS ?rest8
            case hi8 => simp only [List.getElem?_toArray, List.getElem?_cons_succ, List.getElem?_cons_zero]; rfl
            case hq8 => exact fun _ _ _ h => h
            case hw8 => rfl
            case hy8 => intro w hSw; (try dsimp only at hSw); go_simp; (try with_reducible rfl)
            try simp only [Act.put, List.setIfInBounds_toArray, List.set_cons_zero, List.set_cons_succ]
            refine wpAnyH_take (i := 2) (oi := ?oi9) (v := ?v9) ?hi9 (by kernel_rfl) (by kernel_rfl) (by kernel_rfl) ?hq9 (Or.inl ⟨?hw9, ?hy9⟩) hS ?rest9
            case hi9 => simp only [List.getElem?_toArray, List.getElem?_cons_succ, List.getElem?_cons_zero]; rfl
            case hq9 => exact fun _ _ _ h => h
            case hw9 => rfl
            case hy9 => intro w hSw; (try dsimp only at hSw); go_simp; (try with_reducible rfl)
            try simp only [Act.put, List.setIfInBounds_toArray, List.set_cons_zero, List.set_cons_succ]
            refine wpAnyH_take (i := 3) (oi := ?oi10) (v := ?v10) ?hi10 (by kernel_rfl) (by kernel_rfl) (by kernel_rfl) ?hq10 (Or.inl ⟨?hw10, ?hy10⟩) hS ?rest10
            case hi10 => simp only [List.getElem?_toArray, List.getElem?_cons_succ, List.getElem?_cons_zero]; rfl
            case hq10 => exact fun _ _ _ h => h
            case hw10 => rfl
            case hy10 => intro w hSw; (try dsimp only at hSw); go_simp; (try with_reducible rfl)
            try simp only [Act.put, List.setIfInBounds_toArray, List.set_cons_zero, List.set_cons_succ]
            refine wpAnyH_take (i := 4) (oi := ?oi11) (v := ?v11) ?hi11 (by kernel_rfl) (by kernel_rfl) (by kernel_rfl) ?hq11 (Or.inl ⟨?hw11, ?hy11⟩) hS ?rest11
            case hi11 => simp only [List.getElem?_toArray, List.getElem?_cons_succ, List.getElem?_cons_zero]; rfl
            case hq11 => exact fun _ _ _ h => h
            case hw11 => rfl
            case hy11 => intro w hSw; (try dsimp only at hSw); go_simp; (try with_reducible rfl)
            try simp only [Act.put, List.setIfInBounds_toArray, List.set_cons_zero, List.set_cons_succ]
            refine wpAnyH_take (i := 5) (oi := ?oi12) (v := ?v12) ?hi12 (by kernel_rfl) (by kernel_rfl) (by kernel_rfl) ?hq12 (Or.inl ⟨?hw12, ?hy12⟩) hS ?rest12
            case hi12 => simp only [List.getElem?_toArray, List.getElem?_cons_succ, List.getElem?_cons_zero]; rfl
            case hq12 => exact fun _ _ _ h => h
            case hw12 => rfl
            case hy12 => intro w hSw; (try dsimp only at hSw); go_simp; (try with_reducible rfl)
            try simp only [Act.put, List.setIfInBounds_toArray, List.set_cons_zero, List.set_cons_succ]
            refine wpAnyH_take (i := 6) (oi := ?oi13) (v := ?v13) ?hi13 (by kernel_rfl) (by kernel_rfl) (by kernel_rfl) ?hq13 (Or.inl ⟨?hw13, ?hy13⟩) hS ?rest13
            case hi13 => simp only [List.getElem?_toArray, List.getElem?_cons_succ, List.getElem?_cons_zero]; rfl
            case hq13 => exact fun _ _ _ h => h
            case hw13 => rfl
            case hy13 => intro w hSw; (try dsimp only at hSw); go_simp; (try with_reducible rfl)
            try simp only [Act.put, List.setIfInBounds_toArray, List.set_cons_zero, List.set_cons_succ]
            refine wpAnyH_take (i := 7) (oi := ?oi14) (v := ?v14) ?hi14 (by kernel_rfl) (by kernel_rfl) (by kernel_rfl) ?hq14 (Or.inl ⟨?hw14, ?hy14⟩) hS ?rest14
            case hi14 => simp only [List.getElem?_toArray, List.getElem?_cons_succ, List.getElem?_cons_zero]; rfl
            case hq14 => exact fun _ _ _ h => h
            case hw14 => rfl
            case hy14 => intro w hSw; (try dsimp only at hSw); go_simp; (try with_reducible rfl)
            try simp only [Act.put, List.setIfInBounds_toArray, List.set_cons_zero, List.set_cons_succ]
            refine wpAnyH_take (i := 8) (oi := ?oi15) (v := ?v15) ?hi15 (by kernel_rfl) (by kernel_rfl) (by kernel_rfl) ?hq15 (Or.inl ⟨?hw15, ?hy15⟩) hS ?rest15
            case hi15 => simp only [List.getElem?_toArray, List.getElem?_cons_succ, List.getElem?_cons_zero]; rfl
            case hq15 => exact fun _ _ _ h => h
            case hw15 => rfl
            case hy15 => intro w hSw; (try dsimp only at hSw); go_simp; (try with_reducible rfl)
            try simp only [Act.put, List.setIfInBounds_toArray, List.set_cons_zero, List.set_cons_succ]
            refine wpAnyH_take (i := 9) (oi := ?oi16) (v := ?v16) ?hi16 (by kernel_rfl) (by kernel_rfl) (by kernel_rfl) ?hq16 (Or.inl ⟨?hw16, ?hy16⟩) hS ?rest16
            case hi16 => simp only [List.getElem?_toArray, List.getElem?_cons_succ, List.getElem?_cons_zero]; rfl
            case hq16 => exact fun _ _ _ h => h
            case hw16 => rfl
            case hy16 => intro w hSw; (try dsimp only at hSw); go_simp; (try with_reducible rfl)
            try simp only [Act.put, List.setIfInBounds_toArray, List.set_cons_zero, List.set_cons_succ]
            refine wpAnyH_take (i := 10) (oi := ?oi17) (v := ?v17) ?hi17 (by kernel_rfl) (by kernel_rfl) (by kernel_rfl) ?hq17 (Or.inl ⟨?hw17, ?hy17⟩) hS ?rest17
            case hi17 => simp only [List.getElem?_toArray, List.getElem?_cons_succ, List.getElem?_cons_zero]; rfl
            case hq17 => exact fun _ _ _ h => h
            case hw17 => rfl
            case hy17 => intro w hSw; (try dsimp only at hSw); go_simp; (try with_reducible rfl)
            try simp only [Act.put, List.setIfInBounds_toArray, List.set_cons_zero, List.set_cons_succ]
            refine wpAnyH_take (i := 11) (oi := ?oi18) (v := ?v18) ?hi18 (by kernel_rfl) (by kernel_rfl) (by kernel_rfl) ?hq18 (Or.inl ⟨?hw18, ?hy18⟩) hS ?rest18
            case hi18 => simp only [List.getElem?_toArray, List.getElem?_cons_succ, List.getElem?_cons_zero]; rfl
            case hq18 => exact fun _ _ _ h => h
            case hw18 => rfl
            case hy18 => intro w hSw; (try dsimp only at hSw); go_simp; (try with_reducible rfl)
            try simp only [Act.put, List.setIfInBounds_toArray, List.set_cons_zero, List.set_cons_succ]
            refine wpAnyH_take (i := 12) (oi := ?oi19) (v := ?v19) ?hi19 (by kernel_rfl) (by kernel_rfl) (by kernel_rfl) ?hq19 (Or.inl ⟨?hw19, ?hy19⟩) hS ?rest19
            case hi19 => simp only [List.getElem?_toArray, List.getElem?_cons_succ, List.getElem?_cons_zero]; rfl
            case hq19 => exact fun _ _ _ h => h
            case hw19 => rfl
            case hy19 => intro w hSw; (try dsimp only at hSw); go_simp; (try with_reducible rfl)
            try simp only [Act.put, List.setIfInBounds_toArray, List.set_cons_zero, List.set_cons_succ]
            refine wpAnyH_take (i := 13) (oi := ?oi20) (v := ?v20) ?hi20 (by kernel_rfl) (by kernel_rfl) (by kernel_rfl) ?hq20 (Or.inl ⟨?hw20, ?hy20⟩) hS ?rest20
            case hi20 => simp only [List.getElem?_toArray, List.getElem?_cons_succ, List.getElem?_cons_zero]; rfl
            case hq20 => exact fun _ _ _ h => h
            case hw20 => rfl
            case hy20 => intro w hSw; (try dsimp only at hSw); go_simp; (try with_reducible rfl)
            try simp only [Act.put, List.setIfInBounds_toArray, List.set_cons_zero, List.set_cons_succ]
            refine wpAnyH_take (i := 14) (oi := ?oi21) (v := ?v21) ?hi21 (by kernel_rfl) (by kernel_rfl) (by kernel_rfl) ?hq21 (Or.inl ⟨?hw21, ?hy21⟩) hS ?rest21
            case hi21 => simp only [List.getElem?_toArray, List.getElem?_cons_succ, List.getElem?_cons_zero]; rfl
            case hq21 => exact fun _ _ _ h => h
            case hw21 => rfl
            case hy21 => intro w hSw; (try dsimp only at hSw); go_simp; (try with_reducible rfl)
            try simp only [Act.put, List.setIfInBounds_toArray, List.set_cons_zero, List.set_cons_succ]
            refine wpAnyH_take (i := 15) (oi := ?oi22) (v := ?v22) ?hi22 (by kernel_rfl) (by kernel_rfl) (by kernel_rfl) ?hq22 (Or.inl ⟨?hw22, ?hy22⟩) hS ?rest22
            case hi22 => simp only [List.getElem?_toArray, List.getElem?_cons_succ, List.getElem?_cons_zero]; rfl
            case hq22 => exact fun _ _ _ h => h
            case hw22 => rfl
            case hy22 => intro w hSw; (try dsimp only at hSw); go_simp; (try with_reducible rfl)
            try simp only [Act.put, List.setIfInBounds_toArray, List.set_cons_zero, List.set_cons_succ]
            refine wpAnyH_take (i := 16) (oi := ?oi23) (v := ?v23) ?hi23 (by kernel_rfl) (by kernel_rfl) (by kernel_rfl) ?hq23 (Or.inl ⟨?hw23, ?hy23⟩) hS ?rest23
            case hi23 => simp only [List.getElem?_toArray, List.getElem?_cons_succ, List.getElem?_cons_zero]; rfl
            case hq23 => exact fun _ _ _ h => h
            case hw23 => rfl
            case hy23 => intro w hSw; (try dsimp only at hSw); go_simp; (try with_reducible rfl)
            try simp only [Act.put, List.setIfInBounds_toArray, List.set_cons_zero, List.set_cons_succ]
            refine wpAnyH_take (i := 17) (oi := ?oi24) (v := ?v24) ?hi24 (by kernel_rfl) (by kernel_rfl) (by kernel_rfl) ?hq24 (Or.inl ⟨?hw24, ?hy24⟩) hS ?rest24
            case hi24 => simp only [List.getElem?_toArray, List.getElem?_cons_succ, List.getElem?_cons_zero]; rfl
            case hq24 => exact fun _ _ _ h => h
            case hw24 => rfl
            case hy24 => intro w hSw; (try dsimp only at hSw); go_simp; (try with_reducible rfl)
            try simp only [Act.put, List.setIfInBounds_toArray, List.set_cons_zero, List.set_cons_succ]
            refine wpAnyH_take (i := 18) (oi := ?oi25) (v := ?v25) ?hi25 (by kernel_rfl) (by kernel_rfl) (by kernel_rfl) ?hq25 (Or.inl ⟨?hw25, ?hy25⟩) hS ?rest25
            case hi25 => simp only [List.getElem?_toArray, List.getElem?_cons_succ, List.getElem?_cons_zero]; rfl
            case hq25 => exact fun _ _ _ h => h
            case hw25 => rfl
            case hy25 => intro w hSw; (try dsimp only at hSw); go_simp; (try with_reducible rfl)
            try simp only [Act.put, List.setIfInBounds_toArray, List.set_cons_zero, List.set_cons_succ]
            refine wpAnyH_take (i := 19) (oi := ?oi26) (v := ?v26) ?hi26 (by kernel_rfl) (by kernel_rfl) (by kernel_rfl) ?hq26 (Or.inl ⟨?hw26, ?hy26⟩) hS ?rest26
            case hi26 => simp only [List.getElem?_toArray, List.getElem?_cons_succ, List.getElem?_cons_zero]; rfl
            case hq26 => exact fun _ _ _ h => h
            case hw26 => rfl
            case hy26 => intro w hSw; (try dsimp only at hSw); go_simp; (try with_reducible rfl)
            try simp only [Act.put, List.setIfInBounds_toArray, List.set_cons_zero, List.set_cons_succ]
            refine wpAnyH_take (i := 20) (oi := ?oi27) (v := ?v27) ?hi27 (by kernel_rfl) (by kernel_rfl) (by kernel_rfl) ?hq27 (Or.inl ⟨?hw27, ?hy27⟩) hS ?rest27
            case hi27 => simp only [List.getElem?_toArray, List.getElem?_cons_succ, List.getElem?_cons_zero]; rfl
            case hq27 => exact fun _ _ _ h => h
            case hw27 => rfl
            case hy27 => intro w hSw; (try dsimp only at hSw); go_simp; (try with_reducible rfl)
            try simp only [Act.put, List.setIfInBounds_toArray, List.set_cons_zero, List.set_cons_succ]
            refine wpAnyH_take (i := 21) (oi := ?oi28) (v := ?v28) ?hi28 (by kernel_rfl) (by kernel_rfl) (by kernel_rfl) ?hq28 (Or.inl ⟨?hw28, ?hy28⟩) hS ?rest28
            case hi28 => simp only [List.getElem?_toArray, List.getElem?_cons_succ, List.getElem?_cons_zero]; rfl
            case hq28 => exact fun _ _ _ h => h
            case hw28 => rfl
            case hy28 => intro w hSw; (try dsimp only at hSw); go_simp; (try with_reducible rfl)
            try simp only [Act.put, List.setIfInBounds_toArray, List.set_cons_zero, List.set_cons_succ]
            refine wpAnyH_take (i := 22) (oi := ?oi29) (v := ?v29) ?hi29 (by kernel_rfl) (by kernel_rfl) (by kernel_rfl) ?hq29 (Or.inl ⟨?hw29, ?hy29⟩) hS ?rest29
            case hi29 => simp only [List.getElem?_toArray, List.getElem?_cons_succ, List.getElem?_cons_zero]; rfl
            case hq29 => exact fun _ _ _ h => h
            case hw29 => rfl
            case hy29 => intro w hSw; (try dsimp only at hSw); go_simp; (try with_reducible rfl)
            try simp only [Act.put, List.setIfInBounds_toArray, List.set_cons_zero, List.set_cons_succ]
            refine wpAnyH_take (i := 23) (oi := ?oi30) (v := ?v30) ?hi30 (by kernel_rfl) (by kernel_rfl) (by kernel_rfl) ?hq30 (Or.inl ⟨?hw30, ?hy30⟩) hS ?rest30
            case hi30 => simp only [List.getElem?_toArray, List.getElem?_cons_succ, List.getElem?_cons_zero]; rfl
            case hq30 => exact fun _ _ _ h => h
            case hw30 => rfl
            case hy30 => intro w hSw; (try dsimp only at hSw); go_simp; (try with_reducible rfl)
            try simp only [Act.put, List.setIfInBounds_toArray, List.set_cons_zero, List.set_cons_succ]
            refine wpAnyH_take (i := 24) (oi := ?oi31) (v := ?v31) ?hi31 (by kernel_rfl) (by kernel_rfl) (by kernel_rfl) ?hq31 (Or.inl ⟨?hw31, ?hy31⟩) hS ?rest31
            case hi31 => simp only [List.getElem?_toArray, List.getElem?_cons_succ, List.getElem?_cons_zero]; rfl
            case hq31 => exact fun _ _ _ h => h
            case hw31 => rfl
            case hy31 => intro w hSw; (try dsimp only at hSw); go_simp; (try with_reducible rfl)
            try simp only [Act.put, List.setIfInBounds_toArray, List.set_cons_zero, List.set_cons_succ]
            refine wpAnyH_take (i := 25) (oi := ?oi32) (v := ?v32) ?hi32 (by kernel_rfl) (by kernel_rfl) (by kernel_rfl) ?hq32 (Or.inl ⟨?hw32, ?hy32⟩) hS ?rest32
            case hi32 => simp only [List.getElem?_toArray, List.getElem?_cons_succ, List.getElem?_cons_zero]; rfl
            case hq32 => exact fun _ _ _ h => h
            case hw32 => rfl
            case hy32 => intro w hSw; (try dsimp only at hSw); go_simp; (try with_reducible rfl)
            try simp only [Act.put, List.setIfInBounds_toArray, List.set_cons_zero, List.set_cons_succ]
            clear hsum hadd HAN HBN
            generalize (if ca = n then some (⟨ba, 0, none⟩ : Addr) else some ⟨ba, n, none⟩) = AD at hS HKP ⊢
            refine wpAnyH_ready (rs := [26]) (by kernel_rfl) (by simp) ?_
            refine AllReadyH.cons (o := ?o33) ?ho33 (fun K hK => ?_) AllReadyH.nil
            case ho33 => simp only [List.getElem?_toArray, List.getElem?_cons_succ, List.getElem?_cons_zero]; rfl
            go_simp
            (with_reducible refine (in_dirty (HD11.out.grow hS.1) [] 0 hdk rfl).mono ?_)
            rintro e w12 ⟨a12, c12, rfl, hr12, hB12⟩
            clear hr12
            go_wp2_with fail
            have hB1112 := hS.1.trans (hB12.mono hS.1.size)
            refine hK.out _ _ (HKP.out _ hB1112) (fun hS => ?_)
            clear hK K
            try simp only [Act.put, List.setIfInBounds_toArray, List.set_cons_zero, List.set_cons_succ]
            refine wpAnyH_take (i := 27) (oi := ?oi34) (v := ?v34) ?hi34 (by kernel_rfl) (by kernel_rfl) (by kernel_rfl) ?hq34 (Or.inl ⟨?hw34, ?hy34⟩) hS ?rest34
            case hi34 => simp only [List.getElem?_toArray, List.getElem?_cons_succ, List.getElem?_cons_zero]; rfl
            case hq34 => exact fun _ _ _ h => h
            case hw34 => rfl
            case hy34 => intro w hSw; (try dsimp only at hSw); go_simp; (try with_reducible rfl)
            try simp only [Act.put, List.setIfInBounds_toArray, List.set_cons_zero, List.set_cons_succ]
            refine wpAnyH_take (i := 28) (oi := ?oi35) (v := ?v35) ?hi35 (by kernel_rfl) (by kernel_rfl) (by kernel_rfl) ?hq35 (Or.inl ⟨?hw35, ?hy35⟩) hS ?rest35
            case hi35 => simp only [List.getElem?_toArray, List.getElem?_cons_succ, List.getElem?_cons_zero]; rfl
            case hq35 => exact fun _ _ _ h => h
            case hw35 => rfl
            case hy35 => intro w hSw; (try dsimp only at hSw); go_simp; (try with_reducible rfl)
            try simp only [Act.put, List.setIfInBounds_toArray, List.set_cons_zero, List.set_cons_succ]
            refine wpAnyH_take (i := 29) (oi := ?oi36) (v := ?v36) ?hi36 (by kernel_rfl) (by kernel_rfl) (by kernel_rfl) ?hq36 (Or.inl ⟨?hw36, ?hy36⟩) hS ?rest36
            case hi36 => simp only [List.getElem?_toArray, List.getElem?_cons_succ, List.getElem?_cons_zero]; rfl
            case hq36 => exact fun _ _ _ h => h
            case hw36 => rfl
            case hy36 => intro w hSw; (try dsimp only at hSw); go_simp; (try with_reducible rfl)
            try simp only [Act.put, List.setIfInBounds_toArray, List.set_cons_zero, List.set_cons_succ]
            refine wpAnyH_take (i := 30) (oi := ?oi37) (v := ?v37) ?hi37 (by kernel_rfl) (by kernel_rfl) (by kernel_rfl) ?hq37 (Or.inl ⟨?hw37, ?hy37⟩) hS ?rest37
            case hi37 => simp only [List.getElem?_toArray, List.getElem?_cons_succ, List.getElem?_cons_zero]; rfl
            case hq37 => exact fun _ _ _ h => h
            case hw37 => rfl
            case hy37 => intro w hSw; (try dsimp only at hSw); go_simp; (try with_reducible rfl)
            try simp only [Act.put, List.setIfInBounds_toArray, List.set_cons_zero, List.set_cons_succ]
            refine wpAnyH_take (i := 31) (oi := ?oi38) (v := ?v38) ?hi38 (by kernel_rfl) (by kernel_rfl) (by kernel_rfl) ?hq38 (Or.inl ⟨?hw38, ?hy38⟩) hS ?rest38
            case hi38 => simp only [List.getElem?_toArray, List.getElem?_cons_succ, List.getElem?_cons_zero]; rfl
            case hq38 => exact fun _ _ _ h => h
            case hw38 => rfl
            case hy38 => intro w hSw; (try dsimp only at hSw); go_simp; (try with_reducible rfl)
            try simp only [Act.put, List.setIfInBounds_toArray, List.set_cons_zero, List.set_cons_succ]
            refine wpAnyH_ready (rs := [32]) (by kernel_rfl) (by simp) ?_
            refine AllReadyH.cons (o := ?o39) ?ho39 (fun K hK => ?_) AllReadyH.nil
            case ho39 => simp only [List.getElem?_toArray, List.getElem?_cons_succ, List.getElem?_cons_zero]; rfl
            go_simp
            (with_reducible refine (in_writes (HD11.out.grow hS.1) 6 hwr6).mono ?_)
            rintro e w13 ⟨rfl, rfl⟩
            go_wp2_with fail
            refine hK.out _ _ (hS) (fun hS => ?_)
            clear hK K
            try simp only [Act.put, List.setIfInBounds_toArray, List.set_cons_zero, List.set_cons_succ]
            refine wpAnyH_take (i := 33) (oi := ?oi40) (v := ?v40) ?hi40 (by kernel_rfl) (by kernel_rfl) (by kernel_rfl) ?hq40 (Or.inl ⟨?hw40, ?hy40⟩) hS ?rest40
            case hi40 => simp only [List.getElem?_toArray, List.getElem?_cons_succ, List.getElem?_cons_zero]; rfl
            case hq40 => exact fun _ _ _ h => h
            case hw40 => rfl
            case hy40 => intro w hSw; (try dsimp only at hSw); go_simp; (try with_reducible rfl)
            try simp only [Act.put, List.setIfInBounds_toArray, List.set_cons_zero, List.set_cons_succ]
            refine wpAnyH_take (i := 34) (oi := ?oi41) (v := ?v41) ?hi41 (by kernel_rfl) (by kernel_rfl) (by kernel_rfl) ?hq41 (Or.inl ⟨?hw41, ?hy41⟩) hS ?rest41
            case hi41 => simp only [List.getElem?_toArray, List.getElem?_cons_succ, List.getElem?_cons_zero]; rfl
            case hq41 => exact fun _ _ _ h => h
            case hw41 => rfl
            case hy41 => intro w hSw; (try dsimp only at hSw); go_simp; (try with_reducible rfl)
            try simp only [Act.put, List.setIfInBounds_toArray, List.set_cons_zero, List.set_cons_succ]
            refine wpAnyH_take (i := 35) (oi := ?oi42) (v := ?v42) ?hi42 (by kernel_rfl) (by kernel_rfl) (by kernel_rfl) ?hq42 (Or.inl ⟨?hw42, ?hy42⟩) hS ?rest42
            case hi42 => simp only [List.getElem?_toArray, List.getElem?_cons_succ, List.getElem?_cons_zero]; rfl
            case hq42 => exact fun _ _ _ h => h
            case hw42 => rfl
            case hy42 => intro w hSw; (try dsimp only at hSw); go_simp; (try with_reducible rfl)
            try simp only [Act.put, List.setIfInBounds_toArray, List.set_cons_zero, List.set_cons_succ]
            refine wpAnyH_ready (rs := [36]) (by kernel_rfl) (by simp) ?_
            refine AllReadyH.cons (o := ?o43) ?ho43 (fun K hK => ?_) AllReadyH.nil
            case ho43 => simp only [List.getElem?_toArray, List.getElem?_cons_succ, List.getElem?_cons_zero]; rfl
            go_simp
            (with_reducible refine (known5_any _).mono ?_)
            rintro e w13 ⟨rfl, hB13⟩
            go_wp2_with fail
            have hB1113 := hB1112.trans (hB13.mono hB1112.size)
            refine hK.out _ _ (HKP.out _ hB1113) (fun hS => ?_)
            clear hK K
            try simp only [Act.put, List.setIfInBounds_toArray, List.set_cons_zero, List.set_cons_succ]
            refine wpAnyH_take (i := 37) (oi := ?oi44) (v := ?v44) ?hi44 (by kernel_rfl) (by kernel_rfl) (by kernel_rfl) ?hq44 (Or.inl ⟨?hw44, ?hy44⟩) hS ?rest44
            case hi44 => simp only [List.getElem?_toArray, List.getElem?_cons_succ, List.getElem?_cons_zero]; rfl
            case hq44 => exact fun _ _ _ h => h
            case hw44 => rfl
            case hy44 => intro w hSw; (try dsimp only at hSw); go_simp; (try with_reducible rfl)
            try simp only [Act.put, List.setIfInBounds_toArray, List.set_cons_zero, List.set_cons_succ]
            refine wpAnyH_take (i := 38) (oi := ?oi45) (v := ?v45) ?hi45 (by kernel_rfl) (by kernel_rfl) (by kernel_rfl) ?hq45 (Or.inl ⟨?hw45, ?hy45⟩) hS ?rest45
            case hi45 => simp only [List.getElem?_toArray, List.getElem?_cons_succ, List.getElem?_cons_zero]; rfl
            case hq45 => exact fun _ _ _ h => h
            case hw45 => rfl
            case hy45 => intro w hSw; (try dsimp only at hSw); go_simp; (try with_reducible rfl)
            try simp only [Act.put, List.setIfInBounds_toArray, List.set_cons_zero, List.set_cons_succ]
            refine wpAnyH_done (by kernel_rfl) ?_ _
            refine NoPanic.normal ?_
            clear hS
            go_wp2
            go_ret
            exact ⟨rfl, HD11.out.below.trans (hB1113.mono HD11.out.below.size)⟩
end Go.Proofs.Ytkdomgiabiedlaa.diskTorn
