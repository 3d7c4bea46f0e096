/- SnapForgets: the walk. -/
import Derived.Test.YtpgklnhkfgbpgaaGreatM31
import Derived.Test.YtpgklnhkfgbpgaaGreatM32
import Derived.Deep.CutBlock
import Derived.Deep.DeepCutAuto
namespace Go.Proofs.YtpgklnhkfgbpgaaGreat.snapForgets
open Go.ChangeShapes Go.WideShapes Go.ChangeAt Go.RowKit
set_option linter.unusedVariables false
set_option linter.unusedSimpArgs false

def fch (i : Nat) : ByteArray := strOf [UInt8.ofNat (97 + i)]
theorem utf8_a (i : Nat) (hi : i < 20) : (⟨#[102]⟩ : ByteArray) ++ fch i = strOf (fname i) := by
  unfold fch fname
  exact strOf_append [102] [UInt8.ofNat (97 + i)]
theorem enc_a (i : Nat) (hi : i < 20) : Utf8.encode (97 + (i : Int)) = fch i := by
  rcases (show i = 0 ∨ i = 1 ∨ i = 2 ∨ i = 3 ∨ i = 4 ∨ i = 5 ∨ i = 6 ∨ i = 7 ∨ i = 8 ∨ i = 9 ∨ i = 10 ∨ i = 11 ∨ i = 12 ∨ i = 13 ∨ i = 14 ∨ i = 15 ∨ i = 16 ∨ i = 17 ∨ i = 18 ∨ i = 19 by omega) with rfl | rfl | rfl | rfl | rfl | rfl | rfl | rfl | rfl | rfl | rfl | rfl | rfl | rfl | rfl | rfl | rfl | rfl | rfl | rfl <;> rfl
theorem cv1 (i : Nat) (hi : i < 20) : ∀ w, (convert 3 21 (.int .i64 (97 + (i : Int)))).run Tryz.prog w = .ok (.int .i32 (97 + (i : Int))) w := fun w => by
  have hk : Tryz.prog.intKind 21 = .i32 := by kernel_rfl
  have := run_convert_int (P := Tryz.prog) w 3 21 .i64 (97 + (i : Int)) (by rw [Tryz.underlying3]; rfl) (by rw [hk]; exact Tryz.underlying21)
  rw [this, hk, IntWalk.i32_in _ (by omega)]
theorem cv2 (i : Nat) (hi : i < 20) : ∀ w, (convert 21 9 (.int .i32 (97 + (i : Int)))).run Tryz.prog w = .ok (.string (fch i)) w := fun w => by
  have := run_convert_int_string (P := Tryz.prog) w 21 9 .i32 (97 + (i : Int)) (by rw [Tryz.underlying21]; rfl) Tryz.underlying9
  rw [this, enc_a i hi]
section
variable {W w : World} {o : Mark} {b s t k : Nat} {S : SnM} {ps : List (Option Int)}
theorem fg_make (h : Sn13 W o w b s t S (stL ps)) (hk : ps.length = k) (h20 : k < 20) : Calls Tryz.prog 11 #[ptr t, .slice (some ⟨w.heap.size, 0, none⟩) 1 1, .int .i64 1] (w.alloc (.cells #[.string (strOf (fname k))] 9)) fun e w' => e = .returned (.tuple #[.int .i64 ((k : Int) + 1), .int .i64 0]) ∧ ∃ o', Sn13 W o' w' b s t S (stL (ps ++ [none])) := by
  have hg := h.grow (wall w (.cells #[.string (strOf (fname k))] 9))
  refine (om_make hg.tr hg.marks (by omega) hg.ok (some ⟨w.heap.size, 0, none⟩) 1 1 [fname k] 1 (strs_lit (w := w) (vs := [.string (strOf (fname k))]) 9 rfl rfl (by simp) (by simp [fname])) (Nat.le_refl _) (by omega)).mono ?_
  rintro e w' ⟨rfl, o', hs, hT⟩
  subst hk
  have hok := hg.ok.makeM [fname ps.length] 1
  rw [stL_make ps h20] at hT hok ⊢
  exact ⟨rfl, o', hg.turn hs hT hok⟩
theorem fg_seal (h : Sn13 W o w b s t S (stL (ps ++ [none]))) (hk : ps.length = k) (h20 : k < 20) (u : Int) (h0 : 0 ≤ u) (h1 : u ≤ 1099511627776) : Calls Tryz.prog 12 #[ptr t, .int .i64 ((k : Int) + 1), .int .u64 u] w fun e w' => e = .returned (.int .i64 0) ∧ ∃ o', Sn13 W o' w' b s t S (stL (ps ++ [some u])) := by
  refine (om_seal h.tr h.marks (by omega) ((k : Int) + 1) u (okInt (by omega) (by omega)) h0 (by omega)).mono ?_
  rintro e w' ⟨rfl, o', hs, hT⟩
  subst hk
  have hok := h.ok.sealM ((ps.length : Int) + 1) u h0
  rw [stL_seal ps u h1] at hT hok ⊢
  exact ⟨rfl, o', h.turn hs hT hok⟩
end
def FRel (W : World) (b s t k : Nat) (v : Value) (w : World) : Prop :=
  ∃ o ps most, v = .int .u64 most ∧ ps.length = k ∧ Sn13 W o w b s t newSn (stL ps) ∧ (∀ p ∈ ps, p ≠ none) ∧ 0 ≤ most ∧ most < 40 ∧ ∀ now, 0 ≤ now → boundM (stL ps) now = decide (now < most)
theorem FRel.next {W w : World} {o : Mark} {b s t k : Nat} {ps : List (Option Int)} {most u : Int} (hk : ps.length = k) (h : Sn13 W o w b s t newSn (stL (ps ++ [some u]))) (hp : ∀ p ∈ ps, p ≠ none) (hb : ∀ now, 0 ≤ now → boundM (stL ps) now = decide (now < most)) (h0 : 0 ≤ most) (h1 : most < 40) (h2 : 0 ≤ u) (h3 : u < 40) {m : Int} (hm : m = if most < u then u else most) : FRel W b s t (k + 1) (.int .u64 m) w := by
  refine ⟨o, ps ++ [some u], m, rfl, by rw [List.length_append, hk]; rfl, h, fun p hp' => ?_, ?_, ?_, ?_⟩
  · rcases List.mem_append.1 hp' with hp' | hp'
    · exact hp p hp'
    · rw [List.mem_singleton] at hp'; rw [hp']; simp
  · rw [hm]; split <;> omega
  · rw [hm]; split <;> omega
  · rw [hm]; exact stL_bound hb
def FDone (W : World) (b s t : Nat) (v : Value) (w : World) : Prop := ∃ k, k ≤ 10 ∧ FRel W b s t k v w
set_option maxRecDepth 100000 in
set_option maxHeartbeats 64000000 in
theorem walk {H : Type} {enc : TypeId × Value → H} (W : World) (base : Nat) (v0 : Value) (d0 : DataW H) (p0 : List MemPlace) (o0 : Value.okWide Tryz.prog W .any base 43 v0) (h0 : DataW.Trod enc Tryz.prog W 0 (fun _ => true) true 43 v0 d0 p0) (l0 : ∀ x ∈ p0, x.block < W.heap.size) (a1 : Int) (w1 : (Lit.int .u64 a1).wf = true) (hsz : (DataW.weightsEach Tryz.prog [43, 26] ([d0, .lit (.int .u64 a1)] : List (DataW H))).all (· ≤ reachBytes) = true) :
    Calls Tryz.prog 4 #[v0, .int .u64 a1] W (Fine W) := by
  obtain ⟨a, len, cap, us, rfl, hlc, hr, hus⟩ : ∃ a len cap us, v0 = .slice a len cap ∧ len ≤ cap ∧ RowAt (Old W) W a len ((us : List Int).map (Value.int .u64)) ∧ ∀ u ∈ us, 0 ≤ u := by
    obtain ⟨a0, len, cap, rfl⟩ := okWide_slice Tryz.underlying43 o0
    obtain ⟨fuel, hf⟩ := h0
    exact open_u64T hf l0
  have b2 : 0 ≤ a1 := by simp [Lit.wf, IntKind.min, IntKind.max, IntKind.signed, IntKind.bits] at w1; omega
  have t2 : 0 ≤ a1 % 50 := by omega
  have t2' : a1 % 50 < 50 := by omega
  have hlm := hr.small
  unfold maxLen at hlm
  have HR := Lib.hid hr
  have HUS := Lib.hid hus
  clear hr hus o0 h0 l0 w1 hsz hlc
  go_enter Tryz.func4, Tryz.ntmps4
  go_wp2_with fail
  (with_reducible refine (begin13_any W).mono ?_)
  rintro e w1 ⟨b, s, t, o1, rfl, hS1⟩
  have HST : Hid (FRel W b s t 0 (.int .u64 0) w1) := ⟨o1, [], 0, rfl, rfl, hS1, by simp, by omega, by omega, stL_bound0⟩
  clear hS1
  go_upto_block 0 with (fail)
  go_cut [6] from 17 to 61 (fun v wx => FDone W b s t v wx)
  case first =>
    go_wp2_with fail
    go_loopw [6, 7] (fun mv i wr => ∃ k : Nat, i = .int .i64 k ∧ k ≤ 10 ∧ FRel W b s t k mv wr) (fun _ i _ => 10 - (intOf i).toNat)
    case atStart => exact ⟨0, rfl, by omega, HST.out⟩
    case round =>
      obtain ⟨k, rfl, hk10, hR⟩ := hrel
      obtain ⟨o, ps, most, rfl, hpk, hS, hP, hm0, hm1, hB⟩ := hR
      have HPK := Lib.hid hpk
      have HS := Lib.hid hS
      have HP := Lib.hid hP
      have HBD := Lib.hid hB
      obtain ⟨x1, x2, hbox⟩ := hS.box
      have q1 : wr.cell? ⟨b, 1, none⟩ = some (ptr t) := by simp [World.cell?, hbox]
      clear hpk hS hP hB hbox
      by_cases hlt : k < len
      · have hd1 : decide (k < len) = true := by simpa using hlt
        by_cases h20 : k < 10
        · obtain ⟨g, off, rfl, hg1, hgw, hcells⟩ := HR.out.at_ (by omega)
          have hul : us.length = len := by have := HR.out.length; simpa using this
          obtain ⟨u, hu⟩ : ∃ u, us[k]? = some u := ⟨_, List.getElem?_eq_getElem (by omega)⟩
          have hu0 : 0 ≤ u := HUS.out u (List.mem_of_getElem? hu)
          have hc0 : W.cell? ⟨g, off + k, none⟩ = some (.int .u64 u) := by rw [hcells k hlt, List.getElem?_map, hu]; rfl
          have HC0 := Lib.hid hc0
          have i0 : (0 : Int) ≤ (k : Int) := by omega
          have i1 : (k : Int) < (len : Int) := by omega
          have i2 : (k : Int) < 10 := by omega
          have hd2 : decide ((k : Int) < 10) = true := by simpa using i2
          have m1 : 0 ≤ u % 40 := by omega
          have m2 : u % 40 < 40 := by omega
          have hname := utf8_a k (by omega)
          have hcv1 := cv1 k (by omega)
          have hcv2 := cv2 k (by omega)
          have HGW := Lib.hid hgw
          have HB20 : Hid (k < 20) := Lib.hid (show k < 20 by omega)
          have HMK := Lib.hid (fg_make HS.out HPK.out HB20.out)
          clear hcells hul hu hc0
          go_wp2_with fail
          (with_reducible refine HMK.out.mono ?_)
          rintro e w4 ⟨rfl, o4, hS4⟩
          have HS4 := Lib.hid hS4
          have q4 : w4.cell? ⟨g, off + k, none⟩ = some (.int .u64 u) := (hS4.marks.below.cell (p := ⟨g, off + k, none⟩) HGW.out).trans HC0.out
          have r4 := hS4.two.2
          have HSE := Lib.hid (fg_seal hS4 HPK.out HB20.out (u % 40) (by omega) (by omega))
          clear hS4 hname hcv1 hcv2 HMK q1
          go_wp2_with fail
          (with_reducible refine HSE.out.mono ?_)
          rintro e w5 ⟨rfl, o5, hS5⟩
          have HS5 := Lib.hid hS5
          clear hS5 HSE q4 r4
          by_cases hlv : most < u % 40
          · have hd4 : decide (most < u % 40) = true := by simpa using hlv
            have HM : Hid (u % 40 = if most < u % 40 then u % 40 else most) := Lib.hid (if_pos hlv).symm
            go_wp2_with fail
            go_roundw
            case rel => exact ⟨k + 1, by go_num, by omega, FRel.next HPK.out HS5.out HP.out HBD.out hm0 hm1 m1 m2 HM.out⟩
            case measure => simp [intOf]; omega
          · have hd4 : decide (most < u % 40) = false := by simpa using hlv
            have HM : Hid (most = if most < u % 40 then u % 40 else most) := Lib.hid (if_neg hlv).symm
            go_wp2_with fail
            go_roundw
            case rel => exact ⟨k + 1, by go_num, by omega, FRel.next HPK.out HS5.out HP.out HBD.out hm0 hm1 m1 m2 HM.out⟩
            case measure => simp [intOf]; omega
        · have hd2 : decide ((k : Int) < 10) = false := by simp; omega
          go_wp2_with fail
          go_meet
          exact ⟨k, hk10, o, ps, most, rfl, HPK.out, HS.out, HP.out, hm0, hm1, HBD.out⟩
      · have hd1 : decide (k < len) = false := by simpa using hlt
        go_wp2_with fail
        go_meet
        exact ⟨k, hk10, o, ps, most, rfl, HPK.out, HS.out, HP.out, hm0, hm1, HBD.out⟩
  case rest =>
    obtain ⟨k, hk10, o, ps, most, rfl, hpk, hS, hP, hm0, hm1, hB⟩ := hcut
    obtain ⟨w3, rfl⟩ : ∃ w3 : World, w3 = wc := ⟨_, rfl⟩
    have HCM := Lib.hid (commit_all (stL_closed hP))
    obtain ⟨x, S2, e1, l2, id2, tt2, n2, g2, _, q2⟩ := takeM_room (S := newSn) (T := stL ps) (by simp [newSn])
    have hl2 : S2.l = [x] := l2
    have hid2 : x.id = 1 := id2
    have hxt : x.t = stL ps := tt2.trans HCM.out
    have HL2 := Lib.hid hl2
    have HID := Lib.hid hid2
    have HBD : Hid (∀ now, 0 ≤ now → boundM x.t now = decide (now < most)) := by rw [hxt]; exact Lib.hid hB
    have HTA : Hid (Calls Tryz.prog 9 #[ptr s, ptr t] w3.drew fun e w' => e = .returned (.tuple #[.int .i64 1, .int .i64 0]) ∧ ∃ o', Sn13 W o' w' b s t S2 (stL ps)) := by
      have := (hS.grow (Below.refl _ _).drew).take (by simp [newSn])
      rw [e1] at this
      exact Lib.hid this
    obtain ⟨x1, x2, hbox⟩ := hS.box
    have HSQ : Hid (∀ w' : World, w'.heap[b]? = some (.cells #[ptr s, ptr t, ptr x1, ptr x2] 35 (0, 0)) → w'.cell? ⟨b, 0, none⟩ = some (ptr s) ∧ w'.cell? ⟨b, 1, none⟩ = some (ptr t)) := fun w' h => by constructor <;> simp [World.cell?, h]
    have HBX := Lib.hid hbox
    clear e1 l2 id2 tt2 n2 g2 q2 hl2 hid2 hxt hP hB hS hpk hbox HST HCM
    go_wp2_with fail
    refine wp_region_noPanic ?_
    refine wp_region_held_drew (S := (fun w' => w'.cell? ⟨b, 0, none⟩ = some (ptr s) ∧ w'.cell? ⟨b, 1, none⟩ = some (ptr t))) (by kernel_rfl) ?_ (fun hS => ?_)
    · exact HSQ.out _ HBX.out
    refine wpAnyH_take (i := 0) (oi := ?oi1) (v := ?v1) ?hi1 (by kernel_rfl) (by kernel_rfl) (by kernel_rfl) ?hq1 (Or.inl ⟨?hw1, ?hy1⟩) hS ?rest1
    case hi1 => simp only [List.getElem?_toArray, List.getElem?_cons_succ, List.getElem?_cons_zero]; rfl
    case hq1 => exact fun _ _ _ h => h
    case hw1 => rfl
    case hy1 => intro w hSw; (try dsimp only at hSw); go_simp; (try with_reducible rfl)
    try simp only [Act.put, List.setIfInBounds_toArray, List.set_cons_zero, List.set_cons_succ]
    refine wpAnyH_take (i := 1) (oi := ?oi2) (v := ?v2) ?hi2 (by kernel_rfl) (by kernel_rfl) (by kernel_rfl) ?hq2 (Or.inl ⟨?hw2, ?hy2⟩) hS ?rest2
    case hi2 => simp only [List.getElem?_toArray, List.getElem?_cons_succ, List.getElem?_cons_zero]; rfl
    case hq2 => exact fun _ _ _ h => h
    case hw2 => rfl
    case hy2 => intro w hSw; (try dsimp only at hSw); go_simp; (try with_reducible rfl)
    try simp only [Act.put, List.setIfInBounds_toArray, List.set_cons_zero, List.set_cons_succ]
    refine wpAnyH_take (i := 2) (oi := ?oi3) (v := ?v3) ?hi3 (by kernel_rfl) (by kernel_rfl) (by kernel_rfl) ?hq3 (Or.inl ⟨?hw3, ?hy3⟩) hS ?rest3
    case hi3 => simp only [List.getElem?_toArray, List.getElem?_cons_succ, List.getElem?_cons_zero]; rfl
    case hq3 => exact fun _ _ _ h => h
    case hw3 => rfl
    case hy3 => intro w hSw; (try dsimp only at hSw); go_simp; (try with_reducible rfl)
    try simp only [Act.put, List.setIfInBounds_toArray, List.set_cons_zero, List.set_cons_succ]
    refine wpAnyH_take (i := 3) (oi := ?oi4) (v := ?v4) ?hi4 (by kernel_rfl) (by kernel_rfl) (by kernel_rfl) ?hq4 (Or.inl ⟨?hw4, ?hy4⟩) hS ?rest4
    case hi4 => simp only [List.getElem?_toArray, List.getElem?_cons_succ, List.getElem?_cons_zero]; rfl
    case hq4 => exact fun _ _ _ h => h
    case hw4 => rfl
    case hy4 => intro w hSw; (try dsimp only at hSw); go_simp; (try with_reducible rfl)
    try simp only [Act.put, List.setIfInBounds_toArray, List.set_cons_zero, List.set_cons_succ]
    refine wpAnyH_take (i := 4) (oi := ?oi5) (v := ?v5) ?hi5 (by kernel_rfl) (by kernel_rfl) (by kernel_rfl) ?hq5 (Or.inl ⟨?hw5, ?hy5⟩) hS ?rest5
    case hi5 => simp only [List.getElem?_toArray, List.getElem?_cons_succ, List.getElem?_cons_zero]; rfl
    case hq5 => exact fun _ _ _ h => h
    case hw5 => rfl
    case hy5 => intro w hSw; (try dsimp only at hSw); go_simp; (try with_reducible rfl)
    try simp only [Act.put, List.setIfInBounds_toArray, List.set_cons_zero, List.set_cons_succ]
    refine wpAnyH_take (i := 5) (oi := ?oi6) (v := ?v6) ?hi6 (by kernel_rfl) (by kernel_rfl) (by kernel_rfl) ?hq6 (Or.inl ⟨?hw6, ?hy6⟩) hS ?rest6
    case hi6 => simp only [List.getElem?_toArray, List.getElem?_cons_succ, List.getElem?_cons_zero]; rfl
    case hq6 => exact fun _ _ _ h => h
    case hw6 => rfl
    case hy6 => intro w hSw; (try dsimp only at hSw); go_simp; (try with_reducible rfl)
    try simp only [Act.put, List.setIfInBounds_toArray, List.set_cons_zero, List.set_cons_succ]
    refine wpAnyH_take (i := 6) (oi := ?oi7) (v := ?v7) ?hi7 (by kernel_rfl) (by kernel_rfl) (by kernel_rfl) ?hq7 (Or.inl ⟨?hw7, ?hy7⟩) hS ?rest7
    case hi7 => simp only [List.getElem?_toArray, List.getElem?_cons_succ, List.getElem?_cons_zero]; rfl
    case hq7 => exact fun _ _ _ h => h
    case hw7 => rfl
    case hy7 => intro w hSw; (try dsimp only at hSw); go_simp; (try with_reducible rfl)
    try simp only [Act.put, List.setIfInBounds_toArray, List.set_cons_zero, List.set_cons_succ]
    refine wpAnyH_take (i := 7) (oi := ?oi8) (v := ?v8) ?hi8 (by kernel_rfl) (by kernel_rfl) (by kernel_rfl) ?hq8 (Or.inl ⟨?hw8, ?hy8⟩) hS ?rest8
    case hi8 => simp only [List.getElem?_toArray, List.getElem?_cons_succ, List.getElem?_cons_zero]; rfl
    case hq8 => exact fun _ _ _ h => h
    case hw8 => rfl
    case hy8 => intro w hSw; (try dsimp only at hSw); go_simp; (try with_reducible rfl)
    try simp only [Act.put, List.setIfInBounds_toArray, List.set_cons_zero, List.set_cons_succ]
    refine wpAnyH_ready (rs := [8]) (by kernel_rfl) (by simp) ?_
    refine AllReadyH.cons (o := ?o9) ?ho9 (fun K hK => ?_) AllReadyH.nil
    case ho9 => simp only [List.getElem?_toArray, List.getElem?_cons_succ, List.getElem?_cons_zero]; rfl
    go_simp
    (with_reducible refine HTA.out.mono ?_)
    rintro e w4 ⟨rfl, o4, hS4⟩
    have HS4 := Lib.hid hS4
    have HCC := Lib.hid hS4.two
    have HF4 := Lib.hid (hS4.forget 1 (a1 % 50))
    clear hS4
    go_wp2_with fail
    refine hK.out _ _ (HCC.out) (fun hS => ?_)
    clear hK K
    try simp only [Act.put, List.setIfInBounds_toArray, List.set_cons_zero, List.set_cons_succ]
    refine wpAnyH_take (i := 9) (oi := ?oi10) (v := ?v10) ?hi10 (by kernel_rfl) (by kernel_rfl) (by kernel_rfl) ?hq10 (Or.inl ⟨?hw10, ?hy10⟩) hS ?rest10
    case hi10 => simp only [List.getElem?_toArray, List.getElem?_cons_succ, List.getElem?_cons_zero]; rfl
    case hq10 => exact fun _ _ _ h => h
    case hw10 => rfl
    case hy10 => intro w hSw; (try dsimp only at hSw); go_simp; (try with_reducible rfl)
    try simp only [Act.put, List.setIfInBounds_toArray, List.set_cons_zero, List.set_cons_succ]
    refine wpAnyH_take (i := 10) (oi := ?oi11) (v := ?v11) ?hi11 (by kernel_rfl) (by kernel_rfl) (by kernel_rfl) ?hq11 (Or.inl ⟨?hw11, ?hy11⟩) hS ?rest11
    case hi11 => simp only [List.getElem?_toArray, List.getElem?_cons_succ, List.getElem?_cons_zero]; rfl
    case hq11 => exact fun _ _ _ h => h
    case hw11 => rfl
    case hy11 => intro w hSw; (try dsimp only at hSw); go_simp; (try with_reducible rfl)
    try simp only [Act.put, List.setIfInBounds_toArray, List.set_cons_zero, List.set_cons_succ]
    refine wpAnyH_take (i := 11) (oi := ?oi12) (v := ?v12) ?hi12 (by kernel_rfl) (by kernel_rfl) (by kernel_rfl) ?hq12 (Or.inl ⟨?hw12, ?hy12⟩) hS ?rest12
    case hi12 => simp only [List.getElem?_toArray, List.getElem?_cons_succ, List.getElem?_cons_zero]; rfl
    case hq12 => exact fun _ _ _ h => h
    case hw12 => rfl
    case hy12 => intro w hSw; (try dsimp only at hSw); go_simp; (try with_reducible rfl)
    try simp only [Act.put, List.setIfInBounds_toArray, List.set_cons_zero, List.set_cons_succ]
    refine wpAnyH_take (i := 12) (oi := ?oi13) (v := ?v13) ?hi13 (by kernel_rfl) (by kernel_rfl) (by kernel_rfl) ?hq13 (Or.inl ⟨?hw13, ?hy13⟩) hS ?rest13
    case hi13 => simp only [List.getElem?_toArray, List.getElem?_cons_succ, List.getElem?_cons_zero]; rfl
    case hq13 => exact fun _ _ _ h => h
    case hw13 => rfl
    case hy13 => intro w hSw; (try dsimp only at hSw); go_simp; (try with_reducible rfl)
    try simp only [Act.put, List.setIfInBounds_toArray, List.set_cons_zero, List.set_cons_succ]
    refine wpAnyH_take (i := 13) (oi := ?oi14) (v := ?v14) ?hi14 (by kernel_rfl) (by kernel_rfl) (by kernel_rfl) ?hq14 (Or.inl ⟨?hw14, ?hy14⟩) hS ?rest14
    case hi14 => simp only [List.getElem?_toArray, List.getElem?_cons_succ, List.getElem?_cons_zero]; rfl
    case hq14 => exact fun _ _ _ h => h
    case hw14 => rfl
    case hy14 => intro w hSw; (try dsimp only at hSw); go_simp; (try with_reducible rfl)
    try simp only [Act.put, List.setIfInBounds_toArray, List.set_cons_zero, List.set_cons_succ]
    refine wpAnyH_done (by kernel_rfl) ?_ _
    refine NoPanic.normal ?_
    clear hS
    have r4 := HCC.out.1
    go_wp2_with fail
    (with_reducible refine HF4.out.mono ?_)
    rintro e w5 ⟨er, S5, o5, rfl, hf5, hS5⟩
    have hfo := forget_one hf5 HL2.out HID.out
    have hbd := HBD.out (a1 % 50) t2
    rw [hbd] at hfo
    have HS5 := Lib.hid hS5
    clear hf5 hS5 hbd r4 HF4 HTA
    by_cases hlv : a1 % 50 < most
    · have hd4 : decide (a1 % 50 < most) = true := by simpa using hlv
      obtain ⟨-, rfl, rfl⟩ := hfo.resolve_right (fun h => by rw [hd4] at h; cases h.1)
      have r5 := HS5.out.two.1
      have HA5 := Lib.hid HS5.out.all
      have HAE5 : Hid (allM S5 = [1]) := by unfold allM; rw [HL2.out]; exact congrArg (fun z => [z]) HID.out
      clear hfo hlv
      go_wp2_with fail
      (with_reducible refine HA5.out.mono ?_)
      rintro e w6 ⟨a6, c6, he, hc6, hr6, hb6⟩
      rw [HAE5.out] at he hr6
      have he : e = .returned (.slice a6 1 c6) := he
      subst he
      have hsm : Calls Tryz.prog 13 #[.slice a6 1 c6, .slice (some ⟨w6.heap.size, 0, none⟩) 1 1] (w6.alloc (.cells #[.int .i64 1] 3)) (SameIsI (w6.alloc (.cells #[.int .i64 1] 3)) true) :=
        sameI_any a6 (some ⟨w6.heap.size, 0, none⟩) c6 1 [1] [1] _ (hr6.below (wall w6 _) (Nat.le_refl _)) (new_row (w := w6) [.int .i64 1] 3 (by simp [maxLen]))
      have HSM := Lib.hid hsm
      have HB7 := Lib.hid (hb6.trans ((wall w6 (.cells #[.int .i64 1] 3)).mono hb6.size))
      clear hc6 hr6 hb6 hsm HA5 r5
      go_wp2_with fail
      (with_reducible refine HSM.out.mono ?_)
      rintro e w7 ⟨rfl, qq, rfl⟩
      have hb8 : Below w5.heap.size w5 ((w6.alloc (.cells #[.int .i64 1] 3)).drewN qq) := ⟨HB7.out.os, HB7.out.tape, HB7.out.output, HB7.out.size, HB7.out.block⟩
      have HS8 := Lib.hid (HS5.out.grow hb8)
      clear hb8 HSM HB7
      generalize (w6.alloc (.cells #[.int .i64 1] 3)).drewN qq = w8 at *
      have r8 := HS8.out.two.1
      have HF8 := Lib.hid (HS8.out.forget 1 most)
      go_wp2_with fail
      (with_reducible refine HF8.out.mono ?_)
      rintro e w9 ⟨er9, SZ, oz, rfl, hf9, hSZ⟩
      have hfo9 := forget_one hf9 HL2.out HID.out
      have hbd9 := HBD.out most hm0
      rw [hbd9] at hfo9
      obtain ⟨-, rfl, hlz⟩ := hfo9.resolve_left (fun h => by have := h.1; simp at this)
      have HSZ := Lib.hid hSZ
      have HLZ := Lib.hid hlz
      clear hfo9 hbd9 hf9 hSZ hlz r8 HF8
      have HAZ := Lib.hid HSZ.out.all
      have hz0 := HSZ.out.two.1
      have HAE : Hid (allM SZ = []) := by unfold allM; rw [HLZ.out]; exact rfl
      go_wp2_with fail
      (with_reducible refine HAZ.out.mono ?_)
      rintro e w10 ⟨a10, c10, he, -, -, hb10⟩
      have he : e = .returned (.slice a10 0 c10) := by rw [HAE.out] at he; exact he
      subst he
      have HS10 := Lib.hid (HSZ.out.grow hb10)
      have hz1 := HS10.out.two.1
      have HF10 := Lib.hid (HS10.out.forget 1 99)
      clear hb10 HAZ hz0
      go_wp2_with fail
      (with_reducible refine HF10.out.mono ?_)
      rintro e w11 ⟨er11, S11, o11, rfl, hf11, hS11⟩
      obtain ⟨rfl, -⟩ := forget_none hf11 HLZ.out
      have HBW := Lib.hid hS11.marks.below
      clear hf11 hS11 HF10 hz1
      go_wp2_with fail
      (with_reducible refine (known13_any _).mono ?_)
      rintro e w12 ⟨rfl, hb12⟩
      have HB12 := Lib.hid (HBW.out.trans (hb12.mono HBW.out.size))
      clear hb12
      go_wp2_with fail
      go_ret
      exact ⟨rfl, HB12.out⟩
    · have hd4 : decide (a1 % 50 < most) = false := by simpa using hlv
      obtain ⟨-, rfl, hlz⟩ := hfo.resolve_left (fun h => by rw [hd4] at h; cases h.1)
      obtain ⟨SZ, hSZe⟩ : ∃ SZ, SZ = S5 := ⟨_, rfl⟩
      rw [← hSZe] at hlz HS5
      have HSZ := HS5
      have HLZ := Lib.hid hlz
      clear hfo hlv hlz hSZe
      have HAZ := Lib.hid HSZ.out.all
      have hz0 := HSZ.out.two.1
      have HAE : Hid (allM SZ = []) := by unfold allM; rw [HLZ.out]; exact rfl
      go_wp2_with fail
      (with_reducible refine HAZ.out.mono ?_)
      rintro e w10 ⟨a10, c10, he, -, -, hb10⟩
      have he : e = .returned (.slice a10 0 c10) := by rw [HAE.out] at he; exact he
      subst he
      have HS10 := Lib.hid (HSZ.out.grow hb10)
      have hz1 := HS10.out.two.1
      have HF10 := Lib.hid (HS10.out.forget 1 99)
      clear hb10 HAZ hz0
      go_wp2_with fail
      (with_reducible refine HF10.out.mono ?_)
      rintro e w11 ⟨er11, S11, o11, rfl, hf11, hS11⟩
      obtain ⟨rfl, -⟩ := forget_none hf11 HLZ.out
      have HBW := Lib.hid hS11.marks.below
      clear hf11 hS11 HF10 hz1
      go_wp2_with fail
      (with_reducible refine (known13_any _).mono ?_)
      rintro e w12 ⟨rfl, hb12⟩
      have HB12 := Lib.hid (HBW.out.trans (hb12.mono HBW.out.size))
      clear hb12
      go_wp2_with fail
      go_ret
      exact ⟨rfl, HB12.out⟩
end Go.Proofs.YtpgklnhkfgbpgaaGreat.snapForgets
